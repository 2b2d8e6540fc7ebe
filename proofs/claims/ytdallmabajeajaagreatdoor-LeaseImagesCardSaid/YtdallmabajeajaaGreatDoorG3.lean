/-
  Own work: walks and laws, joined by wip/tool/compact.py.
-/
import Derived.Test.YtdallmabajeajaaGreatDoorG2
import Derived.Test.YtdallmabajeajaaGreatDoorProg
import Derived.KernelRfl
set_option linter.all false
set_option linter.all false
namespace Go.Proofs.YtdallmabajeajaaGreatDoor.Fw
open Go
structure QPrefix where
  Addr : Int
  Len : Int
  deriving DecidableEq, Inhabited
def cPrefix (x : QPrefix) : List Value := [.int .u32 x.Addr, .int .i64 x.Len]
instance {a0 : Int} {a1 : Int}  : Mk cPrefix [.int .u32 a0, .int .i64 a1] ⟨a0, a1⟩ := ⟨rfl⟩
theorem iPrefix {x y : QPrefix} : cPrefix x = cPrefix y ↔ x = y := by
  refine ⟨fun h => ?_, fun h => h ▸ rfl⟩
  obtain ⟨x0, x1⟩ := x; obtain ⟨y0, y1⟩ := y
  simp only [cPrefix, List.cons.injEq, Value.int.injEq, Value.bool.injEq, Value.string.injEq, true_and, and_true] at h
  obtain ⟨rfl, rfl⟩ := h; rfl
def RPrefix (x : QPrefix) : Prop := IntKind.u32.wrap x.Addr = x.Addr ∧ IntKind.i64.wrap x.Len = x.Len
def kPrefix : List LK := [.i .u32, .i .i64]
instance : Cs cPrefix 2 := ⟨fun _ => rfl, fun _ => rfl⟩
instance : Fk cPrefix inferInstance kPrefix := ⟨fun _ => rfl, fun _ _ => iPrefix⟩
structure QConfig where
  Network : QPrefix
  SubnetLen : Int
  Min : Int
  Max : Int
  VNI : Int
  Port : Int
  MTU : Int
  TTL : Int
  Renew : Int
  Log : Int
  Hosts : Int
  First : Int
  Routes : Int
  Neighs : Int
  Fdbs : Int
  Room : Int
  Reserved : SH
  deriving Inhabited
def cConfig (x : QConfig) : List Value := [.int .u32 x.Network.Addr, .int .i64 x.Network.Len, .int .i64 x.SubnetLen, .int .u32 x.Min, .int .u32 x.Max, .int .i64 x.VNI, .int .i64 x.Port, .int .i64 x.MTU, .int .i64 x.TTL, .int .i64 x.Renew, .int .i64 x.Log, .int .i64 x.Hosts, .int .u32 x.First, .int .i64 x.Routes, .int .i64 x.Neighs, .int .i64 x.Fdbs, .int .i64 x.Room, x.Reserved.v]
instance {a0 : Int} {a1 : Int} {a2 : Int} {a3 : Int} {a4 : Int} {a5 : Int} {a6 : Int} {a7 : Int} {a8 : Int} {a9 : Int} {a10 : Int} {a11 : Int} {a12 : Int} {a13 : Int} {a14 : Int} {a15 : Int} {a16 : Int} {a17 : Value} {ya17 : SH} [la17 : Lf a17 ya17] : Mk cConfig [.int .u32 a0, .int .i64 a1, .int .i64 a2, .int .u32 a3, .int .u32 a4, .int .i64 a5, .int .i64 a6, .int .i64 a7, .int .i64 a8, .int .i64 a9, .int .i64 a10, .int .i64 a11, .int .u32 a12, .int .i64 a13, .int .i64 a14, .int .i64 a15, .int .i64 a16, a17] ⟨⟨a0, a1⟩, a2, a3, a4, a5, a6, a7, a8, a9, a10, a11, a12, a13, a14, a15, a16, ya17⟩ := ⟨by simp only [cConfig, la17.h]⟩
def RConfig (x : QConfig) : Prop := RPrefix x.Network ∧ IntKind.i64.wrap x.SubnetLen = x.SubnetLen ∧ IntKind.u32.wrap x.Min = x.Min ∧ IntKind.u32.wrap x.Max = x.Max ∧ IntKind.i64.wrap x.VNI = x.VNI ∧ IntKind.i64.wrap x.Port = x.Port ∧ IntKind.i64.wrap x.MTU = x.MTU ∧ IntKind.i64.wrap x.TTL = x.TTL ∧ IntKind.i64.wrap x.Renew = x.Renew ∧ IntKind.i64.wrap x.Log = x.Log ∧ IntKind.i64.wrap x.Hosts = x.Hosts ∧ IntKind.u32.wrap x.First = x.First ∧ IntKind.i64.wrap x.Routes = x.Routes ∧ IntKind.i64.wrap x.Neighs = x.Neighs ∧ IntKind.i64.wrap x.Fdbs = x.Fdbs ∧ IntKind.i64.wrap x.Room = x.Room
instance : Cs cConfig 18 := ⟨fun _ => rfl, fun _ => rfl⟩
structure QMAC where
  b0 : Int
  b1 : Int
  b2 : Int
  b3 : Int
  b4 : Int
  b5 : Int
  deriving DecidableEq, Inhabited
def cMAC (x : QMAC) : List Value := [.int .u8 x.b0, .int .u8 x.b1, .int .u8 x.b2, .int .u8 x.b3, .int .u8 x.b4, .int .u8 x.b5]
instance {a0 : Int} {a1 : Int} {a2 : Int} {a3 : Int} {a4 : Int} {a5 : Int}  : Mk cMAC [.int .u8 a0, .int .u8 a1, .int .u8 a2, .int .u8 a3, .int .u8 a4, .int .u8 a5] ⟨a0, a1, a2, a3, a4, a5⟩ := ⟨rfl⟩
theorem iMAC {x y : QMAC} : cMAC x = cMAC y ↔ x = y := by
  refine ⟨fun h => ?_, fun h => h ▸ rfl⟩
  obtain ⟨x0, x1, x2, x3, x4, x5⟩ := x; obtain ⟨y0, y1, y2, y3, y4, y5⟩ := y
  simp only [cMAC, List.cons.injEq, Value.int.injEq, Value.bool.injEq, Value.string.injEq, true_and, and_true] at h
  obtain ⟨rfl, rfl, rfl, rfl, rfl, rfl⟩ := h; rfl
def RMAC (x : QMAC) : Prop := IntKind.u8.wrap x.b0 = x.b0 ∧ IntKind.u8.wrap x.b1 = x.b1 ∧ IntKind.u8.wrap x.b2 = x.b2 ∧ IntKind.u8.wrap x.b3 = x.b3 ∧ IntKind.u8.wrap x.b4 = x.b4 ∧ IntKind.u8.wrap x.b5 = x.b5
def kMAC : List LK := [.i .u8, .i .u8, .i .u8, .i .u8, .i .u8, .i .u8]
instance : Cs cMAC 6 := ⟨fun _ => rfl, fun _ => rfl⟩
instance : Fk cMAC inferInstance kMAC := ⟨fun _ => rfl, fun _ _ => iMAC⟩
structure QLease where
  Host : Int
  Subnet : QPrefix
  Pub : Int
  MAC : QMAC
  Until : Int
  Rev : Int
  deriving DecidableEq, Inhabited
def cLease (x : QLease) : List Value := [.int .i64 x.Host, .int .u32 x.Subnet.Addr, .int .i64 x.Subnet.Len, .int .u32 x.Pub, .int .u8 x.MAC.b0, .int .u8 x.MAC.b1, .int .u8 x.MAC.b2, .int .u8 x.MAC.b3, .int .u8 x.MAC.b4, .int .u8 x.MAC.b5, .int .i64 x.Until, .int .i64 x.Rev]
instance {a0 : Int} {a1 : Int} {a2 : Int} {a3 : Int} {a4 : Int} {a5 : Int} {a6 : Int} {a7 : Int} {a8 : Int} {a9 : Int} {a10 : Int} {a11 : Int}  : Mk cLease [.int .i64 a0, .int .u32 a1, .int .i64 a2, .int .u32 a3, .int .u8 a4, .int .u8 a5, .int .u8 a6, .int .u8 a7, .int .u8 a8, .int .u8 a9, .int .i64 a10, .int .i64 a11] ⟨a0, ⟨a1, a2⟩, a3, ⟨a4, a5, a6, a7, a8, a9⟩, a10, a11⟩ := ⟨rfl⟩
theorem iLease {x y : QLease} : cLease x = cLease y ↔ x = y := by
  refine ⟨fun h => ?_, fun h => h ▸ rfl⟩
  obtain ⟨x0, ⟨x1, x2⟩, x3, ⟨x4, x5, x6, x7, x8, x9⟩, x10, x11⟩ := x; obtain ⟨y0, ⟨y1, y2⟩, y3, ⟨y4, y5, y6, y7, y8, y9⟩, y10, y11⟩ := y
  simp only [cLease, List.cons.injEq, Value.int.injEq, Value.bool.injEq, Value.string.injEq, true_and, and_true] at h
  obtain ⟨rfl, rfl, rfl, rfl, rfl, rfl, rfl, rfl, rfl, rfl, rfl, rfl⟩ := h; rfl
def kLease : List LK := [.i .i64, .i .u32, .i .i64, .i .u32, .i .u8, .i .u8, .i .u8, .i .u8, .i .u8, .i .u8, .i .i64, .i .i64]
instance : Cs cLease 12 := ⟨fun _ => rfl, fun _ => rfl⟩
instance : Fk cLease inferInstance kLease := ⟨fun _ => rfl, fun _ _ => iLease⟩
structure QAnswer where
  Err : Int
  Lease : QLease
  Rev : Int
  Now : Int
  deriving DecidableEq, Inhabited
def cAnswer (x : QAnswer) : List Value := [.int .i64 x.Err, .int .i64 x.Lease.Host, .int .u32 x.Lease.Subnet.Addr, .int .i64 x.Lease.Subnet.Len, .int .u32 x.Lease.Pub, .int .u8 x.Lease.MAC.b0, .int .u8 x.Lease.MAC.b1, .int .u8 x.Lease.MAC.b2, .int .u8 x.Lease.MAC.b3, .int .u8 x.Lease.MAC.b4, .int .u8 x.Lease.MAC.b5, .int .i64 x.Lease.Until, .int .i64 x.Lease.Rev, .int .i64 x.Rev, .int .i64 x.Now]
instance {a0 : Int} {a1 : Int} {a2 : Int} {a3 : Int} {a4 : Int} {a5 : Int} {a6 : Int} {a7 : Int} {a8 : Int} {a9 : Int} {a10 : Int} {a11 : Int} {a12 : Int} {a13 : Int} {a14 : Int}  : Mk cAnswer [.int .i64 a0, .int .i64 a1, .int .u32 a2, .int .i64 a3, .int .u32 a4, .int .u8 a5, .int .u8 a6, .int .u8 a7, .int .u8 a8, .int .u8 a9, .int .u8 a10, .int .i64 a11, .int .i64 a12, .int .i64 a13, .int .i64 a14] ⟨a0, ⟨a1, ⟨a2, a3⟩, a4, ⟨a5, a6, a7, a8, a9, a10⟩, a11, a12⟩, a13, a14⟩ := ⟨rfl⟩
theorem iAnswer {x y : QAnswer} : cAnswer x = cAnswer y ↔ x = y := by
  refine ⟨fun h => ?_, fun h => h ▸ rfl⟩
  obtain ⟨x0, ⟨x1, ⟨x2, x3⟩, x4, ⟨x5, x6, x7, x8, x9, x10⟩, x11, x12⟩, x13, x14⟩ := x; obtain ⟨y0, ⟨y1, ⟨y2, y3⟩, y4, ⟨y5, y6, y7, y8, y9, y10⟩, y11, y12⟩, y13, y14⟩ := y
  simp only [cAnswer, List.cons.injEq, Value.int.injEq, Value.bool.injEq, Value.string.injEq, true_and, and_true] at h
  obtain ⟨rfl, rfl, rfl, rfl, rfl, rfl, rfl, rfl, rfl, rfl, rfl, rfl, rfl, rfl, rfl⟩ := h; rfl
def kAnswer : List LK := [.i .i64, .i .i64, .i .u32, .i .i64, .i .u32, .i .u8, .i .u8, .i .u8, .i .u8, .i .u8, .i .u8, .i .i64, .i .i64, .i .i64, .i .i64]
instance : Cs cAnswer 15 := ⟨fun _ => rfl, fun _ => rfl⟩
instance : Fk cAnswer inferInstance kAnswer := ⟨fun _ => rfl, fun _ _ => iAnswer⟩
structure QCmd where
  Kind : Int
  Host : Int
  Subnet : QPrefix
  Pub : Int
  MAC : QMAC
  N : Int
  deriving DecidableEq, Inhabited
def cCmd (x : QCmd) : List Value := [.int .i64 x.Kind, .int .i64 x.Host, .int .u32 x.Subnet.Addr, .int .i64 x.Subnet.Len, .int .u32 x.Pub, .int .u8 x.MAC.b0, .int .u8 x.MAC.b1, .int .u8 x.MAC.b2, .int .u8 x.MAC.b3, .int .u8 x.MAC.b4, .int .u8 x.MAC.b5, .int .i64 x.N]
instance {a0 : Int} {a1 : Int} {a2 : Int} {a3 : Int} {a4 : Int} {a5 : Int} {a6 : Int} {a7 : Int} {a8 : Int} {a9 : Int} {a10 : Int} {a11 : Int}  : Mk cCmd [.int .i64 a0, .int .i64 a1, .int .u32 a2, .int .i64 a3, .int .u32 a4, .int .u8 a5, .int .u8 a6, .int .u8 a7, .int .u8 a8, .int .u8 a9, .int .u8 a10, .int .i64 a11] ⟨a0, a1, ⟨a2, a3⟩, a4, ⟨a5, a6, a7, a8, a9, a10⟩, a11⟩ := ⟨rfl⟩
theorem iCmd {x y : QCmd} : cCmd x = cCmd y ↔ x = y := by
  refine ⟨fun h => ?_, fun h => h ▸ rfl⟩
  obtain ⟨x0, x1, ⟨x2, x3⟩, x4, ⟨x5, x6, x7, x8, x9, x10⟩, x11⟩ := x; obtain ⟨y0, y1, ⟨y2, y3⟩, y4, ⟨y5, y6, y7, y8, y9, y10⟩, y11⟩ := y
  simp only [cCmd, List.cons.injEq, Value.int.injEq, Value.bool.injEq, Value.string.injEq, true_and, and_true] at h
  obtain ⟨rfl, rfl, rfl, rfl, rfl, rfl, rfl, rfl, rfl, rfl, rfl, rfl⟩ := h; rfl
def RCmd (x : QCmd) : Prop := IntKind.i64.wrap x.Kind = x.Kind ∧ IntKind.i64.wrap x.Host = x.Host ∧ RPrefix x.Subnet ∧ IntKind.u32.wrap x.Pub = x.Pub ∧ RMAC x.MAC ∧ IntKind.i64.wrap x.N = x.N
def kCmd : List LK := [.i .i64, .i .i64, .i .u32, .i .i64, .i .u32, .i .u8, .i .u8, .i .u8, .i .u8, .i .u8, .i .u8, .i .i64]
instance : Cs cCmd 12 := ⟨fun _ => rfl, fun _ => rfl⟩
instance : Fk cCmd inferInstance kCmd := ⟨fun _ => rfl, fun _ _ => iCmd⟩
structure QSnap where
  Rev : Int
  Now : Int
  Leases : SH
  deriving Inhabited
def cSnap (x : QSnap) : List Value := [.int .i64 x.Rev, .int .i64 x.Now, x.Leases.v]
instance {a0 : Int} {a1 : Int} {a2 : Value} {ya2 : SH} [la2 : Lf a2 ya2] : Mk cSnap [.int .i64 a0, .int .i64 a1, a2] ⟨a0, a1, ya2⟩ := ⟨by simp only [cSnap, la2.h]⟩
instance : Cs cSnap 3 := ⟨fun _ => rfl, fun _ => rfl⟩
structure QReserve where
  Host : Int
  Subnet : QPrefix
  deriving DecidableEq, Inhabited
def cReserve (x : QReserve) : List Value := [.int .i64 x.Host, .int .u32 x.Subnet.Addr, .int .i64 x.Subnet.Len]
instance {a0 : Int} {a1 : Int} {a2 : Int}  : Mk cReserve [.int .i64 a0, .int .u32 a1, .int .i64 a2] ⟨a0, ⟨a1, a2⟩⟩ := ⟨rfl⟩
theorem iReserve {x y : QReserve} : cReserve x = cReserve y ↔ x = y := by
  refine ⟨fun h => ?_, fun h => h ▸ rfl⟩
  obtain ⟨x0, ⟨x1, x2⟩⟩ := x; obtain ⟨y0, ⟨y1, y2⟩⟩ := y
  simp only [cReserve, List.cons.injEq, Value.int.injEq, Value.bool.injEq, Value.string.injEq, true_and, and_true] at h
  obtain ⟨rfl, rfl, rfl⟩ := h; rfl
def RReserve (x : QReserve) : Prop := IntKind.i64.wrap x.Host = x.Host ∧ RPrefix x.Subnet
def kReserve : List LK := [.i .i64, .i .u32, .i .i64]
instance : Cs cReserve 3 := ⟨fun _ => rfl, fun _ => rfl⟩
instance : Fk cReserve inferInstance kReserve := ⟨fun _ => rfl, fun _ _ => iReserve⟩
structure QImage where
  Rev : Int
  Now : Int
  Leases : SH
  Events : SH
  deriving Inhabited
def cImage (x : QImage) : List Value := [.int .i64 x.Rev, .int .i64 x.Now, x.Leases.v, x.Events.v]
instance {a0 : Int} {a1 : Int} {a2 : Value} {ya2 : SH} {a3 : Value} {ya3 : SH} [la2 : Lf a2 ya2] [la3 : Lf a3 ya3] : Mk cImage [.int .i64 a0, .int .i64 a1, a2, a3] ⟨a0, a1, ya2, ya3⟩ := ⟨by simp only [cImage, la2.h, la3.h]⟩
instance : Cs cImage 4 := ⟨fun _ => rfl, fun _ => rfl⟩
structure QEvent where
  Rev : Int
  Kind : Int
  Lease : QLease
  deriving DecidableEq, Inhabited
def cEvent (x : QEvent) : List Value := [.int .i64 x.Rev, .int .i64 x.Kind, .int .i64 x.Lease.Host, .int .u32 x.Lease.Subnet.Addr, .int .i64 x.Lease.Subnet.Len, .int .u32 x.Lease.Pub, .int .u8 x.Lease.MAC.b0, .int .u8 x.Lease.MAC.b1, .int .u8 x.Lease.MAC.b2, .int .u8 x.Lease.MAC.b3, .int .u8 x.Lease.MAC.b4, .int .u8 x.Lease.MAC.b5, .int .i64 x.Lease.Until, .int .i64 x.Lease.Rev]
instance {a0 : Int} {a1 : Int} {a2 : Int} {a3 : Int} {a4 : Int} {a5 : Int} {a6 : Int} {a7 : Int} {a8 : Int} {a9 : Int} {a10 : Int} {a11 : Int} {a12 : Int} {a13 : Int}  : Mk cEvent [.int .i64 a0, .int .i64 a1, .int .i64 a2, .int .u32 a3, .int .i64 a4, .int .u32 a5, .int .u8 a6, .int .u8 a7, .int .u8 a8, .int .u8 a9, .int .u8 a10, .int .u8 a11, .int .i64 a12, .int .i64 a13] ⟨a0, a1, ⟨a2, ⟨a3, a4⟩, a5, ⟨a6, a7, a8, a9, a10, a11⟩, a12, a13⟩⟩ := ⟨rfl⟩
theorem iEvent {x y : QEvent} : cEvent x = cEvent y ↔ x = y := by
  refine ⟨fun h => ?_, fun h => h ▸ rfl⟩
  obtain ⟨x0, x1, ⟨x2, ⟨x3, x4⟩, x5, ⟨x6, x7, x8, x9, x10, x11⟩, x12, x13⟩⟩ := x; obtain ⟨y0, y1, ⟨y2, ⟨y3, y4⟩, y5, ⟨y6, y7, y8, y9, y10, y11⟩, y12, y13⟩⟩ := y
  simp only [cEvent, List.cons.injEq, Value.int.injEq, Value.bool.injEq, Value.string.injEq, true_and, and_true] at h
  obtain ⟨rfl, rfl, rfl, rfl, rfl, rfl, rfl, rfl, rfl, rfl, rfl, rfl, rfl, rfl⟩ := h; rfl
def kEvent : List LK := [.i .i64, .i .i64, .i .i64, .i .u32, .i .i64, .i .u32, .i .u8, .i .u8, .i .u8, .i .u8, .i .u8, .i .u8, .i .i64, .i .i64]
instance : Cs cEvent 14 := ⟨fun _ => rfl, fun _ => rfl⟩
instance : Fk cEvent inferInstance kEvent := ⟨fun _ => rfl, fun _ _ => iEvent⟩
structure Qweftlaw11_Pair where
  c : QConfig
  a : Option Addr
  b : Option Addr
  deriving Inhabited
def cweftlaw11_Pair (x : Qweftlaw11_Pair) : List Value := [.int .u32 x.c.Network.Addr, .int .i64 x.c.Network.Len, .int .i64 x.c.SubnetLen, .int .u32 x.c.Min, .int .u32 x.c.Max, .int .i64 x.c.VNI, .int .i64 x.c.Port, .int .i64 x.c.MTU, .int .i64 x.c.TTL, .int .i64 x.c.Renew, .int .i64 x.c.Log, .int .i64 x.c.Hosts, .int .u32 x.c.First, .int .i64 x.c.Routes, .int .i64 x.c.Neighs, .int .i64 x.c.Fdbs, .int .i64 x.c.Room, x.c.Reserved.v, .pointer x.a, .pointer x.b]
instance {a0 : Int} {a1 : Int} {a2 : Int} {a3 : Int} {a4 : Int} {a5 : Int} {a6 : Int} {a7 : Int} {a8 : Int} {a9 : Int} {a10 : Int} {a11 : Int} {a12 : Int} {a13 : Int} {a14 : Int} {a15 : Int} {a16 : Int} {a17 : Value} {ya17 : SH} {a18 : Option Addr} {a19 : Option Addr} [la17 : Lf a17 ya17] : Mk cweftlaw11_Pair [.int .u32 a0, .int .i64 a1, .int .i64 a2, .int .u32 a3, .int .u32 a4, .int .i64 a5, .int .i64 a6, .int .i64 a7, .int .i64 a8, .int .i64 a9, .int .i64 a10, .int .i64 a11, .int .u32 a12, .int .i64 a13, .int .i64 a14, .int .i64 a15, .int .i64 a16, a17, .pointer a18, .pointer a19] ⟨⟨⟨a0, a1⟩, a2, a3, a4, a5, a6, a7, a8, a9, a10, a11, a12, a13, a14, a15, a16, ya17⟩, a18, a19⟩ := ⟨by simp only [cweftlaw11_Pair, la17.h]⟩
instance : Cs cweftlaw11_Pair 20 := ⟨fun _ => rfl, fun _ => rfl⟩
structure Qweftlaw11_Op where
  Kind : Int
  Which : Int
  Cmd : QCmd
  From : Int
  Max : Int
  A : Int
  deriving DecidableEq, Inhabited
def cweftlaw11_Op (x : Qweftlaw11_Op) : List Value := [.int .i64 x.Kind, .int .i64 x.Which, .int .i64 x.Cmd.Kind, .int .i64 x.Cmd.Host, .int .u32 x.Cmd.Subnet.Addr, .int .i64 x.Cmd.Subnet.Len, .int .u32 x.Cmd.Pub, .int .u8 x.Cmd.MAC.b0, .int .u8 x.Cmd.MAC.b1, .int .u8 x.Cmd.MAC.b2, .int .u8 x.Cmd.MAC.b3, .int .u8 x.Cmd.MAC.b4, .int .u8 x.Cmd.MAC.b5, .int .i64 x.Cmd.N, .int .i64 x.From, .int .i64 x.Max, .int .u32 x.A]
instance {a0 : Int} {a1 : Int} {a2 : Int} {a3 : Int} {a4 : Int} {a5 : Int} {a6 : Int} {a7 : Int} {a8 : Int} {a9 : Int} {a10 : Int} {a11 : Int} {a12 : Int} {a13 : Int} {a14 : Int} {a15 : Int} {a16 : Int}  : Mk cweftlaw11_Op [.int .i64 a0, .int .i64 a1, .int .i64 a2, .int .i64 a3, .int .u32 a4, .int .i64 a5, .int .u32 a6, .int .u8 a7, .int .u8 a8, .int .u8 a9, .int .u8 a10, .int .u8 a11, .int .u8 a12, .int .i64 a13, .int .i64 a14, .int .i64 a15, .int .u32 a16] ⟨a0, a1, ⟨a2, a3, ⟨a4, a5⟩, a6, ⟨a7, a8, a9, a10, a11, a12⟩, a13⟩, a14, a15, a16⟩ := ⟨rfl⟩
theorem iweftlaw11_Op {x y : Qweftlaw11_Op} : cweftlaw11_Op x = cweftlaw11_Op y ↔ x = y := by
  refine ⟨fun h => ?_, fun h => h ▸ rfl⟩
  obtain ⟨x0, x1, ⟨x2, x3, ⟨x4, x5⟩, x6, ⟨x7, x8, x9, x10, x11, x12⟩, x13⟩, x14, x15, x16⟩ := x; obtain ⟨y0, y1, ⟨y2, y3, ⟨y4, y5⟩, y6, ⟨y7, y8, y9, y10, y11, y12⟩, y13⟩, y14, y15, y16⟩ := y
  simp only [cweftlaw11_Op, List.cons.injEq, Value.int.injEq, Value.bool.injEq, Value.string.injEq, true_and, and_true] at h
  obtain ⟨rfl, rfl, rfl, rfl, rfl, rfl, rfl, rfl, rfl, rfl, rfl, rfl, rfl, rfl, rfl, rfl, rfl⟩ := h; rfl
def Rweftlaw11_Op (x : Qweftlaw11_Op) : Prop := IntKind.i64.wrap x.Kind = x.Kind ∧ IntKind.i64.wrap x.Which = x.Which ∧ RCmd x.Cmd ∧ IntKind.i64.wrap x.From = x.From ∧ IntKind.i64.wrap x.Max = x.Max ∧ IntKind.u32.wrap x.A = x.A
def kweftlaw11_Op : List LK := [.i .i64, .i .i64, .i .i64, .i .i64, .i .u32, .i .i64, .i .u32, .i .u8, .i .u8, .i .u8, .i .u8, .i .u8, .i .u8, .i .i64, .i .i64, .i .i64, .i .u32]
instance : Cs cweftlaw11_Op 17 := ⟨fun _ => rfl, fun _ => rfl⟩
instance : Fk cweftlaw11_Op inferInstance kweftlaw11_Op := ⟨fun _ => rfl, fun _ _ => iweftlaw11_Op⟩
structure Qweftlaw11_Book where
  leases : SH
  events : SH
  much : Int
  deriving Inhabited
def cweftlaw11_Book (x : Qweftlaw11_Book) : List Value := [x.leases.v, x.events.v, .int .i64 x.much]
instance {a0 : Value} {ya0 : SH} {a1 : Value} {ya1 : SH} {a2 : Int} [la0 : Lf a0 ya0] [la1 : Lf a1 ya1] : Mk cweftlaw11_Book [a0, a1, .int .i64 a2] ⟨ya0, ya1, a2⟩ := ⟨by simp only [cweftlaw11_Book, la0.h, la1.h]⟩
instance : Cs cweftlaw11_Book 3 := ⟨fun _ => rfl, fun _ => rfl⟩
structure Qlease_history where
  bound : Int
  events : SH
  deriving Inhabited
def clease_history (x : Qlease_history) : List Value := [.int .i64 x.bound, x.events.v]
instance {a0 : Int} {a1 : Value} {ya1 : SH} [la1 : Lf a1 ya1] : Mk clease_history [.int .i64 a0, a1] ⟨a0, ya1⟩ := ⟨by simp only [clease_history, la1.h]⟩
instance : Cs clease_history 2 := ⟨fun _ => rfl, fun _ => rfl⟩
structure Qlease_clock where
  now : Int
  rev : Int
  deriving DecidableEq, Inhabited
def clease_clock (x : Qlease_clock) : List Value := [.int .i64 x.now, .int .i64 x.rev]
instance {a0 : Int} {a1 : Int}  : Mk clease_clock [.int .i64 a0, .int .i64 a1] ⟨a0, a1⟩ := ⟨rfl⟩
theorem ilease_clock {x y : Qlease_clock} : clease_clock x = clease_clock y ↔ x = y := by
  refine ⟨fun h => ?_, fun h => h ▸ rfl⟩
  obtain ⟨x0, x1⟩ := x; obtain ⟨y0, y1⟩ := y
  simp only [clease_clock, List.cons.injEq, Value.int.injEq, Value.bool.injEq, Value.string.injEq, true_and, and_true] at h
  obtain ⟨rfl, rfl⟩ := h; rfl
def klease_clock : List LK := [.i .i64, .i .i64]
instance : Cs clease_clock 2 := ⟨fun _ => rfl, fun _ => rfl⟩
instance : Fk clease_clock inferInstance klease_clock := ⟨fun _ => rfl, fun _ _ => ilease_clock⟩
structure Qlease_Store where
  clock : Qlease_clock
  history : Qlease_history
  config : QConfig
  live : Option Nat
  kept : Option Nat
  ends : Option Addr
  free : Option Addr
  deriving Inhabited
def clease_Store (x : Qlease_Store) : List Value := [.int .i64 x.clock.now, .int .i64 x.clock.rev, .int .i64 x.history.bound, x.history.events.v, .int .u32 x.config.Network.Addr, .int .i64 x.config.Network.Len, .int .i64 x.config.SubnetLen, .int .u32 x.config.Min, .int .u32 x.config.Max, .int .i64 x.config.VNI, .int .i64 x.config.Port, .int .i64 x.config.MTU, .int .i64 x.config.TTL, .int .i64 x.config.Renew, .int .i64 x.config.Log, .int .i64 x.config.Hosts, .int .u32 x.config.First, .int .i64 x.config.Routes, .int .i64 x.config.Neighs, .int .i64 x.config.Fdbs, .int .i64 x.config.Room, x.config.Reserved.v, .map x.live, .map x.kept, .pointer x.ends, .pointer x.free]
instance {a0 : Int} {a1 : Int} {a2 : Int} {a3 : Value} {ya3 : SH} {a4 : Int} {a5 : Int} {a6 : Int} {a7 : Int} {a8 : Int} {a9 : Int} {a10 : Int} {a11 : Int} {a12 : Int} {a13 : Int} {a14 : Int} {a15 : Int} {a16 : Int} {a17 : Int} {a18 : Int} {a19 : Int} {a20 : Int} {a21 : Value} {ya21 : SH} {a22 : Option Nat} {a23 : Option Nat} {a24 : Option Addr} {a25 : Option Addr} [la3 : Lf a3 ya3] [la21 : Lf a21 ya21] : Mk clease_Store [.int .i64 a0, .int .i64 a1, .int .i64 a2, a3, .int .u32 a4, .int .i64 a5, .int .i64 a6, .int .u32 a7, .int .u32 a8, .int .i64 a9, .int .i64 a10, .int .i64 a11, .int .i64 a12, .int .i64 a13, .int .i64 a14, .int .i64 a15, .int .u32 a16, .int .i64 a17, .int .i64 a18, .int .i64 a19, .int .i64 a20, a21, .map a22, .map a23, .pointer a24, .pointer a25] ⟨⟨a0, a1⟩, ⟨a2, ya3⟩, ⟨⟨a4, a5⟩, a6, a7, a8, a9, a10, a11, a12, a13, a14, a15, a16, a17, a18, a19, a20, ya21⟩, a22, a23, a24, a25⟩ := ⟨by simp only [clease_Store, la3.h, la21.h]⟩
instance : Cs clease_Store 26 := ⟨fun _ => rfl, fun _ => rfl⟩
structure Qweftref11_Store where
  c : QConfig
  now : Int
  rev : Int
  leases : SH
  events : SH
  deriving Inhabited
def cweftref11_Store (x : Qweftref11_Store) : List Value := [.int .u32 x.c.Network.Addr, .int .i64 x.c.Network.Len, .int .i64 x.c.SubnetLen, .int .u32 x.c.Min, .int .u32 x.c.Max, .int .i64 x.c.VNI, .int .i64 x.c.Port, .int .i64 x.c.MTU, .int .i64 x.c.TTL, .int .i64 x.c.Renew, .int .i64 x.c.Log, .int .i64 x.c.Hosts, .int .u32 x.c.First, .int .i64 x.c.Routes, .int .i64 x.c.Neighs, .int .i64 x.c.Fdbs, .int .i64 x.c.Room, x.c.Reserved.v, .int .i64 x.now, .int .i64 x.rev, x.leases.v, x.events.v]
instance {a0 : Int} {a1 : Int} {a2 : Int} {a3 : Int} {a4 : Int} {a5 : Int} {a6 : Int} {a7 : Int} {a8 : Int} {a9 : Int} {a10 : Int} {a11 : Int} {a12 : Int} {a13 : Int} {a14 : Int} {a15 : Int} {a16 : Int} {a17 : Value} {ya17 : SH} {a18 : Int} {a19 : Int} {a20 : Value} {ya20 : SH} {a21 : Value} {ya21 : SH} [la17 : Lf a17 ya17] [la20 : Lf a20 ya20] [la21 : Lf a21 ya21] : Mk cweftref11_Store [.int .u32 a0, .int .i64 a1, .int .i64 a2, .int .u32 a3, .int .u32 a4, .int .i64 a5, .int .i64 a6, .int .i64 a7, .int .i64 a8, .int .i64 a9, .int .i64 a10, .int .i64 a11, .int .u32 a12, .int .i64 a13, .int .i64 a14, .int .i64 a15, .int .i64 a16, a17, .int .i64 a18, .int .i64 a19, a20, a21] ⟨⟨⟨a0, a1⟩, a2, a3, a4, a5, a6, a7, a8, a9, a10, a11, a12, a13, a14, a15, a16, ya17⟩, a18, a19, ya20, ya21⟩ := ⟨by simp only [cweftref11_Store, la17.h, la20.h, la21.h]⟩
instance : Cs cweftref11_Store 22 := ⟨fun _ => rfl, fun _ => rfl⟩
structure Qweftlaw11_Quiet where
  leases : SH
  wantLeases : SH
  events : SH
  wantEvents : SH
  much : Int
  deriving Inhabited
def cweftlaw11_Quiet (x : Qweftlaw11_Quiet) : List Value := [x.leases.v, x.wantLeases.v, x.events.v, x.wantEvents.v, .int .i64 x.much]
instance {a0 : Value} {ya0 : SH} {a1 : Value} {ya1 : SH} {a2 : Value} {ya2 : SH} {a3 : Value} {ya3 : SH} {a4 : Int} [la0 : Lf a0 ya0] [la1 : Lf a1 ya1] [la2 : Lf a2 ya2] [la3 : Lf a3 ya3] : Mk cweftlaw11_Quiet [a0, a1, a2, a3, .int .i64 a4] ⟨ya0, ya1, ya2, ya3, a4⟩ := ⟨by simp only [cweftlaw11_Quiet, la0.h, la1.h, la2.h, la3.h]⟩
instance : Cs cweftlaw11_Quiet 5 := ⟨fun _ => rfl, fun _ => rfl⟩
structure Qtimer_Timers where
  limit : Int
  heap : SH
  place : Option Nat
  deriving Inhabited
def ctimer_Timers (x : Qtimer_Timers) : List Value := [.int .i64 x.limit, x.heap.v, .map x.place]
instance {a0 : Int} {a1 : Value} {ya1 : SH} {a2 : Option Nat} [la1 : Lf a1 ya1] : Mk ctimer_Timers [.int .i64 a0, a1, .map a2] ⟨a0, ya1, a2⟩ := ⟨by simp only [ctimer_Timers, la1.h]⟩
instance : Cs ctimer_Timers 3 := ⟨fun _ => rfl, fun _ => rfl⟩
structure Qpool_Pool where
  network : QPrefix
  sublen : Int
  min : Int
  max : Int
  kept : SH
  isKept : Option Nat
  runs : SH
  deriving Inhabited
def cpool_Pool (x : Qpool_Pool) : List Value := [.int .u32 x.network.Addr, .int .i64 x.network.Len, .int .i64 x.sublen, .int .i64 x.min, .int .i64 x.max, x.kept.v, .map x.isKept, x.runs.v]
instance {a0 : Int} {a1 : Int} {a2 : Int} {a3 : Int} {a4 : Int} {a5 : Value} {ya5 : SH} {a6 : Option Nat} {a7 : Value} {ya7 : SH} [la5 : Lf a5 ya5] [la7 : Lf a7 ya7] : Mk cpool_Pool [.int .u32 a0, .int .i64 a1, .int .i64 a2, .int .i64 a3, .int .i64 a4, a5, .map a6, a7] ⟨⟨a0, a1⟩, a2, a3, a4, ya5, a6, ya7⟩ := ⟨by simp only [cpool_Pool, la5.h, la7.h]⟩
instance : Cs cpool_Pool 8 := ⟨fun _ => rfl, fun _ => rfl⟩
structure Qaddr_class where
  at_ : QPrefix
  num : Int
  deriving DecidableEq, Inhabited
def caddr_class (x : Qaddr_class) : List Value := [.int .u32 x.at_.Addr, .int .i64 x.at_.Len, .int .i64 x.num]
instance {a0 : Int} {a1 : Int} {a2 : Int}  : Mk caddr_class [.int .u32 a0, .int .i64 a1, .int .i64 a2] ⟨⟨a0, a1⟩, a2⟩ := ⟨rfl⟩
theorem iaddr_class {x y : Qaddr_class} : caddr_class x = caddr_class y ↔ x = y := by
  refine ⟨fun h => ?_, fun h => h ▸ rfl⟩
  obtain ⟨⟨x0, x1⟩, x2⟩ := x; obtain ⟨⟨y0, y1⟩, y2⟩ := y
  simp only [caddr_class, List.cons.injEq, Value.int.injEq, Value.bool.injEq, Value.string.injEq, true_and, and_true] at h
  obtain ⟨rfl, rfl, rfl⟩ := h; rfl
def kaddr_class : List LK := [.i .u32, .i .i64, .i .i64]
instance : Cs caddr_class 3 := ⟨fun _ => rfl, fun _ => rfl⟩
instance : Fk caddr_class inferInstance kaddr_class := ⟨fun _ => rfl, fun _ _ => iaddr_class⟩
structure Qpool_run where
  from_ : Int
  to : Int
  deriving DecidableEq, Inhabited
def cpool_run (x : Qpool_run) : List Value := [.int .i64 x.from_, .int .i64 x.to]
instance {a0 : Int} {a1 : Int}  : Mk cpool_run [.int .i64 a0, .int .i64 a1] ⟨a0, a1⟩ := ⟨rfl⟩
theorem ipool_run {x y : Qpool_run} : cpool_run x = cpool_run y ↔ x = y := by
  refine ⟨fun h => ?_, fun h => h ▸ rfl⟩
  obtain ⟨x0, x1⟩ := x; obtain ⟨y0, y1⟩ := y
  simp only [cpool_run, List.cons.injEq, Value.int.injEq, Value.bool.injEq, Value.string.injEq, true_and, and_true] at h
  obtain ⟨rfl, rfl⟩ := h; rfl
def kpool_run : List LK := [.i .i64, .i .i64]
instance : Cs cpool_run 2 := ⟨fun _ => rfl, fun _ => rfl⟩
instance : Fk cpool_run inferInstance kpool_run := ⟨fun _ => rfl, fun _ _ => ipool_run⟩
structure Qtimer_one where
  id : Int
  at_ : Int
  deriving DecidableEq, Inhabited
def ctimer_one (x : Qtimer_one) : List Value := [.int .i64 x.id, .int .i64 x.at_]
instance {a0 : Int} {a1 : Int}  : Mk ctimer_one [.int .i64 a0, .int .i64 a1] ⟨a0, a1⟩ := ⟨rfl⟩
theorem itimer_one {x y : Qtimer_one} : ctimer_one x = ctimer_one y ↔ x = y := by
  refine ⟨fun h => ?_, fun h => h ▸ rfl⟩
  obtain ⟨x0, x1⟩ := x; obtain ⟨y0, y1⟩ := y
  simp only [ctimer_one, List.cons.injEq, Value.int.injEq, Value.bool.injEq, Value.string.injEq, true_and, and_true] at h
  obtain ⟨rfl, rfl⟩ := h; rfl
def ktimer_one : List LK := [.i .i64, .i .i64]
instance : Cs ctimer_one 2 := ⟨fun _ => rfl, fun _ => rfl⟩
instance : Fk ctimer_one inferInstance ktimer_one := ⟨fun _ => rfl, fun _ _ => itimer_one⟩
instance (x : QPrefix) : Pt (cPrefix x) 0 2 (cPrefix x) := ⟨rfl⟩
instance (x : QConfig) : Pt (cConfig x) 0 18 (cConfig x) := ⟨rfl⟩
instance (x : QConfig) : Pt (cConfig x) 0 2 (cPrefix x.Network) := ⟨rfl⟩
instance (x : QMAC) : Pt (cMAC x) 0 6 (cMAC x) := ⟨rfl⟩
instance (x : QLease) : Pt (cLease x) 0 12 (cLease x) := ⟨rfl⟩
instance (x : QLease) : Pt (cLease x) 1 2 (cPrefix x.Subnet) := ⟨rfl⟩
instance (x : QLease) : Pt (cLease x) 4 6 (cMAC x.MAC) := ⟨rfl⟩
instance (x : QAnswer) : Pt (cAnswer x) 0 15 (cAnswer x) := ⟨rfl⟩
instance (x : QAnswer) : Pt (cAnswer x) 1 12 (cLease x.Lease) := ⟨rfl⟩
instance (x : QAnswer) : Pt (cAnswer x) 2 2 (cPrefix x.Lease.Subnet) := ⟨rfl⟩
instance (x : QAnswer) : Pt (cAnswer x) 5 6 (cMAC x.Lease.MAC) := ⟨rfl⟩
instance (x : QCmd) : Pt (cCmd x) 0 12 (cCmd x) := ⟨rfl⟩
instance (x : QCmd) : Pt (cCmd x) 2 2 (cPrefix x.Subnet) := ⟨rfl⟩
instance (x : QCmd) : Pt (cCmd x) 5 6 (cMAC x.MAC) := ⟨rfl⟩
instance (x : QSnap) : Pt (cSnap x) 0 3 (cSnap x) := ⟨rfl⟩
instance (x : QReserve) : Pt (cReserve x) 0 3 (cReserve x) := ⟨rfl⟩
instance (x : QReserve) : Pt (cReserve x) 1 2 (cPrefix x.Subnet) := ⟨rfl⟩
instance (x : QImage) : Pt (cImage x) 0 4 (cImage x) := ⟨rfl⟩
instance (x : QEvent) : Pt (cEvent x) 0 14 (cEvent x) := ⟨rfl⟩
instance (x : QEvent) : Pt (cEvent x) 2 12 (cLease x.Lease) := ⟨rfl⟩
instance (x : QEvent) : Pt (cEvent x) 3 2 (cPrefix x.Lease.Subnet) := ⟨rfl⟩
instance (x : QEvent) : Pt (cEvent x) 6 6 (cMAC x.Lease.MAC) := ⟨rfl⟩
instance (x : Qweftlaw11_Pair) : Pt (cweftlaw11_Pair x) 0 20 (cweftlaw11_Pair x) := ⟨rfl⟩
instance (x : Qweftlaw11_Pair) : Pt (cweftlaw11_Pair x) 0 18 (cConfig x.c) := ⟨rfl⟩
instance (x : Qweftlaw11_Pair) : Pt (cweftlaw11_Pair x) 0 2 (cPrefix x.c.Network) := ⟨rfl⟩
instance (x : Qweftlaw11_Op) : Pt (cweftlaw11_Op x) 0 17 (cweftlaw11_Op x) := ⟨rfl⟩
instance (x : Qweftlaw11_Op) : Pt (cweftlaw11_Op x) 2 12 (cCmd x.Cmd) := ⟨rfl⟩
instance (x : Qweftlaw11_Op) : Pt (cweftlaw11_Op x) 4 2 (cPrefix x.Cmd.Subnet) := ⟨rfl⟩
instance (x : Qweftlaw11_Op) : Pt (cweftlaw11_Op x) 7 6 (cMAC x.Cmd.MAC) := ⟨rfl⟩
instance (x : Qweftlaw11_Book) : Pt (cweftlaw11_Book x) 0 3 (cweftlaw11_Book x) := ⟨rfl⟩
instance (x : Qlease_history) : Pt (clease_history x) 0 2 (clease_history x) := ⟨rfl⟩
instance (x : Qlease_clock) : Pt (clease_clock x) 0 2 (clease_clock x) := ⟨rfl⟩
instance (x : Qlease_Store) : Pt (clease_Store x) 0 26 (clease_Store x) := ⟨rfl⟩
instance (x : Qlease_Store) : Pt (clease_Store x) 0 2 (clease_clock x.clock) := ⟨rfl⟩
instance (x : Qlease_Store) : Pt (clease_Store x) 2 2 (clease_history x.history) := ⟨rfl⟩
instance (x : Qlease_Store) : Pt (clease_Store x) 4 18 (cConfig x.config) := ⟨rfl⟩
instance (x : Qlease_Store) : Pt (clease_Store x) 4 2 (cPrefix x.config.Network) := ⟨rfl⟩
instance (x : Qweftref11_Store) : Pt (cweftref11_Store x) 0 22 (cweftref11_Store x) := ⟨rfl⟩
instance (x : Qweftref11_Store) : Pt (cweftref11_Store x) 0 18 (cConfig x.c) := ⟨rfl⟩
instance (x : Qweftref11_Store) : Pt (cweftref11_Store x) 0 2 (cPrefix x.c.Network) := ⟨rfl⟩
instance (x : Qweftlaw11_Quiet) : Pt (cweftlaw11_Quiet x) 0 5 (cweftlaw11_Quiet x) := ⟨rfl⟩
instance (x : Qtimer_Timers) : Pt (ctimer_Timers x) 0 3 (ctimer_Timers x) := ⟨rfl⟩
instance (x : Qpool_Pool) : Pt (cpool_Pool x) 0 8 (cpool_Pool x) := ⟨rfl⟩
instance (x : Qpool_Pool) : Pt (cpool_Pool x) 0 2 (cPrefix x.network) := ⟨rfl⟩
instance (x : Qaddr_class) : Pt (caddr_class x) 0 3 (caddr_class x) := ⟨rfl⟩
instance (x : Qaddr_class) : Pt (caddr_class x) 0 2 (cPrefix x.at_) := ⟨rfl⟩
instance (x : Qpool_run) : Pt (cpool_run x) 0 2 (cpool_run x) := ⟨rfl⟩
instance (x : Qtimer_one) : Pt (ctimer_one x) 0 2 (ctimer_one x) := ⟨rfl⟩
instance : TyR 2 Int (cInt .i64) := ⟨trivial⟩
instance : TyR 3 Int (cInt .i64) := ⟨trivial⟩
instance : TyR 4 Bool cBool := ⟨trivial⟩
instance : TyR 5 Int (cInt .u8) := ⟨trivial⟩
instance : TyR 22 Int (cInt .u32) := ⟨trivial⟩
instance : TyR 23 Int (cInt .u32) := ⟨trivial⟩
instance : TyR 25 QPrefix cPrefix := ⟨trivial⟩
instance : TyR 28 QConfig cConfig := ⟨trivial⟩
instance : TyR 33 Int (cInt .i64) := ⟨trivial⟩
instance : TyR 37 QMAC cMAC := ⟨trivial⟩
instance : TyR 39 QLease cLease := ⟨trivial⟩
instance : TyR 41 QAnswer cAnswer := ⟨trivial⟩
instance : TyR 44 QCmd cCmd := ⟨trivial⟩
instance : TyR 52 QSnap cSnap := ⟨trivial⟩
instance : TyR 58 QReserve cReserve := ⟨trivial⟩
instance : TyR 65 QImage cImage := ⟨trivial⟩
instance : TyR 72 QEvent cEvent := ⟨trivial⟩
instance : TyR 94 Qweftlaw11_Pair cweftlaw11_Pair := ⟨trivial⟩
instance : TyR 97 Qweftlaw11_Op cweftlaw11_Op := ⟨trivial⟩
instance : TyR 106 Qweftlaw11_Book cweftlaw11_Book := ⟨trivial⟩
instance : TyR 112 Qlease_history clease_history := ⟨trivial⟩
instance : TyR 116 Qlease_clock clease_clock := ⟨trivial⟩
instance : TyR 120 Qlease_Store clease_Store := ⟨trivial⟩
instance : TyR 130 Int (cInt .u64) := ⟨trivial⟩
instance : TyR 141 Qweftref11_Store cweftref11_Store := ⟨trivial⟩
instance : TyR 146 Qweftlaw11_Quiet cweftlaw11_Quiet := ⟨trivial⟩
instance : TyR 153 Int (cInt .u64) := ⟨trivial⟩
instance : TyR 157 Qtimer_Timers ctimer_Timers := ⟨trivial⟩
instance : TyR 163 Qpool_Pool cpool_Pool := ⟨trivial⟩
instance : TyR 192 Qaddr_class caddr_class := ⟨trivial⟩
instance : TyR 196 Int (cInt .u64) := ⟨trivial⟩
instance : TyR 222 Qpool_run cpool_run := ⟨trivial⟩
instance : TyR 224 Qtimer_one ctimer_one := ⟨trivial⟩
instance : TyR 235 Int (cInt .i64) := ⟨trivial⟩
instance : TyR 247 Int (cInt .i64) := ⟨trivial⟩
instance : TyR 257 Int (cInt .u64) := ⟨trivial⟩
instance : TyR 264 Int (cInt .u64) := ⟨trivial⟩
theorem cs_ : (∀ x, cPrefix x = [.int .u32 x.Addr, .int .i64 x.Len]) ∧ (∀ x, cConfig x = [.int .u32 x.Network.Addr, .int .i64 x.Network.Len, .int .i64 x.SubnetLen, .int .u32 x.Min, .int .u32 x.Max, .int .i64 x.VNI, .int .i64 x.Port, .int .i64 x.MTU, .int .i64 x.TTL, .int .i64 x.Renew, .int .i64 x.Log, .int .i64 x.Hosts, .int .u32 x.First, .int .i64 x.Routes, .int .i64 x.Neighs, .int .i64 x.Fdbs, .int .i64 x.Room, x.Reserved.v]) ∧ (∀ x, cMAC x = [.int .u8 x.b0, .int .u8 x.b1, .int .u8 x.b2, .int .u8 x.b3, .int .u8 x.b4, .int .u8 x.b5]) ∧ (∀ x, cLease x = [.int .i64 x.Host, .int .u32 x.Subnet.Addr, .int .i64 x.Subnet.Len, .int .u32 x.Pub, .int .u8 x.MAC.b0, .int .u8 x.MAC.b1, .int .u8 x.MAC.b2, .int .u8 x.MAC.b3, .int .u8 x.MAC.b4, .int .u8 x.MAC.b5, .int .i64 x.Until, .int .i64 x.Rev]) ∧ (∀ x, cAnswer x = [.int .i64 x.Err, .int .i64 x.Lease.Host, .int .u32 x.Lease.Subnet.Addr, .int .i64 x.Lease.Subnet.Len, .int .u32 x.Lease.Pub, .int .u8 x.Lease.MAC.b0, .int .u8 x.Lease.MAC.b1, .int .u8 x.Lease.MAC.b2, .int .u8 x.Lease.MAC.b3, .int .u8 x.Lease.MAC.b4, .int .u8 x.Lease.MAC.b5, .int .i64 x.Lease.Until, .int .i64 x.Lease.Rev, .int .i64 x.Rev, .int .i64 x.Now]) ∧ (∀ x, cCmd x = [.int .i64 x.Kind, .int .i64 x.Host, .int .u32 x.Subnet.Addr, .int .i64 x.Subnet.Len, .int .u32 x.Pub, .int .u8 x.MAC.b0, .int .u8 x.MAC.b1, .int .u8 x.MAC.b2, .int .u8 x.MAC.b3, .int .u8 x.MAC.b4, .int .u8 x.MAC.b5, .int .i64 x.N]) ∧ (∀ x, cSnap x = [.int .i64 x.Rev, .int .i64 x.Now, x.Leases.v]) ∧ (∀ x, cReserve x = [.int .i64 x.Host, .int .u32 x.Subnet.Addr, .int .i64 x.Subnet.Len]) ∧ (∀ x, cImage x = [.int .i64 x.Rev, .int .i64 x.Now, x.Leases.v, x.Events.v]) ∧ (∀ x, cEvent x = [.int .i64 x.Rev, .int .i64 x.Kind, .int .i64 x.Lease.Host, .int .u32 x.Lease.Subnet.Addr, .int .i64 x.Lease.Subnet.Len, .int .u32 x.Lease.Pub, .int .u8 x.Lease.MAC.b0, .int .u8 x.Lease.MAC.b1, .int .u8 x.Lease.MAC.b2, .int .u8 x.Lease.MAC.b3, .int .u8 x.Lease.MAC.b4, .int .u8 x.Lease.MAC.b5, .int .i64 x.Lease.Until, .int .i64 x.Lease.Rev]) ∧ (∀ x, cweftlaw11_Pair x = [.int .u32 x.c.Network.Addr, .int .i64 x.c.Network.Len, .int .i64 x.c.SubnetLen, .int .u32 x.c.Min, .int .u32 x.c.Max, .int .i64 x.c.VNI, .int .i64 x.c.Port, .int .i64 x.c.MTU, .int .i64 x.c.TTL, .int .i64 x.c.Renew, .int .i64 x.c.Log, .int .i64 x.c.Hosts, .int .u32 x.c.First, .int .i64 x.c.Routes, .int .i64 x.c.Neighs, .int .i64 x.c.Fdbs, .int .i64 x.c.Room, x.c.Reserved.v, .pointer x.a, .pointer x.b]) ∧ (∀ x, cweftlaw11_Op x = [.int .i64 x.Kind, .int .i64 x.Which, .int .i64 x.Cmd.Kind, .int .i64 x.Cmd.Host, .int .u32 x.Cmd.Subnet.Addr, .int .i64 x.Cmd.Subnet.Len, .int .u32 x.Cmd.Pub, .int .u8 x.Cmd.MAC.b0, .int .u8 x.Cmd.MAC.b1, .int .u8 x.Cmd.MAC.b2, .int .u8 x.Cmd.MAC.b3, .int .u8 x.Cmd.MAC.b4, .int .u8 x.Cmd.MAC.b5, .int .i64 x.Cmd.N, .int .i64 x.From, .int .i64 x.Max, .int .u32 x.A]) ∧ (∀ x, cweftlaw11_Book x = [x.leases.v, x.events.v, .int .i64 x.much]) ∧ (∀ x, clease_history x = [.int .i64 x.bound, x.events.v]) ∧ (∀ x, clease_clock x = [.int .i64 x.now, .int .i64 x.rev]) ∧ (∀ x, clease_Store x = [.int .i64 x.clock.now, .int .i64 x.clock.rev, .int .i64 x.history.bound, x.history.events.v, .int .u32 x.config.Network.Addr, .int .i64 x.config.Network.Len, .int .i64 x.config.SubnetLen, .int .u32 x.config.Min, .int .u32 x.config.Max, .int .i64 x.config.VNI, .int .i64 x.config.Port, .int .i64 x.config.MTU, .int .i64 x.config.TTL, .int .i64 x.config.Renew, .int .i64 x.config.Log, .int .i64 x.config.Hosts, .int .u32 x.config.First, .int .i64 x.config.Routes, .int .i64 x.config.Neighs, .int .i64 x.config.Fdbs, .int .i64 x.config.Room, x.config.Reserved.v, .map x.live, .map x.kept, .pointer x.ends, .pointer x.free]) ∧ (∀ x, cweftref11_Store x = [.int .u32 x.c.Network.Addr, .int .i64 x.c.Network.Len, .int .i64 x.c.SubnetLen, .int .u32 x.c.Min, .int .u32 x.c.Max, .int .i64 x.c.VNI, .int .i64 x.c.Port, .int .i64 x.c.MTU, .int .i64 x.c.TTL, .int .i64 x.c.Renew, .int .i64 x.c.Log, .int .i64 x.c.Hosts, .int .u32 x.c.First, .int .i64 x.c.Routes, .int .i64 x.c.Neighs, .int .i64 x.c.Fdbs, .int .i64 x.c.Room, x.c.Reserved.v, .int .i64 x.now, .int .i64 x.rev, x.leases.v, x.events.v]) ∧ (∀ x, cweftlaw11_Quiet x = [x.leases.v, x.wantLeases.v, x.events.v, x.wantEvents.v, .int .i64 x.much]) ∧ (∀ x, ctimer_Timers x = [.int .i64 x.limit, x.heap.v, .map x.place]) ∧ (∀ x, cpool_Pool x = [.int .u32 x.network.Addr, .int .i64 x.network.Len, .int .i64 x.sublen, .int .i64 x.min, .int .i64 x.max, x.kept.v, .map x.isKept, x.runs.v]) ∧ (∀ x, caddr_class x = [.int .u32 x.at_.Addr, .int .i64 x.at_.Len, .int .i64 x.num]) ∧ (∀ x, cpool_run x = [.int .i64 x.from_, .int .i64 x.to]) ∧ (∀ x, ctimer_one x = [.int .i64 x.id, .int .i64 x.at_]) := ⟨fun _ => rfl, fun _ => rfl, fun _ => rfl, fun _ => rfl, fun _ => rfl, fun _ => rfl, fun _ => rfl, fun _ => rfl, fun _ => rfl, fun _ => rfl, fun _ => rfl, fun _ => rfl, fun _ => rfl, fun _ => rfl, fun _ => rfl, fun _ => rfl, fun _ => rfl, fun _ => rfl, fun _ => rfl, fun _ => rfl, fun _ => rfl, fun _ => rfl, fun _ => rfl⟩
end Go.Proofs.YtdallmabajeajaaGreatDoor.Fw
set_option linter.all false
set_option maxRecDepth 100000
namespace Go.Proofs.YtdallmabajeajaaGreatDoor.Fw
open Go
def tyTab : List (Nat × (Bool × Nat)) := [(2, false, 1), (3, false, 1), (4, false, 1), (5, false, 1), (9, false, 1), (17, false, 1), (22, false, 1), (23, false, 1), (25, true, 2), (26, false, 1), (28, true, 18), (29, false, 1), (32, false, 1), (33, false, 1), (37, true, 6), (39, true, 12), (41, true, 15), (44, true, 12), (49, false, 1), (50, false, 1), (52, true, 3), (58, true, 3), (62, false, 1), (63, false, 1), (65, true, 4), (72, true, 14), (78, false, 1), (79, true, 36), (80, false, 1), (86, false, 1), (92, false, 1), (94, true, 20), (97, true, 17), (103, false, 1), (104, false, 1), (106, true, 3), (112, true, 2), (113, false, 1), (114, false, 1), (116, true, 2), (117, false, 1), (118, false, 1), (120, true, 26), (130, false, 1), (134, true, 8), (141, true, 22), (146, true, 5), (153, false, 1), (154, false, 1), (155, false, 1), (157, true, 3), (159, false, 1), (160, false, 1), (161, false, 1), (163, true, 8), (190, false, 1), (192, true, 3), (195, false, 1), (196, false, 1), (198, true, 3), (200, false, 1), (206, true, 2), (208, false, 1), (222, true, 2), (224, true, 2), (235, false, 1), (247, false, 1), (257, false, 1), (264, false, 1)]
def fdTab : List (Nat × (List (Nat × Nat))) := [(25, [(0, 23), (1, 3)]), (28, [(0, 25), (2, 3), (3, 23), (4, 23), (5, 3), (6, 3), (7, 3), (8, 2), (9, 2), (10, 3), (11, 3), (12, 23), (13, 3), (14, 3), (15, 3), (16, 3), (17, 26)]), (39, [(0, 3), (1, 25), (3, 23), (4, 37), (10, 2), (11, 2)]), (41, [(0, 33), (1, 39), (13, 2), (14, 2)]), (44, [(0, 3), (1, 3), (2, 25), (4, 23), (5, 37), (11, 2)]), (52, [(0, 2), (1, 2), (2, 50)]), (58, [(0, 3), (1, 25)]), (65, [(0, 2), (1, 2), (2, 50), (3, 63)]), (72, [(0, 2), (1, 3), (2, 39)]), (94, [(0, 28), (18, 32), (19, 86)]), (97, [(0, 3), (1, 3), (2, 44), (14, 2), (15, 3), (16, 23)]), (106, [(0, 103), (1, 104), (2, 3)]), (112, [(0, 3), (1, 63)]), (116, [(0, 2), (1, 2)]), (120, [(0, 116), (2, 112), (4, 28), (22, 113), (23, 114), (24, 117), (25, 118)]), (141, [(0, 28), (18, 2), (19, 2), (20, 50), (21, 63)]), (146, [(0, 103), (1, 103), (2, 104), (3, 104), (4, 3)]), (157, [(0, 3), (1, 155), (2, 154)]), (163, [(0, 25), (2, 3), (3, 2), (4, 2), (5, 160), (6, 159), (7, 161)]), (192, [(0, 25), (2, 3)]), (198, [(0, 17), (1, 195), (2, 196)]), (206, [(0, 78), (1, 200)]), (222, [(0, 2), (1, 2)]), (224, [(0, 3), (1, 2)])]
def stTab : List (Nat × (List (Nat × Nat))) := [(25, [(0, 1), (1, 1)]), (28, [(0, 2), (2, 1), (3, 1), (4, 1), (5, 1), (6, 1), (7, 1), (8, 1), (9, 1), (10, 1), (11, 1), (12, 1), (13, 1), (14, 1), (15, 1), (16, 1), (17, 1)]), (39, [(0, 1), (1, 2), (3, 1), (4, 6), (10, 1), (11, 1)]), (41, [(0, 1), (1, 12), (13, 1), (14, 1)]), (44, [(0, 1), (1, 1), (2, 2), (4, 1), (5, 6), (11, 1)]), (52, [(0, 1), (1, 1), (2, 1)]), (58, [(0, 1), (1, 2)]), (65, [(0, 1), (1, 1), (2, 1), (3, 1)]), (72, [(0, 1), (1, 1), (2, 12)]), (94, [(0, 18), (18, 1), (19, 1)]), (97, [(0, 1), (1, 1), (2, 12), (14, 1), (15, 1), (16, 1)]), (106, [(0, 1), (1, 1), (2, 1)]), (112, [(0, 1), (1, 1)]), (116, [(0, 1), (1, 1)]), (120, [(0, 2), (2, 2), (4, 18), (22, 1), (23, 1), (24, 1), (25, 1)]), (141, [(0, 18), (18, 1), (19, 1), (20, 1), (21, 1)]), (146, [(0, 1), (1, 1), (2, 1), (3, 1), (4, 1)]), (157, [(0, 1), (1, 1), (2, 1)]), (163, [(0, 2), (2, 1), (3, 1), (4, 1), (5, 1), (6, 1), (7, 1)]), (192, [(0, 2), (2, 1)]), (198, [(0, 1), (1, 1), (2, 1)]), (206, [(0, 1), (1, 1)]), (222, [(0, 1), (1, 1)]), (224, [(0, 1), (1, 1)])]
def slTab : List (Nat × Nat) := [(26, 58), (29, 5), (49, 25), (50, 39), (62, 44), (63, 72), (80, 97), (103, 50), (104, 63), (155, 224), (160, 2), (161, 222), (190, 192), (208, 3)]
def ptTab : List (Nat × Nat) := [(32, 120), (86, 141), (92, 94), (102, 106), (117, 157), (118, 163), (144, 146), (241, 116), (245, 112), (261, 3), (267, 257), (270, 264), (281, 5)]
def arTab : List (Nat × (Nat × Nat)) := [(37, 6, 5), (79, 2, 28), (134, 8, 92)]
def inTab : List (Nat × IntKind) := [(2, .i64), (3, .i64), (5, .u8), (22, .u32), (23, .u32), (33, .i64), (130, .u64), (153, .u64), (196, .u64), (235, .i64), (247, .i64), (257, .u64), (264, .u64)]
def zeTab : List (Nat × (List Value)) := [(2, [.int .i64 0]), (3, [.int .i64 0]), (4, [.bool false]), (5, [.int .u8 0]), (9, [.string .empty]), (17, [.pointer none]), (22, [.int .u32 0]), (23, [.int .u32 0]), (25, [.int .u32 0, .int .i64 0]), (26, [.slice none 0 0]), (28, [.int .u32 0, .int .i64 0, .int .i64 0, .int .u32 0, .int .u32 0, .int .i64 0, .int .i64 0, .int .i64 0, .int .i64 0, .int .i64 0, .int .i64 0, .int .i64 0, .int .u32 0, .int .i64 0, .int .i64 0, .int .i64 0, .int .i64 0, .slice none 0 0]), (29, [.slice none 0 0]), (32, [.pointer none]), (33, [.int .i64 0]), (37, [.int .u8 0, .int .u8 0, .int .u8 0, .int .u8 0, .int .u8 0, .int .u8 0]), (39, [.int .i64 0, .int .u32 0, .int .i64 0, .int .u32 0, .int .u8 0, .int .u8 0, .int .u8 0, .int .u8 0, .int .u8 0, .int .u8 0, .int .i64 0, .int .i64 0]), (41, [.int .i64 0, .int .i64 0, .int .u32 0, .int .i64 0, .int .u32 0, .int .u8 0, .int .u8 0, .int .u8 0, .int .u8 0, .int .u8 0, .int .u8 0, .int .i64 0, .int .i64 0, .int .i64 0, .int .i64 0]), (44, [.int .i64 0, .int .i64 0, .int .u32 0, .int .i64 0, .int .u32 0, .int .u8 0, .int .u8 0, .int .u8 0, .int .u8 0, .int .u8 0, .int .u8 0, .int .i64 0]), (49, [.slice none 0 0]), (50, [.slice none 0 0]), (52, [.int .i64 0, .int .i64 0, .slice none 0 0]), (58, [.int .i64 0, .int .u32 0, .int .i64 0]), (62, [.slice none 0 0]), (63, [.slice none 0 0]), (65, [.int .i64 0, .int .i64 0, .slice none 0 0, .slice none 0 0]), (72, [.int .i64 0, .int .i64 0, .int .i64 0, .int .u32 0, .int .i64 0, .int .u32 0, .int .u8 0, .int .u8 0, .int .u8 0, .int .u8 0, .int .u8 0, .int .u8 0, .int .i64 0, .int .i64 0]), (78, [.nilFunc]), (79, [.int .u32 0, .int .i64 0, .int .i64 0, .int .u32 0, .int .u32 0, .int .i64 0, .int .i64 0, .int .i64 0, .int .i64 0, .int .i64 0, .int .i64 0, .int .i64 0, .int .u32 0, .int .i64 0, .int .i64 0, .int .i64 0, .int .i64 0, .slice none 0 0, .int .u32 0, .int .i64 0, .int .i64 0, .int .u32 0, .int .u32 0, .int .i64 0, .int .i64 0, .int .i64 0, .int .i64 0, .int .i64 0, .int .i64 0, .int .i64 0, .int .u32 0, .int .i64 0, .int .i64 0, .int .i64 0, .int .i64 0, .slice none 0 0]), (80, [.slice none 0 0]), (86, [.pointer none]), (92, [.pointer none]), (94, [.int .u32 0, .int .i64 0, .int .i64 0, .int .u32 0, .int .u32 0, .int .i64 0, .int .i64 0, .int .i64 0, .int .i64 0, .int .i64 0, .int .i64 0, .int .i64 0, .int .u32 0, .int .i64 0, .int .i64 0, .int .i64 0, .int .i64 0, .slice none 0 0, .pointer none, .pointer none]), (97, [.int .i64 0, .int .i64 0, .int .i64 0, .int .i64 0, .int .u32 0, .int .i64 0, .int .u32 0, .int .u8 0, .int .u8 0, .int .u8 0, .int .u8 0, .int .u8 0, .int .u8 0, .int .i64 0, .int .i64 0, .int .i64 0, .int .u32 0]), (103, [.slice none 0 0]), (104, [.slice none 0 0]), (106, [.slice none 0 0, .slice none 0 0, .int .i64 0]), (112, [.int .i64 0, .slice none 0 0]), (113, [.map none]), (114, [.map none]), (116, [.int .i64 0, .int .i64 0]), (117, [.pointer none]), (118, [.pointer none]), (120, [.int .i64 0, .int .i64 0, .int .i64 0, .slice none 0 0, .int .u32 0, .int .i64 0, .int .i64 0, .int .u32 0, .int .u32 0, .int .i64 0, .int .i64 0, .int .i64 0, .int .i64 0, .int .i64 0, .int .i64 0, .int .i64 0, .int .u32 0, .int .i64 0, .int .i64 0, .int .i64 0, .int .i64 0, .slice none 0 0, .map none, .map none, .pointer none, .pointer none]), (130, [.int .u64 0]), (134, [.pointer none, .pointer none, .pointer none, .pointer none, .pointer none, .pointer none, .pointer none, .pointer none]), (141, [.int .u32 0, .int .i64 0, .int .i64 0, .int .u32 0, .int .u32 0, .int .i64 0, .int .i64 0, .int .i64 0, .int .i64 0, .int .i64 0, .int .i64 0, .int .i64 0, .int .u32 0, .int .i64 0, .int .i64 0, .int .i64 0, .int .i64 0, .slice none 0 0, .int .i64 0, .int .i64 0, .slice none 0 0, .slice none 0 0]), (146, [.slice none 0 0, .slice none 0 0, .slice none 0 0, .slice none 0 0, .int .i64 0]), (153, [.int .u64 0]), (154, [.map none]), (155, [.slice none 0 0]), (157, [.int .i64 0, .slice none 0 0, .map none]), (159, [.map none]), (160, [.slice none 0 0]), (161, [.slice none 0 0]), (163, [.int .u32 0, .int .i64 0, .int .i64 0, .int .i64 0, .int .i64 0, .slice none 0 0, .map none, .slice none 0 0]), (190, [.slice none 0 0]), (192, [.int .u32 0, .int .i64 0, .int .i64 0]), (196, [.int .u64 0]), (200, [.nilFunc]), (206, [.nilFunc, .nilFunc]), (208, [.slice none 0 0]), (222, [.int .i64 0, .int .i64 0]), (224, [.int .i64 0, .int .i64 0]), (235, [.int .i64 0]), (247, [.int .i64 0]), (257, [.int .u64 0]), (264, [.int .u64 0])]
def byTab : List (Nat × Nat) := [(2, 8), (3, 8), (4, 1), (5, 1), (9, 16), (17, 8), (22, 4), (23, 4), (25, 16), (26, 24), (28, 152), (29, 24), (32, 8), (33, 8), (37, 6), (39, 56), (41, 80), (44, 56), (49, 24), (50, 24), (52, 40), (58, 24), (62, 24), (63, 24), (65, 64), (72, 72), (78, 8), (79, 304), (80, 24), (86, 8), (92, 8), (94, 168), (97, 96), (103, 24), (104, 24), (106, 56), (112, 32), (113, 8), (114, 8), (116, 16), (117, 8), (118, 8), (120, 232), (130, 8), (134, 64), (141, 216), (146, 104), (153, 8), (154, 8), (155, 24), (157, 40), (159, 8), (160, 24), (161, 24), (163, 96), (190, 24), (192, 24), (196, 8), (200, 8), (206, 16), (208, 24), (222, 16), (224, 16), (235, 8), (247, 8), (257, 8), (264, 8)]
def maTab : List (Nat × (Nat × Nat)) := [(113, 3, 39), (114, 3, 25), (154, 3, 3), (159, 2, 3), (175, 3, 72), (193, 25, 3)]
def eqTab : List (Nat × (List LK)) := [(25, kPrefix), (37, kMAC), (39, kLease), (41, kAnswer), (44, kCmd), (58, kReserve), (72, kEvent), (97, kweftlaw11_Op), (116, klease_clock), (192, kaddr_class), (222, kpool_run), (224, ktimer_one)]
def niTab : List (Nat × Unit) := [(4, ()), (9, ()), (17, ()), (25, ()), (26, ()), (28, ()), (29, ()), (32, ()), (37, ()), (39, ()), (41, ()), (44, ()), (49, ()), (50, ()), (52, ()), (58, ()), (62, ()), (63, ()), (65, ()), (72, ()), (78, ()), (79, ()), (80, ()), (86, ()), (92, ()), (94, ()), (97, ()), (103, ()), (104, ()), (106, ()), (112, ()), (113, ()), (114, ()), (116, ()), (117, ()), (118, ()), (120, ()), (134, ()), (141, ()), (146, ()), (154, ()), (155, ()), (157, ()), (159, ()), (160, ()), (161, ()), (163, ()), (190, ()), (192, ()), (195, ()), (198, ()), (200, ()), (206, ()), (208, ()), (222, ()), (224, ())]
def boTab : List (Nat × Unit) := [(4, ())]
theorem tyOk : (tyTab.all fun p => decide (tyI Tryz.prog p.1 = some p.2)) = true := by kernel_rfl
theorem tt {T : TypeId} {x : Bool × Nat} (h : lkN tyTab T = some x) : tyI Tryz.prog T = some x := of_decide_eq_true (List.all_eq_true.1 tyOk _ (lkN_mem h))
theorem stOk : (stTab.all fun p => decide (stI Tryz.prog p.1 = some p.2)) = true := by kernel_rfl
theorem stt {T : TypeId} {x : List (Nat × Nat)} (h : lkN stTab T = some x) : stI Tryz.prog T = some x := of_decide_eq_true (List.all_eq_true.1 stOk _ (lkN_mem h))
theorem slOk : (slTab.all fun p => decide (slI Tryz.prog p.1 = some p.2)) = true := by kernel_rfl
theorem slt {T : TypeId} {x : Nat} (h : lkN slTab T = some x) : slI Tryz.prog T = some x := of_decide_eq_true (List.all_eq_true.1 slOk _ (lkN_mem h))
theorem ptOk : (ptTab.all fun p => decide (ptI Tryz.prog p.1 = some p.2)) = true := by kernel_rfl
theorem ptt {T : TypeId} {x : Nat} (h : lkN ptTab T = some x) : ptI Tryz.prog T = some x := of_decide_eq_true (List.all_eq_true.1 ptOk _ (lkN_mem h))
theorem arOk : (arTab.all fun p => decide (arI Tryz.prog p.1 = some p.2)) = true := by kernel_rfl
theorem art {T : TypeId} {x : Nat × Nat} (h : lkN arTab T = some x) : arI Tryz.prog T = some x := of_decide_eq_true (List.all_eq_true.1 arOk _ (lkN_mem h))
theorem inOk : (inTab.all fun p => decide (inI Tryz.prog p.1 = some p.2)) = true := by kernel_rfl
theorem int_ {T : TypeId} {x : IntKind} (h : lkN inTab T = some x) : inI Tryz.prog T = some x := of_decide_eq_true (List.all_eq_true.1 inOk _ (lkN_mem h))
theorem zeOk : (zeTab.all fun p => match zeI Tryz.prog p.1 with | some l => sameV l p.2 | none => false) = true := by kernel_rfl
theorem zet {T : TypeId} {x : List Value} (h : lkN zeTab T = some x) : zeI Tryz.prog T = some x := zeOf zeOk h
theorem byOk : (byTab.all fun p => decide (byI Tryz.prog p.1 = some p.2)) = true := by kernel_rfl
theorem byt {T : TypeId} {x : Nat} (h : lkN byTab T = some x) : byI Tryz.prog T = some x := of_decide_eq_true (List.all_eq_true.1 byOk _ (lkN_mem h))
theorem maOk : (maTab.all fun p => decide (maI Tryz.prog p.1 = some p.2)) = true := by kernel_rfl
theorem mat {T : TypeId} {x : Nat × Nat} (h : lkN maTab T = some x) : maI Tryz.prog T = some x := of_decide_eq_true (List.all_eq_true.1 maOk _ (lkN_mem h))
theorem fdOk : (fdTab.all fun p => (List.range p.2.length).all fun i => decide (fdI Tryz.prog p.1 i = p.2[i]?)) = true := by kernel_rfl
theorem ft {T : TypeId} {l : List (Nat × Nat)} {i : Nat} {x : Nat × Nat} (h : lkN fdTab T = some l) (hi : l[i]? = some x) : fdI Tryz.prog T i = some x := by
  have h1 := of_decide_eq_true (List.all_eq_true.1 (List.all_eq_true.1 fdOk _ (lkN_mem h)) i (List.mem_range.2 (List.getElem?_eq_some_iff.1 hi).1)); rw [h1]; exact hi
theorem niOk : (niTab.all fun p => notInt Tryz.prog p.1) = true := by kernel_rfl
theorem nit {T : TypeId} (h : lkN niTab T = some ()) : notInt Tryz.prog T = true := List.all_eq_true.1 niOk _ (lkN_mem h)
theorem boOk : (boTab.all fun p => match Tryz.prog.underlying p.1 with | some .bool => true | _ => false) = true := by kernel_rfl
theorem bot {T : TypeId} (h : lkN boTab T = some ()) : Tryz.prog.underlying T = some .bool := by
  have h1 := List.all_eq_true.1 boOk _ (lkN_mem h); revert h1; simp only; split <;> simp_all
theorem eqOk : (eqTab.all fun p => eqTB Tryz.prog p.1 p.2) = true := by kernel_rfl
theorem eqt {T : TypeId} {ks : List LK} (h : lkN eqTab T = some ks) : EqT Tryz.prog T ks := eqTB_spec (List.all_eq_true.1 eqOk _ (lkN_mem h))
def caTab : List Nat := [3, 4, 5, 6, 7, 8, 9, 10, 11, 12, 13, 14, 15, 16, 17, 18, 19, 20, 21, 22, 23, 24, 25, 26, 27, 28, 29, 30, 31, 32, 33, 34, 35, 36, 37, 38, 39, 40, 41, 42, 43, 44, 45, 46, 47, 48, 49, 50, 51, 52, 53, 54, 55, 56, 57, 58, 59, 60, 61, 62, 63, 64, 65, 66, 67, 68, 69, 70, 71, 72, 73, 74, 75, 76, 77, 78, 79, 80, 81, 82, 83, 84, 85, 86, 87, 88, 89, 90, 91, 92, 93, 94, 95, 96, 97, 98, 99, 100, 101, 102, 103, 104, 105, 106, 107, 108, 109, 110, 111, 112, 113, 114, 115, 116, 117, 118, 119, 123, 124, 125, 126, 127, 128, 129, 130, 131, 132, 133, 134, 135, 136, 137, 138, 139, 140, 141, 142, 143, 144, 145, 146, 147, 148, 149, 150, 151, 152, 153, 154, 164, 165, 166, 167, 168, 169, 170, 171, 172, 173, 174, 175, 176, 177, 178, 179, 180, 181, 182, 183, 184, 185, 186, 187, 188, 189, 190, 191, 192, 193, 194, 195, 196, 197, 198, 199, 200, 201, 202, 203, 204, 205]
theorem caOk : (caTab.all fun f => callable Tryz.prog f) = true := by kernel_rfl
theorem cat {f : FuncId} (h : caTab.elem f = true) : callable Tryz.prog f = true := List.all_eq_true.1 caOk _ (List.mem_of_elem_eq_true h)
def zvTab : List (Nat × (List Value × Bool)) := [(3, [.int .i64 0], false), (25, [.int .u32 0, .int .i64 0], true), (39, [.int .i64 0, .int .u32 0, .int .i64 0, .int .u32 0, .int .u8 0, .int .u8 0, .int .u8 0, .int .u8 0, .int .u8 0, .int .u8 0, .int .i64 0, .int .i64 0], true), (72, [.int .i64 0, .int .i64 0, .int .i64 0, .int .u32 0, .int .i64 0, .int .u32 0, .int .u8 0, .int .u8 0, .int .u8 0, .int .u8 0, .int .u8 0, .int .u8 0, .int .i64 0, .int .i64 0], true)]
theorem zvOk : (zvTab.all fun p => zvB Tryz.prog p.1 p.2.1 p.2.2) = true := by kernel_rfl
theorem zva_ {α : Type} {c : α → List Value} {T : TypeId} {zs : List Value} {u : α} (h : lkN zvTab T = some (zs, true)) (hm : Mk c zs u) : zvI Tryz.prog T = some (vAgg c u) := by have := zvB_agg (List.all_eq_true.1 zvOk _ (lkN_mem h)); rw [this, vAgg, hm.h]
theorem zvs_ {T : TypeId} {k : IntKind} {n : Int} (h : lkN zvTab T = some ([.int k n], false)) : zvI Tryz.prog T = some (vInt k n) := zvB_sc (List.all_eq_true.1 zvOk _ (lkN_mem h))
instance : Ky Tryz.prog 2 inferInstance (vInt .i64) := ⟨key_int (inI_spec (int_ rfl))⟩
instance : Ky Tryz.prog 3 inferInstance (vInt .i64) := ⟨key_int (inI_spec (int_ rfl))⟩
def pureTab : List Nat := [23, 27, 29, 34, 57, 59, 68, 83, 84, 85, 86, 87, 88, 90, 99, 101, 102, 111, 115, 116, 117, 118, 119, 125, 130, 138, 139, 146, 151, 153, 154, 175, 185, 186, 187]
theorem mo : Tryz.prog.follows .mixedOrders = true := by kernel_rfl
end Go.Proofs.YtdallmabajeajaaGreatDoor.Fw
set_option linter.all false
namespace Go.Proofs.YtdallmabajeajaaGreatDoor.Fw
open Go
theorem RCa_ {w0 : World} {R : Hh} {Ps : List HP} {k : Nat} {v : Value} {ds : List (List Value)} (h : RC (Hp w0 R Ps) k v ds := by first | (apply rc_own; (first | exact r0 | exact r1 | exact r2 | exact r3 | exact r4 | exact r5 | exact r6 | exact r7 | exact r8 | exact r9 | exact r10 | exact r11 | exact r12 | exact r13 | exact r14 | exact r15 | exact r16 | exact r17 | exact r18 | exact r19)) | (apply rc_fr; assumption) | (apply rcW_; (first | (apply rc_own; (first | exact r0 | exact r1 | exact r2 | exact r3 | exact r4 | exact r5 | exact r6 | exact r7 | exact r8 | exact r9 | exact r10 | exact r11 | exact r12 | exact r13 | exact r14 | exact r15 | exact r16 | exact r17 | exact r18 | exact r19)) | (apply rc_fr; assumption)); (try simp only [List.length_map]); omega) | (apply rcU_; (first | (apply rc_own; (first | exact r0 | exact r1 | exact r2 | exact r3 | exact r4 | exact r5 | exact r6 | exact r7 | exact r8 | exact r9 | exact r10 | exact r11 | exact r12 | exact r13 | exact r14 | exact r15 | exact r16 | exact r17 | exact r18 | exact r19)) | (apply rc_fr; assumption) | (apply rcW_; (first | (apply rc_own; (first | exact r0 | exact r1 | exact r2 | exact r3 | exact r4 | exact r5 | exact r6 | exact r7 | exact r8 | exact r9 | exact r10 | exact r11 | exact r12 | exact r13 | exact r14 | exact r15 | exact r16 | exact r17 | exact r18 | exact r19)) | (apply rc_fr; assumption)); (try simp only [List.length_map]); omega)); (try simp only [List.length_map, List.length_drop]); omega)) : RC (Hp w0 R Ps) k v ds := h
section
variable {n : Nat} {L : List (Nat × Value)} {C : World → Prop} {d : Nat} {op : Op} {ty : TypeId} {pos : String} {aft : Array Edge} {v : Value} {gd : Option (Nat × Bool)} {od : Option Tmp} {o : Oper} {ops : Array Oper}
theorem OA_ (h : OkS Tryz.prog C L ⟨od, op, ty, pos, aft, gd⟩ v := by first
  | (apply e1_; rfl)
  | (apply e3_; rfl; exact ft rfl rfl; exact tt rfl; (simp only [Nat.reduceAdd]; rfl))
  | (apply e5_; rfl; exact tt rfl; (first | (apply bx_at; (first | exact r0 | exact r1 | exact r2 | exact r3 | exact r4 | exact r5 | exact r6 | exact r7 | exact r8 | exact r9 | exact r10 | exact r11 | exact r12 | exact r13 | exact r14 | exact r15 | exact r16 | exact r17 | exact r18 | exact r19)) | (apply fr_at; assumption)); rfl)
  | (apply e4_; rfl)
  | (apply e2_; rfl)
  | (apply e6_; rfl)
  | (apply e7_; rfl; rfl)
  | (apply e8_; rfl; exact ft rfl rfl; exact tt rfl; rfl)
  | (apply e9_; rfl; rfl; omega; omega)
  | (apply e10_; rfl; rfl; omega; omega)
  | (apply m1_; rfl; rfl; omega; omega)
  | (apply e11_; rfl; rfl; rfl)
  | (apply e13_; rfl; rfl)
  | (apply f1_; rfl; rfl; rfl; assumption)
  | (apply f2_; rfl; rfl; rfl; assumption)
  | (apply e15_; rfl; rfl; rfl)
  | (apply g1_; rfl; exact slt rfl; (exact RCa_))
  | (apply g2_; rfl; rfl; exact slt rfl; exact tt rfl; (exact RCa_); omega; omega)
  | (apply e5_; rfl; exact tt rfl; (apply at_cat; (exact RCa_); omega; omega; infer_instance); rfl)
  | (apply f12_; rfl; exact tt rfl; (first | (apply bx_at; (first | exact r0 | exact r1 | exact r2 | exact r3 | exact r4 | exact r5 | exact r6 | exact r7 | exact r8 | exact r9 | exact r10 | exact r11 | exact r12 | exact r13 | exact r14 | exact r15 | exact r16 | exact r17 | exact r18 | exact r19)) | (apply fr_at; assumption)); infer_instance; rfl)
  | (apply f10_; rfl; exact tt rfl; (first | (apply bx_at; (first | exact r0 | exact r1 | exact r2 | exact r3 | exact r4 | exact r5 | exact r6 | exact r7 | exact r8 | exact r9 | exact r10 | exact r11 | exact r12 | exact r13 | exact r14 | exact r15 | exact r16 | exact r17 | exact r18 | exact r19)) | (apply fr_at; assumption)); rfl; rfl)
  | (apply f12_; rfl; exact tt rfl; (apply at_cat; (exact RCa_); omega; omega; infer_instance); infer_instance; rfl)
  | (apply f10_; rfl; exact tt rfl; (apply at_cat; (exact RCa_); omega; omega; infer_instance); rfl; rfl)
  | (apply f13_; rfl; exact ft rfl rfl; exact tt rfl; infer_instance)
  | (apply f11_; rfl; exact ft rfl rfl; exact tt rfl; rfl)
  | (apply g3_; rfl; rfl; exact eqt rfl; infer_instance)
  | (apply g4_; rfl; rfl; exact eqt rfl; infer_instance)
  | (apply OkS.mk; apply ok_eqB; rfl; rfl; exact bot rfl)
  | (apply OkS.mk; apply ok_neB; rfl; rfl; exact bot rfl)
  | (apply f5_; rfl; exact int_ rfl; exact int_ rfl)
  | (apply f3_; rfl; rfl; omega)
  | (apply f4_; rfl; rfl; omega)
  | (apply g5_; exact stt rfl; exact zet rfl; rfl; (repeat (first | exact fill_nil | (apply fill_step; rfl; rfl; rfl; (simp only [cs_, putAt, List.set_cons_succ, List.set_cons_zero, Nat.add_zero]; rfl)))); infer_instance; infer_instance)
  | (apply OkS.mk; apply ok_build; exact stt rfl; exact zet rfl; rfl; rfl)
  | (apply OkS.mk; apply ok_min; rfl; rfl; rfl)
  | (apply OkS.mk; apply ok_max; rfl; rfl; rfl)
  | (apply h4_; rfl; (first | exact r0 | exact r1 | exact r2 | exact r3 | exact r4 | exact r5 | exact r6 | exact r7 | exact r8 | exact r9 | exact r10 | exact r11 | exact r12 | exact r13 | exact r14 | exact r15 | exact r16 | exact r17 | exact r18 | exact r19); rfl; exact mat rfl; exact Ky.h; (first | (apply zva_; rfl; infer_instance) | (apply zvs_; rfl)))
  | (apply h5_; rfl; (first | exact r0 | exact r1 | exact r2 | exact r3 | exact r4 | exact r5 | exact r6 | exact r7 | exact r8 | exact r9 | exact r10 | exact r11 | exact r12 | exact r13 | exact r14 | exact r15 | exact r16 | exact r17 | exact r18 | exact r19); rfl; exact mat rfl; exact Ky.h; (first | (apply zva_; rfl; infer_instance) | (apply zvs_; rfl)))
  | (apply h3_; rfl; exact mat rfl; (first | exact r0 | exact r1 | exact r2 | exact r3 | exact r4 | exact r5 | exact r6 | exact r7 | exact r8 | exact r9 | exact r10 | exact r11 | exact r12 | exact r13 | exact r14 | exact r15 | exact r16 | exact r17 | exact r18 | exact r19))
  | (apply f6n_; rfl; rfl; omega; omega; omega)
  | (apply f7n_; rfl; rfl; omega; omega)
  | (apply f6_; rfl; rfl; omega)
  | (apply f7_; rfl; rfl; omega)
  | (apply f8_; rfl)
  | (apply mf_; rfl; rfl)
  | (apply OkS.mk; apply ok_isNilS; rfl; rfl; exact slt rfl)
  | (apply OkS.mk; apply ok_notNilS; rfl; rfl; exact slt rfl)
  | (apply ent_; rfl; (first | exact r0 | exact r1 | exact r2 | exact r3 | exact r4 | exact r5 | exact r6 | exact r7 | exact r8 | exact r9 | exact r10 | exact r11 | exact r12 | exact r13 | exact r14 | exact r15 | exact r16 | exact r17 | exact r18 | exact r19))
  | (apply sl1_; rfl; rfl; exact slt rfl; exact tt rfl; (exact RCa_); omega; omega)
  | (apply sl2_; rfl; rfl; exact slt rfl; exact tt rfl; (exact RCa_); omega; omega)
  | (apply sl3_; rfl; rfl; rfl; exact slt rfl; exact tt rfl; (exact RCa_); omega; omega; omega)) : Ok Tryz.prog C L ⟨od, op, ty, pos, aft, gd⟩ v := h.h
theorem SA_ (h : Stp Tryz.prog ops n C L o d v := by first | (apply p_; (exact OA_); rfl) | (apply pgx_; rfl; rfl; rfl; (first | rfl | assumption); exact OA_) | (apply pox_; rfl; rfl; rfl; (first | rfl | assumption)) | exact pu_) : Stp Tryz.prog ops n C L o d v := h
theorem QA_ (h : Stq Tryz.prog ops n C L o d v := by first | (apply q_; (exact OA_); rfl) | (apply qgx_; rfl; rfl; rfl; (first | rfl | assumption); exact OA_) | (apply qox_; rfl; rfl; rfl; (first | rfl | assumption)) | exact qu_) : Stq Tryz.prog ops n C L o d v := h
end
class Cp (f : FuncId) (us : List Value) (R : Hh) (Ps : List HP) (pre : outParam Prop) (v : outParam Value) : Prop where
  h : pre → Ctp Tryz.prog f us R Ps v
section
variable {ops : Array Oper} {Q : Exit → Act → World → Prop} {rest : List Oper} {n : Nat} {L : List (Nat × Value)} {w w0 : World} {R : Hh} {Ps Pc Pr : List HP} {d : Nat} {v : Value} {ty : TypeId} {pos : String} {aft : Array Edge} {c : Operand} {f : FuncId} {first cap vs us : List Value} {xs : List Operand} {tys : Array TypeId} {P : Program} {pre : Prop}
theorem v24_ (hc : ev L c = some (.func (.func f) #[] #[])) (hx : evs L xs = some us) (hd : Nat.blt d n = true) (hf : callable Tryz.prog f = true) (h : ∀ R, Cp f us R [] pre v) (hp : pre) : Av n w0 R L Ps (.li Tryz.prog ops Q (⟨some d, .call ⟨.value c, ⟨xs⟩, tys⟩, ty, pos, aft, none⟩ :: rest)) ((d, v) :: L) Ps (.li Tryz.prog ops Q rest) :=
  ctp_li (fun _ _ _ => (h _).h hp) .n hf hc hx (by simp) hd
theorem v25_ (hc : ev L c = some (.func (.func f) #[] #[])) (hx : evs L xs = some us) (hd : Nat.blt d n = true) (hf : callable Tryz.prog f = true) (h : ∀ R, Cp f us R [] pre v) (hp : pre) {F : GF} : Av n w0 R L Ps (.qu Tryz.prog ops (Hp w0 R Ps) F (⟨some d, .call ⟨.value c, ⟨xs⟩, tys⟩, ty, pos, aft, none⟩ :: rest)) ((d, v) :: L) Ps (.qu Tryz.prog ops (Hp w0 R Ps) F rest) :=
  ctp_qu (fun _ _ _ => (h _).h hp) .n hf hc hx (by simp) hd
end
section
variable {n : Nat} {L L' : List (Nat × Value)} {w0 : World} {R : Hh} {Ps Ps' : List HP} {F F' : GF}
theorem A1_ (h : Av n w0 R L Ps F L' Ps' F' := by first
  | (apply v1_ (pt := pureTab); rfl; exact SA_)
  | (apply v22_; exact QA_)
  | exact v2_
  | exact v3_
  | exact v6_
  | exact v9_
  | (apply v20_ (pt := pureTab) mo; rfl; kernel_rfl)
  | exact v23_
  | exact v8_
  | exact v7_
  | (apply v21_ (pt := pureTab) mo; rfl; kernel_rfl)
  | (apply v18_; rfl)
  | (apply v19_; rfl)
  | exact v5_
  | exact v10_
  | exact v11_
  | exact v12_
  | exact v13_
  | exact v14_
  | exact v15_
  | exact v16_
  | (apply v17_; rfl)
  | exact v34_
  | (apply hn_; (repeat (first | exact SA.n | (apply SA.s; decide +kernel) | (apply SA.c; (focus ((repeat (first | exact Sub.n | (apply Sub.c; (first | exact r0 | exact r1 | exact r2 | exact r3 | exact r4 | exact r5 | exact r6 | exact r7 | exact r8 | exact r9 | exact r10 | exact r11 | exact r12 | exact r13 | exact r14 | exact r15 | exact r16 | exact r17 | exact r18 | exact r19)))); done))))); done)
  | exact v4_
  | exact v30_ mo
  | exact v31_ mo
  | (apply v32_ (pt := pureTab); rfl; decide +kernel)
  | (apply v33_ (pt := pureTab); rfl; decide +kernel)
  | (apply v28_; rfl; rfl; exact tt rfl; rfl; (first | exact s0 | exact s1 | exact s2 | exact s3 | exact s4 | exact s5 | exact s6 | exact s7 | exact s8 | exact s9 | exact s10 | exact s11 | exact s12 | exact s13 | exact s14 | exact s15 | exact s16 | exact s17 | exact s18 | exact s19); infer_instance; (simp only [cs_, putAt, List.set_cons_succ, List.set_cons_zero, Nat.add_zero]; rfl); infer_instance; rfl)
  | (apply v26_; rfl; rfl; exact tt rfl; rfl; (first | exact s0 | exact s1 | exact s2 | exact s3 | exact s4 | exact s5 | exact s6 | exact s7 | exact s8 | exact s9 | exact s10 | exact s11 | exact s12 | exact s13 | exact s14 | exact s15 | exact s16 | exact s17 | exact s18 | exact s19); (simp only [cs_, putAt, List.set_cons_succ, List.set_cons_zero, Nat.add_zero]; rfl); rfl)
  | (apply v29_; rfl; rfl; exact tt rfl; (first | exact r0 | exact r1 | exact r2 | exact r3 | exact r4 | exact r5 | exact r6 | exact r7 | exact r8 | exact r9 | exact r10 | exact r11 | exact r12 | exact r13 | exact r14 | exact r15 | exact r16 | exact r17 | exact r18 | exact r19); rfl; omega; omega; infer_instance)
  | (apply v27_; rfl; rfl; exact tt rfl; rfl; (first | exact r0 | exact r1 | exact r2 | exact r3 | exact r4 | exact r5 | exact r6 | exact r7 | exact r8 | exact r9 | exact r10 | exact r11 | exact r12 | exact r13 | exact r14 | exact r15 | exact r16 | exact r17 | exact r18 | exact r19); omega; omega; (simp only [cs_, putAt, List.set_cons_succ, List.set_cons_zero, Nat.add_zero]; rfl); infer_instance; rfl; (try infer_instance))
  | (apply v24_; rfl; rfl; rfl; exact cat rfl; exact fun _ => inferInstance; (first | trivial | omega | assumption))
  | (apply v25_; rfl; rfl; rfl; exact cat rfl; exact fun _ => inferInstance; (first | trivial | omega | assumption))
  | exact hx_
  | exact v52_
  | exact v53_
  | exact v54_
  | exact v50_
  | exact v51_
  | (apply hz_; decide +kernel)
  | (apply he_; rfl; decide +kernel; kernel_rfl)
  | (apply v40_; rfl; rfl; (first | rfl | assumption))
  | (apply v42_; rfl; rfl; rfl; (first | rfl | assumption))
  | (apply v43_; rfl; rfl; rfl)
  | (apply v41_; rfl; rfl; (first | rfl | assumption))) : Av n w0 R L Ps F L' Ps' F' := h
theorem ext_ {T L : List (Nat × Value)} (h : Ext T L := by first | exact ⟨0, rfl, rfl⟩ | exact ⟨1, rfl, rfl⟩ | exact ⟨2, rfl, rfl⟩ | exact ⟨3, rfl, rfl⟩ | exact ⟨4, rfl, rfl⟩ | exact ⟨5, rfl, rfl⟩ | exact ⟨6, rfl, rfl⟩ | exact ⟨7, rfl, rfl⟩ | exact ⟨8, rfl, rfl⟩ | exact ⟨9, rfl, rfl⟩ | exact ⟨10, rfl, rfl⟩ | exact ⟨11, rfl, rfl⟩ | exact ⟨12, rfl, rfl⟩ | exact ⟨13, rfl, rfl⟩ | exact ⟨14, rfl, rfl⟩ | exact ⟨15, rfl, rfl⟩ | exact ⟨16, rfl, rfl⟩ | exact ⟨17, rfl, rfl⟩ | exact ⟨18, rfl, rfl⟩ | exact ⟨19, rfl, rfl⟩ | exact ⟨20, rfl, rfl⟩ | exact ⟨21, rfl, rfl⟩ | exact ⟨22, rfl, rfl⟩ | exact ⟨23, rfl, rfl⟩ | exact ⟨24, rfl, rfl⟩ | exact ⟨25, rfl, rfl⟩ | exact ⟨26, rfl, rfl⟩ | exact ⟨27, rfl, rfl⟩ | exact ⟨28, rfl, rfl⟩ | exact ⟨29, rfl, rfl⟩) : Ext T L := h
theorem A2_ (h : Av n w0 R L Ps F L' Ps' F' := by first
  | exact A1_
  | (apply hs_; kernel_rfl; (repeat (first | exact Sub.n | (apply Sub.c; (first | exact r0 | exact r1 | exact r2 | exact r3 | exact r4 | exact r5 | exact r6 | exact r7 | exact r8 | exact r9 | exact r10 | exact r11 | exact r12 | exact r13 | exact r14 | exact r15 | exact r16 | exact r17 | exact r18 | exact r19)))); (intro F1; repeat (first | exact av_r | (apply x_; exact A1_))))
  | (apply sc_; rfl; rfl; rfl; rfl; (intro hb Q1; have hbp := hb; (try simp only [bz_, bp_] at hbp); repeat (first | exact av_r | (apply x_; exact A1_))); (intro hb Q1; have hbp := hb; (try simp only [bz_, bp_] at hbp); repeat (first | exact av_r | (apply x_; exact A1_))); exact ext_; exact ext_)
  | (apply scq_; rfl; rfl; rfl; rfl; (intro hb Q1; have hbp := hb; (try simp only [bz_, bp_] at hbp); repeat (first | exact av_r | (apply x_; exact A1_))); (intro hb Q1; have hbp := hb; (try simp only [bz_, bp_] at hbp); repeat (first | exact av_r | (apply x_; exact A1_))); exact ext_; exact ext_)) : Av n w0 R L Ps F L' Ps' F' := h
theorem A3_ (h : Av n w0 R L Ps F L' Ps' F' := by first
  | exact A1_
  | (apply hs_; kernel_rfl; (repeat (first | exact Sub.n | (apply Sub.c; (first | exact r0 | exact r1 | exact r2 | exact r3 | exact r4 | exact r5 | exact r6 | exact r7 | exact r8 | exact r9 | exact r10 | exact r11 | exact r12 | exact r13 | exact r14 | exact r15 | exact r16 | exact r17 | exact r18 | exact r19)))); (intro F1; repeat (first | exact av_r | (apply x_; exact A2_))))
  | (apply sc_; rfl; rfl; rfl; rfl; (intro hb Q1; have hbp := hb; (try simp only [bz_, bp_] at hbp); repeat (first | exact av_r | (apply x_; exact A2_))); (intro hb Q1; have hbp := hb; (try simp only [bz_, bp_] at hbp); repeat (first | exact av_r | (apply x_; exact A2_))); exact ext_; exact ext_)
  | (apply scq_; rfl; rfl; rfl; rfl; (intro hb Q1; have hbp := hb; (try simp only [bz_, bp_] at hbp); repeat (first | exact av_r | (apply x_; exact A2_))); (intro hb Q1; have hbp := hb; (try simp only [bz_, bp_] at hbp); repeat (first | exact av_r | (apply x_; exact A2_))); exact ext_; exact ext_)) : Av n w0 R L Ps F L' Ps' F' := h
theorem A4_ (h : Av n w0 R L Ps F L' Ps' F' := by first
  | exact A1_
  | (apply hs_; kernel_rfl; (repeat (first | exact Sub.n | (apply Sub.c; (first | exact r0 | exact r1 | exact r2 | exact r3 | exact r4 | exact r5 | exact r6 | exact r7 | exact r8 | exact r9 | exact r10 | exact r11 | exact r12 | exact r13 | exact r14 | exact r15 | exact r16 | exact r17 | exact r18 | exact r19)))); (intro F1; repeat (first | exact av_r | (apply x_; exact A3_))))
  | (apply sc_; rfl; rfl; rfl; rfl; (intro hb Q1; have hbp := hb; (try simp only [bz_, bp_] at hbp); repeat (first | exact av_r | (apply x_; exact A3_))); (intro hb Q1; have hbp := hb; (try simp only [bz_, bp_] at hbp); repeat (first | exact av_r | (apply x_; exact A3_))); exact ext_; exact ext_)
  | (apply scq_; rfl; rfl; rfl; rfl; (intro hb Q1; have hbp := hb; (try simp only [bz_, bp_] at hbp); repeat (first | exact av_r | (apply x_; exact A3_))); (intro hb Q1; have hbp := hb; (try simp only [bz_, bp_] at hbp); repeat (first | exact av_r | (apply x_; exact A3_))); exact ext_; exact ext_)) : Av n w0 R L Ps F L' Ps' F' := h
theorem run_ (k : Gl n w0 R L' Ps' F') (h : Av n w0 R L Ps F L' Ps' F' := by (repeat (apply x_; exact A3_)); exact av_r) : Gl n w0 R L Ps F := h.g k
theorem run4_ (k : Gl n w0 R L' Ps' F') (h : Av n w0 R L Ps F L' Ps' F' := by (repeat (apply x_; exact A4_)); exact av_r) : Gl n w0 R L Ps F := h.g k
end
section
variable {P : Program} {ops : Array Oper} {Q : Exit → Act → World → Prop} {rest : List Oper} {n : Nat} {L L1 L2 : List (Nat × Value)} {w w0 : World} {R : Hh} {Ps Ps1 Ps2 Qs : List HP} {F F1 F2 : GF} {d : Nat} {v : Value} {ty : TypeId} {pos : String} {aft : Array Edge} {x y cd : Code} {c : Operand} {b : Bool} {pt pf : Prop}
theorem hh_ {Pz : Program} {k : Nat} (is : List (List Nat)) (Qss : List (List HP)) (kk : Gl n w0 R L1 Ps1 F1) (hk : (Nat.ble k ops.size && downB ops k && disj (List.range k) (mkPl is Qss)) = true := by kernel_rfl) (r : Av n w0 R L Ps (.ex (fun _ => RP Pz ops (exN Q) w0 R (mkPl is Qss) (List.range k) [] (mkPl is Qss)) .normal) L1 Ps1 F1 := by (repeat (apply x_; exact A3_)); exact av_r) : Gl n w0 R L Ps (.an Pz ops Q k) := hb_ _ (r.g kk) hk
theorem if_ (ht : pt → Gl n w0 R L1 Ps1 F1) (hf : pf → Gl n w0 R L2 Ps2 F2) (hc : ev L c = some (.bool b) := by rfl) (et : (b = true) = pt := by first | (simp only [bz_, bp_]; rfl) | rfl) (ef : (b = false) = pf := by first | (simp only [bz_, bp_]; rfl) | rfl)
    (rt : pt → Av n w0 R L Ps (.co P x Q) L1 Ps1 F1 := by intro zh9; (repeat (apply x_; exact A3_)); exact av_r) (rf : pf → Av n w0 R L Ps (.co P y Q) L2 Ps2 F2 := by intro zh9; (repeat (apply x_; exact A3_)); exact av_r) : Gl n w0 R L Ps (.co P (.cond c x y) Q) :=
  cond_ (fun h => (rt (et ▸ h)).g (ht (et ▸ h))) (fun h => (rf (ef ▸ h)).g (hf (ef ▸ h))) hc
section
variable {τ : Type} {fn : Func} {rs : List ResultVar} {vs : List Value} {φ : τ → Prop} {V : τ → Value} {Z : τ → List HP} {f : FuncId} {args first cap us : List Value} {Pc Pr : List HP} {xs : List Operand} {tys : Array TypeId}
theorem rt_ (x : τ) (k : φ x) (hr : fn.results = ⟨rs⟩ := by rfl) (h : resT L rs = some vs := by rfl) (hv : pack vs = V x := by rfl) (hz : Sub (Z x) Ps := by (repeat (first | exact Sub.n | (apply Sub.c; (first | exact r0 | exact r1 | exact r2 | exact r3 | exact r4 | exact r5 | exact r6 | exact r7 | exact r8 | exact r9 | exact r10 | exact r11 | exact r12 | exact r13 | exact r14 | exact r15 | exact r16 | exact r17 | exact r18 | exact r19))))) : Gl n w0 R L Ps (.ex (bodyPost P fn fun e w' => ∃ x, φ x ∧ e = .returned (V x) ∧ Hp w0 R (Z x) w') .ret) := ret_ x k hv hz hr h
theorem rtC_ {t : Tmp} {T E : TypeId} {cs : List Value} {p : Addr} {zz : Nat} (x : τ) (k : φ x) (hr : fn.results = ⟨[.cell t T]⟩ := by rfl) (hx : lk L t = some (.pointer (some (padd p 0))) := by rfl) (ht : tyI Tryz.prog T = some (true, zz) := by exact tt rfl) (hP : Rem Ps (Bx p E cs) Qs := by first | exact r0 | exact r1 | exact r2 | exact r3 | exact r4 | exact r5 | exact r6 | exact r7 | exact r8 | exact r9 | exact r10 | exact r11 | exact r12 | exact r13 | exact r14 | exact r15 | exact r16 | exact r17 | exact r18 | exact r19) (hl : Nat.beq cs.length zz = true := by rfl) (hv : .agg ⟨cs⟩ = V x := by rfl) (hz : Sub (Z x) Ps := by (repeat (first | exact Sub.n | (apply Sub.c; (first | exact r0 | exact r1 | exact r2 | exact r3 | exact r4 | exact r5 | exact r6 | exact r7 | exact r8 | exact r9 | exact r10 | exact r11 | exact r12 | exact r13 | exact r14 | exact r15 | exact r16 | exact r17 | exact r18 | exact r19))))) : Gl n w0 R L Ps (.ex (bodyPost Tryz.prog fn fun e w' => ∃ x, φ x ∧ e = .returned (V x) ∧ Hp w0 R (Z x) w') .ret) := retC_ x k hx ht hP hl hv hz hr
theorem reC_ {t : Tmp} {T E : TypeId} {cs : List Value} {p : Addr} {zz : Nat} {v : Value} {Zu : Unit → List HP} (k : (.agg ⟨cs⟩ : Value) = v) (hr : fn.results = ⟨[.cell t T]⟩ := by rfl) (hx : lk L t = some (.pointer (some (padd p 0))) := by rfl) (ht : tyI Tryz.prog T = some (true, zz) := by exact tt rfl) (hP : Rem Ps (Bx p E cs) Qs := by first | exact r0 | exact r1 | exact r2 | exact r3 | exact r4 | exact r5 | exact r6 | exact r7 | exact r8 | exact r9 | exact r10 | exact r11 | exact r12 | exact r13 | exact r14 | exact r15 | exact r16 | exact r17 | exact r18 | exact r19) (hl : Nat.beq cs.length zz = true := by rfl) (hz : Sub (Zu ()) Ps := by (repeat (first | exact Sub.n | (apply Sub.c; (first | exact r0 | exact r1 | exact r2 | exact r3 | exact r4 | exact r5 | exact r6 | exact r7 | exact r8 | exact r9 | exact r10 | exact r11 | exact r12 | exact r13 | exact r14 | exact r15 | exact r16 | exact r17 | exact r18 | exact r19))))) : Gl n w0 R L Ps (.ex (bodyPost Tryz.prog fn fun e w' => ∃ x, (fun _ : Unit => True) x ∧ e = .returned ((fun _ : Unit => v) x) ∧ Hp w0 R (Zu x) w') .ret) := retC_ (V := fun _ => v) () trivial hx ht hP hl k hz hr
theorem rm_ (x : τ) (k : φ x) (hr : fn.results = ⟨rs⟩ := by rfl) (h : RV Tryz.prog L Ps rs vs := by (repeat (first | exact RV.n | (apply RV.t; rfl) | (apply RV.c; rfl; exact tt rfl; (first | exact r0 | exact r1 | exact r2 | exact r3 | exact r4 | exact r5 | exact r6 | exact r7 | exact r8 | exact r9 | exact r10 | exact r11 | exact r12 | exact r13 | exact r14 | exact r15 | exact r16 | exact r17 | exact r18 | exact r19); rfl) | (apply RV.s; rfl; exact tt rfl; (first | exact r0 | exact r1 | exact r2 | exact r3 | exact r4 | exact r5 | exact r6 | exact r7 | exact r8 | exact r9 | exact r10 | exact r11 | exact r12 | exact r13 | exact r14 | exact r15 | exact r16 | exact r17 | exact r18 | exact r19))))) (hv : pack vs = V x := by rfl) (hz : Sub (Z x) Ps := by (repeat (first | exact Sub.n | (apply Sub.c; (first | exact r0 | exact r1 | exact r2 | exact r3 | exact r4 | exact r5 | exact r6 | exact r7 | exact r8 | exact r9 | exact r10 | exact r11 | exact r12 | exact r13 | exact r14 | exact r15 | exact r16 | exact r17 | exact r18 | exact r19))))) : Gl n w0 R L Ps (.ex (bodyPost Tryz.prog fn fun e w' => ∃ x, φ x ∧ e = .returned (V x) ∧ Hp w0 R (Z x) w') .ret) := retM_ x k hr h hv hz
theorem rmN_ (x : τ) (k : φ x) (hr : fn.results = ⟨rs⟩ := by rfl) (h : RV Tryz.prog L Ps rs vs := by (repeat (first | exact RV.n | (apply RV.t; rfl) | (apply RV.c; rfl; exact tt rfl; (first | exact r0 | exact r1 | exact r2 | exact r3 | exact r4 | exact r5 | exact r6 | exact r7 | exact r8 | exact r9 | exact r10 | exact r11 | exact r12 | exact r13 | exact r14 | exact r15 | exact r16 | exact r17 | exact r18 | exact r19); rfl) | (apply RV.s; rfl; exact tt rfl; (first | exact r0 | exact r1 | exact r2 | exact r3 | exact r4 | exact r5 | exact r6 | exact r7 | exact r8 | exact r9 | exact r10 | exact r11 | exact r12 | exact r13 | exact r14 | exact r15 | exact r16 | exact r17 | exact r18 | exact r19))))) (hv : pack vs = V x := by rfl) (hz : Sub (Z x) Ps := by (repeat (first | exact Sub.n | (apply Sub.c; (first | exact r0 | exact r1 | exact r2 | exact r3 | exact r4 | exact r5 | exact r6 | exact r7 | exact r8 | exact r9 | exact r10 | exact r11 | exact r12 | exact r13 | exact r14 | exact r15 | exact r16 | exact r17 | exact r18 | exact r19))))) : Gl n w0 R L Ps (.ex (bodyPost Tryz.prog fn fun e w' => ∃ x, φ x ∧ e = .returned (V x) ∧ Hp w0 R (Z x) w') .normal) := retMN_ x k hr h hv hz
theorem rn_ (x : τ) (k : φ x) (hr : fn.results = ⟨[]⟩ := by rfl) (hv : pack [] = V x := by rfl) (hz : Sub (Z x) Ps := by (repeat (first | exact Sub.n | (apply Sub.c; (first | exact r0 | exact r1 | exact r2 | exact r3 | exact r4 | exact r5 | exact r6 | exact r7 | exact r8 | exact r9 | exact r10 | exact r11 | exact r12 | exact r13 | exact r14 | exact r15 | exact r16 | exact r17 | exact r18 | exact r19))))) : Gl n w0 R L Ps (.ex (bodyPost P fn fun e w' => ∃ x, φ x ∧ e = .returned (V x) ∧ Hp w0 R (Z x) w') .normal) := retN_ x k hv hz hr
theorem re_ {v : Value} {Z : Unit → List HP} (hv : pack vs = v) (hr : fn.results = ⟨rs⟩ := by rfl) (h : resT L rs = some vs := by rfl) (hz : Sub (Z ()) Ps := by (repeat (first | exact Sub.n | (apply Sub.c; (first | exact r0 | exact r1 | exact r2 | exact r3 | exact r4 | exact r5 | exact r6 | exact r7 | exact r8 | exact r9 | exact r10 | exact r11 | exact r12 | exact r13 | exact r14 | exact r15 | exact r16 | exact r17 | exact r18 | exact r19))))) : Gl n w0 R L Ps (.ex (bodyPost P fn fun e w' => ∃ x, (fun _ : Unit => True) x ∧ e = .returned ((fun _ : Unit => v) x) ∧ Hp w0 R (Z x) w') .ret) := ret_ (V := fun _ => v) () trivial hv hz hr h
theorem in_ {F1 : World → GF} (hf : Tryz.prog.funcs[f]? = some fn) (k : ∀ w0, Gl fn.ntmps w0 R L1 Ps1 (F1 w0)) (hb : fn.body = some cd := by rfl) (ha : Nat.ble args.length fn.ntmps = true := by rfl)
    (h : ∀ w0, Av fn.ntmps w0 R (num 0 args) Ps (.co Tryz.prog cd (bodyPost Tryz.prog fn fun e w' => ∃ x, φ x ∧ e = .returned (V x) ∧ Hp w0 R (Z x) w')) L1 Ps1 (F1 w0) := by intro zw9; (repeat (apply x_; exact A3_)); exact av_r) : Ctr Tryz.prog f args R Ps φ V Z := enter_ hf hb rfl ha fun w0 => (h w0).g (k w0)
theorem ca_ {L1 : τ → List (Nat × Value)} {Ps1 : τ → List HP} {F1 : τ → GF} (h : ∀ R', hle R R' → (∃ y, SepL Pr y ∧ hle y R') → Ctr Tryz.prog f us R' Pc φ V Z) (k : ∀ x, φ x → Gl n w0 R (L1 x) (Ps1 x) (F1 x)) (hc : ev L c = some (.func (.func f) ⟨first⟩ ⟨cap⟩) := by rfl) (hx : evs L xs = some vs := by rfl) (hu : first ++ vs ++ cap = us := by rfl) (hp : Tk Pc Ps Pr := by (repeat (first | exact Tk.n | (apply Tk.c; (first | exact r0 | exact r1 | exact r2 | exact r3 | exact r4 | exact r5 | exact r6 | exact r7 | exact r8 | exact r9 | exact r10 | exact r11 | exact r12 | exact r13 | exact r14 | exact r15 | exact r16 | exact r17 | exact r18 | exact r19))))) (hf : callable Tryz.prog f = true := by exact cat rfl) (hd : Nat.blt d n = true := by rfl)
    (r : ∀ x, Av n w0 R ((d, V x) :: L) (Z x ++ Pr) (.li Tryz.prog ops Q rest) (L1 x) (Ps1 x) (F1 x) := by intro zx9; (repeat (apply x_; exact A3_)); exact av_r) : Gl n w0 R L Ps (.li Tryz.prog ops Q (⟨some d, .call ⟨.value c, ⟨xs⟩, tys⟩, ty, pos, aft, none⟩ :: rest)) := call_ h (fun x hx => (r x).g (k x hx)) hp hf hc hx hu hd
theorem csm_ (h : Ctp Tryz.prog f us R Ps v) (k : Gl n w0 R L1 Ps1 F1) (hc : ev L c = some (.func (.func f) ⟨first⟩ ⟨cap⟩) := by rfl) (hx : evs L xs = some vs := by rfl) (hu : first ++ vs ++ cap = us := by rfl) (hf : callable Tryz.prog f = true := by exact cat rfl) (hd : Nat.blt d n = true := by rfl)
    (r : Av n w0 R ((d, v) :: L) Ps (.li Tryz.prog ops Q rest) L1 Ps1 F1 := by (repeat (apply x_; exact A3_)); exact av_r) : Gl n w0 R L Ps (.li Tryz.prog ops Q (⟨some d, .call ⟨.value c, ⟨xs⟩, tys⟩, ty, pos, aft, none⟩ :: rest)) := fun a w hs m =>
  r_call (Rc := fun u w' => u = v ∧ Hp w0 R Ps w') hs hc hx hf hu ((h w0 w m).mono fun e w' he => by obtain ⟨_, _, h1, h3⟩ := he; exact ⟨v, h1, rfl, h3⟩) hd fun u w' he a' hs' => by obtain ⟨rfl, h2⟩ := he; exact r.g k a' w' hs' h2
theorem cp_ (h : ∀ R', hle R R' → (∃ y, SepL Pr y ∧ hle y R') → Ctp Tryz.prog f us R' Pc v) (k : Gl n w0 R L1 Ps1 F1) (hc : ev L c = some (.func (.func f) ⟨first⟩ ⟨cap⟩) := by rfl) (hx : evs L xs = some vs := by rfl) (hu : first ++ vs ++ cap = us := by rfl) (hp : Tk Pc Ps Pr := by (repeat (first | exact Tk.n | (apply Tk.c; (first | exact r0 | exact r1 | exact r2 | exact r3 | exact r4 | exact r5 | exact r6 | exact r7 | exact r8 | exact r9 | exact r10 | exact r11 | exact r12 | exact r13 | exact r14 | exact r15 | exact r16 | exact r17 | exact r18 | exact r19))))) (hf : callable Tryz.prog f = true := by exact cat rfl) (hd : Nat.blt d n = true := by rfl)
    (r : Av n w0 R ((d, v) :: L) Ps (.li Tryz.prog ops Q rest) L1 Ps1 F1 := by (repeat (apply x_; exact A3_)); exact av_r) : Gl n w0 R L Ps (.li Tryz.prog ops Q (⟨some d, .call ⟨.value c, ⟨xs⟩, tys⟩, ty, pos, aft, none⟩ :: rest)) := (ctp_li h hp hf hc hx hu hd).g (r.g k)
theorem cq_ {F : GF} (h : ∀ R', hle R R' → (∃ y, SepL Pr y ∧ hle y R') → Ctp Tryz.prog f us R' Pc v) (k : Gl n w0 R L1 Ps1 F1) (hc : ev L c = some (.func (.func f) ⟨first⟩ ⟨cap⟩) := by rfl) (hx : evs L xs = some vs := by rfl) (hu : first ++ vs ++ cap = us := by rfl) (hp : Tk Pc Ps Pr := by (repeat (first | exact Tk.n | (apply Tk.c; (first | exact r0 | exact r1 | exact r2 | exact r3 | exact r4 | exact r5 | exact r6 | exact r7 | exact r8 | exact r9 | exact r10 | exact r11 | exact r12 | exact r13 | exact r14 | exact r15 | exact r16 | exact r17 | exact r18 | exact r19))))) (hf : callable Tryz.prog f = true := by exact cat rfl) (hd : Nat.blt d n = true := by rfl)
    (r : Av n w0 R ((d, v) :: L) Ps (.qu Tryz.prog ops (Hp w0 R Ps) F rest) L1 Ps1 F1 := by (repeat (apply x_; exact A3_)); exact av_r) : Gl n w0 R L Ps (.qu Tryz.prog ops (Hp w0 R Ps) F (⟨some d, .call ⟨.value c, ⟨xs⟩, tys⟩, ty, pos, aft, none⟩ :: rest)) := (ctp_qu h hp hf hc hx hu hd).g (r.g k)
end
theorem bo_' {E : TypeId} {x : Operand} {cs : List Value} {L1 : Addr → List (Nat × Value)} {Ps1 : Addr → List HP} {F1 : Addr → GF} (k : ∀ p, Gl n w0 R (L1 p) (Ps1 p) (F1 p)) (hx : ev L x = some v := by rfl) (hc : v.cells = ⟨cs⟩ := by rfl) (hd : Nat.blt d n = true := by rfl) (r : ∀ p, Av n w0 R ((d, .pointer (some (padd p 0))) :: L) (Bx p E cs :: Ps) (.li P ops Q rest) (L1 p) (Ps1 p) (F1 p) := by intro zp9; (repeat (apply x_; exact A3_)); exact av_r) :
    Gl n w0 R L Ps (.li P ops Q (⟨some d, .box E x, ty, pos, aft, none⟩ :: rest)) := box_ (fun p => (r p).g (k p)) hx hc hd
theorem al_ {E : TypeId} {cs : List Value} {L1 : Addr → List (Nat × Value)} {Ps1 : Addr → List HP} {F1 : Addr → GF} (k : ∀ p, Gl n w0 R (L1 p) (Ps1 p) (F1 p)) (hz : zeI Tryz.prog E = some cs := by exact zet rfl) (hd : Nat.blt d n = true := by rfl) (r : ∀ p, Av n w0 R ((d, .pointer (some (padd p 0))) :: L) (Bx p E cs :: Ps) (.li Tryz.prog ops Q rest) (L1 p) (Ps1 p) (F1 p) := by intro zp9; (repeat (apply x_; exact A3_)); exact av_r) :
    Gl n w0 R L Ps (.li Tryz.prog ops Q (⟨some d, .alloc E, ty, pos, aft, none⟩ :: rest)) := alloc_ (fun p => (r p).g (k p)) hz hd
theorem bx_ {α : Type} {ct : α → List Value} {e : α} {E : TypeId} {x : Operand} {cs : List Value} {L1 : Addr → List (Nat × Value)} {Ps1 : Addr → List HP} {F1 : Addr → GF} (k : ∀ p, Gl n w0 R (L1 p) (Ps1 p) (F1 p)) (hx : ev L x = some v := by rfl) (hr : TyR E α ct := by infer_instance) (hc : v.cells = ⟨cs⟩ := by rfl) (he : ct e = cs := by first | rfl | exact (show Mk ct cs _ from inferInstance).h) (hd : Nat.blt d n = true := by rfl) (r : ∀ p, Av n w0 R ((d, .pointer (some (padd p 0))) :: L) (Bx p E (ct e) :: Ps) (.li P ops Q rest) (L1 p) (Ps1 p) (F1 p) := by intro zp9; (repeat (apply x_; exact A3_)); exact av_r) :
    Gl n w0 R L Ps (.li P ops Q (⟨some d, .box E x, ty, pos, aft, none⟩ :: rest)) := box_ (fun p => (r p).g (k p)) hx (by rw [hc, he]) hd
theorem ax_ {α : Type} {ct : α → List Value} {e : α} {E : TypeId} {cs : List Value} {L1 : Addr → List (Nat × Value)} {Ps1 : Addr → List HP} {F1 : Addr → GF} (k : ∀ p, Gl n w0 R (L1 p) (Ps1 p) (F1 p)) (hz : zeI Tryz.prog E = some cs := by exact zet rfl) (hr : TyR E α ct := by infer_instance) (he : Mk ct cs e := by infer_instance) (hd : Nat.blt d n = true := by rfl) (r : ∀ p, Av n w0 R ((d, .pointer (some (padd p 0))) :: L) (Bx p E (ct e) :: Ps) (.li Tryz.prog ops Q rest) (L1 p) (Ps1 p) (F1 p) := by intro zp9; (repeat (apply x_; exact A3_)); exact av_r) :
    Gl n w0 R L Ps (.li Tryz.prog ops Q (⟨some d, .alloc E, ty, pos, aft, none⟩ :: rest)) := alloc_ (fun p => (r p).g (k p)) (he.h ▸ hz) hd
theorem sw_ {α : Type} {c : α → List Value} {xs : List α} {E : TypeId} {k : Nat} {X : SH} (i : Nat) (hk0 : Gl n w0 R L (Sv k E (upH X i).v ((xs.take i).map c) :: Qs) F) (hP : Rem Ps (Sv k E X.v (xs.map c)) Qs := by first | exact r0 | exact r1 | exact r2 | exact r3 | exact r4 | exact r5 | exact r6 | exact r7 | exact r8 | exact r9 | exact r10 | exact r11 | exact r12 | exact r13 | exact r14 | exact r15 | exact r16 | exact r17 | exact r18 | exact r19) (h : i ≤ xs.length := by omega) : Gl n w0 R L Ps F := shu_ i hk0 hP h
theorem af_ {α : Type} {ct : α → List Value} {xs : List α} {T T2 E : TypeId} {ag : Bool} {k : Nat} {x y : Operand} {X : SH} (i j : Nat) (kk : Gl n w0 R L1 Ps1 F1) (hx : ev L x = some (upH X i).v := by rfl) (hy : ev L y = some (subH3 k X j xs.length X.c).v := by rfl) (hP : Rem Ps (Sv k E X.v (xs.map ct)) Qs := by first | exact r0 | exact r1 | exact r2 | exact r3 | exact r4 | exact r5 | exact r6 | exact r7 | exact r8 | exact r9 | exact r10 | exact r11 | exact r12 | exact r13 | exact r14 | exact r15 | exact r16 | exact r17 | exact r18 | exact r19) (hT : slI Tryz.prog T = some E := by exact slt rfl) (hT2 : notInt Tryz.prog T2 = true := by exact nit rfl) (hE : tyI Tryz.prog E = some (ag, k) := by exact tt rfl) (ho : Cs ct k := by infer_instance) (h1 : i ≤ j := by omega) (h2 : j ≤ xs.length := by omega) (hd : Nat.blt d n = true := by rfl)
    (r : Av n w0 R ((d, (upH X (i + (xs.length - j))).v) :: L) (Sv k E (upH X (i + (xs.length - j))).v ((xs.take i ++ xs.drop j).map ct) :: Qs) (.li Tryz.prog ops Q rest) L1 Ps1 F1 := by (repeat (apply x_; exact A3_)); exact av_r) : Gl n w0 R L Ps (.li Tryz.prog ops Q (⟨some d, .call ⟨.builtin .append, #[x, y], #[T, T2]⟩, ty, pos, aft, none⟩ :: rest)) := afx_ i j (r.g kk) hx hy hP hT hT2 hE ho h1 h2 hd
theorem ci_ {α : Type} {ct : α → List Value} {xs : List α} {T T2 E : TypeId} {ag : Bool} {k : Nat} {x y : Operand} {X : SH} (i j : Nat) (kk : Gl n w0 R L1 Ps1 F1) (hx : ev L x = some (subH3 k X j xs.length X.c).v := by rfl) (hy : ev L y = some (subH3 k X i xs.length X.c).v := by rfl) (hP : Rem Ps (Sv k E X.v (xs.map ct)) Qs := by first | exact r0 | exact r1 | exact r2 | exact r3 | exact r4 | exact r5 | exact r6 | exact r7 | exact r8 | exact r9 | exact r10 | exact r11 | exact r12 | exact r13 | exact r14 | exact r15 | exact r16 | exact r17 | exact r18 | exact r19) (hT : slI Tryz.prog T = some E := by exact slt rfl) (hE : tyI Tryz.prog E = some (ag, k) := by exact tt rfl) (ho : Cs ct k := by infer_instance) (h1 : i ≤ j := by omega) (h2 : j ≤ xs.length := by omega) (hd : Nat.blt d n = true := by rfl)
    (r : Av n w0 R ((d, .int .i64 ((xs.length - j : Nat) : Int)) :: L) (Sv k E X.v ((xs.take j ++ (xs.drop i).take (xs.length - j)).map ct) :: Qs) (.li Tryz.prog ops Q rest) L1 Ps1 F1 := by (repeat (apply x_; exact A3_)); exact av_r) : Gl n w0 R L Ps (.li Tryz.prog ops Q (⟨some d, .call ⟨.builtin .copy, #[x, y], #[T, T2]⟩, ty, pos, aft, none⟩ :: rest)) := cpi_ (r.g kk) hx hy hT hE hP ho h1 h2 hd
theorem slz_ {α : Type} {ct : α → List Value} {e1 e2 : α} {T E : TypeId} {ag : Bool} {k : Nat} {x y : Operand} {v1 v2 : Value} {cs1 cs2 zs : List Value} {L1 : SH → List (Nat × Value)} {Ps1 : SH → List HP} {F1 : SH → GF} (kk : ∀ X, Gl n w0 R (L1 X) (Ps1 X) (F1 X)) (hT : slI Tryz.prog T = some E := by exact slt rfl) (hE : tyI Tryz.prog E = some (ag, k) := by exact tt rfl) (hz : zeI Tryz.prog E = some zs := by exact zet rfl) (hzl : zs.length = k := by rfl) (hx : ev L x = some v1 := by rfl) (hy : ev L y = some v2 := by rfl) (hr : TyR E α ct := by infer_instance) (hc1 : v1.cells = ⟨cs1⟩ := by rfl) (hc2 : v2.cells = ⟨cs2⟩ := by rfl)
    (he1 : ct e1 = cs1 := by first | rfl | exact (show Mk ct cs1 _ from inferInstance).h) (he2 : ct e2 = cs2 := by first | rfl | exact (show Mk ct cs2 _ from inferInstance).h) (hk : Cs ct k := by infer_instance) (hsz : Nat.ble (2 * k) 16777216 = true := by rfl) (hd : Nat.blt d n = true := by rfl) (r : ∀ X : SH, Av n w0 R ((d, X.v) :: L) (Sv k E X.v ([e1, e2].map ct) :: Ps) (.li Tryz.prog ops Q rest) (L1 X) (Ps1 X) (F1 X) := by intro zx9; (repeat (apply x_; exact A3_)); exact av_r) :
    Gl n w0 R L Ps (.li Tryz.prog ops Q (⟨some d, .buildSlice T 2 ⟨[(0, x), (1, y)]⟩, ty, pos, aft, none⟩ :: rest)) := slice_ (ys := [e1, e2]) (vs := [(0, v1), (1, v2)]) (fun X => (r X).g (kk X)) hT hE hz hzl (by simp [partsOf, hx, hy]) rfl rfl (by simp [hc1, hc2, he1, he2]) hk hsz rfl hd
theorem sl0_ {α : Type} (ct : α → List Value) {T E : TypeId} {ag : Bool} {k : Nat} {zs : List Value} {L1 : SH → List (Nat × Value)} {Ps1 : SH → List HP} {F1 : SH → GF} (kk : ∀ X, Gl n w0 R (L1 X) (Ps1 X) (F1 X)) (hT : slI Tryz.prog T = some E := by exact slt rfl) (hE : tyI Tryz.prog E = some (ag, k) := by exact tt rfl) (hz : zeI Tryz.prog E = some zs := by exact zet rfl) (hzl : zs.length = k := by rfl) (hk : Cs ct k := by infer_instance) (hd : Nat.blt d n = true := by rfl) (r : ∀ X : SH, Av n w0 R ((d, X.v) :: L) (Sv k E X.v (([] : List α).map ct) :: Ps) (.li Tryz.prog ops Q rest) (L1 X) (Ps1 X) (F1 X) := by intro zx9; (repeat (apply x_; exact A3_)); exact av_r) :
    Gl n w0 R L Ps (.li Tryz.prog ops Q (⟨some d, .buildSlice T 0 ⟨[]⟩, ty, pos, aft, none⟩ :: rest)) := slice_ (ys := ([] : List α)) (vs := []) (fun X => (r X).g (kk X)) hT hE hz hzl rfl rfl rfl rfl hk (by simp [Nat.ble]) rfl hd
theorem sl_ {α : Type} {ct : α → List Value} {e : α} {T E : TypeId} {ag : Bool} {k : Nat} {x : Operand} {cs zs : List Value} {L1 : SH → List (Nat × Value)} {Ps1 : SH → List HP} {F1 : SH → GF} (kk : ∀ X, Gl n w0 R (L1 X) (Ps1 X) (F1 X)) (hT : slI Tryz.prog T = some E := by exact slt rfl) (hE : tyI Tryz.prog E = some (ag, k) := by exact tt rfl) (hz : zeI Tryz.prog E = some zs := by exact zet rfl) (hzl : zs.length = k := by rfl) (hx : ev L x = some v := by rfl) (hr : TyR E α ct := by infer_instance) (hc : v.cells = ⟨cs⟩ := by rfl)
    (he : ct e = cs := by first | rfl | exact (show Mk ct cs _ from inferInstance).h) (hk : Cs ct k := by infer_instance) (hsz : Nat.ble (1 * k) 16777216 = true := by rfl) (hd : Nat.blt d n = true := by rfl) (r : ∀ X : SH, Av n w0 R ((d, X.v) :: L) (Sv k E X.v ([e].map ct) :: Ps) (.li Tryz.prog ops Q rest) (L1 X) (Ps1 X) (F1 X) := by intro zx9; (repeat (apply x_; exact A3_)); exact av_r) :
    Gl n w0 R L Ps (.li Tryz.prog ops Q (⟨some d, .buildSlice T 1 ⟨[(0, x)]⟩, ty, pos, aft, none⟩ :: rest)) := slice_ (ys := [e]) (vs := [(0, v)]) (fun X => (r X).g (kk X)) hT hE hz hzl (by simp [partsOf, hx]) rfl rfl (by simp [hc, he]) hk hsz rfl hd
theorem ap_ {α : Type} {ct : α → List Value} {xs ys : List α} {T T2 E : TypeId} {ag : Bool} {k bytes : Nat} {x y : Operand} {X Y : SH} {zs : List Value} {L1 : SH → List (Nat × Value)} {Ps1 : SH → List HP} {F1 : SH → GF} (kk : ∀ Z, Gl n w0 R (L1 Z) (Ps1 Z) (F1 Z)) (hx : ev L x = some X.v := by rfl) (hy : ev L y = some Y.v := by rfl) (hP : Rem Ps (Sv k E X.v (xs.map ct)) Qs := by first | exact r0 | exact r1 | exact r2 | exact r3 | exact r4 | exact r5 | exact r6 | exact r7 | exact r8 | exact r9 | exact r10 | exact r11 | exact r12 | exact r13 | exact r14 | exact r15 | exact r16 | exact r17 | exact r18 | exact r19) (hu : RC (Hp w0 R Ps) k Y.v (ys.map ct) := by first | (apply rc_own; (first | exact r0 | exact r1 | exact r2 | exact r3 | exact r4 | exact r5 | exact r6 | exact r7 | exact r8 | exact r9 | exact r10 | exact r11 | exact r12 | exact r13 | exact r14 | exact r15 | exact r16 | exact r17 | exact r18 | exact r19)) | (apply rc_fr; assumption))
    (hT : slI Tryz.prog T = some E := by exact slt rfl) (hT2 : notInt Tryz.prog T2 = true := by exact nit rfl) (hE : tyI Tryz.prog E = some (ag, k) := by exact tt rfl) (hz : zeI Tryz.prog E = some zs := by exact zet rfl) (hzl : zs.length = k := by rfl) (hb : byI Tryz.prog E = some bytes := by exact byt rfl) (hbb : Nat.ble bytes 4096 = true := by rfl) (ho : Cs ct k := by infer_instance)
    (hlen : xs.length + ys.length ≤ 140737488355328 ∧ (2 * (xs.length + ys.length) + 192) * bytes ≤ 281474976710656 := by (try simp only [List.length_append, List.length_cons, List.length_nil]); omega) (hd : Nat.blt d n = true := by rfl) (r : ∀ Z : SH, Av n w0 R ((d, Z.v) :: L) (Sv k E Z.v ((xs ++ ys).map ct) :: Qs) (.li Tryz.prog ops Q rest) (L1 Z) (Ps1 Z) (F1 Z) := by intro zx9; (repeat (apply x_; exact A3_)); exact av_r) :
    Gl n w0 R L Ps (.li Tryz.prog ops Q (⟨some d, .call ⟨.builtin .append, #[x, y], #[T, T2]⟩, ty, pos, aft, none⟩ :: rest)) := append_ (fun Z => (r Z).g (kk Z)) hx hy hT hT2 hE hz hzl hb hbb hP hu ho hlen hd
theorem an_ {α : Type} {ct : α → List Value} {ys : List α} {T T2 E : TypeId} {ag : Bool} {k bytes : Nat} {x y : Operand} {Y : SH} {zs : List Value} {L1 : SH → List (Nat × Value)} {Ps1 : SH → List HP} {F1 : SH → GF} (kk : ∀ Z, Gl n w0 R (L1 Z) (Ps1 Z) (F1 Z)) (hx : ev L x = some (.slice none 0 0) := by rfl) (hy : ev L y = some Y.v := by rfl) (hu : RC (Hp w0 R Ps) k Y.v (ys.map ct) := by first | (apply rc_own; (first | exact r0 | exact r1 | exact r2 | exact r3 | exact r4 | exact r5 | exact r6 | exact r7 | exact r8 | exact r9 | exact r10 | exact r11 | exact r12 | exact r13 | exact r14 | exact r15 | exact r16 | exact r17 | exact r18 | exact r19)) | (apply rc_fr; assumption))
    (hT : slI Tryz.prog T = some E := by exact slt rfl) (hT2 : notInt Tryz.prog T2 = true := by exact nit rfl) (hE : tyI Tryz.prog E = some (ag, k) := by exact tt rfl) (hz : zeI Tryz.prog E = some zs := by exact zet rfl) (hzl : zs.length = k := by rfl) (hb : byI Tryz.prog E = some bytes := by exact byt rfl) (hbb : Nat.ble bytes 4096 = true := by rfl) (ho : Cs ct k := by infer_instance)
    (hlen : ys.length ≤ 140737488355328 ∧ (2 * ys.length + 192) * bytes ≤ 281474976710656 := by (try simp only [List.length_append, List.length_cons, List.length_nil]); omega) (hd : Nat.blt d n = true := by rfl) (r : ∀ Z : SH, Av n w0 R ((d, Z.v) :: L) (Sv k E Z.v (ys.map ct) :: Ps) (.li Tryz.prog ops Q rest) (L1 Z) (Ps1 Z) (F1 Z) := by intro zx9; (repeat (apply x_; exact A3_)); exact av_r) :
    Gl n w0 R L Ps (.li Tryz.prog ops Q (⟨some d, .call ⟨.builtin .append, #[x, y], #[T, T2]⟩, ty, pos, aft, none⟩ :: rest)) :=
  nil_ ct k E (append_ (X := nilH) (xs := []) (fun Z => (r Z).g (kk Z)) hx hy hT hT2 hE hz hzl hb hbb r0 (fun w m => hu w m.drop) ho (by simpa using hlen) hd)
theorem anu_ {α : Type} {ct : α → List Value} {zs0 : List α} {T T2 E : TypeId} {ag : Bool} {k bytes : Nat} {x y : Operand} {Y : SH} {zs : List Value} {L1 : SH → List (Nat × Value)} {Ps1 : SH → List HP} {F1 : SH → GF} (i : Nat) (kk : ∀ Z, Gl n w0 R (L1 Z) (Ps1 Z) (F1 Z)) (hx : ev L x = some (.slice none 0 0) := by rfl) (hy : ev L y = some (upH Y i).v := by rfl) (hP : Rem Ps (Sv k E Y.v (zs0.map ct)) Qs := by first | exact r0 | exact r1 | exact r2 | exact r3 | exact r4 | exact r5 | exact r6 | exact r7 | exact r8 | exact r9 | exact r10 | exact r11 | exact r12 | exact r13 | exact r14 | exact r15 | exact r16 | exact r17 | exact r18 | exact r19) (hi : i ≤ zs0.length := by omega)
    (hT : slI Tryz.prog T = some E := by exact slt rfl) (hT2 : notInt Tryz.prog T2 = true := by exact nit rfl) (hE : tyI Tryz.prog E = some (ag, k) := by exact tt rfl) (hz : zeI Tryz.prog E = some zs := by exact zet rfl) (hzl : zs.length = k := by rfl) (hb : byI Tryz.prog E = some bytes := by exact byt rfl) (hbb : Nat.ble bytes 4096 = true := by rfl) (ho : Cs ct k := by infer_instance)
    (hlen : zs0.length ≤ 140737488355328 ∧ (2 * zs0.length + 192) * bytes ≤ 281474976710656 := by omega) (hd : Nat.blt d n = true := by rfl) (r : ∀ Z : SH, Av n w0 R ((d, Z.v) :: L) (Sv k E Z.v ((zs0.take i).map ct) :: Ps) (.li Tryz.prog ops Q rest) (L1 Z) (Ps1 Z) (F1 Z) := by intro zx9; (repeat (apply x_; exact A3_)); exact av_r) :
    Gl n w0 R L Ps (.li Tryz.prog ops Q (⟨some d, .call ⟨.builtin .append, #[x, y], #[T, T2]⟩, ty, pos, aft, none⟩ :: rest)) :=
  an_ (ys := zs0.take i) kk hx hy (rcu_ i hP hi) hT hT2 hE hz hzl hb hbb ho ⟨by rw [List.length_take]; omega, Nat.le_trans (Nat.mul_le_mul_right _ (by rw [List.length_take]; omega)) hlen.2⟩ hd r
theorem apw_ {α : Type} {ct : α → List Value} {xs zs0 : List α} {T T2 E : TypeId} {ag : Bool} {k bytes : Nat} {x y : Operand} {X Y : SH} {zs : List Value} {Qs2 : List HP} {L1 : SH → List (Nat × Value)} {Ps1 : SH → List HP} {F1 : SH → GF} (j : Nat) (kk : ∀ Z, Gl n w0 R (L1 Z) (Ps1 Z) (F1 Z)) (hx : ev L x = some X.v := by rfl) (hy : ev L y = some (subH3 k Y j zs0.length Y.c).v := by rfl) (hP : Rem Ps (Sv k E X.v (xs.map ct)) Qs := by first | exact r0 | exact r1 | exact r2 | exact r3 | exact r4 | exact r5 | exact r6 | exact r7 | exact r8 | exact r9 | exact r10 | exact r11 | exact r12 | exact r13 | exact r14 | exact r15 | exact r16 | exact r17 | exact r18 | exact r19) (hP2 : Rem Ps (Sv k E Y.v (zs0.map ct)) Qs2 := by first | exact r0 | exact r1 | exact r2 | exact r3 | exact r4 | exact r5 | exact r6 | exact r7 | exact r8 | exact r9 | exact r10 | exact r11 | exact r12 | exact r13 | exact r14 | exact r15 | exact r16 | exact r17 | exact r18 | exact r19) (hj : j ≤ zs0.length := by omega)
    (hT : slI Tryz.prog T = some E := by exact slt rfl) (hT2 : notInt Tryz.prog T2 = true := by exact nit rfl) (hE : tyI Tryz.prog E = some (ag, k) := by exact tt rfl) (hz : zeI Tryz.prog E = some zs := by exact zet rfl) (hzl : zs.length = k := by rfl) (hb : byI Tryz.prog E = some bytes := by exact byt rfl) (hbb : Nat.ble bytes 4096 = true := by rfl) (ho : Cs ct k := by infer_instance)
    (hlen : xs.length + zs0.length ≤ 140737488355328 ∧ (2 * (xs.length + zs0.length) + 192) * bytes ≤ 281474976710656 := by (try simp only [List.length_append, List.length_cons, List.length_nil]); omega) (hd : Nat.blt d n = true := by rfl) (r : ∀ Z : SH, Av n w0 R ((d, Z.v) :: L) (Sv k E Z.v ((xs ++ zs0.drop j).map ct) :: Qs) (.li Tryz.prog ops Q rest) (L1 Z) (Ps1 Z) (F1 Z) := by intro zx9; (repeat (apply x_; exact A3_)); exact av_r) :
    Gl n w0 R L Ps (.li Tryz.prog ops Q (⟨some d, .call ⟨.builtin .append, #[x, y], #[T, T2]⟩, ty, pos, aft, none⟩ :: rest)) :=
  ap_ (ys := zs0.drop j) kk hx hy hP (rcw_ j hP2 hj) hT hT2 hE hz hzl hb hbb ho ⟨by rw [List.length_drop]; omega, Nat.le_trans (Nat.mul_le_mul_right _ (by rw [List.length_drop]; omega)) hlen.2⟩ hd r
section
variable {κ ν : Type} {iκ : DecidableEq κ} {kc : κ → Value} {vc : ν → Value} {ms : List (κ × ν)} {r : Nat} {K V T : TypeId} {kx : κ} {ux : ν} {mo ko vo : Operand}
theorem mu_ (hk0 : Gl n w0 R L1 Ps1 F1) (hx : ev L mo = some (.map (some r)) := by rfl) (hP : Rem Ps (Mp r kc vc ms) Qs := by first | exact r0 | exact r1 | exact r2 | exact r3 | exact r4 | exact r5 | exact r6 | exact r7 | exact r8 | exact r9 | exact r10 | exact r11 | exact r12 | exact r13 | exact r14 | exact r15 | exact r16 | exact r17 | exact r18 | exact r19) (hk : ev L ko = some (kc kx) := by rfl) (hv : ev L vo = some (vc ux) := by rfl) (hT : maI Tryz.prog T = some (K, V) := by exact mat rfl) (hK : KeyOK Tryz.prog K kc := by exact Ky.h) (rr : Av n w0 R L (Mp r kc vc (mset ms kx ux) :: Qs) (.li Tryz.prog ops Q rest) L1 Ps1 F1 := by (repeat (apply x_; exact A3_)); exact av_r) :
    Gl n w0 R L Ps (.li Tryz.prog ops Q (⟨none, .mapUpdate T mo ko vo, ty, pos, aft, none⟩ :: rest)) := mup_ hx hk hv hT hP hK (rr.g hk0)
theorem md_ {t2 : TypeId} (hk0 : Gl n w0 R L1 Ps1 F1) (hx : ev L mo = some (.map (some r)) := by rfl) (hP : Rem Ps (Mp r kc vc ms) Qs := by first | exact r0 | exact r1 | exact r2 | exact r3 | exact r4 | exact r5 | exact r6 | exact r7 | exact r8 | exact r9 | exact r10 | exact r11 | exact r12 | exact r13 | exact r14 | exact r15 | exact r16 | exact r17 | exact r18 | exact r19) (hk : ev L ko = some (kc kx) := by rfl) (hT : maI Tryz.prog T = some (K, V) := by exact mat rfl) (hK : KeyOK Tryz.prog K kc := by exact Ky.h) (rr : Av n w0 R L (Mp r kc vc (mdel ms kx) :: Qs) (.li Tryz.prog ops Q rest) L1 Ps1 F1 := by (repeat (apply x_; exact A3_)); exact av_r) :
    Gl n w0 R L Ps (.li Tryz.prog ops Q (⟨none, .call ⟨.builtin .delete, #[mo, ko], #[T, t2]⟩, ty, pos, aft, none⟩ :: rest)) := mde_ hx hk hT hP hK (rr.g hk0)
theorem mm_ {E : TypeId} (kc : κ → Value) (vc : ν → Value) {L1 : Nat → List (Nat × Value)} {Ps1 : Nat → List HP} {F1 : Nat → GF} (hk0 : ∀ r, Gl n w0 R (L1 r) (Ps1 r) (F1 r)) (hd : Nat.blt d n = true := by rfl) (rr : ∀ r, Av n w0 R ((d, .map (some r)) :: L) (Mp r kc vc [] :: Ps) (.li P ops Q rest) (L1 r) (Ps1 r) (F1 r) := by intro zr9; (repeat (apply x_; exact A3_)); exact av_r) :
    Gl n w0 R L Ps (.li P ops Q (⟨some d, .makeMap E none, ty, pos, aft, none⟩ :: rest)) := mma_ kc vc (fun r => (rr r).g (hk0 r)) hd
theorem rg_ {L1 : Nat → List (Nat × Value)} {Ps1 : Nat → List HP} {F1 : Nat → GF} (hk0 : ∀ b, Gl n w0 R (L1 b) (Ps1 b) (F1 b)) (hx : ev L mo = some (.map (some r)) := by rfl) (hP : Rem Ps (Mp r kc vc ms) Qs := by first | exact r0 | exact r1 | exact r2 | exact r3 | exact r4 | exact r5 | exact r6 | exact r7 | exact r8 | exact r9 | exact r10 | exact r11 | exact r12 | exact r13 | exact r14 | exact r15 | exact r16 | exact r17 | exact r18 | exact r19) (hT : maI Tryz.prog T = some (K, V) := by exact mat rfl) (hd : Nat.blt d n = true := by rfl) (rr : ∀ b, Av n w0 R ((d, .pointer (some ⟨b, 0, none⟩)) :: L) (Ri b r kc vc ms ms :: Qs) (.li Tryz.prog ops Q rest) (L1 b) (Ps1 b) (F1 b) := by intro zb9; (repeat (apply x_; exact A3_)); exact av_r) :
    Gl n w0 R L Ps (.li Tryz.prog ops Q (⟨some d, .range T mo, ty, pos, aft, none⟩ :: rest)) := ran_ (fun b => (rr b).g (hk0 b)) hx hT hP hd
theorem nx_ {it : Operand} {b : Nat} {left : List (κ × ν)} {L2 : Nat → κ × ν → List (Nat × Value)} {Ps2 : Nat → κ × ν → List HP} {F2 : Nat → κ × ν → GF} (k0 : left = [] → Gl n w0 R L1 Ps1 F1) (k1 : ∀ i e, left[i]? = some e → Gl n w0 R (L2 i e) (Ps2 i e) (F2 i e)) (hx : ev L it = some (.pointer (some ⟨b, 0, none⟩)) := by rfl) (hP : Rem Ps (Ri b r kc vc ms left) Qs := by first | exact r0 | exact r1 | exact r2 | exact r3 | exact r4 | exact r5 | exact r6 | exact r7 | exact r8 | exact r9 | exact r10 | exact r11 | exact r12 | exact r13 | exact r14 | exact r15 | exact r16 | exact r17 | exact r18 | exact r19) (hd : Nat.blt d n = true := by rfl)
    (r0 : left = [] → Av n w0 R ((d, .tuple #[.bool false]) :: L) (Ri b r kc vc ms [] :: Qs) (.li P ops Q rest) L1 Ps1 F1 := by intro zh9; (repeat (apply x_; exact A3_)); exact av_r) (r1 : ∀ i e, left[i]? = some e → Av n w0 R ((d, .tuple #[.bool true, kc e.1, vc e.2]) :: L) (Re b r kc vc ms (left.eraseIdx i) e :: Qs) (.li P ops Q rest) (L2 i e) (Ps2 i e) (F2 i e) := by intro zi9 ze9 zh9; (repeat (apply x_; exact A3_)); exact av_r) :
    Gl n w0 R L Ps (.li P ops Q (⟨some d, .next it false, ty, pos, aft, none⟩ :: rest)) := nxt_ (fun h => (r0 h).g (k0 h)) (fun i e h => (r1 i e h).g (k1 i e h)) hx hP hd
theorem ue_ {b : Nat} {left : List (κ × ν)} {xe : κ × ν} (hk0 : Gl n w0 R L (Ri b r kc vc ms left :: Qs) F) (hP : Rem Ps (Re b r kc vc ms left xe) Qs := by first | exact r0 | exact r1 | exact r2 | exact r3 | exact r4 | exact r5 | exact r6 | exact r7 | exact r8 | exact r9 | exact r10 | exact r11 | exact r12 | exact r13 | exact r14 | exact r15 | exact r16 | exact r17 | exact r18 | exact r19) : Gl n w0 R L Ps F := ue0_ hP hk0
theorem ur_ {b : Nat} {left : List (κ × ν)} (hk0 : Gl n w0 R L (Mp r kc vc ms :: Qs) F) (hP : Rem Ps (Ri b r kc vc ms left) Qs := by first | exact r0 | exact r1 | exact r2 | exact r3 | exact r4 | exact r5 | exact r6 | exact r7 | exact r8 | exact r9 | exact r10 | exact r11 | exact r12 | exact r13 | exact r14 | exact r15 | exact r16 | exact r17 | exact r18 | exact r19) : Gl n w0 R L Ps F := unri_ hP hk0
end
section
variable {ι : Type} {m : Nat} {L0 : List (Nat × Value)} {Pr : List HP} {cd : Code} {L1 : ι → List (Nat × Value)} {Ps1 : ι → List HP} {F1 : ι → GF}
theorem lo_ (M : ι → List (Nat × Value)) (J : ι → List HP) (φ : ι → Prop) (μ : ι → Nat) (i0 : ι) (h0 : φ i0) (k : ∀ i, φ i → Gl n w0 R (L1 i) (Ps1 i) (F1 i)) (hP : Tk (J i0) Ps Pr := by (repeat (first | exact Tk.n | (apply Tk.c; (first | exact r0 | exact r1 | exact r2 | exact r3 | exact r4 | exact r5 | exact r6 | exact r7 | exact r8 | exact r9 | exact r10 | exact r11 | exact r12 | exact r13 | exact r14 | exact r15 | exact r16 | exact r17 | exact r18 | exact r19))))) (hL : vals L (M i0) := by (repeat (first | exact trivial | (refine ⟨rfl, ?_⟩))))
    (r : ∀ i, φ i → Av n w0 R (M i ++ L) (J i ++ Pr) (.co P cd (Exit.then (LN n w0 R (fun i => M i ++ L) (fun i => J i ++ Pr) φ μ (μ i)) Q)) (L1 i) (Ps1 i) (F1 i) := by intro zi9 zh9; (try dsimp only at zh9); (repeat (apply x_; exact A3_)); exact av_r) : Gl n w0 R L Ps (.co P (.loop cd) Q) := loop_ M J φ μ i0 h0 (fun i h => (r i h).g (k i h)) hP hL
theorem ba_ {M : ι → List (Nat × Value)} {J : ι → List HP} {φ : ι → Prop} {μ : ι → Nat} (j : ι) (h1 : φ j) (h2 : μ j < m := by first | omega | (dsimp only; omega) | (simp only [List.length_set, List.length_append, List.length_cons, List.length_nil]; omega)) (hL : Bk L (M j) L0 := by exact ⟨by (repeat (first | exact trivial | (refine ⟨rfl, ?_⟩))), by kernel_rfl, by kernel_rfl⟩) (hP : Sub (J j ++ Pr) Ps := by (repeat (first | exact Sub.n | (apply Sub.c; (first | exact r0 | exact r1 | exact r2 | exact r3 | exact r4 | exact r5 | exact r6 | exact r7 | exact r8 | exact r9 | exact r10 | exact r11 | exact r12 | exact r13 | exact r14 | exact r15 | exact r16 | exact r17 | exact r18 | exact r19))))) :
    Gl n w0 R L Ps (.ex (fun _ => LN n w0 R (fun i => M i ++ L0) (fun i => J i ++ Pr) φ μ m) .normal) := back_ j h1 h2 hL hP
theorem jm_ {Lh : List (Nat × Value)} {Psh : List HP} {Fh : GF} (M : ι → List (Nat × Value)) (J : ι → List HP) (J0 : List HP) (φ : ι → Prop) (h : Gl n w0 R Lh Psh Fh) (k : ∀ i, φ i → Gl n w0 R (L1 i) (Ps1 i) (F1 i)) (hP : Tk J0 Ps Pr := by (repeat (first | exact Tk.n | (apply Tk.c; (first | exact r0 | exact r1 | exact r2 | exact r3 | exact r4 | exact r5 | exact r6 | exact r7 | exact r8 | exact r9 | exact r10 | exact r11 | exact r12 | exact r13 | exact r14 | exact r15 | exact r16 | exact r17 | exact r18 | exact r19))))) (rh : Av n w0 R L Ps (.co P x (Exit.then (JN n w0 R (fun i => M i ++ L) (fun i => J i ++ Pr) φ) Q)) Lh Psh Fh := by (repeat (apply x_; exact A3_)); exact av_r)
    (r : ∀ i, φ i → Av n w0 R (M i ++ L) (J i ++ Pr) (.ex Q .normal) (L1 i) (Ps1 i) (F1 i) := by intro zi9 zh9; (try dsimp only at zh9); (repeat (apply x_; exact A3_)); exact av_r) : Gl n w0 R L Ps (.co P x Q) := joinM_ M J φ (rh.g h) fun i h => (r i h).g (k i h)
theorem ma_ {M : ι → List (Nat × Value)} {J : ι → List HP} {φ : ι → Prop} (j : ι) (h1 : φ j) (hL : Bk L (M j) L0 := by exact ⟨by (repeat (first | exact trivial | (refine ⟨rfl, ?_⟩))), by kernel_rfl, by kernel_rfl⟩) (hP : Sub (J j ++ Pr) Ps := by (repeat (first | exact Sub.n | (apply Sub.c; (first | exact r0 | exact r1 | exact r2 | exact r3 | exact r4 | exact r5 | exact r6 | exact r7 | exact r8 | exact r9 | exact r10 | exact r11 | exact r12 | exact r13 | exact r14 | exact r15 | exact r16 | exact r17 | exact r18 | exact r19))))) :
    Gl n w0 R L Ps (.ex (fun _ => JN n w0 R (fun i => M i ++ L0) (fun i => J i ++ Pr) φ) .normal) := meetM_ j h1 hL hP
end
end
end Go.Proofs.YtdallmabajeajaaGreatDoor.Fw
set_option linter.all false
set_option maxHeartbeats 4000000
namespace Go.Proofs.YtdallmabajeajaaGreatDoor.Fw
open Go
section
variable {P : Program} {n : Nat} {w0 : World} {R : Hh} {Ps : List HP} {L : List (Nat × Value)} {ops : Array Oper} {Q : Exit → Act → World → Prop} {rest : List Oper} {d : Nat} {ty : TypeId} {pos : String} {aft : Array Edge} {op : Op} {j t : Nat} {want b : Bool}
theorem gsp_ (k1 : b = want → Gl n w0 R L Ps (.li P ops Q (⟨some d, op, ty, pos, aft, none⟩ :: rest))) (k2 : b = !want → Gl n w0 R ((d, undef) :: L) Ps (.li P ops Q rest)) (hj : (ops[j]?).bind (·.dst) = some t := by rfl) (ht : lk L t = some (.bool b) := by rfl) (hd : Nat.blt d n = true := by rfl) :
    Gl n w0 R L Ps (.li P ops Q (⟨some d, op, ty, pos, aft, some (j, want)⟩ :: rest)) := by
  by_cases h : b = want
  · exact (v40_ hj ht h).g (k1 h)
  · have h2 : b = !want := by cases b <;> cases want <;> simp_all
    exact (v42_ hj ht hd h2).g (k2 h2)
end
section
variable {n : Nat} {w0 : World} {R : Hh} {Ps : List HP} {L : List (Nat × Value)} {ops : Array Oper} {Q : Exit → Act → World → Prop} {rest : List Oper} {d : Nat} {ty T T2 E : TypeId} {pos : String} {aft : Array Edge} {x y : Operand} {p : Addr} {t j : Nat} {want b : Bool}
theorem pnn_ {L1 : List (Nat × Value)} {Ps1 : List HP} {F1 : GF} (k : Gl n w0 R L1 Ps1 F1) (hx : ev L x = some (.pointer (some p)) := by rfl) (hy : ev L y = some (.pointer none) := by rfl) (hT : ptI Tryz.prog T = some E := by exact ptt rfl) (hd : Nat.blt d n = true := by rfl)
    (r : Av n w0 R ((d, .bool false) :: L) Ps (.li Tryz.prog ops Q rest) L1 Ps1 F1 := by (repeat (apply x_; exact A3_)); exact av_r) : Gl n w0 R L Ps (.li Tryz.prog ops Q (⟨some d, .binOp .eql T x y T2, ty, pos, aft, none⟩ :: rest)) :=
  fun a w hs m => (p_ (C := Hp w0 R Ps) (ok_isNilP hx hy hT) hd).g _ _ _ _ hs m fun a hs => r.g k a w hs m
end
section
variable {n : Nat} {w0 : World} {R : Hh} {Ps : List HP} {L : List (Nat × Value)} {ops : Array Oper} {Q : Exit → Act → World → Prop} {rest : List Oper} {d : Nat} {ty T E : TypeId} {pos : String} {aft : Array Edge} {qs : List (Nat × Operand)} {us : List (Nat × Value)} {m k : Nat} {ag : Bool} {zs : List Value}
theorem bua_ (cs : List Value) {L1 : List (Nat × Value)} {Ps1 : List HP} {F1 : GF} (kk : Gl n w0 R L1 Ps1 F1) (hf : arI Tryz.prog T = some (m, E) := by exact art rfl) (hE : tyI Tryz.prog E = some (ag, k) := by exact tt rfl) (hz : zeI Tryz.prog T = some zs := by exact zet rfl) (hx : partsOf L qs = some us := by rfl) (hc : fillP (fun i => some (i * k, k)) zs us = some cs := by kernel_rfl) (hd : Nat.blt d n = true := by rfl)
    (r : Av n w0 R ((d, .agg ⟨cs⟩) :: L) Ps (.li Tryz.prog ops Q rest) L1 Ps1 F1 := by (repeat (apply x_; exact A3_)); exact av_r) : Gl n w0 R L Ps (.li Tryz.prog ops Q (⟨some d, .build T ⟨qs⟩, ty, pos, aft, none⟩ :: rest)) :=
  fun a w hs m => (p_ (C := Hp w0 R Ps) (ok_buildArr hf hE hz hx hc) hd).g _ _ _ _ hs m fun a hs => r.g kk a w hs m
end
structure CfgR (c : QConfig) : Prop where
  n : 0 ≤ c.Network.Addr ∧ c.Network.Addr < 4294967296
  mn : 0 ≤ c.Min ∧ c.Min < 4294967296
  mx : 0 ≤ c.Max ∧ c.Max < 4294967296
  f : 0 ≤ c.First ∧ c.First < 4294967296
structure CmdR (x : QCmd) : Prop where
  p0 : 0 ≤ x.Subnet.Addr
  p1 : x.Subnet.Addr < 4294967296
  n1 : x.N ≤ 9223372036854775807
def clsL : List Qaddr_class := [⟨⟨0, 8⟩, 1⟩, ⟨⟨2130706432, 8⟩, 2⟩, ⟨⟨3758096384, 4⟩, 3⟩, ⟨⟨4026531840, 4⟩, 4⟩]
structure ClsR (R : Hh) (X : SH) : Prop where
  g : CellsAt R ⟨0, 0, none⟩ [X.v]
  l : RdS R 3 X.v (clsL.map caddr_class)
theorem ClsR.le {R R' : Hh} {X : SH} (h : ClsR R X) (l : hle R R') : ClsR R' X := ⟨h.g.le l, h.l.le l⟩
end Go.Proofs.YtdallmabajeajaaGreatDoor.Fw
set_option linter.all false
namespace Go.Proofs.YtdallmabajeajaaGreatDoor.Fw
section
variable {α : Type} [Inhabited α]
def gt (h : List α) (i : Nat) : α := h.getD i default
theorem gt_set_eq {h : List α} {i : Nat} {x : α} (hi : i < h.length) : gt (h.set i x) i = x := by simp [gt, List.getD_eq_getElem?_getD, hi]
theorem gt_set_ne {h : List α} {i j : Nat} {x : α} (hij : i ≠ j) : gt (h.set i x) j = gt h j := by simp [gt, List.getD_eq_getElem?_getD, hij]
theorem gt_app {h l : List α} {i : Nat} (hi : i < h.length) : gt (h ++ l) i = gt h i := by simp [gt, List.getD_eq_getElem?_getD, List.getElem?_append_left hi]
theorem gt_last {h : List α} {x : α} : gt (h ++ [x]) h.length = x := by simp [gt, List.getD_eq_getElem?_getD]
def par (i : Nat) : Nat := (i - 1) / 2
structure Ord (lt : α → α → Prop) : Prop where
  «as» : ∀ {a b}, lt a b → ¬ lt b a
  tr : ∀ {a b c}, ¬ lt a b → ¬ lt b c → ¬ lt a c
def Heap (lt : α → α → Prop) (h : List α) : Prop := ∀ j, 1 ≤ j → j < h.length → ¬ lt (gt h j) (gt h (par j))
def HeapAt (lt : α → α → Prop) (h : List α) (i : Nat) : Prop := (∀ j, 1 ≤ j → j < h.length → j ≠ i → par j ≠ i → ¬ lt (gt h j) (gt h (par j))) ∧ (1 ≤ i → ∀ j, 1 ≤ j → j < h.length → par j = i → ¬ lt (gt h j) (gt h (par i)))
def HeapUp (lt : α → α → Prop) (h : List α) (i : Nat) : Prop := HeapAt lt h i ∧ (1 ≤ i → ¬ lt (gt h i) (gt h (par i)))
variable {lt : α → α → Prop} {h : List α} {i k : Nat} {x : α}
theorem par_lt (h1 : 1 ≤ i) : par i < i := by unfold par; omega
theorem heap_set (o : Ord lt) (H : Heap lt h) : HeapAt lt (h.set i x) i := by
  refine ⟨fun j h1 h2 h3 h4 => ?_, fun h0 j h1 h2 h3 => ?_⟩
  · rw [gt_set_ne (Ne.symm h3), gt_set_ne (Ne.symm h4)]
    exact H j h1 (by simpa using h2)
  · have hij : i ≠ j := by have := par_lt h1; omega
    have hp : i ≠ par i := by have := par_lt h0; omega
    rw [gt_set_ne hij, gt_set_ne hp]
    simp only [List.length_set] at h2
    have e1 := H j h1 h2
    rw [h3] at e1
    have hi : i < h.length := by have := par_lt h1; omega
    exact o.tr e1 (H i h0 hi)
theorem heap_app (H : Heap lt h) : HeapAt lt (h ++ [x]) h.length := by
  refine ⟨fun j h1 h2 h3 h4 => ?_, fun h0 j h1 h2 h3 => ?_⟩
  · simp only [List.length_append, List.length_cons, List.length_nil] at h2
    have hp := par_lt h1
    rw [gt_app (by omega), gt_app (by omega)]
    exact H j h1 (by omega)
  · simp only [List.length_append, List.length_cons, List.length_nil] at h2
    have hp := par_lt h1
    omega
theorem heap_shrink {l : List α} (H : Heap lt (h ++ l)) : Heap lt h := fun j h1 h2 => by
  have := H j h1 (by simp; omega)
  have hp := par_lt h1
  rwa [gt_app h2, gt_app (by omega)] at this
theorem heap_up (o : Ord lt) (hi : i < h.length) (h0 : 1 ≤ i) (H : HeapAt lt (h.set i x) i) (hx : lt x (gt h (par i))) : HeapAt lt ((h.set i (gt h (par i))).set (par i) x) (par i) := by
  have hp := par_lt h0
  have hne : i ≠ par i := by omega
  obtain ⟨H1, H2⟩ := H
  have H2 := H2 h0
  refine ⟨fun j h1 h2 h3 h4 => ?_, fun h5 j h1 h2 h3 => ?_⟩
  · simp only [List.length_set] at h2
    by_cases hj : j = i
    · exact absurd (by rw [hj]) h4
    · have hjp := par_lt h1
      rw [gt_set_ne (Ne.symm h3), gt_set_ne (Ne.symm hj)]
      by_cases hc : par j = i
      · rw [hc, gt_set_ne (Ne.symm hne), gt_set_eq hi]
        have := H2 j h1 (by simpa using h2) hc
        rwa [gt_set_ne (Ne.symm hj), gt_set_ne hne] at this
      · rw [gt_set_ne (Ne.symm h4), gt_set_ne (Ne.symm hc)]
        have := H1 j h1 (by simpa using h2) hj hc
        rwa [gt_set_ne (Ne.symm hj), gt_set_ne (Ne.symm hc)] at this
  · simp only [List.length_set] at h2
    have hpp := par_lt h5
    have e3 : ¬ lt (gt h (par i)) (gt h (par (par i))) := by
      have := H1 (par i) h5 (by simp; omega) (by omega) (by omega)
      rwa [gt_set_ne (by omega), gt_set_ne (by omega)] at this
    by_cases hj : j = i
    · subst hj
      rw [gt_set_ne (Ne.symm hne), gt_set_eq hi, gt_set_ne (by omega), gt_set_ne (by omega)]
      exact e3
    · rw [gt_set_ne (by have := par_lt h1; omega), gt_set_ne (Ne.symm hj), gt_set_ne (by omega), gt_set_ne (by omega)]
      have := H1 j h1 (by simpa using h2) hj (by omega)
      rw [gt_set_ne (Ne.symm hj), gt_set_ne (by omega), h3] at this
      exact o.tr this e3
theorem heap_upstop (H : HeapAt lt (h.set i x) i) (hi : i < h.length) (hx : 1 ≤ i → ¬ lt x (gt h (par i))) : HeapUp lt (h.set i x) i := ⟨H, fun h0 => by
  have hp := par_lt h0
  rw [gt_set_eq hi, gt_set_ne (by omega)]
  exact hx h0⟩
theorem heap_down (o : Ord lt) (hk : k < h.length) (h0 : 1 ≤ k) (hp : par k = i) (H : HeapUp lt (h.set i x) i) (hx : lt (gt h k) x) (hf : ∀ j, 1 ≤ j → j < h.length → par j = i → ¬ lt (gt h j) (gt h k)) : HeapUp lt ((h.set i (gt h k)).set k x) k := by
  have hki := par_lt h0
  have hi : i < h.length := by omega
  have hne : i ≠ k := by omega
  obtain ⟨⟨H1, H2⟩, H3⟩ := H
  refine ⟨⟨fun j h1 h2 h3 h4 => ?_, fun _ j h1 h2 h3 => ?_⟩, fun _ => ?_⟩
  · simp only [List.length_set] at h2
    have hjp := par_lt h1
    by_cases hj : j = i
    · subst hj
      rw [gt_set_ne (Ne.symm hne), gt_set_eq hi, gt_set_ne (Ne.symm h4), gt_set_ne (by omega)]
      have := H2 h1 k h0 (by simpa using hk) hp
      rwa [gt_set_ne hne, gt_set_ne (by omega)] at this
    · rw [gt_set_ne (Ne.symm h3), gt_set_ne (Ne.symm hj), gt_set_ne (Ne.symm h4)]
      by_cases hc : par j = i
      · rw [hc, gt_set_eq hi]
        exact hf j h1 h2 hc
      · rw [gt_set_ne (Ne.symm hc)]
        have := H1 j h1 (by simpa using h2) hj hc
        rwa [gt_set_ne (Ne.symm hj), gt_set_ne (Ne.symm hc)] at this
  · simp only [List.length_set] at h2
    have hjp := par_lt h1
    rw [gt_set_ne (by omega), gt_set_ne (by omega), hp, gt_set_ne (Ne.symm hne), gt_set_eq hi]
    have := H1 j h1 (by simpa using h2) (by omega) (by omega)
    rwa [gt_set_ne (by omega), gt_set_ne (by omega), h3] at this
  · rw [gt_set_eq (by simpa using hk), hp, gt_set_ne (Ne.symm hne), gt_set_eq hi]
    exact o.as hx
theorem heap_downstop (H : HeapUp lt (h.set i x) i) (hi : i < h.length) (hf : ∀ j, 1 ≤ j → j < h.length → par j = i → ¬ lt (gt h j) x) : Heap lt (h.set i x) := fun j h1 h2 => by
  have hjp := par_lt h1
  by_cases hj : j = i
  · subst hj; exact H.2 h1
  · by_cases hc : par j = i
    · rw [hc, gt_set_eq hi, gt_set_ne (Ne.symm hj)]
      exact hf j h1 (by simpa using h2) hc
    · exact H.1.1 j h1 h2 hj hc
theorem heap_top (o : Ord lt) (H : Heap lt h) : ∀ j, j < h.length → ¬ lt (gt h j) (gt h 0) := by
  intro j
  induction j using Nat.strongRecOn with
  | _ j ih =>
    intro hj
    by_cases h0 : j = 0
    · subst h0
      intro e
      exact o.as e e
    · have hp := par_lt (show 1 ≤ j by omega)
      exact o.tr (H j (by omega) hj) (ih _ hp (by omega))
end
end Go.Proofs.YtdallmabajeajaaGreatDoor.Fw
set_option linter.all false
namespace Go.Proofs.YtdallmabajeajaaGreatDoor.Fw
theorem sorted_uniq {α : Type} {lt : α → α → Prop} : ∀ {l1 l2 : List α}, l1.Perm l2 → l1.Pairwise (fun a b => ¬ lt b a) → l2.Pairwise (fun a b => ¬ lt b a) → (∀ a ∈ l1, ∀ b ∈ l1, ¬ lt a b → ¬ lt b a → a = b) → l1 = l2
  | [], l2, p, _, _, _ => by rw [List.Perm.nil_eq p]
  | a :: l1, [], p, _, _, _ => by simpa using p.length_eq
  | a :: l1, b :: l2, p, h1, h2, t => by
    have e : a = b := by
      have ha : a ∈ b :: l2 := p.mem_iff.1 (by simp)
      have hb : b ∈ a :: l1 := p.mem_iff.2 (by simp)
      rw [List.pairwise_cons] at h1 h2
      rcases List.mem_cons.1 ha with h | h
      · exact h
      · rcases List.mem_cons.1 hb with h3 | h3
        · exact h3.symm
        · exact t a (by simp) b hb (h2.1 a h) (h1.1 b h3)
    subst e
    rw [List.pairwise_cons] at h1 h2
    rw [sorted_uniq ((List.perm_cons a).1 p) h1.2 h2.2 fun x hx y hy => t x (by simp [hx]) y (by simp [hy])]
end Go.Proofs.YtdallmabajeajaaGreatDoor.Fw
set_option linter.all false
namespace Go.Proofs.YtdallmabajeajaaGreatDoor.Fw
section
variable {κ ν : Type} [DecidableEq κ] {m : List (κ × ν)} {k j : κ} {u v : ν}
def KD (m : List (κ × ν)) : Prop := (m.map (·.1)).Nodup
theorem mget_none : mget m k = none ↔ ∀ e ∈ m, e.1 ≠ k := by
  unfold mget
  cases h : midx m k with
  | none =>
    have h' := h
    unfold midx at h'
    rw [List.findIdx?_eq_none_iff] at h'
    simp only [Option.bind_none, true_iff]
    intro e he hk
    have := h' e.1 (List.mem_map_of_mem he)
    simp [hk] at this
  | some i =>
    obtain ⟨w, hw⟩ := midx_get h
    simp only [Option.bind_some, hw, Option.map_some, reduceCtorEq, false_iff]
    intro h2
    exact h2 _ (List.mem_of_getElem? hw) rfl
theorem msplit (h : mget m k = some v) : ∃ A B, m = A ++ (k, v) :: B ∧ (∀ e ∈ A, e.1 ≠ k) ∧ mdel m k = A ++ B ∧ ∀ u, mset m k u = A ++ (k, u) :: B := by
  unfold mget at h
  cases hi : midx m k with
  | none => rw [hi] at h; cases h
  | some i =>
    obtain ⟨w, hw⟩ := midx_get hi
    rw [hi] at h
    simp only [Option.bind_some, hw, Option.map_some, Option.some.injEq] at h
    subst h
    have hl := (List.getElem?_eq_some_iff.1 hw).1
    have hg := (List.getElem?_eq_some_iff.1 hw).2
    refine ⟨m.take i, m.drop (i + 1), ?_, ?_, ?_, fun u => ?_⟩
    · conv => lhs; rw [← List.take_append_drop i m, List.drop_eq_getElem_cons hl, hg]
    · intro e he hk
      have h' := hi
      unfold midx at h'
      rw [List.findIdx?_eq_some_iff_getElem] at h'
      obtain ⟨h1, h2, h3⟩ := h'
      obtain ⟨a, ha, hb⟩ := List.mem_iff_getElem.1 he
      simp only [List.length_take] at ha
      have := h3 a (by omega)
      simp only [List.getElem_map] at this
      rw [List.getElem_take] at hb
      rw [hb, hk] at this
      simp at this
    · unfold mdel
      rw [hi]
      simp only [List.eraseIdx_eq_take_drop_succ]
    · unfold mset
      rw [hi]
      simp only [List.set_eq_take_append_cons_drop, hl, if_true]
theorem mset_new (h : mget m k = none) : mset m k v = m ++ [(k, v)] := by
  unfold mset
  cases hi : midx m k with
  | none => rfl
  | some i =>
    obtain ⟨w, hw⟩ := midx_get hi
    exact absurd rfl (mget_none.1 h _ (List.mem_of_getElem? hw))
theorem mdel_none (h : mget m k = none) : mdel m k = m := by
  unfold mdel
  cases hi : midx m k with
  | none => rfl
  | some i =>
    obtain ⟨w, hw⟩ := midx_get hi
    exact absurd rfl (mget_none.1 h _ (List.mem_of_getElem? hw))
theorem mget_in (h : mget m k = some v) : (k, v) ∈ m := by
  obtain ⟨A, B, e, _⟩ := msplit h
  rw [e]; simp
theorem mget_mem (d : KD m) (h : (k, v) ∈ m) : mget m k = some v := by
  cases hg : mget m k with
  | none => exact absurd rfl (mget_none.1 hg _ h)
  | some w =>
    obtain ⟨A, B, e, hA, _⟩ := msplit hg
    rw [e] at h
    rcases List.mem_append.1 h with h1 | h1
    · exact absurd rfl (hA _ h1)
    · rcases List.mem_cons.1 h1 with h2 | h2
      · simp only [Prod.mk.injEq, true_and] at h2; rw [h2]
      · unfold KD at d
        rw [e, List.map_append, List.map_cons, List.nodup_append, List.nodup_cons] at d
        exact absurd (List.mem_map_of_mem (f := (·.1)) h2) d.2.1.1
theorem mget_iff (d : KD m) : mget m k = some v ↔ (k, v) ∈ m := ⟨mget_in, mget_mem d⟩
theorem mset_perm (h : mget m k = some v) : ∃ r, m.Perm ((k, v) :: r) ∧ (∀ u, (mset m k u).Perm ((k, u) :: r)) ∧ (mdel m k).Perm r := by
  obtain ⟨A, B, e, _, h2, h3⟩ := msplit h
  exact ⟨A ++ B, e ▸ List.perm_middle, fun u => h3 u ▸ List.perm_middle, h2 ▸ .refl _⟩
theorem KD.perm {l : List (κ × ν)} (h : m.Perm l) : KD m ↔ KD l := (h.map _).nodup_iff
theorem KD.set (d : KD m) : KD (mset m k u) := by
  cases h : mget m k with
  | none =>
    rw [mset_new h]
    unfold KD
    rw [List.map_append, List.nodup_append]
    refine ⟨d, by simp, ?_⟩
    intro a ha b hb
    simp only [List.map_cons, List.map_nil, List.mem_singleton] at hb
    obtain ⟨e, he, rfl⟩ := List.mem_map.1 ha
    rw [hb]
    exact mget_none.1 h e he
  | some v =>
    obtain ⟨r, h1, h2, _⟩ := mset_perm h
    rw [KD.perm (h2 u)]
    rw [KD.perm h1] at d
    exact d
theorem KD.del (d : KD m) : KD (mdel m k) := by
  cases h : mget m k with
  | none => rw [mdel_none h]; exact d
  | some v =>
    obtain ⟨r, h1, _, h2⟩ := mset_perm h
    rw [KD.perm h2]
    rw [KD.perm h1] at d
    unfold KD at d ⊢
    rw [List.map_cons, List.nodup_cons] at d
    exact d.2
theorem mget_set (d : KD m) : mget (mset m k u) j = if j = k then some u else mget m j := by
  have d2 := d.set (k := k) (u := u)
  split
  · rename_i h; subst h
    apply mget_mem d2
    cases h : mget m j with
    | none => rw [mset_new h]; simp
    | some v => obtain ⟨A, B, _, _, _, h3⟩ := msplit h; rw [h3]; simp
  · rename_i hjk
    apply Option.ext
    intro w
    rw [mget_iff d2, mget_iff d]
    cases h : mget m k with
    | none => rw [mset_new h]; simp [hjk]
    | some v => obtain ⟨A, B, e, _, _, h3⟩ := msplit h; rw [h3, e]; simp [hjk]
theorem mget_del (d : KD m) : mget (mdel m k) j = if j = k then none else mget m j := by
  have d2 := d.del (k := k)
  cases h : mget m k with
  | none =>
    rw [mdel_none h]
    split
    · rename_i h2; rw [h2, h]
    · rfl
  | some v =>
    obtain ⟨A, B, e, hA, h2, h3⟩ := msplit h
    split
    · rename_i hj; subst hj
      rw [mget_none, h2]
      intro e' he'
      rcases List.mem_append.1 he' with h4 | h4
      · exact hA _ h4
      · unfold KD at d
        rw [e, List.map_append, List.map_cons, List.nodup_append, List.nodup_cons] at d
        intro hk
        exact d.2.1.1 (hk ▸ List.mem_map_of_mem (f := (·.1)) h4)
    · rename_i hjk
      apply Option.ext
      intro w
      rw [mget_iff d2, mget_iff d, h2, e]
      simp [hjk]
end
end Go.Proofs.YtdallmabajeajaaGreatDoor.Fw
set_option linter.all false
namespace Go.Proofs.YtdallmabajeajaaGreatDoor.Fw
open Go
def maskM (n : Int) : Int := if n = 0 then 0 else IntKind.u32.wrap (4294967295 * 2 ^ (min (32 - n).toNat 32))
def pw (n : Int) : Int := 2 ^ (32 - n).toNat
theorem pw_pos {n : Int} : 0 < pw n := Int.pow_pos (by omega)
theorem pw_le {n : Int} (h0 : 0 ≤ n) : pw n ≤ 4294967296 := by
  have h : pw n = ((2 ^ (32 - n).toNat : Nat) : Int) := by simp [pw]
  have h2 : (2 : Nat) ^ (32 - n).toNat ≤ 2 ^ 32 := Nat.pow_le_pow_right (by omega) (by omega)
  rw [h]; omega
theorem mask_bits : ∀ k : Fin 33, (~~~BitVec.ofInt 32 (maskM (32 - (k.val : Int)))).toNat = 2 ^ k.val - 1 := by decide +kernel
theorem mask_dvd {n : Int} (h0 : 0 ≤ n) (h1 : n ≤ 32) : ∃ k : Nat, k ≤ 32 ∧ n = 32 - (k : Int) ∧ pw n = ((2 ^ k : Nat) : Int) := ⟨(32 - n).toNat, by omega, by omega, by simp [pw]⟩
theorem wrap32 {a : Int} (h0 : 0 ≤ a) (h1 : a < 4294967296) : IntKind.u32.wrap a = a := by
  simp [IntKind.wrap, IntKind.bits, IntKind.signed]; omega
theorem andNot_mask {a n : Int} (h0 : 0 ≤ n) (h1 : n ≤ 32) (ha : 0 ≤ a) (hb : a < 4294967296) : bAndNot .u32 a (maskM n) = a % pw n := by
  obtain ⟨k, hk, rfl, e⟩ := mask_dvd h0 h1
  obtain ⟨m, rfl⟩ : ∃ m : Nat, a = (m : Int) := ⟨a.toNat, by omega⟩
  have hm := mask_bits ⟨k, by omega⟩
  simp only at hm
  rw [e]
  have e2 : (BitVec.ofInt IntKind.u32.bits (m : Int) &&& ~~~BitVec.ofInt IntKind.u32.bits (maskM (32 - (k : Int)))).toNat = m % 2 ^ k := by
    show (BitVec.ofInt 32 (m : Int) &&& ~~~BitVec.ofInt 32 (maskM (32 - (k : Int)))).toNat = _
    rw [BitVec.toNat_and, hm, Nat.and_two_pow_sub_one_eq_mod]
    congr 1
    simp [BitVec.toNat_ofInt]
    omega
  unfold bAndNot
  rw [e2]
  have : m % 2 ^ k ≤ m := Nat.mod_le _ _
  rw [wrap32 (by omega) (by omega)]
  simp
theorem and_mask {a n : Int} (h0 : 0 ≤ n) (h1 : n ≤ 32) (ha : 0 ≤ a) (hb : a < 4294967296) : bAnd .u32 a (maskM n) = a - a % pw n := by
  obtain ⟨k, hk, rfl, e⟩ := mask_dvd h0 h1
  obtain ⟨m, rfl⟩ : ∃ m : Nat, a = (m : Int) := ⟨a.toNat, by omega⟩
  have hm := mask_bits ⟨k, by omega⟩
  simp only at hm
  rw [e]
  have e2 : (BitVec.ofInt IntKind.u32.bits (m : Int) &&& BitVec.ofInt IntKind.u32.bits (maskM (32 - (k : Int)))).toNat = m - m % 2 ^ k := by
    show (BitVec.ofInt 32 (m : Int) &&& BitVec.ofInt 32 (maskM (32 - (k : Int)))).toNat = _
    generalize hx : BitVec.ofInt 32 (maskM (32 - (k : Int))) = x at hm ⊢
    generalize hy : BitVec.ofInt 32 (m : Int) = y
    have hy2 : y.toNat = m := by rw [← hy]; simp [BitVec.toNat_ofInt]; omega
    have h3 : (y &&& x).toNat + (y &&& ~~~x).toNat = y.toNat := by
      have h4 : y = (y &&& x) ||| (y &&& ~~~x) := by
        apply BitVec.eq_of_getLsbD_eq; intro i hi
        simp
        cases y.getLsbD i <;> cases x.getLsbD i <;> simp [hi]
      have h5 : (y &&& x) &&& (y &&& ~~~x) = 0#32 := by
        apply BitVec.eq_of_getLsbD_eq; intro i hi
        simp
        cases y.getLsbD i <;> cases x.getLsbD i <;> simp
      have h6 := BitVec.toNat_add_of_and_eq_zero h5
      rw [BitVec.add_eq_or_of_and_eq_zero _ _ h5, ← h4] at h6
      omega
    have h7 : (y &&& ~~~x).toNat = m % 2 ^ k := by
      rw [BitVec.toNat_and, hm, Nat.and_two_pow_sub_one_eq_mod, hy2]
    omega
  unfold bAnd
  rw [e2]
  have : m % 2 ^ k ≤ m := Nat.mod_le _ _
  rw [wrap32 (by omega) (by omega)]
  omega
end Go.Proofs.YtdallmabajeajaaGreatDoor.Fw
set_option linter.all false
namespace Go.Proofs.YtdallmabajeajaaGreatDoor.Fw
open Go
/-! ### prefixes -/
def Vld (p : QPrefix) : Prop := 0 ≤ p.Len ∧ p.Len ≤ 32 ∧ p.Addr % pw p.Len = 0
def Cnt (p : QPrefix) (a : Int) : Prop := Vld p ∧ p.Addr ≤ a ∧ a < p.Addr + pw p.Len
instance {p} : Decidable (Vld p) := by unfold Vld; infer_instance
instance {p a} : Decidable (Cnt p a) := by unfold Cnt; infer_instance
theorem mod_iff {s A a : Int} (hs : 0 < s) (hA : A % s = 0) : a - a % s = A ↔ A ≤ a ∧ a < A + s := by
  constructor
  · intro h
    have h1 := Int.emod_nonneg a (Int.ne_of_gt hs)
    have h2 := Int.emod_lt_of_pos a hs
    omega
  · rintro ⟨h1, h2⟩
    have h3 : a % s = a - A := by
      conv => lhs; rw [show a = A + (a - A) by omega]
      rw [Int.add_emod, hA, Int.zero_add, Int.emod_emod_of_dvd _ (Int.dvd_refl s), Int.emod_eq_of_lt (by omega) (by omega)]
    omega
theorem vld_top {p : QPrefix} (v : Vld p) (h0 : 0 ≤ p.Addr) (h1 : p.Addr < 4294967296) : p.Addr + pw p.Len ≤ 4294967296 := by
  obtain ⟨v1, v2, v3⟩ := v
  obtain ⟨k, hk, e1, e2⟩ := mask_dvd v1 v2
  rw [e2] at v3 ⊢
  obtain ⟨m, hm⟩ : ∃ m : Nat, p.Addr = (m : Int) := ⟨p.Addr.toNat, by omega⟩
  rw [hm] at v3 h1 ⊢
  have h2 : m % 2 ^ k = 0 := by exact_mod_cast v3
  obtain ⟨q, hq⟩ := Nat.dvd_of_mod_eq_zero h2
  have h3 : 2 ^ 32 = 2 ^ k * 2 ^ (32 - k) := by rw [← Nat.pow_add]; congr 1; omega
  have h4 : q < 2 ^ (32 - k) := by
    apply Nat.lt_of_mul_lt_mul_left (a := 2 ^ k)
    rw [← h3, ← hq]; omega
  have h5 : 2 ^ k * (q + 1) ≤ 2 ^ k * 2 ^ (32 - k) := Nat.mul_le_mul_left _ h4
  rw [← h3, Nat.mul_add, ← hq] at h5
  omega
/-! what the program reckons -/
def faultM (p : QPrefix) : Int := if p.Len < 0 ∨ 32 < p.Len then 11 else if bAndNot .u32 p.Addr (maskM p.Len) = 0 then 0 else 12
def validM (p : QPrefix) : Bool := decide (faultM p = 0)
def contM (p : QPrefix) (a : Int) : Bool := validM p && decide (bAnd .u32 a (maskM p.Len) = p.Addr)
theorem validM_iff {p : QPrefix} (h0 : 0 ≤ p.Addr) (h1 : p.Addr < 4294967296) : validM p = true ↔ Vld p := by
  unfold validM faultM Vld
  rw [decide_eq_true_eq]
  by_cases h : p.Len < 0 ∨ 32 < p.Len
  · simp only [h, if_true]; constructor
    · intro h; omega
    · intro h; omega
  · simp only [h, if_false]
    rw [andNot_mask (by omega) (by omega) h0 h1]
    split
    · rename_i e; simp only [true_iff]; exact ⟨by omega, by omega, e⟩
    · rename_i e; constructor
      · intro h; omega
      · intro h; exact absurd h.2.2 e
theorem contM_iff {p : QPrefix} {a : Int} (h0 : 0 ≤ p.Addr) (h1 : p.Addr < 4294967296) (h2 : 0 ≤ a) (h3 : a < 4294967296) : contM p a = true ↔ Cnt p a := by
  unfold contM Cnt
  rw [Bool.and_eq_true, validM_iff h0 h1, decide_eq_true_eq]
  constructor
  · rintro ⟨v, e⟩
    rw [and_mask v.1 v.2.1 h2 h3] at e
    exact ⟨v, (mod_iff pw_pos v.2.2).1 e⟩
  · rintro ⟨v, e⟩
    refine ⟨v, ?_⟩
    rw [and_mask v.1 v.2.1 h2 h3]
    exact (mod_iff pw_pos v.2.2).2 e
/-! ### the configuration -/
def cls (a : Int) : Int := if a / 16777216 = 0 then 1 else if a / 16777216 = 127 then 2 else if 240 ≤ a / 16777216 then 4 else if 224 ≤ a / 16777216 then 3 else 0
def base (c : QConfig) (a : Int) : Prop := Cnt c.Network a ∧ a % pw c.SubnetLen = 0
structure FieldsOK (c : QConfig) : Prop where
  net : Vld c.Network ∧ 8 ≤ c.Network.Len ∧ c.Network.Len ≤ 28 ∧ cls c.Network.Addr = 0
  sub : c.Network.Len + 1 ≤ c.SubnetLen ∧ c.SubnetLen ≤ 30 ∧ base c c.Min ∧ base c c.Max
  num : 0 ≤ c.VNI ∧ c.VNI ≤ 16777215 ∧ 1 ≤ c.Port ∧ c.Port ≤ 65535 ∧ 126 ≤ c.MTU ∧ c.MTU ≤ 9000
  ttl : 2 ≤ c.TTL ∧ c.TTL ≤ 1099511627776 ∧ 1 ≤ c.Renew ∧ c.Renew < c.TTL
  log : 1 ≤ c.Log ∧ c.Log ≤ 256 ∧ 1 ≤ c.Hosts ∧ c.Hosts ≤ 64 ∧ 1 ≤ c.Routes ∧ c.Routes ≤ 256
  cap : 1 ≤ c.Neighs ∧ c.Neighs ≤ 256 ∧ 1 ≤ c.Fdbs ∧ c.Fdbs ≤ 256 ∧ 1 ≤ c.Room ∧ c.Room ≤ 256
  top : c.First + c.Hosts - 1 ≤ 4294967295
  cls : ∀ h : Int, 0 ≤ h → h < c.Hosts → cls (c.First + h) = 0
structure PoolOK (c : QConfig) (rs : List QReserve) : Prop where
  row : c.Min ≤ c.Max
  out : ∀ h : Int, 0 ≤ h → h < c.Hosts → ¬ Cnt c.Network (c.First + h)
  host : ∀ r ∈ rs, 0 ≤ r.Host ∧ r.Host < c.Hosts ∧ r.Subnet.Len = c.SubnetLen ∧ base c r.Subnet.Addr
  rise : rs.Pairwise fun a b => a.Host < b.Host
  apart : rs.Pairwise fun a b => a.Subnet ≠ b.Subnet
open Classical in
noncomputable def checkS (c : QConfig) (rs : List QReserve) : Int := if ¬ FieldsOK c then 26 else if ¬ PoolOK c rs then 28 else 0
/-! ### the store -/
structure LS where
  now : Int
  rev : Int
  ls : List QLease
  es : List QEvent
def zL : QLease := ⟨0, ⟨0, 0⟩, 0, ⟨0, 0, 0, 0, 0, 0⟩, 0, 0⟩
def never : Int := 9223372036854775807
def maxRev : Int := 1099511627776
def aft (a n : Int) : Int := if a + n ≤ never then a + n else never
section
variable (c : QConfig) (rs : List QReserve)
def own (h : Int) : Option QPrefix := (rs.find? fun r => decide (r.Host = h)).map (·.Subnet)
def Frei (p : QPrefix) : Prop := p.Len = c.SubnetLen ∧ Cnt c.Network p.Addr ∧ Vld p ∧ (∀ r ∈ rs, r.Subnet ≠ p) ∧ c.Min ≤ p.Addr ∧ p.Addr ≤ c.Max
instance {p} : Decidable (Frei c rs p) := by unfold Frei; infer_instance
def May (h : Int) (p : QPrefix) : Prop := match own rs h with
  | some q => p = q
  | none => Frei c rs p
instance {h p} : Decidable (May c rs h p) := by unfold May; split <;> infer_instance
end
def free (l : List QLease) (p : QPrefix) : Prop := ∀ x ∈ l, x.Subnet ≠ p
instance {l p} : Decidable (free l p) := by unfold free; infer_instance
section
variable (c : QConfig) (rs : List QReserve)
def rowAt (k : Nat) : QPrefix := ⟨c.Min + k * pw c.SubnetLen, c.SubnetLen⟩
def rowN : Nat := ((c.Max - c.Min) / pw c.SubnetLen).toNat + 1
def lowest (l : List QLease) : Option QPrefix := ((List.range (rowN c)).map (rowAt c)).find? fun p => decide (Frei c rs p ∧ free l p)
def choose (l : List QLease) (h : Int) (wish : QPrefix) : Option QPrefix := match own rs h with
  | some q => if free l q then some q else none
  | none => if Frei c rs wish ∧ free l wish then some wish else lowest c rs l
def ofH (l : List QLease) (h : Int) : Option QLease := l.find? fun x => decide (x.Host = h)
def ins : List QLease → QLease → List QLease
  | [], x => [x]
  | y :: l, x => if x.Subnet.Addr < y.Subnet.Addr then x :: y :: l else y :: ins l x
def upd (l : List QLease) (x : QLease) : List QLease := l.map fun y => if y.Host = x.Host then x else y
def del (l : List QLease) (h : Int) : List QLease := l.filter fun y => decide (y.Host ≠ h)
def remS (s : LS) (x : QLease) : LS := ⟨s.now, s.rev + 1, del s.ls x.Host, s.es ++ [⟨s.rev + 1, 2, x⟩]⟩
def leU (a b : QLease) : Bool := decide (a.Until < b.Until ∨ a.Until = b.Until ∧ a.Subnet.Addr ≤ b.Subnet.Addr)
def dueS (s : LS) (now : Int) : List QLease := (s.ls.filter fun x => decide (x.Until ≤ now)).mergeSort leU
def tickS (s : LS) (n : Int) : LS := (dueS s (aft s.now n)).foldl remS ⟨aft s.now n, s.rev, s.ls, s.es⟩
def cmdS (s : LS) (x : QCmd) : LS × QLease × Int :=
  if x.Kind < 1 ∨ 4 < x.Kind then (s, zL, 110)
  else if x.Kind = 4 then (if x.N < 0 then (s, zL, 1) else (tickS s x.N, zL, 0))
  else if x.Host < 0 ∨ c.Hosts ≤ x.Host then (s, zL, 1)
  else match ofH s.ls x.Host with
  | some l =>
    if x.Kind = 1 then
      if l.Pub = x.Pub ∧ l.MAC = x.MAC then (⟨s.now, s.rev, upd s.ls { l with Until := aft s.now c.TTL }, s.es⟩, { l with Until := aft s.now c.TTL }, 0)
      else
        let y : QLease := ⟨l.Host, l.Subnet, x.Pub, x.MAC, aft s.now c.TTL, s.rev + 1⟩
        (⟨s.now, s.rev + 1, upd s.ls y, s.es ++ [⟨s.rev + 1, 1, y⟩]⟩, y, 0)
    else if x.Kind = 2 then
      if l.Subnet = x.Subnet then (⟨s.now, s.rev, upd s.ls { l with Until := aft s.now c.TTL }, s.es⟩, { l with Until := aft s.now c.TTL }, 0) else (s, zL, 111)
    else (remS s l, l, 0)
  | none =>
    if x.Kind = 1 then match choose c rs s.ls x.Host x.Subnet with
      | none => (s, zL, 4)
      | some p =>
        let y : QLease := ⟨x.Host, p, x.Pub, x.MAC, aft s.now c.TTL, s.rev + 1⟩
        (⟨s.now, s.rev + 1, ins s.ls y, s.es ++ [⟨s.rev + 1, 1, y⟩]⟩, y, 0)
    else (s, zL, 111)
def applyS (s : LS) (x : QCmd) : LS × QAnswer :=
  if (cmdS c rs s x).1.rev > maxRev then (s, ⟨4, zL, s.rev, s.now⟩)
  else ((cmdS c rs s x).1, ⟨(cmdS c rs s x).2.2, (cmdS c rs s x).2.1, (cmdS c rs s x).1.rev, (cmdS c rs s x).1.now⟩)
def logS (s : LS) : List QEvent := s.es.drop (s.es.length - (min c.Log s.rev).toNat)
def holderS (s : LS) (a : Int) : Option QLease := s.ls.find? fun x => decide (Cnt x.Subnet a)
structure LOk (s : LS) (x : QLease) : Prop where
  host : 0 ≤ x.Host ∧ x.Host < c.Hosts
  may : May c rs x.Host x.Subnet
  rev : 1 ≤ x.Rev ∧ x.Rev ≤ s.rev
  till : (s.now < x.Until ∨ x.Until = never) ∧ x.Until ≤ never
structure LI (s : LS) : Prop where
  now : 0 ≤ s.now ∧ s.now ≤ never
  rev : 0 ≤ s.rev ∧ s.rev ≤ maxRev
  rise : s.ls.Pairwise fun a b => a.Subnet.Addr < b.Subnet.Addr
  apart : s.ls.Pairwise fun a b => a.Host ≠ b.Host
  ok : ∀ x ∈ s.ls, LOk c rs s x
  log : min c.Log s.rev ≤ s.es.length
  evs : ∀ i, (h : i < s.es.length) → (s.es[i]).Rev = s.rev - s.es.length + 1 + i
end
end Go.Proofs.YtdallmabajeajaaGreatDoor.Fw
set_option linter.all false
namespace Go.Proofs.YtdallmabajeajaaGreatDoor.Fw
open Go
/-! ### lists -/
theorem nodup_bound : ∀ (n : Nat) (l : List Int), l.Nodup → (∀ x ∈ l, 0 ≤ x ∧ x < n) → l.length ≤ n
  | 0, l, _, h => by
    cases l with
    | nil => simp
    | cons a l => have := h a (by simp); omega
  | n + 1, l, d, h => by
    have h1 : ∀ (l : List Int), l.Nodup → l.length ≤ (l.filter fun x => decide (x ≠ (n : Int))).length + 1 := by
      intro l
      induction l with
      | nil => intro _; simp
      | cons a l ih =>
        intro d
        rw [List.nodup_cons] at d
        by_cases ha : a = n
        · subst ha
          rw [List.filter_cons_of_neg (by simp), List.filter_eq_self.2 (fun x hx => by simp; intro e; exact d.1 (e ▸ hx))]
          simp
        · rw [List.filter_cons_of_pos (by simpa using ha)]
          have := ih d.2
          simp only [List.length_cons]; omega
    have h2 := nodup_bound n (l.filter fun x => decide (x ≠ (n : Int))) (d.sublist List.filter_sublist) (fun x hx => by
      rw [List.mem_filter] at hx
      have := h x hx.1
      have h3 : x ≠ n := by simpa using hx.2
      omega)
    have := h1 l d
    omega
section
variable {l : List QLease} {x y : QLease} {h : Int}
def Apart (l : List QLease) : Prop := l.Pairwise fun a b => a.Host ≠ b.Host
def Rise (l : List QLease) : Prop := l.Pairwise fun a b => a.Subnet.Addr < b.Subnet.Addr
theorem apart_nodup : Apart l ↔ (l.map (·.Host)).Nodup := by
  unfold Apart List.Nodup
  rw [List.pairwise_map]
theorem apart_eq (a : Apart l) (hx : x ∈ l) (hy : y ∈ l) (e : x.Host = y.Host) : x = y := by
  induction l with
  | nil => cases hx
  | cons z l ih =>
    rw [Apart, List.pairwise_cons] at a
    rcases List.mem_cons.1 hx with h1 | h1 <;> rcases List.mem_cons.1 hy with h2 | h2
    · rw [h1, h2]
    · subst h1; exact absurd e (a.1 _ h2)
    · subst h2; exact absurd e.symm (a.1 _ h1)
    · exact ih a.2 h1 h2
theorem rise_eq (a : Rise l) (hx : x ∈ l) (hy : y ∈ l) (e : x.Subnet.Addr = y.Subnet.Addr) : x = y := by
  induction l with
  | nil => cases hx
  | cons z l ih =>
    rw [Rise, List.pairwise_cons] at a
    rcases List.mem_cons.1 hx with h1 | h1 <;> rcases List.mem_cons.1 hy with h2 | h2
    · rw [h1, h2]
    · subst h1; have := a.1 _ h2; omega
    · subst h2; have := a.1 _ h1; omega
    · exact ih a.2 h1 h2
theorem ofH_some (a : Apart l) : ofH l h = some x ↔ x ∈ l ∧ x.Host = h := by
  unfold ofH
  constructor
  · intro e
    have h1 := List.find?_some e
    exact ⟨List.mem_of_find?_eq_some e, by simpa using h1⟩
  · rintro ⟨h1, rfl⟩
    cases e : l.find? fun y => decide (y.Host = x.Host) with
    | none => rw [List.find?_eq_none] at e; have := e x h1; simp at this
    | some y =>
      have h2 := List.find?_some e
      rw [apart_eq a h1 (List.mem_of_find?_eq_some e) (by simpa using (by simpa using h2 : y.Host = x.Host).symm)]
theorem ofH_none : ofH l h = none ↔ ∀ x ∈ l, x.Host ≠ h := by
  unfold ofH
  rw [List.find?_eq_none]
  simp
theorem mem_ins : y ∈ ins l x ↔ y = x ∨ y ∈ l := by
  induction l with
  | nil => simp [ins]
  | cons z l ih =>
    unfold ins
    split
    · simp
    · simp only [List.mem_cons, ih]
      constructor
      · rintro (h | h | h) <;> simp [h]
      · rintro (h | h | h) <;> simp [h]
theorem ins_perm : (ins l x).Perm (x :: l) := by
  induction l with
  | nil => exact .refl _
  | cons z l ih =>
    unfold ins
    split
    · exact .refl _
    · exact (ih.cons z).trans (.swap x z l)
theorem rise_ins (a : Rise l) (f : ∀ y ∈ l, y.Subnet.Addr ≠ x.Subnet.Addr) : Rise (ins l x) := by
  induction l with
  | nil => simp [ins, Rise]
  | cons z l ih =>
    have a' := a
    rw [Rise, List.pairwise_cons] at a
    unfold ins
    split
    · rw [Rise, List.pairwise_cons]
      refine ⟨fun y hy => ?_, a'⟩
      rcases List.mem_cons.1 hy with rfl | hy
      · assumption
      · have := a.1 y hy; omega
    · rw [Rise, List.pairwise_cons]
      refine ⟨fun y hy => ?_, ih a.2 fun y hy => f y (by simp [hy])⟩
      rcases mem_ins.1 hy with rfl | hy
      · have := f z (by simp); omega
      · exact a.1 y hy
theorem apart_ins (a : Apart l) (f : ∀ y ∈ l, y.Host ≠ x.Host) : Apart (ins l x) := by
  rw [apart_nodup, (ins_perm.map _).nodup_iff, List.map_cons, List.nodup_cons]
  refine ⟨fun h => ?_, apart_nodup.1 a⟩
  obtain ⟨y, hy, e⟩ := List.mem_map.1 h
  exact f y hy e
theorem mem_upd : y ∈ upd l x ↔ (y ∈ l ∧ y.Host ≠ x.Host) ∨ (y = x ∧ ∃ z ∈ l, z.Host = x.Host) := by
  unfold upd
  rw [List.mem_map]
  constructor
  · rintro ⟨z, hz, rfl⟩
    split
    · rename_i h; exact .inr ⟨rfl, z, hz, h⟩
    · rename_i h; exact .inl ⟨hz, h⟩
  · rintro (⟨h1, h2⟩ | ⟨rfl, z, h1, h2⟩)
    · exact ⟨y, h1, by simp [h2]⟩
    · exact ⟨z, h1, by simp [h2]⟩
theorem upd_hosts : (upd l x).map (·.Host) = l.map (·.Host) := by
  unfold upd
  rw [List.map_map]
  apply List.map_congr_left
  intro z _
  simp only [Function.comp]
  split
  · rename_i h; exact h.symm
  · rfl
theorem upd_addrs (a : Apart l) (hx : y ∈ l) (h1 : y.Host = x.Host) (h2 : y.Subnet = x.Subnet) : (upd l x).map (·.Subnet) = l.map (·.Subnet) := by
  unfold upd
  rw [List.map_map]
  apply List.map_congr_left
  intro z hz
  simp only [Function.comp]
  split
  · rename_i h
    rw [apart_eq a hz hx (h.trans h1.symm), h2]
  · rfl
theorem apart_upd (a : Apart l) : Apart (upd l x) := by rw [apart_nodup, upd_hosts]; exact apart_nodup.1 a
theorem rise_map : Rise l ↔ (l.map (·.Subnet)).Pairwise fun a b => a.Addr < b.Addr := by
  unfold Rise
  rw [List.pairwise_map]
theorem rise_upd (a : Apart l) (r : Rise l) (hx : y ∈ l) (h1 : y.Host = x.Host) (h2 : y.Subnet = x.Subnet) : Rise (upd l x) := by rw [rise_map, upd_addrs a hx h1 h2]; exact rise_map.1 r
theorem apart_del (a : Apart l) : Apart (del l h) := a.sublist List.filter_sublist
theorem rise_del (a : Rise l) : Rise (del l h) := a.sublist List.filter_sublist
theorem mem_del : y ∈ del l h ↔ y ∈ l ∧ y.Host ≠ h := by unfold del; rw [List.mem_filter]; simp
end
section
variable {c : QConfig} {rs : List QReserve} {s : LS} {x : QLease} {cmd : QCmd}
theorem LI.len (i : LI c rs s) (f : FieldsOK c) : s.ls.length ≤ 64 := by
  have := nodup_bound 64 (s.ls.map (·.Host)) (apart_nodup.1 i.apart) (fun h hh => by
    obtain ⟨y, hy, rfl⟩ := List.mem_map.1 hh
    have := (i.ok y hy).host
    have := f.log
    omega)
  simpa using this
theorem lowest_ok {l : List QLease} {p : QPrefix} (e : lowest c rs l = some p) : Frei c rs p ∧ free l p := by
  have := List.find?_some e
  simpa using this
theorem choose_ok {l : List QLease} {h : Int} {w p : QPrefix} (e : choose c rs l h w = some p) : May c rs h p ∧ free l p := by
  unfold choose at e
  split at e
  · rename_i q hq
    split at e
    · rename_i hf
      cases e
      exact ⟨by unfold May; rw [hq], hf⟩
    · cases e
  · rename_i hq
    split at e
    · rename_i hf
      cases e
      exact ⟨by unfold May; rw [hq]; exact hf.1, hf.2⟩
    · obtain ⟨h1, h2⟩ := lowest_ok e
      exact ⟨by unfold May; rw [hq]; exact h1, h2⟩
theorem may_len (po : PoolOK c rs) {h : Int} {p : QPrefix} (m : May c rs h p) : p.Len = c.SubnetLen ∧ base c p.Addr := by
  unfold May at m
  split at m
  · rename_i q hq
    subst m
    unfold own at hq
    cases e : rs.find? fun r => decide (r.Host = h) with
    | none => rw [e] at hq; cases hq
    | some r =>
      rw [e] at hq
      simp only [Option.map_some, Option.some.injEq] at hq
      subst hq
      exact (po.host r (List.mem_of_find?_eq_some e)).2.2
  · obtain ⟨h1, h2, h3, _⟩ := m
    refine ⟨h1, h2, ?_⟩
    have := h3.2.2
    rwa [h1] at this
theorem free_addr (po : PoolOK c rs) (i : LI c rs s) {h : Int} {p : QPrefix} (m : May c rs h p) (f : free s.ls p) : ∀ y ∈ s.ls, y.Subnet.Addr ≠ p.Addr := by
  intro y hy e
  have h1 := may_len po m
  have h2 := may_len po (i.ok y hy).may
  apply f y hy
  rw [show y.Subnet = ⟨y.Subnet.Addr, y.Subnet.Len⟩ from rfl, show p = ⟨p.Addr, p.Len⟩ from rfl, e, h1.1, h2.1]
theorem aft_le {a n : Int} (h0 : 0 ≤ a) (h1 : a ≤ never) (h2 : 0 ≤ n) : a ≤ aft a n ∧ aft a n ≤ never ∧ 0 ≤ aft a n := by
  unfold aft never at *; split <;> omega
theorem aft_lt {a n : Int} (h0 : 0 ≤ a) (h1 : a ≤ never) (h2 : 1 ≤ n) : (a < aft a n ∨ aft a n = never) ∧ aft a n ≤ never := by
  unfold aft never at *; split <;> omega
theorem LOk.mono {s t : LS} (o : LOk c rs s x) (h1 : t.now = s.now) (h2 : s.rev ≤ t.rev) : LOk c rs t x :=
  ⟨o.host, o.may, ⟨o.rev.1, by have := o.rev.2; omega⟩, by rw [h1]; exact o.till⟩
theorem evs_app {es : List QEvent} {rev : Int} {e : QEvent} (h : ∀ i, (h : i < es.length) → (es[i]).Rev = rev - es.length + 1 + i) (he : e.Rev = rev + 1) : ∀ i, (h : i < (es ++ [e]).length) → ((es ++ [e])[i]).Rev = rev + 1 - (es ++ [e]).length + 1 + i := by
  intro i hi
  simp only [List.length_append, List.length_cons, List.length_nil] at hi ⊢
  by_cases h1 : i < es.length
  · rw [List.getElem_append_left h1, h i h1]; simp; omega
  · have : i = es.length := by omega
    subst this
    rw [List.getElem_append_right (by omega)]
    simp [he]
    omega
theorem LI.rem (i : LI c rs s) (hr : s.rev + 1 ≤ maxRev) (hx : x ∈ s.ls) : LI c rs (remS s x) where
  now := i.now
  rev := ⟨by have := i.rev; simp [remS]; omega, hr⟩
  rise := rise_del i.rise
  apart := apart_del i.apart
  ok y hy := (i.ok y (mem_del.1 hy).1).mono rfl (by simp only [remS]; omega)
  log := by have := i.log; simp only [remS, List.length_append, List.length_cons, List.length_nil]; omega
  evs := evs_app i.evs rfl
theorem LI.put (po : PoolOK c rs) (i : LI c rs s) (hr : s.rev + 1 ≤ maxRev) {y : QLease} (o : LOk c rs ⟨s.now, s.rev + 1, s.ls, s.es⟩ y) (h1 : ∀ z ∈ s.ls, z.Host ≠ y.Host) (h2 : free s.ls y.Subnet) : LI c rs ⟨s.now, s.rev + 1, ins s.ls y, s.es ++ [⟨s.rev + 1, 1, y⟩]⟩ where
  now := i.now
  rev := ⟨by have := i.rev; simp; omega, hr⟩
  rise := rise_ins i.rise (free_addr po i o.may h2)
  apart := apart_ins i.apart h1
  ok z hz := by
    rcases mem_ins.1 hz with rfl | hz
    · exact o.mono rfl (by simp)
    · exact (i.ok z hz).mono rfl (by simp only; omega)
  log := by have := i.log; simp only [List.length_append, List.length_cons, List.length_nil]; omega
  evs := evs_app i.evs rfl
theorem LI.upd1 (i : LI c rs s) {y z : QLease} (hz : z ∈ s.ls) (h1 : z.Host = y.Host) (h2 : z.Subnet = y.Subnet) (o : LOk c rs s y) : LI c rs ⟨s.now, s.rev, upd s.ls y, s.es⟩ where
  now := i.now
  rev := i.rev
  rise := rise_upd i.apart i.rise hz h1 h2
  apart := apart_upd i.apart
  ok u hu := by
    rcases mem_upd.1 hu with h | ⟨rfl, _⟩
    · exact (i.ok u h.1).mono rfl (by simp)
    · exact o.mono rfl (by simp)
  log := i.log
  evs := i.evs
theorem LI.upd2 (i : LI c rs s) (hr : s.rev + 1 ≤ maxRev) {y z : QLease} (hz : z ∈ s.ls) (h1 : z.Host = y.Host) (h2 : z.Subnet = y.Subnet) (o : LOk c rs ⟨s.now, s.rev + 1, s.ls, s.es⟩ y) : LI c rs ⟨s.now, s.rev + 1, upd s.ls y, s.es ++ [⟨s.rev + 1, 1, y⟩]⟩ where
  now := i.now
  rev := ⟨by have := i.rev; simp; omega, hr⟩
  rise := rise_upd i.apart i.rise hz h1 h2
  apart := apart_upd i.apart
  ok u hu := by
    rcases mem_upd.1 hu with h | ⟨rfl, _⟩
    · exact (i.ok u h.1).mono rfl (by simp only; omega)
    · exact o.mono rfl (by simp)
  log := by have := i.log; simp only [List.length_append, List.length_cons, List.length_nil]; omega
  evs := evs_app i.evs rfl
/-! ### time goes by -/
def evR (rev : Int) : List QLease → List QEvent
  | [] => []
  | x :: l => ⟨rev + 1, 2, x⟩ :: evR (rev + 1) l
theorem evR_len : ∀ (l : List QLease) (rev : Int), (evR rev l).length = l.length
  | [], _ => rfl
  | x :: l, rev => by simp [evR, evR_len l]
theorem evs_app2 {rev : Int} : ∀ (l : List QLease) (es : List QEvent) (rev : Int), (∀ i, (h : i < es.length) → (es[i]).Rev = rev - es.length + 1 + i) → ∀ i, (h : i < (es ++ evR rev l).length) → ((es ++ evR rev l)[i]).Rev = rev + l.length - (es ++ evR rev l).length + 1 + i
  | [], es, rev, h => by simpa [evR] using h
  | x :: l, es, rev, h => by
    have h1 := evs_app2 (rev := rev) l (es ++ [⟨rev + 1, 2, x⟩]) (rev + 1) (evs_app h rfl)
    intro i hi
    have e : es ++ evR rev (x :: l) = (es ++ [⟨rev + 1, 2, x⟩]) ++ evR (rev + 1) l := by simp [evR]
    have h2 := h1 i (by rw [← e]; exact hi)
    simp only [e]
    rw [h2]
    simp only [List.length_cons]
    omega
theorem foldl_rem : ∀ (l : List QLease) (s : LS), l.foldl remS s = ⟨s.now, s.rev + l.length, s.ls.filter (fun y => decide (∀ x ∈ l, y.Host ≠ x.Host)), s.es ++ evR s.rev l⟩
  | [], s => by
    cases s
    simp only [List.foldl_nil, List.length_nil, evR, List.append_nil, List.not_mem_nil, false_implies, implies_true, decide_true, LS.mk.injEq, true_and, and_true]
    exact ⟨by omega, (List.filter_eq_self.2 fun _ _ => rfl).symm⟩
  | x :: l, s => by
    rw [List.foldl_cons, foldl_rem l]
    simp only [remS, del, List.filter_filter, List.length_cons, evR, List.append_assoc, List.singleton_append, LS.mk.injEq, true_and, and_true]
    refine ⟨by omega, ?_⟩
    apply List.filter_congr
    intro y _
    simp only [List.mem_cons, forall_eq_or_imp, Bool.decide_and]
    rw [Bool.and_comm]
theorem due_perm {now : Int} : (dueS s now).Perm (s.ls.filter fun x => decide (x.Until ≤ now)) := List.mergeSort_perm _ _
theorem mem_due {now : Int} : x ∈ dueS s now ↔ x ∈ s.ls ∧ x.Until ≤ now := by
  rw [due_perm.mem_iff, List.mem_filter]; simp
theorem tick_eq (a : Apart s.ls) (n : Int) : tickS s n = ⟨aft s.now n, s.rev + (dueS s (aft s.now n)).length, s.ls.filter (fun y => decide (aft s.now n < y.Until)), s.es ++ evR s.rev (dueS s (aft s.now n))⟩ := by
  unfold tickS
  rw [foldl_rem]
  congr 1
  apply List.filter_congr
  intro y hy
  apply decide_eq_decide.2
  constructor
  · intro h
    by_cases hu : y.Until ≤ aft s.now n
    · exact absurd rfl (h y (mem_due.2 ⟨hy, hu⟩))
    · omega
  · intro h z hz e
    have hz := mem_due.1 hz
    have := apart_eq a hy hz.1 e
    subst this
    omega
theorem LI.tick (i : LI c rs s) {n : Int} (hn : 0 ≤ n) (hr : s.rev + (dueS s (aft s.now n)).length ≤ maxRev) : LI c rs (tickS s n) := by
  have ha := aft_le i.now.1 i.now.2 hn
  rw [tick_eq i.apart]
  refine ⟨⟨ha.2.2, ha.2.1⟩, ⟨by have := i.rev; simp only; omega, hr⟩, i.rise.sublist List.filter_sublist, i.apart.sublist List.filter_sublist, fun y hy => ?_, ?_, evs_app2 (rev := s.rev) _ _ _ i.evs⟩
  · rw [List.mem_filter] at hy
    have o := i.ok y hy.1
    have h2 : aft s.now n < y.Until := by simpa using hy.2
    exact ⟨o.host, o.may, ⟨o.rev.1, by have := o.rev.2; simp only; omega⟩, .inl h2, o.till.2⟩
  · have := i.log
    simp only [List.length_append, evR_len]
    omega
theorem LI.apply (f : FieldsOK c) (po : PoolOK c rs) (i : LI c rs s) : LI c rs (applyS c rs s cmd).1 := by
  unfold applyS
  split
  · exact i
  · rename_i hr
    simp only
    revert hr
    unfold cmdS
    have ha : ∀ y : QLease, LOk c rs s y → ∀ z : QLease, z.Host = y.Host → z.Subnet = y.Subnet → z.Until = aft s.now c.TTL → 1 ≤ z.Rev → ∀ r, z.Rev ≤ r → LOk c rs ⟨s.now, r, s.ls, s.es⟩ z := fun y o z h1 h2 h3 h4 r h5 => ⟨h1 ▸ o.host, h1 ▸ h2 ▸ o.may, ⟨h4, h5⟩, h3 ▸ aft_lt i.now.1 i.now.2 (by have := f.ttl; omega)⟩
    split
    · intro _; exact i
    split
    · split
      · intro _; exact i
      · rename_i hn
        intro hr
        have e := tick_eq i.apart cmd.N
        refine i.tick (by omega) ?_
        rw [e] at hr
        simpa using hr
    split
    · intro _; exact i
    rename_i hh
    cases ho : ofH s.ls cmd.Host with
    | some l =>
      obtain ⟨h1, h2⟩ := (ofH_some i.apart).1 ho
      have o := i.ok l h1
      simp only
      split
      · split
        · intro _
          exact i.upd1 (y := { l with Until := aft s.now c.TTL }) h1 rfl rfl (ha l o { l with Until := aft s.now c.TTL } rfl rfl rfl o.rev.1 s.rev o.rev.2)
        · intro hr
          exact i.upd2 (y := ⟨l.Host, l.Subnet, cmd.Pub, cmd.MAC, aft s.now c.TTL, s.rev + 1⟩) (by simpa using hr) h1 rfl rfl (ha l o ⟨l.Host, l.Subnet, cmd.Pub, cmd.MAC, aft s.now c.TTL, s.rev + 1⟩ rfl rfl rfl (by have := i.rev; show 1 ≤ s.rev + 1; omega) _ (Int.le_refl _))
      split
      · split
        · intro _
          exact i.upd1 (y := { l with Until := aft s.now c.TTL }) h1 rfl rfl (ha l o { l with Until := aft s.now c.TTL } rfl rfl rfl o.rev.1 s.rev o.rev.2)
        · intro _; exact i
      · intro hr
        exact i.rem (by simpa [remS] using hr) h1
    | none =>
      simp only
      split
      · cases hc : choose c rs s.ls cmd.Host cmd.Subnet with
        | none => intro _; exact i
        | some p =>
          intro hr
          obtain ⟨h3, h4⟩ := choose_ok hc
          refine i.put po (by simpa using hr) ⟨by show 0 ≤ cmd.Host ∧ cmd.Host < c.Hosts; omega, h3, ⟨by have := i.rev; show 1 ≤ s.rev + 1; omega, Int.le_refl _⟩, aft_lt i.now.1 i.now.2 (by have := f.ttl; omega)⟩ (ofH_none.1 ho) h4
      · intro _; exact i
end
end Go.Proofs.YtdallmabajeajaaGreatDoor.Fw
set_option linter.all false
namespace Go.Proofs.YtdallmabajeajaaGreatDoor.Fw
open Go
theorem check26 {c : QConfig} {rs : List QReserve} (h : ¬ FieldsOK c) : checkS c rs = 26 := by unfold checkS; rw [if_pos h]
structure CpI (c : QConfig) (l : List QReserve) (last : Int) : Prop where
  lo : -1 ≤ last
  at_ : last = -1 ∨ ∃ r ∈ l, r.Host = last
  up : ∀ r ∈ l, r.Host ≤ last
  host : ∀ r ∈ l, 0 ≤ r.Host ∧ r.Host < c.Hosts ∧ r.Subnet.Len = c.SubnetLen ∧ base c r.Subnet.Addr
  rise : l.Pairwise fun a b => a.Host < b.Host
  apart : l.Pairwise fun a b => a.Subnet ≠ b.Subnet
theorem cpi_nil {c : QConfig} : CpI c [] (-1) := ⟨by omega, .inl rfl, by simp, by simp, .nil, .nil⟩
theorem cpi_add {c : QConfig} {l : List QReserve} {last : Int} {r : QReserve} (i : CpI c l last) (h1 : last < r.Host) (h2 : r.Host < c.Hosts) (h3 : r.Subnet.Len = c.SubnetLen) (h4 : base c r.Subnet.Addr) (h5 : ¬ r.Subnet ∈ l.map (·.Subnet)) : CpI c (l ++ [r]) r.Host where
  lo := by have := i.lo; omega
  at_ := .inr ⟨r, by simp, rfl⟩
  up x hx := by
    rcases List.mem_append.1 hx with h | h
    · have := i.up x h; omega
    · rw [List.mem_singleton.1 h]; exact Int.le_refl _
  host x hx := by
    rcases List.mem_append.1 hx with h | h
    · exact i.host x h
    · rw [List.mem_singleton.1 h]; exact ⟨by have := i.lo; omega, h2, h3, h4⟩
  rise := by
    rw [List.pairwise_append]
    exact ⟨i.rise, List.pairwise_singleton _ _, fun a ha b hb => by rw [List.mem_singleton.1 hb]; have := i.up a ha; omega⟩
  apart := by
    rw [List.pairwise_append]
    exact ⟨i.apart, List.pairwise_singleton _ _, fun a ha b hb e => by rw [List.mem_singleton.1 hb] at e; exact h5 (List.mem_map.2 ⟨a, ha, e⟩)⟩
theorem cp_lt {l : List QReserve} (h : l.Pairwise fun a b => a.Host < b.Host) {k : Nat} (hk : k < l.length) {r : QReserve} (hr : r ∈ l.take k) : r.Host < l[k].Host := by
  obtain ⟨j, hj, rfl⟩ := List.getElem_of_mem hr
  rw [List.length_take] at hj
  rw [List.pairwise_iff_getElem] at h
  rw [List.getElem_take]
  exact h j k (by omega) hk (by omega)
theorem cp_ne {l : List QReserve} (h : l.Pairwise fun a b => a.Subnet ≠ b.Subnet) {k : Nat} (hk : k < l.length) {r : QReserve} (hr : r ∈ l.take k) : r.Subnet ≠ l[k].Subnet := by
  obtain ⟨j, hj, rfl⟩ := List.getElem_of_mem hr
  rw [List.length_take] at hj
  rw [List.pairwise_iff_getElem] at h
  rw [List.getElem_take]
  exact h j k (by omega) hk (by omega)
theorem check_zero {c : QConfig} {rs : List QReserve} (h : checkS c rs = 0) : FieldsOK c ∧ PoolOK c rs := by
  unfold checkS at h
  split at h
  · cases h
  · split at h
    · cases h
    · rename_i h1 h2
      exact ⟨Classical.not_not.1 h1, Classical.not_not.1 h2⟩
theorem pool_len {c : QConfig} {rs : List QReserve} (f : FieldsOK c) (po : PoolOK c rs) : rs.length ≤ 64 := by
  have := nodup_bound 64 (rs.map (·.Host)) (by
    unfold List.Nodup
    rw [List.pairwise_map]
    exact po.rise.imp fun h => by omega) (fun h hh => by
    obtain ⟨y, hy, rfl⟩ := List.mem_map.1 hh
    have := (po.host y hy)
    have := f.log
    omega)
  simpa using this
theorem rise_last {l : List QReserve} {k : Nat} (hk : k < l.length) (h : (l.take (k + 1)).Pairwise fun a b => a.Host < b.Host) {a : QReserve} (ha : a ∈ l.take (k + 1)) : a.Host ≤ l[k].Host := by
  rw [List.take_succ_eq_append_getElem hk] at h ha
  rcases List.mem_append.1 ha with ha | ha
  · have := (List.pairwise_append.1 h).2.2 a ha l[k] (by simp)
    omega
  · rw [List.mem_singleton.1 ha]; exact Int.le_refl _
theorem cpi_last {c : QConfig} {l : List QReserve} {last m : Int} {k : Nat} (hk : k < l.length) (i : CpI c (l.take k) last) (h0 : 0 ≤ m) (h : ∀ j : Nat, j + 1 = k → (el l j).Host < m) : last < m := by
  rcases i.at_ with e | ⟨r, hr, e⟩
  · omega
  · cases k with
    | zero => simp at hr
    | succ j =>
      have h1 := rise_last (by omega) i.rise hr
      have h2 := h j rfl
      have e2 : el l j = l[j] := by simp [el, List.getD_eq_getElem?_getD, show j < l.length by omega]
      rw [e2] at h2
      omega
end Go.Proofs.YtdallmabajeajaaGreatDoor.Fw
set_option linter.all false
namespace Go.Proofs.YtdallmabajeajaaGreatDoor.Fw
open Go
section
variable {c : QConfig} {rs : List QReserve} {s : LS} {x l : QLease} {cmd : QCmd} {h pub n : Int} {w p : QPrefix} {m : QMAC}
end
end Go.Proofs.YtdallmabajeajaaGreatDoor.Fw
set_option linter.all false
namespace Go.Proofs.YtdallmabajeajaaGreatDoor.Fw
def ahead (a b : Qtimer_one) : Prop := a.at_ < b.at_ ∨ a.at_ = b.at_ ∧ a.id < b.id
instance {a b} : Decidable (ahead a b) := by unfold ahead; infer_instance
theorem ahead_ord : Ord ahead := ⟨fun h h2 => by unfold ahead at *; omega, fun h h2 h3 => by unfold ahead at *; omega⟩
structure PlX (h : List Qtimer_one) (m : List (Int × Int)) (i : Nat) : Prop where
  d : KD m
  n : ∀ j k, j < h.length → k < h.length → (gt h j).id = (gt h k).id → j = k
  g : ∀ j, j < h.length → j ≠ i → mget m (gt h j).id = some (j : Int)
  c : ∀ k v, mget m k = some v → ∃ j, j < h.length ∧ (gt h j).id = k
def Pl (h : List Qtimer_one) (m : List (Int × Int)) : Prop := PlX h m h.length
def swp (h : List Qtimer_one) (i p : Nat) : List Qtimer_one := (h.set i (gt h p)).set p (gt h i)
def sig (i p j : Nat) : Nat := if j = p then i else if j = i then p else j
section
variable {h : List Qtimer_one} {m : List (Int × Int)} {i p j : Nat} {x : Qtimer_one} {k v : Int}
theorem swp_len : (swp h i p).length = h.length := by simp [swp]
theorem gt_swp (hi : i < h.length) (hp : p < h.length) : gt (swp h i p) j = gt h (sig i p j) := by
  unfold swp sig
  by_cases h1 : j = p
  · subst h1
    rw [gt_set_eq (by simpa using hp)]; simp
  · rw [gt_set_ne (Ne.symm h1)]
    by_cases h2 : j = i
    · subst h2; rw [gt_set_eq hi]; simp [h1]
    · rw [gt_set_ne (Ne.symm h2)]; simp [h1, h2]
theorem sig_sig (hip : i ≠ p) : sig i p (sig i p j) = j := by
  unfold sig; repeat (split <;> try omega)
theorem sig_lt (hi : i < h.length) (hp : p < h.length) (hj : j < h.length) : sig i p j < h.length := by
  unfold sig; repeat (split <;> try omega)
theorem PlX.step (q : PlX h m i) (hi : i < h.length) (hp : p < h.length) (hip : i ≠ p) : PlX (swp h i p) (mset m (gt h p).id i) p := by
  have hs := fun j => gt_swp (j := j) hi hp
  refine ⟨q.d.set, fun a b ha hb e => ?_, fun a ha hap => ?_, fun k v e => ?_⟩
  · rw [swp_len] at ha hb
    rw [hs, hs] at e
    have := q.n _ _ (sig_lt hi hp ha) (sig_lt hi hp hb) e
    rw [← sig_sig (i := i) (p := p) (j := a) hip, this, sig_sig hip]
  · rw [swp_len] at ha
    rw [hs, mget_set q.d]
    by_cases hai : a = i
    · subst hai
      rw [show sig a p a = p by unfold sig; simp [hip]]; simp
    · rw [show sig i p a = a by unfold sig; simp [hap, hai]]
      rw [if_neg (fun e => hap (q.n _ _ ha hp e))]
      exact q.g a ha hai
  · rw [mget_set q.d] at e
    split at e
    · rename_i hk
      exact ⟨i, by rw [swp_len]; exact hi, by rw [hs, show sig i p i = p by unfold sig; simp [hip], hk]⟩
    · obtain ⟨a, ha, hk⟩ := q.c k v e
      exact ⟨sig i p a, by rw [swp_len]; exact sig_lt hi hp ha, by rw [hs, sig_sig hip, hk]⟩
theorem PlX.fin (q : PlX h m i) (hi : i < h.length) : Pl h (mset m (gt h i).id i) := by
  refine ⟨q.d.set, q.n, fun a ha _ => ?_, fun k v e => ?_⟩
  · rw [mget_set q.d]
    by_cases hai : a = i
    · subst hai; simp
    · rw [if_neg (fun e => hai (q.n _ _ ha hi e))]
      exact q.g a ha hai
  · rw [mget_set q.d] at e
    split at e
    · rename_i hk; exact ⟨i, hi, hk.symm⟩
    · exact q.c k v e
theorem Pl.any (q : Pl h m) : PlX h m i := ⟨q.d, q.n, fun j hj _ => q.g j hj (by omega), q.c⟩
theorem Pl.at (q : Pl h m) (hi : i < h.length) : mget m (gt h i).id = some (i : Int) := q.g i hi (by omega)
theorem Pl.get (q : Pl h m) (e : mget m k = some v) : ∃ j, j < h.length ∧ v = (j : Int) ∧ (gt h j).id = k := by
  obtain ⟨j, hj, hk⟩ := q.c k v e
  subst hk
  rw [q.at hj] at e
  exact ⟨j, hj, (Option.some.inj e).symm, rfl⟩
theorem gt_mem (hi : i < h.length) : gt h i ∈ h := by
  unfold gt; simp [List.getD_eq_getElem?_getD, hi]
theorem mem_gt (hx : x ∈ h) : ∃ i, i < h.length ∧ gt h i = x := by
  obtain ⟨i, hi, e⟩ := List.mem_iff_getElem.1 hx
  exact ⟨i, hi, by simp [gt, List.getD_eq_getElem?_getD, hi, e]⟩
theorem Pl.none (q : Pl h m) : mget m k = .none ↔ ∀ x ∈ h, x.id ≠ k := by
  constructor
  · intro e x hx hk
    obtain ⟨i, hi, rfl⟩ := mem_gt hx
    rw [← hk, q.at hi] at e; cases e
  · intro a
    cases e : mget m k with
    | none => rfl
    | some v =>
      obtain ⟨j, hj, hk⟩ := q.c k v e
      exact absurd hk (a _ (gt_mem hj))
theorem set_self (hi : i < h.length) : h.set i (gt h i) = h := by
  apply List.ext_getElem (by simp)
  intro n h1 h2
  rw [List.getElem_set]
  split
  · rename_i e; subst e; simp [gt, List.getD_eq_getElem?_getD, hi]
  · rfl
theorem set_perm (hi : i < h.length) : ∃ r, h.Perm (gt h i :: r) ∧ ∀ x, (h.set i x).Perm (x :: r) := by
  refine ⟨h.take i ++ h.drop (i + 1), ?_, fun x => ?_⟩
  · conv => lhs; rw [← List.take_append_drop i h, List.drop_eq_getElem_cons hi]
    have e : h[i] = gt h i := by simp [gt, List.getD_eq_getElem?_getD, hi]
    rw [e]
    exact List.perm_middle
  · rw [List.set_eq_take_append_cons_drop, if_pos hi]
    exact List.perm_middle
theorem swp_perm (hi : i < h.length) (hp : p < h.length) (hip : i ≠ p) : (swp h i p).Perm h := by
  obtain ⟨r, h1, h2⟩ := set_perm hi
  have hg : gt (h.set i (gt h p)) p = gt h p := gt_set_ne hip
  obtain ⟨s, h3, h4⟩ := set_perm (h := h.set i (gt h p)) (i := p) (by simpa using hp)
  rw [hg] at h3
  have e1 := (h2 (gt h p)).symm.trans h3
  have e2 : r.Perm s := (List.perm_cons _).1 e1
  exact (h4 (gt h i)).trans ((e2.symm.cons _).trans h1.symm)
theorem Pl.app (q : Pl h m) (e : mget m x.id = .none) : Pl (h ++ [x]) (mset m x.id h.length) := by
  have hn := q.none.1 e
  have hg : ∀ j, j < h.length → gt (h ++ [x]) j = gt h j := fun j hj => gt_app hj
  refine ⟨q.d.set, fun a b ha hb e => ?_, fun a ha _ => ?_, fun k v e => ?_⟩
  · simp only [List.length_append, List.length_cons, List.length_nil] at ha hb
    by_cases h1 : a < h.length <;> by_cases h2 : b < h.length
    · rw [hg a h1, hg b h2] at e; exact q.n _ _ h1 h2 e
    · rw [hg a h1, show b = h.length by omega, gt_last] at e; exact absurd e (hn _ (gt_mem h1))
    · rw [hg b h2, show a = h.length by omega, gt_last] at e; exact absurd e.symm (hn _ (gt_mem h2))
    · omega
  · simp only [List.length_append, List.length_cons, List.length_nil] at ha
    rw [mget_set q.d]
    by_cases h1 : a < h.length
    · rw [hg a h1, if_neg (hn _ (gt_mem h1))]; exact q.at h1
    · rw [show a = h.length by omega, gt_last]; simp
  · rw [mget_set q.d] at e
    split at e
    · rename_i hk; exact ⟨h.length, by simp, by rw [gt_last, hk]⟩
    · obtain ⟨a, ha, hk⟩ := q.c k v e
      exact ⟨a, by simp; omega, by rw [hg a ha, hk]⟩
theorem Pl.same (q : Pl h m) (hi : i < h.length) (e : x.id = (gt h i).id) : Pl (h.set i x) (mset m x.id i) := by
  have hg : ∀ j, j < h.length → (gt (h.set i x) j).id = (gt h j).id := fun j hj => by
    by_cases hj2 : i = j
    · subst hj2; rw [gt_set_eq hi, e]
    · rw [gt_set_ne hj2]
  refine ⟨q.d.set, fun a b ha hb e => ?_, fun a ha _ => ?_, fun k v e2 => ?_⟩
  · rw [List.length_set] at ha hb
    rw [hg a ha, hg b hb] at e; exact q.n _ _ ha hb e
  · rw [List.length_set] at ha
    rw [hg a ha, mget_set q.d]
    split
    · rename_i h1; rw [e] at h1; rw [q.n _ _ ha hi h1]
    · exact q.at ha
  · rw [mget_set q.d] at e2
    split at e2
    · rename_i hk; exact ⟨i, by simpa using hi, by rw [hg i hi, ← e, hk]⟩
    · obtain ⟨a, ha, hk⟩ := q.c k v e2
      exact ⟨a, by simpa using ha, by rw [hg a ha, hk]⟩
end
end Go.Proofs.YtdallmabajeajaaGreatDoor.Fw
set_option linter.all false
namespace Go.Proofs.YtdallmabajeajaaGreatDoor.Fw
section
variable {α : Type} [Inhabited α] (f t : α → Int)
def Runs (l : List α) : Prop := l.Pairwise (fun a b => t a + 1 < f b) ∧ ∀ r ∈ l, f r ≤ t r
def inR (l : List α) (n : Int) : Prop := ∃ r ∈ l, f r ≤ n ∧ n ≤ t r
variable {f t} {l A B : List α} {n m : Int} {i : Nat} {r x y z : α}
theorem Runs.app : Runs f t (A ++ B) ↔ Runs f t A ∧ Runs f t B ∧ ∀ a ∈ A, ∀ b ∈ B, t a + 1 < f b := by
  unfold Runs
  rw [List.pairwise_append]
  constructor
  · rintro ⟨⟨h1, h2, h3⟩, h4⟩
    exact ⟨⟨h1, fun r hr => h4 r (by simp [hr])⟩, ⟨h2, fun r hr => h4 r (by simp [hr])⟩, h3⟩
  · rintro ⟨⟨h1, h4⟩, ⟨h2, h5⟩, h3⟩
    refine ⟨⟨h1, h2, h3⟩, fun r hr => ?_⟩
    rcases List.mem_append.1 hr with hr | hr
    · exact h4 r hr
    · exact h5 r hr
theorem Runs.cons : Runs f t (r :: l) ↔ f r ≤ t r ∧ Runs f t l ∧ ∀ b ∈ l, t r + 1 < f b := by
  unfold Runs
  rw [List.pairwise_cons]
  constructor
  · rintro ⟨⟨h1, h2⟩, h3⟩
    exact ⟨h3 r (by simp), ⟨h2, fun x hx => h3 x (by simp [hx])⟩, h1⟩
  · rintro ⟨h1, ⟨h2, h3⟩, h4⟩
    refine ⟨⟨h4, h2⟩, fun x hx => ?_⟩
    rcases List.mem_cons.1 hx with rfl | hx
    · exact h1
    · exact h3 x hx
theorem Runs.nil : Runs f t [] := ⟨.nil, by simp⟩
theorem inR_app : inR f t (A ++ B) n ↔ inR f t A n ∨ inR f t B n := by
  unfold inR
  constructor
  · rintro ⟨r, hr, h⟩
    rcases List.mem_append.1 hr with hr | hr
    · exact .inl ⟨r, hr, h⟩
    · exact .inr ⟨r, hr, h⟩
  · rintro (⟨r, hr, h⟩ | ⟨r, hr, h⟩)
    · exact ⟨r, by simp [hr], h⟩
    · exact ⟨r, by simp [hr], h⟩
theorem inR_cons : inR f t (r :: l) n ↔ (f r ≤ n ∧ n ≤ t r) ∨ inR f t l n := by
  unfold inR; simp
theorem inR_nil : ¬ inR f t [] n := by simp [inR]
def PlaceR (t : α → Int) (l : List α) (n : Int) (i : Nat) : Prop := i ≤ l.length ∧ (∀ a ∈ l.take i, t a < n) ∧ (∀ b ∈ l.drop i, n ≤ t b)
theorem place_in (R : Runs f t l) (p : PlaceR t l n i) : inR f t l n ↔ i < l.length ∧ f (gt l i) ≤ n := by
  obtain ⟨h1, h2, h3⟩ := p
  conv => lhs; rw [← List.take_append_drop i l]
  rw [inR_app]
  have hA : ¬ inR f t (l.take i) n := by rintro ⟨r, hr, h⟩; have := h2 r hr; omega
  by_cases hi : i < l.length
  · have e : l.drop i = gt l i :: l.drop (i + 1) := by
      rw [List.drop_eq_getElem_cons hi]; simp [gt, hi]
    rw [e, inR_cons]
    have R' : Runs f t (l.drop i) := by rw [← List.take_append_drop i l] at R; exact (Runs.app.1 R).2.1
    rw [e, Runs.cons] at R'
    have h4 := h3 (gt l i) (by rw [e]; simp)
    constructor
    · rintro (h | h | ⟨r, hr, h⟩)
      · exact absurd h hA
      · exact ⟨hi, h.1⟩
      · have := R'.2.2 r hr; omega
    · rintro ⟨_, h⟩
      exact .inr (.inl ⟨h, h4⟩)
  · rw [List.drop_of_length_le (by omega)]
    simp [hA, inR_nil, hi]
theorem place_free (R : Runs f t l) (p : PlaceR t l n i) (hn : ¬ inR f t l n) : ∀ b ∈ l.drop i, n < f b := by
  intro b hb
  have := p.2.2 b hb
  by_cases h : n < f b
  · exact h
  · exact absurd ⟨b, List.mem_of_mem_drop hb, by omega, this⟩ hn
variable (A B) in
theorem lay_new (R : Runs f t (A ++ B)) (hA : ∀ a ∈ A, t a + 1 < n) (hB : ∀ b ∈ B, n + 1 < f b) (hf : f x = n) (ht : t x = n) : Runs f t (A ++ x :: B) ∧ ∀ m, inR f t (A ++ x :: B) m ↔ inR f t (A ++ B) m ∨ m = n := by
  rw [Runs.app] at R
  refine ⟨?_, fun m => ?_⟩
  · rw [Runs.app, Runs.cons]
    refine ⟨R.1, ⟨by omega, R.2.1, fun b hb => by have := hB b hb; omega⟩, fun a ha b hb => ?_⟩
    rcases List.mem_cons.1 hb with rfl | hb
    · have := hA a ha; omega
    · exact R.2.2 a ha b hb
  · rw [inR_app, inR_cons, inR_app, hf, ht]
    constructor
    · rintro (h | h | h)
      · exact .inl (.inl h)
      · right; omega
      · exact .inl (.inr h)
    · rintro ((h | h) | h)
      · exact .inl h
      · exact .inr (.inr h)
      · right; left; omega
theorem lay_left (R : Runs f t (A ++ r :: B)) (hr : t r = n - 1) (hB : ∀ b ∈ B, n + 1 < f b) (hf : f x = f r) (ht : t x = n) : Runs f t (A ++ x :: B) ∧ ∀ m, inR f t (A ++ x :: B) m ↔ inR f t (A ++ r :: B) m ∨ m = n := by
  rw [Runs.app, Runs.cons] at R
  obtain ⟨R1, ⟨R2, R3, R4⟩, R5⟩ := R
  refine ⟨?_, fun m => ?_⟩
  · rw [Runs.app, Runs.cons]
    refine ⟨R1, ⟨by omega, R3, fun b hb => by have := hB b hb; omega⟩, fun a ha b hb => ?_⟩
    rcases List.mem_cons.1 hb with rfl | hb
    · have := R5 a ha r (by simp); omega
    · exact R5 a ha b (by simp [hb])
  · rw [inR_app, inR_cons, inR_app, inR_cons, hf, ht, hr]
    constructor
    · rintro (h | h | h)
      · exact .inl (.inl h)
      · by_cases hm : m = n
        · exact .inr hm
        · exact .inl (.inr (.inl (by omega)))
      · exact .inl (.inr (.inr h))
    · rintro ((h | h | h) | h)
      · exact .inl h
      · exact .inr (.inl (by omega))
      · exact .inr (.inr h)
      · exact .inr (.inl (by omega))
theorem lay_right (R : Runs f t (A ++ r :: B)) (hr : f r = n + 1) (hA : ∀ a ∈ A, t a + 1 < n) (hf : f x = n) (ht : t x = t r) : Runs f t (A ++ x :: B) ∧ ∀ m, inR f t (A ++ x :: B) m ↔ inR f t (A ++ r :: B) m ∨ m = n := by
  rw [Runs.app, Runs.cons] at R
  obtain ⟨R1, ⟨R2, R3, R4⟩, R5⟩ := R
  refine ⟨?_, fun m => ?_⟩
  · rw [Runs.app, Runs.cons]
    refine ⟨R1, ⟨by omega, R3, fun b hb => by have := R4 b hb; omega⟩, fun a ha b hb => ?_⟩
    rcases List.mem_cons.1 hb with rfl | hb
    · have := hA a ha; omega
    · exact R5 a ha b (by simp [hb])
  · rw [inR_app, inR_cons, inR_app, inR_cons, hf, ht, hr]
    constructor
    · rintro (h | h | h)
      · exact .inl (.inl h)
      · by_cases hm : m = n
        · exact .inr hm
        · exact .inl (.inr (.inl (by omega)))
      · exact .inl (.inr (.inr h))
    · rintro ((h | h | h) | h)
      · exact .inl h
      · exact .inr (.inl (by omega))
      · exact .inr (.inr h)
      · exact .inr (.inl (by omega))
theorem lay_both (R : Runs f t (A ++ r :: y :: B)) (hr : t r = n - 1) (hy : f y = n + 1) (hf : f x = f r) (ht : t x = t y) : Runs f t (A ++ x :: B) ∧ ∀ m, inR f t (A ++ x :: B) m ↔ inR f t (A ++ r :: y :: B) m ∨ m = n := by
  rw [Runs.app, Runs.cons, Runs.cons] at R
  obtain ⟨R1, ⟨R2, ⟨R3, R4, R6⟩, R7⟩, R5⟩ := R
  refine ⟨?_, fun m => ?_⟩
  · rw [Runs.app, Runs.cons]
    refine ⟨R1, ⟨by omega, R4, fun b hb => by have := R6 b hb; omega⟩, fun a ha b hb => ?_⟩
    rcases List.mem_cons.1 hb with rfl | hb
    · have := R5 a ha r (by simp); omega
    · exact R5 a ha b (by simp [hb])
  · rw [inR_app, inR_cons, inR_app, inR_cons, inR_cons, hf, ht, hr, hy]
    constructor
    · rintro (h | h | h)
      · exact .inl (.inl h)
      · by_cases hm : m = n
        · exact .inr hm
        · by_cases hm2 : m ≤ n - 1
          · exact .inl (.inr (.inl (by omega)))
          · exact .inl (.inr (.inr (.inl (by omega))))
      · exact .inl (.inr (.inr (.inr h)))
    · rintro ((h | h | h | h) | h)
      · exact .inl h
      · exact .inr (.inl (by omega))
      · exact .inr (.inl (by omega))
      · exact .inr (.inr h)
      · exact .inr (.inl (by omega))
theorem free_run {L : List α} (R : Runs f t (A ++ r :: B)) (hr : f r ≤ n ∧ n ≤ t r) (hL : Runs f t L) (h1 : ∀ x ∈ L, f r ≤ f x ∧ t x ≤ t r) (h2 : ∀ m, inR f t L m ↔ f r ≤ m ∧ m ≤ t r ∧ m ≠ n) : Runs f t (A ++ L ++ B) ∧ ∀ m, inR f t (A ++ L ++ B) m ↔ inR f t (A ++ r :: B) m ∧ m ≠ n := by
  rw [Runs.app, Runs.cons] at R
  obtain ⟨R1, ⟨R2, R3, R4⟩, R5⟩ := R
  refine ⟨?_, fun m => ?_⟩
  · rw [Runs.app, Runs.app]
    refine ⟨⟨R1, hL, fun a ha b hb => ?_⟩, R3, fun a ha b hb => ?_⟩
    · have := R5 a ha r (by simp); have := h1 b hb; omega
    · rcases List.mem_append.1 ha with ha | ha
      · exact R5 a ha b (by simp [hb])
      · have := R4 b hb; have := h1 a ha; omega
  · rw [inR_app, inR_app, inR_app, inR_cons, h2]
    constructor
    · rintro ((h | h) | h)
      · obtain ⟨a, ha, h3⟩ := h
        have := R5 a ha r (by simp)
        exact ⟨.inl ⟨a, ha, h3⟩, by omega⟩
      · exact ⟨.inr (.inl ⟨h.1, h.2.1⟩), h.2.2⟩
      · obtain ⟨b, hb, h3⟩ := h
        have := R4 b hb
        exact ⟨.inr (.inr ⟨b, hb, h3⟩), by omega⟩
    · rintro ⟨h | h | h, h3⟩
      · exact .inl (.inl h)
      · exact .inl (.inr ⟨h.1, h.2, h3⟩)
      · exact .inr h
end
end Go.Proofs.YtdallmabajeajaaGreatDoor.Fw
set_option linter.all false
set_option maxHeartbeats 4000000
set_option maxRecDepth 100000
namespace Go.Proofs.YtdallmabajeajaaGreatDoor.Fw
open Go
theorem mask_c (n : Int) (h0 : 0 ≤ n) (h1 : n ≤ 32) (R : Hh) : Ctp Tryz.prog 99 [.int .i64 n] R [] (.int .u32 (maskM n)) := by
  refine in_ Tryz.func99 fun w0 => ?_
  refine if_ (fun h => ?_) (fun h => ?_) <;> refine re_ ?_ <;> simp_all [maskM, pack, IntKind.bits]
instance (n : Int) (R : Hh) : Cp 99 [.int .i64 n] R [] (0 ≤ n ∧ n ≤ 32) (.int .u32 (maskM n)) := ⟨fun h => mask_c n h.1 h.2 R⟩
theorem fault_c (p : QPrefix) (R : Hh) : Ctp Tryz.prog 102 [.agg ⟨cPrefix p⟩] R [] (.int .i64 (faultM p)) := by
  refine in_ Tryz.func102 fun w0 => ?_
  refine bo_' fun b => ?_
  refine if_ (fun h => ?_) (fun h => ?_)
  · refine re_ ?_
    grind [faultM, pack]
  · refine if_ (fun h => ?_) (fun h => ?_) <;> refine re_ ?_ <;> grind [faultM, pack]
instance (p : QPrefix) (R : Hh) : Cp 102 [.agg ⟨cPrefix p⟩] R [] True (.int .i64 (faultM p)) := ⟨fun _ => fault_c p R⟩
theorem valid_c (p : QPrefix) (R : Hh) : Ctp Tryz.prog 59 [.agg ⟨cPrefix p⟩] R [] (.bool (validM p)) := by
  refine in_ Tryz.func59 fun w0 => ?_
  refine bo_' fun b => ?_
  refine re_ ?_
  simp only [validM, pack, Value.bool.injEq]; rfl
instance (p : QPrefix) (R : Hh) : Cp 59 [.agg ⟨cPrefix p⟩] R [] True (.bool (validM p)) := ⟨fun _ => valid_c p R⟩
theorem validM_len {p : QPrefix} (h : validM p = true) : 0 ≤ p.Len ∧ p.Len ≤ 32 := by
  unfold validM faultM at h
  rw [decide_eq_true_eq] at h
  split at h <;> omega
instance (p : QPrefix) (R : Hh) : Cp 99 [.int .i64 p.Len] R [] (validM p = true) (.int .u32 (maskM p.Len)) := ⟨fun h => mask_c p.Len (validM_len h).1 (validM_len h).2 R⟩
theorem cont_c (p : QPrefix) (a : Int) (R : Hh) : Ctp Tryz.prog 57 [.agg ⟨cPrefix p⟩, .int .u32 a] R [] (.bool (contM p a)) := by
  refine in_ Tryz.func57 fun w0 => ?_
  refine bo_' fun b => ?_
  refine re_ ?_
  simp only [contM, pack, Value.bool.injEq]; cases validM p <;> rfl
instance (p : QPrefix) (a : Int) (R : Hh) : Cp 57 [.agg ⟨cPrefix p⟩, .int .u32 a] R [] True (.bool (contM p a)) := ⟨fun _ => cont_c p a R⟩
/-! ### time -/
def afterM (x y : Int) : Int := if ((decide (x > 0) && decide (y > 0)) && decide (IntKind.i64.wrap (x + y) < 0)) = true then 9223372036854775807
  else if ((decide (x < 0) && decide (y < 0)) && decide (IntKind.i64.wrap (x + y) ≥ 0)) = true then -9223372036854775808 else IntKind.i64.wrap (x + y)
theorem after_c (x y : Int) (R : Hh) : Ctp Tryz.prog 125 [.int .i64 x, .int .i64 y] R [] (.int .i64 (afterM x y)) := by
  refine in_ Tryz.func125 fun w0 => ?_
  refine if_ (fun h => ?_) (fun h => ?_)
  · refine re_ ?_
    grind [afterM, pack]
  · refine if_ (fun h => ?_) (fun h => ?_) <;> refine re_ ?_ <;> grind [afterM, pack]
instance (x y : Int) (R : Hh) : Cp 125 [.int .i64 x, .int .i64 y] R [] True (.int .i64 (afterM x y)) := ⟨fun _ => after_c x y R⟩
theorem after_eq {a n : Int} (h0 : 0 ≤ a) (h1 : a ≤ never) (h2 : 0 ≤ n) (h3 : n ≤ never) : afterM a n = aft a n := by
  unfold afterM aft never at *
  simp only [IntKind.wrap, IntKind.bits, IntKind.signed]
  grind
theorem ahead_c (a b : Qtimer_one) (R : Hh) : Ctp Tryz.prog 187 [.agg ⟨ctimer_one a⟩, .agg ⟨ctimer_one b⟩] R [] (.bool (decide (ahead a b))) := by
  refine in_ Tryz.func187 fun w0 => ?_
  refine bo_' fun p => ?_
  refine bo_' fun q => ?_
  refine re_ ?_
  simp only [pack, Value.bool.injEq]; rw [Bool.eq_iff_iff, decide_eq_true_eq]; simp [ahead]
instance (a b : Qtimer_one) (R : Hh) : Cp 187 [.agg ⟨ctimer_one a⟩, .agg ⟨ctimer_one b⟩] R [] True (.bool (decide (ahead a b))) := ⟨fun _ => ahead_c a b R⟩
end Go.Proofs.YtdallmabajeajaaGreatDoor.Fw
set_option linter.all false
set_option maxHeartbeats 4000000
set_option maxRecDepth 100000
namespace Go.Proofs.YtdallmabajeajaaGreatDoor.Fw
open Go
theorem aligned_c (a n : Int) (R : Hh) : Ctp Tryz.prog 119 [.int .u32 a, .int .i64 n] R [] (.bool (validM ⟨a, n⟩)) := by
  refine in_ Tryz.func119 fun w0 => ?_
  refine re_ ?_
  simp only [pack]
instance (a n : Int) (R : Hh) : Cp 119 [.int .u32 a, .int .i64 n] R [] True (.bool (validM ⟨a, n⟩)) := ⟨fun _ => aligned_c a n R⟩
def poolM (p : QPrefix) (n lo hi : Int) : Int := if validM p = false then 11 else if n < p.Len ∨ 32 < n ∨ hi < lo then 1 else if validM ⟨lo, n⟩ = false ∨ validM ⟨hi, n⟩ = false then 100 else if contM p lo = false ∨ contM p hi = false then 101 else 0
theorem poolfault_c (p : QPrefix) (n lo hi : Int) (R : Hh) : Ctp Tryz.prog 90 [.agg ⟨cPrefix p⟩, .int .i64 n, .int .u32 lo, .int .u32 hi] R [] (.int .i64 (poolM p n lo hi)) := by
  refine in_ Tryz.func90 fun w0 => ?_
  refine bo_' fun b => ?_
  refine if_ (fun h1 => ?_) (fun h1 => ?_)
  · refine re_ ?_; grind [poolM, pack]
  · refine if_ (fun h2 => ?_) (fun h2 => ?_)
    · refine re_ ?_; grind [poolM, pack]
    · refine if_ (fun h3 => ?_) (fun h3 => ?_)
      · refine re_ ?_; grind [poolM, pack]
      · refine if_ (fun h4 => ?_) (fun h4 => ?_) <;> refine re_ ?_ <;> grind [poolM, pack]
instance (p : QPrefix) (n lo hi : Int) (R : Hh) : Cp 90 [.agg ⟨cPrefix p⟩, .int .i64 n, .int .u32 lo, .int .u32 hi] R [] True (.int .i64 (poolM p n lo hi)) := ⟨fun _ => poolfault_c p n lo hi R⟩
end Go.Proofs.YtdallmabajeajaaGreatDoor.Fw
