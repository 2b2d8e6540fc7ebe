/-
  Model types of the structs that hold no memory, and their cells: written by wip/tool/mkseat.py.
-/
import Derived.Test.YtnbpodjbemfpbaaGreatFw15
set_option linter.unusedVariables false
set_option linter.all false
namespace Go.Proofs.YtnbpodjbemfpbaaGreat.Fw
open Go
structure TPrefix where
  Addr : Fx .u32
  Len : Fx .i64
  deriving DecidableEq
def cPrefix (x : TPrefix) : List Value := [.int .u32 x.Addr.v, .int .i64 x.Len.v]
def kPrefix : List LK := [.i .u32, .i .i64]
theorem fPrefix (x : TPrefix) : fitAll kPrefix (cPrefix x) = true := rfl
theorem iPrefix (x y : TPrefix) : decide (x = y) = true ↔ cPrefix x = cPrefix y := by
  rw [decide_eq_true_eq]
  refine ⟨fun h => by rw [h], fun h => ?_⟩
  obtain ⟨⟨x0, hx0⟩, ⟨x1, hx1⟩⟩ := x
  obtain ⟨⟨y0, hy0⟩, ⟨y1, hy1⟩⟩ := y
  simp only [cPrefix, List.cons.injEq, Value.int.injEq, Value.bool.injEq, Value.string.injEq, true_and, and_true] at h
  obtain ⟨rfl, rfl⟩ := h
  rfl
structure TMAC where
  b0 : Fx .u8
  b1 : Fx .u8
  b2 : Fx .u8
  b3 : Fx .u8
  b4 : Fx .u8
  b5 : Fx .u8
  deriving DecidableEq
def cMAC (x : TMAC) : List Value := [.int .u8 x.b0.v, .int .u8 x.b1.v, .int .u8 x.b2.v, .int .u8 x.b3.v, .int .u8 x.b4.v, .int .u8 x.b5.v]
def kMAC : List LK := [.i .u8, .i .u8, .i .u8, .i .u8, .i .u8, .i .u8]
theorem fMAC (x : TMAC) : fitAll kMAC (cMAC x) = true := rfl
theorem iMAC (x y : TMAC) : decide (x = y) = true ↔ cMAC x = cMAC y := by
  rw [decide_eq_true_eq]
  refine ⟨fun h => by rw [h], fun h => ?_⟩
  obtain ⟨⟨x0, hx0⟩, ⟨x1, hx1⟩, ⟨x2, hx2⟩, ⟨x3, hx3⟩, ⟨x4, hx4⟩, ⟨x5, hx5⟩⟩ := x
  obtain ⟨⟨y0, hy0⟩, ⟨y1, hy1⟩, ⟨y2, hy2⟩, ⟨y3, hy3⟩, ⟨y4, hy4⟩, ⟨y5, hy5⟩⟩ := y
  simp only [cMAC, List.cons.injEq, Value.int.injEq, Value.bool.injEq, Value.string.injEq, true_and, and_true] at h
  obtain ⟨rfl, rfl, rfl, rfl, rfl, rfl⟩ := h
  rfl
structure TLease where
  Host : Fx .i64
  Subnet : TPrefix
  Pub : Fx .u32
  MAC : TMAC
  Until : Fx .i64
  Rev : Fx .i64
  deriving DecidableEq
def cLease (x : TLease) : List Value := [.int .i64 x.Host.v, .int .u32 x.Subnet.Addr.v, .int .i64 x.Subnet.Len.v, .int .u32 x.Pub.v, .int .u8 x.MAC.b0.v, .int .u8 x.MAC.b1.v, .int .u8 x.MAC.b2.v, .int .u8 x.MAC.b3.v, .int .u8 x.MAC.b4.v, .int .u8 x.MAC.b5.v, .int .i64 x.Until.v, .int .i64 x.Rev.v]
structure TRoute where
  Dst : TPrefix
  Via : Fx .u32
  Local : Bool
  deriving DecidableEq
def cRoute (x : TRoute) : List Value := [.int .u32 x.Dst.Addr.v, .int .i64 x.Dst.Len.v, .int .u32 x.Via.v, .bool x.Local]
theorem lRoute (x : TRoute) : (cRoute x).length = 4 := rfl
def kRoute : List LK := [.i .u32, .i .i64, .i .u32, .b]
theorem fRoute (x : TRoute) : fitAll kRoute (cRoute x) = true := rfl
theorem iRoute (x y : TRoute) : decide (x = y) = true ↔ cRoute x = cRoute y := by
  rw [decide_eq_true_eq]
  refine ⟨fun h => by rw [h], fun h => ?_⟩
  obtain ⟨⟨⟨x00, hx00⟩, ⟨x01, hx01⟩⟩, ⟨x1, hx1⟩, x2⟩ := x
  obtain ⟨⟨⟨y00, hy00⟩, ⟨y01, hy01⟩⟩, ⟨y1, hy1⟩, y2⟩ := y
  simp only [cRoute, List.cons.injEq, Value.int.injEq, Value.bool.injEq, Value.string.injEq, true_and, and_true] at h
  obtain ⟨rfl, rfl, rfl, rfl⟩ := h
  rfl
structure TNeigh where
  IP : Fx .u32
  MAC : TMAC
  deriving DecidableEq
def cNeigh (x : TNeigh) : List Value := [.int .u32 x.IP.v, .int .u8 x.MAC.b0.v, .int .u8 x.MAC.b1.v, .int .u8 x.MAC.b2.v, .int .u8 x.MAC.b3.v, .int .u8 x.MAC.b4.v, .int .u8 x.MAC.b5.v]
theorem lNeigh (x : TNeigh) : (cNeigh x).length = 7 := rfl
def kNeigh : List LK := [.i .u32, .i .u8, .i .u8, .i .u8, .i .u8, .i .u8, .i .u8]
theorem fNeigh (x : TNeigh) : fitAll kNeigh (cNeigh x) = true := rfl
theorem iNeigh (x y : TNeigh) : decide (x = y) = true ↔ cNeigh x = cNeigh y := by
  rw [decide_eq_true_eq]
  refine ⟨fun h => by rw [h], fun h => ?_⟩
  obtain ⟨⟨x0, hx0⟩, ⟨⟨x10, hx10⟩, ⟨x11, hx11⟩, ⟨x12, hx12⟩, ⟨x13, hx13⟩, ⟨x14, hx14⟩, ⟨x15, hx15⟩⟩⟩ := x
  obtain ⟨⟨y0, hy0⟩, ⟨⟨y10, hy10⟩, ⟨y11, hy11⟩, ⟨y12, hy12⟩, ⟨y13, hy13⟩, ⟨y14, hy14⟩, ⟨y15, hy15⟩⟩⟩ := y
  simp only [cNeigh, List.cons.injEq, Value.int.injEq, Value.bool.injEq, Value.string.injEq, true_and, and_true] at h
  obtain ⟨rfl, rfl, rfl, rfl, rfl, rfl, rfl⟩ := h
  rfl
structure TFdb where
  MAC : TMAC
  To : Fx .u32
  deriving DecidableEq
def cFdb (x : TFdb) : List Value := [.int .u8 x.MAC.b0.v, .int .u8 x.MAC.b1.v, .int .u8 x.MAC.b2.v, .int .u8 x.MAC.b3.v, .int .u8 x.MAC.b4.v, .int .u8 x.MAC.b5.v, .int .u32 x.To.v]
theorem lFdb (x : TFdb) : (cFdb x).length = 7 := rfl
def kFdb : List LK := [.i .u8, .i .u8, .i .u8, .i .u8, .i .u8, .i .u8, .i .u32]
theorem fFdb (x : TFdb) : fitAll kFdb (cFdb x) = true := rfl
theorem iFdb (x y : TFdb) : decide (x = y) = true ↔ cFdb x = cFdb y := by
  rw [decide_eq_true_eq]
  refine ⟨fun h => by rw [h], fun h => ?_⟩
  obtain ⟨⟨⟨x00, hx00⟩, ⟨x01, hx01⟩, ⟨x02, hx02⟩, ⟨x03, hx03⟩, ⟨x04, hx04⟩, ⟨x05, hx05⟩⟩, ⟨x1, hx1⟩⟩ := x
  obtain ⟨⟨⟨y00, hy00⟩, ⟨y01, hy01⟩, ⟨y02, hy02⟩, ⟨y03, hy03⟩, ⟨y04, hy04⟩, ⟨y05, hy05⟩⟩, ⟨y1, hy1⟩⟩ := y
  simp only [cFdb, List.cons.injEq, Value.int.injEq, Value.bool.injEq, Value.string.injEq, true_and, and_true] at h
  obtain ⟨rfl, rfl, rfl, rfl, rfl, rfl, rfl⟩ := h
  rfl
structure TOp where
  Kind : Fx .i64
  Route : TRoute
  Neigh : TNeigh
  Fdb : TFdb
  deriving DecidableEq
def cOp (x : TOp) : List Value := [.int .i64 x.Kind.v, .int .u32 x.Route.Dst.Addr.v, .int .i64 x.Route.Dst.Len.v, .int .u32 x.Route.Via.v, .bool x.Route.Local, .int .u32 x.Neigh.IP.v, .int .u8 x.Neigh.MAC.b0.v, .int .u8 x.Neigh.MAC.b1.v, .int .u8 x.Neigh.MAC.b2.v, .int .u8 x.Neigh.MAC.b3.v, .int .u8 x.Neigh.MAC.b4.v, .int .u8 x.Neigh.MAC.b5.v, .int .u8 x.Fdb.MAC.b0.v, .int .u8 x.Fdb.MAC.b1.v, .int .u8 x.Fdb.MAC.b2.v, .int .u8 x.Fdb.MAC.b3.v, .int .u8 x.Fdb.MAC.b4.v, .int .u8 x.Fdb.MAC.b5.v, .int .u32 x.Fdb.To.v]
def kOp : List LK := [.i .i64, .i .u32, .i .i64, .i .u32, .b, .i .u32, .i .u8, .i .u8, .i .u8, .i .u8, .i .u8, .i .u8, .i .u8, .i .u8, .i .u8, .i .u8, .i .u8, .i .u8, .i .u32]
theorem fOp (x : TOp) : fitAll kOp (cOp x) = true := rfl
theorem iOp (x y : TOp) : decide (x = y) = true ↔ cOp x = cOp y := by
  rw [decide_eq_true_eq]
  refine ⟨fun h => by rw [h], fun h => ?_⟩
  obtain ⟨⟨x0, hx0⟩, ⟨⟨⟨x100, hx100⟩, ⟨x101, hx101⟩⟩, ⟨x11, hx11⟩, x12⟩, ⟨⟨x20, hx20⟩, ⟨⟨x210, hx210⟩, ⟨x211, hx211⟩, ⟨x212, hx212⟩, ⟨x213, hx213⟩, ⟨x214, hx214⟩, ⟨x215, hx215⟩⟩⟩, ⟨⟨⟨x300, hx300⟩, ⟨x301, hx301⟩, ⟨x302, hx302⟩, ⟨x303, hx303⟩, ⟨x304, hx304⟩, ⟨x305, hx305⟩⟩, ⟨x31, hx31⟩⟩⟩ := x
  obtain ⟨⟨y0, hy0⟩, ⟨⟨⟨y100, hy100⟩, ⟨y101, hy101⟩⟩, ⟨y11, hy11⟩, y12⟩, ⟨⟨y20, hy20⟩, ⟨⟨y210, hy210⟩, ⟨y211, hy211⟩, ⟨y212, hy212⟩, ⟨y213, hy213⟩, ⟨y214, hy214⟩, ⟨y215, hy215⟩⟩⟩, ⟨⟨⟨y300, hy300⟩, ⟨y301, hy301⟩, ⟨y302, hy302⟩, ⟨y303, hy303⟩, ⟨y304, hy304⟩, ⟨y305, hy305⟩⟩, ⟨y31, hy31⟩⟩⟩ := y
  simp only [cOp, List.cons.injEq, Value.int.injEq, Value.bool.injEq, Value.string.injEq, true_and, and_true] at h
  obtain ⟨rfl, rfl, rfl, rfl, rfl, rfl, rfl, rfl, rfl, rfl, rfl, rfl, rfl, rfl, rfl, rfl, rfl, rfl, rfl⟩ := h
  rfl
structure TSelf where
  Host : Fx .i64
  Pub : Fx .u32
  MAC : TMAC
  Renew : Fx .i64
  deriving DecidableEq
def cSelf (x : TSelf) : List Value := [.int .i64 x.Host.v, .int .u32 x.Pub.v, .int .u8 x.MAC.b0.v, .int .u8 x.MAC.b1.v, .int .u8 x.MAC.b2.v, .int .u8 x.MAC.b3.v, .int .u8 x.MAC.b4.v, .int .u8 x.MAC.b5.v, .int .i64 x.Renew.v]
structure TAnswer where
  Err : Fx .i64
  Lease : TLease
  Rev : Fx .i64
  Now : Fx .i64
  deriving DecidableEq
def cAnswer (x : TAnswer) : List Value := [.int .i64 x.Err.v, .int .i64 x.Lease.Host.v, .int .u32 x.Lease.Subnet.Addr.v, .int .i64 x.Lease.Subnet.Len.v, .int .u32 x.Lease.Pub.v, .int .u8 x.Lease.MAC.b0.v, .int .u8 x.Lease.MAC.b1.v, .int .u8 x.Lease.MAC.b2.v, .int .u8 x.Lease.MAC.b3.v, .int .u8 x.Lease.MAC.b4.v, .int .u8 x.Lease.MAC.b5.v, .int .i64 x.Lease.Until.v, .int .i64 x.Lease.Rev.v, .int .i64 x.Rev.v, .int .i64 x.Now.v]
structure TCmd where
  Kind : Fx .i64
  Host : Fx .i64
  Subnet : TPrefix
  Pub : Fx .u32
  MAC : TMAC
  N : Fx .i64
  deriving DecidableEq
structure TReq where
  Kind : Fx .i64
  Cmd : TCmd
  Op : TOp
  From : Fx .i64
  Max : Fx .i64
  deriving DecidableEq
def cReq (x : TReq) : List Value := [.int .i64 x.Kind.v, .int .i64 x.Cmd.Kind.v, .int .i64 x.Cmd.Host.v, .int .u32 x.Cmd.Subnet.Addr.v, .int .i64 x.Cmd.Subnet.Len.v, .int .u32 x.Cmd.Pub.v, .int .u8 x.Cmd.MAC.b0.v, .int .u8 x.Cmd.MAC.b1.v, .int .u8 x.Cmd.MAC.b2.v, .int .u8 x.Cmd.MAC.b3.v, .int .u8 x.Cmd.MAC.b4.v, .int .u8 x.Cmd.MAC.b5.v, .int .i64 x.Cmd.N.v, .int .i64 x.Op.Kind.v, .int .u32 x.Op.Route.Dst.Addr.v, .int .i64 x.Op.Route.Dst.Len.v, .int .u32 x.Op.Route.Via.v, .bool x.Op.Route.Local, .int .u32 x.Op.Neigh.IP.v, .int .u8 x.Op.Neigh.MAC.b0.v, .int .u8 x.Op.Neigh.MAC.b1.v, .int .u8 x.Op.Neigh.MAC.b2.v, .int .u8 x.Op.Neigh.MAC.b3.v, .int .u8 x.Op.Neigh.MAC.b4.v, .int .u8 x.Op.Neigh.MAC.b5.v, .int .u8 x.Op.Fdb.MAC.b0.v, .int .u8 x.Op.Fdb.MAC.b1.v, .int .u8 x.Op.Fdb.MAC.b2.v, .int .u8 x.Op.Fdb.MAC.b3.v, .int .u8 x.Op.Fdb.MAC.b4.v, .int .u8 x.Op.Fdb.MAC.b5.v, .int .u32 x.Op.Fdb.To.v, .int .i64 x.From.v, .int .i64 x.Max.v]
structure Tagent_way where
  neigh : Bool
  entry : Bool
  mac : TMAC
  to : Fx .u32
  deriving DecidableEq
def cagent_way (x : Tagent_way) : List Value := [.bool x.neigh, .bool x.entry, .int .u8 x.mac.b0.v, .int .u8 x.mac.b1.v, .int .u8 x.mac.b2.v, .int .u8 x.mac.b3.v, .int .u8 x.mac.b4.v, .int .u8 x.mac.b5.v, .int .u32 x.to.v]
def kagent_way : List LK := [.b, .b, .i .u8, .i .u8, .i .u8, .i .u8, .i .u8, .i .u8, .i .u32]
theorem fagent_way (x : Tagent_way) : fitAll kagent_way (cagent_way x) = true := rfl
theorem iagent_way (x y : Tagent_way) : decide (x = y) = true ↔ cagent_way x = cagent_way y := by
  rw [decide_eq_true_eq]
  refine ⟨fun h => by rw [h], fun h => ?_⟩
  obtain ⟨x0, x1, ⟨⟨x20, hx20⟩, ⟨x21, hx21⟩, ⟨x22, hx22⟩, ⟨x23, hx23⟩, ⟨x24, hx24⟩, ⟨x25, hx25⟩⟩, ⟨x3, hx3⟩⟩ := x
  obtain ⟨y0, y1, ⟨⟨y20, hy20⟩, ⟨y21, hy21⟩, ⟨y22, hy22⟩, ⟨y23, hy23⟩, ⟨y24, hy24⟩, ⟨y25, hy25⟩⟩, ⟨y3, hy3⟩⟩ := y
  simp only [cagent_way, List.cons.injEq, Value.int.injEq, Value.bool.injEq, Value.string.injEq, true_and, and_true] at h
  obtain ⟨rfl, rfl, rfl, rfl, rfl, rfl, rfl, rfl, rfl⟩ := h
  rfl
structure Tweftref16_Way where
  N : TNeigh
  F : TFdb
  Count : Fx .i64
  deriving DecidableEq
end Go.Proofs.YtnbpodjbemfpbaaGreat.Fw
