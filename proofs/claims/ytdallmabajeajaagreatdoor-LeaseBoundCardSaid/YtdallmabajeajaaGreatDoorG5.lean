/-
  Own work: walks and laws, joined by wip/tool/compact.py.
-/
import Derived.Test.YtdallmabajeajaaGreatDoorG4
import Derived.ProofKit
import Derived.OpenShut
import Derived.JoinedCond
import Derived.Carry
import Derived.Deep.Slices
import Derived.Test.YtdallmabajeajaaGreatDoorRows
import Derived.Deep.DeepWitnessRowRef
import Derived.LaidMore
import Derived.KernelRfl
set_option linter.all false
set_option linter.all false
set_option maxHeartbeats 4000000
set_option maxRecDepth 100000
namespace Go.Proofs.YtdallmabajeajaaGreatDoor.Fw
open Go
section
variable {n : Nat} {w0 : World} {R : Hh} {Ps : List HP} {L : List (Nat × Value)} {ops : Array Oper} {Q : Exit → Act → World → Prop} {rest : List Oper} {d : Nat} {x : Operand} {ty T : TypeId} {pos : String} {aft : Array Edge} {v : Value} {C : World → Prop} {g : Nat} {z : Nat}
theorem gl_ {L1 : List (Nat × Value)} {Ps1 : List HP} {F1 : GF} (k : Gl n w0 R L1 Ps1 F1) (hc : CellsAt R ⟨g, 0, none⟩ [v] := by assumption) (ht : tyI Tryz.prog T = some (false, z) := by exact tt rfl) (hd : Nat.blt d n = true := by rfl) (r : Av n w0 R ((d, v) :: L) Ps (.li Tryz.prog ops Q rest) L1 Ps1 F1 := by (repeat (apply x_; exact A3_)); exact av_r) :
    Gl n w0 R L Ps (.li Tryz.prog ops Q (⟨some d, .load T (.global g), ty, pos, aft, none⟩ :: rest)) := fun a w hs m =>
  (p_ (C := Hp w0 R Ps) (ok_load_sc (p := ⟨g, 0, none⟩) (o := 0) (cs := [v]) rfl ht (fr_at hc) rfl) hd).g _ _ _ _ hs m fun a hs => r.g k a w hs m
end
theorem cnt0 {a : Int} : Cnt ⟨0, 8⟩ a ↔ 0 ≤ a ∧ a < 16777216 := by
  have e : pw 8 = 16777216 := by decide
  simp only [Cnt, Vld, e]; omega
theorem cnt1 {a : Int} : Cnt ⟨2130706432, 8⟩ a ↔ 2130706432 ≤ a ∧ a < 2147483648 := by
  have e : pw 8 = 16777216 := by decide
  simp only [Cnt, Vld, e]; omega
theorem cnt2 {a : Int} : Cnt ⟨3758096384, 4⟩ a ↔ 3758096384 ≤ a ∧ a < 4026531840 := by
  have e : pw 4 = 268435456 := by decide
  simp only [Cnt, Vld, e]; omega
theorem cnt3 {a : Int} : Cnt ⟨4026531840, 4⟩ a ↔ 4026531840 ≤ a ∧ a < 4294967296 := by
  have e : pw 4 = 268435456 := by decide
  simp only [Cnt, Vld, e]; omega
theorem cls_at {a : Int} (a0 : 0 ≤ a) (a1 : a < 4294967296) {k : Nat} (hk : k < 4) (h1 : Cnt (el clsL (k : Nat)).at_ a) : cls a = (el clsL (k : Nat)).num := by
  have h5 : k = 0 ∨ k = 1 ∨ k = 2 ∨ k = 3 := by omega
  unfold cls
  rcases h5 with h | h | h | h <;> subst h
  · have := cnt0.1 h1; rw [if_pos (by omega)]; rfl
  · have := cnt1.1 h1; rw [if_neg (by omega), if_pos (by omega)]; rfl
  · have := cnt2.1 h1; rw [if_neg (by omega), if_neg (by omega), if_neg (by omega), if_pos (by omega)]; rfl
  · have := cnt3.1 h1; rw [if_neg (by omega), if_neg (by omega), if_pos (by omega)]; rfl
theorem cls_no {a : Int} (a0 : 0 ≤ a) (a1 : a < 4294967296) (h : ∀ k : Nat, k < 4 → ¬ Cnt (el clsL k).at_ a) : cls a = 0 := by
  have h0 : ¬ (0 ≤ a ∧ a < 16777216) := fun h' => h 0 (by omega) (cnt0.2 h')
  have h1 : ¬ (2130706432 ≤ a ∧ a < 2147483648) := fun h' => h 1 (by omega) (cnt1.2 h')
  have h2 : ¬ (3758096384 ≤ a ∧ a < 4026531840) := fun h' => h 2 (by omega) (cnt2.2 h')
  have h3 : ¬ (4026531840 ≤ a ∧ a < 4294967296) := fun h' => h 3 (by omega) (cnt3.2 h')
  unfold cls
  rw [if_neg (by omega), if_neg (by omega), if_neg (by omega), if_neg (by omega)]
theorem class_c (a : Int) (a0 : 0 ≤ a) (a1 : a < 4294967296) (X : SH) (R : Hh) (h : ClsR R X) : Ctp Tryz.prog 87 [.int .u32 a] R [] (.int .i64 (cls a)) := by
  have hg := h.g
  have hx := h.l
  have key : ∀ k, k < 4 → (contM (el clsL (k : Nat)).at_ a = true ↔ Cnt (el clsL (k : Nat)).at_ a) := fun k hk => by
    have h5 : k = 0 ∨ k = 1 ∨ k = 2 ∨ k = 3 := by omega
    rcases h5 with h | h | h | h <;> subst h <;> exact contM_iff (by decide) (by decide) a0 a1
  refine in_ Tryz.func87 fun w0 => ?_
  refine gl_ ?_
  refine lo_ (fun k : Nat => [(7, .int .i64 k)]) (fun _ => []) (fun k => k ≤ 4 ∧ ∀ j : Nat, j < k → contM (el clsL j).at_ a = false) (fun k => 4 - k) 0 ⟨by omega, by omega⟩ fun k hk => ?_
  have hcl : clsL.length = 4 := rfl
  refine if_ (fun c1 => ?_) (fun c1 => ?_)
  · have hk4 : k < 4 := by omega
    refine ax_ fun b => ?_
    refine if_ (fun c2 => ?_) (fun c2 => ?_)
    · refine re_ ?_
      rw [cls_at a0 a1 hk4 ((key k hk4).1 c2)]; rfl
    · refine ba_ (k + 1) ⟨by omega, fun j hj => ?_⟩ (by omega)
      by_cases hjk : j < k
      · exact hk.2 j hjk
      · have : j = k := by omega
        subst this
        first | exact c2 | exact Bool.eq_false_iff.2 c2
  · have hk4 : k = 4 := by omega
    refine re_ ?_
    rw [cls_no a0 a1 fun j hj hc => ?_]; rfl
    rw [← key j hj, hk.2 j (by omega)] at hc
    cases hc
end Go.Proofs.YtdallmabajeajaaGreatDoor.Fw
set_option linter.all false
set_option maxHeartbeats 4000000
set_option maxRecDepth 100000
namespace Go.Proofs.YtdallmabajeajaaGreatDoor.Fw
open Go
theorem in_c (x lo hi : Int) (R : Hh) : Ctp Tryz.prog 86 [.int .i64 x, .int .i64 lo, .int .i64 hi] R [] (.bool (decide (lo ≤ x ∧ x ≤ hi))) := by
  refine in_ Tryz.func86 fun w0 => ?_
  refine re_ ?_
  grind [pack]
instance (x lo hi : Int) (R : Hh) : Cp 86 [.int .i64 x, .int .i64 lo, .int .i64 hi] R [] True (.bool (decide (lo ≤ x ∧ x ≤ hi))) := ⟨fun _ => in_c x lo hi R⟩
theorem subnet_cf (c : QConfig) (a : Int) (R : Hh) : Ctp Tryz.prog 88 [.agg ⟨cConfig c⟩, .int .u32 a] R [] (.bool (contM c.Network a && validM ⟨a, c.SubnetLen⟩)) := by
  refine in_ Tryz.func88 fun w0 => ?_
  refine bo_' fun b => ?_
  refine re_ ?_
  simp only [pack]
  cases contM c.Network a <;> rfl
instance (c : QConfig) (a : Int) (R : Hh) : Cp 88 [.agg ⟨cConfig c⟩, .int .u32 a] R [] True (.bool (contM c.Network a && validM ⟨a, c.SubnetLen⟩)) := ⟨fun _ => subnet_cf c a R⟩
end Go.Proofs.YtdallmabajeajaaGreatDoor.Fw
set_option linter.all false
set_option maxHeartbeats 4000000
set_option maxRecDepth 100000
namespace Go.Proofs.YtdallmabajeajaaGreatDoor.Fw
open Go
theorem part_one {P : Program} {T : TypeId} (hA : ∀ w, (isAgg T).run P w = .ok false w) {cs : Array Value} {o : Nat} {v : Value} (h : cs[o]? = some v) (w : World) : (part T cs o).run P w = .ok v w := by
  simp [part, hA w, h, Result.andThen]
instance : Ky Tryz.prog 25 inferInstance (vAgg cPrefix) := ⟨key_two Tryz.underlying25 rfl Tryz.underlying23 Tryz.underlying3 (eqt rfl) inferInstance (fun k w => ⟨_, part_one Tryz.isAgg23 (by rfl) w⟩) (fun k w => ⟨_, part_one Tryz.isAgg3 (by rfl) w⟩) (fun k => by simp [Instr.sameBits, cPrefix])⟩
theorem checkPool_c (c : QConfig) (rs : List QReserve) (hn : 0 ≤ c.Network.Addr ∧ c.Network.Addr < 4294967296) (hf : 0 ≤ c.First ∧ c.First < 4294967296) (f : FieldsOK c) (hrr : ∀ r ∈ rs, 0 ≤ r.Subnet.Addr ∧ r.Subnet.Addr < 4294967296) (R : Hh) (hR : RdS R 3 c.Reserved.v (rs.map cReserve)) : Ctr (τ := Int) Tryz.prog 89 [.agg ⟨cConfig c⟩] R [] (fun e => (e = 0 ∧ PoolOK c rs) ∨ (e = 28 ∧ ¬ PoolOK c rs)) (fun e => .int .i64 e) (fun _ => []) := by
  have htop := f.top
  have hbd := hR.bd
  have hlog := f.log
  refine in_ Tryz.func89 fun w0 => ?_
  refine bo_' fun b1 => ?_
  refine if_ (fun c1 => ?_) (fun c1 => ?_)
  · exact rt_ 28 (.inr ⟨rfl, fun p => by have := p.row; omega⟩)
  · refine lo_ (fun k : Nat => [(15, .int .i64 k)]) (fun _ => []) (fun k => (k : Int) ≤ c.Hosts ∧ ∀ h : Int, 0 ≤ h → h < k → ¬ Cnt c.Network (c.First + h)) (fun k => (c.Hosts - k).toNat) 0 ⟨by omega, by omega⟩ fun k hk => ?_
    refine if_ (fun c2 => ?_) (fun c2 => ?_)
    · have e2 : IntKind.u32.wrap (c.First + IntKind.u32.wrap (k : Int)) = c.First + k := by
        rw [wrap32 (a := (k : Int)) (by omega) (by omega), wrap32 (by omega) (by omega)]
      have e3 := contM_iff (a := c.First + k) hn.1 hn.2 (by omega) (by omega)
      refine if_ (fun c3 => ?_) (fun c3 => ?_)
      · rw [e2, e3] at c3
        exact rt_ 28 (.inr ⟨rfl, fun p => p.out k (by omega) (by omega) c3⟩)
      · refine ba_ (k + 1) ⟨by omega, fun h h0 h1 hc => ?_⟩ (by omega)
        by_cases h2 : h < k
        · exact hk.2 h h0 h2 hc
        · rw [show h = k by omega, ← e3, ← e2] at hc
          first | exact c3 hc | (rw [hc] at c3; cases c3)
    · have hout : ∀ h : Int, 0 ≤ h → h < c.Hosts → ¬ Cnt c.Network (c.First + h) := fun h h0 h1 => hk.2 h h0 (by omega)
      refine mm_ (κ := QPrefix) (ν := Int) (vAgg cPrefix) (vInt .i64) fun ik => ?_
      refine lo_ (fun z : Int × List (QPrefix × Int) × Nat => [(4, .int .i64 z.1), (31, .int .i64 z.2.2)]) (fun z => [Mp ik (vAgg cPrefix) (vInt .i64) z.2.1]) (fun z => z.2.2 ≤ rs.length ∧ KD z.2.1 ∧ (∀ p, mget z.2.1 p = if p ∈ (rs.take z.2.2).map (·.Subnet) then some 1 else none) ∧ CpI c (rs.take z.2.2) z.1) (fun z => rs.length - z.2.2) (-1, [], 0) ⟨by dsimp only; omega, .nil, fun p => rfl, cpi_nil⟩ fun ⟨last, m, k2⟩ ⟨z1, z2, z3, z4⟩ => ?_
      dsimp only at z1 z2 z3 z4 ⊢
      refine if_ (fun c3 => ?_) (fun c3 => ?_)
      · have hkl : k2 < rs.length := by omega
        have hel : el rs k2 = rs[k2] := by simp [el, List.getD_eq_getElem?_getD, hkl]
        have hmr := hrr _ (List.getElem_mem hkl)
        rw [← hel] at hmr
        have hvm := validM_iff (p := ⟨(el rs k2).Subnet.Addr, c.SubnetLen⟩) hmr.1 hmr.2
        have hcm := contM_iff (p := c.Network) (a := (el rs k2).Subnet.Addr) hn.1 hn.2 hmr.1 hmr.2
        refine ax_ fun b5 => ?_
        refine if_ (fun c4 => ?_) (fun c4 => ?_)
        · refine rt_ 28 (.inr ⟨rfl, fun p => ?_⟩)
          have hh := p.host rs[k2] (List.getElem_mem hkl)
          rw [← hel] at hh
          rcases c4 with y | y
          · rcases z4.at_ with h | ⟨r, hr, h⟩
            · omega
            · have := cp_lt p.rise hkl hr
              rw [← hel] at this
              omega
          · omega
        · refine if_ (fun c5 => ?_) (fun c5 => ?_)
          · refine rt_ 28 (.inr ⟨rfl, fun p => ?_⟩)
            have hh := p.host rs[k2] (List.getElem_mem hkl)
            rw [← hel] at hh
            have hb := hh.2.2.2
            unfold base at hb
            rcases c5 with (y | y | y) | y
            · exact y hh.2.2.1
            · rw [hcm.2 hb.1] at y; cases y
            · rw [hvm.2 ⟨by show 0 ≤ c.SubnetLen; have := f.sub; have := f.net; omega, by show c.SubnetLen ≤ 32; have := f.sub; omega, hb.2⟩] at y; cases y
            · have c6 : 0 < (mget m (el rs k2).Subnet).getD 0 := y
              rw [z3] at c6
              by_cases hi : (el rs k2).Subnet ∈ (rs.take k2).map (·.Subnet)
              · obtain ⟨r, hr, e⟩ := List.mem_map.1 hi
                have := cp_ne p.apart hkl hr
                rw [← hel] at this
                exact this e
              · rw [if_neg hi] at c6; exact absurd c6 (by decide)
          · refine mu_ (κ := QPrefix) (ν := Int) (kc := vAgg cPrefix) (vc := vInt .i64) (kx := (el rs k2).Subnet) (ux := (1 : Int)) ?_
            have c6 : (mget m (el rs k2).Subnet).getD 0 ≤ 0 := c5.2
            have hni : ¬ (el rs k2).Subnet ∈ (rs.take k2).map (·.Subnet) := fun hi => by
              rw [z3, if_pos hi] at c6; exact absurd c6 (by decide)
            have e1 : rs.take (k2 + 1) = rs.take k2 ++ [el rs k2] := by rw [hel, List.take_succ_eq_append_getElem hkl]
            refine ba_ ((el rs k2).Host, mset m (el rs k2).Subnet 1, k2 + 1) ⟨by dsimp only; omega, z2.set, fun p => ?_, ?_⟩ (by dsimp only; omega)
            · dsimp only
              rw [mget_set z2, z3, e1, List.map_append]
              by_cases hp : p = (el rs k2).Subnet
              · rw [if_pos hp, if_pos (by rw [hp]; simp)]
              · rw [if_neg hp]
                by_cases hi2 : p ∈ (rs.take k2).map (·.Subnet)
                · rw [if_pos hi2, if_pos (List.mem_append_left _ hi2)]
                · rw [if_neg hi2, if_neg (fun h => by rcases List.mem_append.1 h with h | h; · exact hi2 h
                                                      · exact hp (by simpa using h))]
            · dsimp only
              rw [e1]
              exact cpi_add z4 c4.1 c4.2 c5.1.1 ⟨hcm.1 c5.1.2.1, (hvm.1 c5.1.2.2).2.2⟩ hni
      · have hkp : k2 = rs.length := by omega
        rw [hkp, List.take_length] at z4
        exact rt_ 0 (.inl ⟨rfl, ⟨c1, hout, z4.host, z4.rise, z4.apart⟩⟩)
end Go.Proofs.YtdallmabajeajaaGreatDoor.Fw
set_option linter.all false
set_option maxHeartbeats 4000000
set_option maxRecDepth 100000
namespace Go.Proofs.YtdallmabajeajaaGreatDoor.Fw
open Go
theorem chk1 {c : QConfig} (hr : CfgR c) (hb : (bif !validM ⟨c.Network.Addr, c.Network.Len⟩ then true else !decide (8 ≤ c.Network.Len ∧ c.Network.Len ≤ 28)) = false) : Vld c.Network ∧ 8 ≤ c.Network.Len ∧ c.Network.Len ≤ 28 := by
  cases h1 : validM ⟨c.Network.Addr, c.Network.Len⟩ with
  | false => rw [h1] at hb; cases hb
  | true =>
    rw [h1] at hb
    refine ⟨(validM_iff hr.n.1 hr.n.2).1 h1, ?_⟩
    simpa using hb
theorem chk2 {c : QConfig} (hr : CfgR c) (h : Vld c.Network ∧ 8 ≤ c.Network.Len ∧ c.Network.Len ≤ 28) : (((IntKind.i64.wrap (c.Network.Len + 1) ≤ c.SubnetLen ∧ c.SubnetLen ≤ 30) ∧ contM c.Network c.Min = true ∧ validM ⟨c.Min, c.SubnetLen⟩ = true) ∧ contM c.Network c.Max = true ∧ validM ⟨c.Max, c.SubnetLen⟩ = true) ↔ (c.Network.Len + 1 ≤ c.SubnetLen ∧ c.SubnetLen ≤ 30 ∧ base c c.Min ∧ base c c.Max) := by
  have e : IntKind.i64.wrap (c.Network.Len + 1) = c.Network.Len + 1 := wrap_i64 (by omega) (by omega)
  rw [e, contM_iff hr.n.1 hr.n.2 hr.mn.1 hr.mn.2, contM_iff hr.n.1 hr.n.2 hr.mx.1 hr.mx.2, validM_iff hr.mn.1 hr.mn.2, validM_iff hr.mx.1 hr.mx.2]
  unfold base Vld
  constructor
  · rintro ⟨⟨⟨h1, h2⟩, h3, _, _, h4⟩, h5, _, _, h6⟩
    exact ⟨h1, h2, ⟨h3, h4⟩, h5, h6⟩
  · rintro ⟨h1, h2, ⟨h3, h4⟩, h5, h6⟩
    exact ⟨⟨⟨h1, h2⟩, h3, by show 0 ≤ c.SubnetLen; omega, by show c.SubnetLen ≤ 32; omega, h4⟩, h5, by show 0 ≤ c.SubnetLen; omega, by show c.SubnetLen ≤ 32; omega, h6⟩
theorem check_c (c : QConfig) (rs : List QReserve) (hr : CfgR c) (hrr : ∀ r ∈ rs, 0 ≤ r.Subnet.Addr ∧ r.Subnet.Addr < 4294967296) (X : SH) (R : Hh) (hC : ClsR R X) (hR : RdS R 3 c.Reserved.v (rs.map cReserve)) : Ctp Tryz.prog 52 [.agg ⟨cConfig c⟩] R [] (.int .i64 (checkS c rs)) := by
  refine in_ Tryz.func52 fun w0 => ?_
  refine bo_' fun b1 => ?_
  refine ax_ fun b2 => ?_
  refine gsp_ (fun hb => ?_) (fun hb => ?_)
  · simp only [hb]
    refine run_ ?_
    refine cp_ (fun R' q1 q2 => class_c c.Network.Addr hr.n.1 hr.n.2 X R' (hC.le q1)) ?_
    refine if_ (fun c1 => ?_) (fun c1 => ?_)
    · refine re_ ?_
      rw [check26 fun f => c1 f.net.2.2.2]; rfl
    · refine if_ (fun c2 => ?_) (fun c2 => ?_)
      · refine re_ ?_
        rw [check26 fun f => ?_]; rfl
        have P := (chk2 hr (chk1 hr hb)).2 f.sub
        first | exact absurd P c2 | grind
      · refine if_ (fun c3 => ?_) (fun c3 => ?_)
        · refine re_ ?_
          rw [check26 fun f => ?_]; rfl
          have P := f.num
          omega
        · refine if_ (fun c4 => ?_) (fun c4 => ?_)
          · refine re_ ?_
            rw [check26 fun f => ?_]; rfl
            have P := f.ttl
            omega
          · refine if_ (fun c5 => ?_) (fun c5 => ?_)
            · refine re_ ?_
              rw [check26 fun f => ?_]; rfl
              have P := f.log
              omega
            · refine if_ (fun c6 => ?_) (fun c6 => ?_)
              · refine re_ ?_
                rw [check26 fun f => ?_]; rfl
                have P := f.cap
                omega
              · have e1 : IntKind.u64.wrap (IntKind.u64.wrap (IntKind.u64.wrap c.First + IntKind.u64.wrap c.Hosts) - 1) = c.First + c.Hosts - 1 := by
                  have := hr.f
                  simp [IntKind.wrap, IntKind.bits, IntKind.signed]
                  omega
                refine if_ (fun c7 => ?_) (fun c7 => ?_)
                · refine re_ ?_
                  rw [e1] at c7
                  rw [check26 fun f => by have := f.top; omega]; rfl
                · have c7 : c.First + c.Hosts - 1 ≤ 4294967295 := by rw [e1] at c7; omega
                  refine lo_ (fun k : Nat => [(140, .int .i64 k)]) (fun _ => []) (fun k => (k : Int) ≤ c.Hosts ∧ ∀ h : Int, 0 ≤ h → h < k → cls (c.First + h) = 0) (fun k => (c.Hosts - k).toNat) 0 ⟨by omega, by omega⟩ fun k hk => ?_
                  refine if_ (fun c8 => ?_) (fun c8 => ?_)
                  · have e2 : IntKind.u32.wrap (c.First + IntKind.u32.wrap (k : Int)) = c.First + k := by
                      have := hr.f
                      rw [wrap32 (a := (k : Int)) (by omega) (by omega), wrap32 (by omega) (by omega)]
                    refine cp_ (fun R' q1 q2 => class_c (IntKind.u32.wrap (c.First + IntKind.u32.wrap (k : Int))) (by rw [e2]; have := hr.f; omega) (by rw [e2]; omega) X R' (hC.le q1)) ?_
                    refine if_ (fun c9 => ?_) (fun c9 => ?_)
                    · refine re_ ?_
                      rw [e2] at c9
                      rw [check26 fun f => c9 (f.cls k (by omega) (by omega))]; rfl
                    · exact ba_ (k + 1) ⟨by omega, fun h h0 h1 => by
                        by_cases h2 : h < k
                        · exact hk.2 h h0 h2
                        · rw [show h = k by omega]; rw [e2] at c9; exact c9⟩ (by omega)
                  · have h1 := chk1 hr hb
                    have h2 := (chk2 hr h1).1 c2
                    have f : FieldsOK c := ⟨⟨h1.1, h1.2.1, h1.2.2, c1⟩, h2, ⟨c3.1.1.1, c3.1.1.2, c3.1.2.1, c3.1.2.2, c3.2⟩, ⟨c4.1.1.1, c4.1.1.2, c4.1.2, c4.2⟩, ⟨c5.1.1.1, c5.1.1.2, c5.1.2.1, c5.1.2.2, c5.2⟩, ⟨c6.1.1.1, c6.1.1.2, c6.1.2.1, c6.1.2.2, c6.2⟩, c7, fun h h0 h1 => hk.2 h h0 (by omega)⟩
                    refine ca_ (fun R' q1 q2 => checkPool_c c rs hr.n hr.f f hrr R' (hR.le q1)) fun e he => ?_
                    refine re_ ?_
                    unfold checkS
                    rw [if_neg (not_not_intro f)]
                    rcases he with ⟨rfl, p⟩ | ⟨rfl, p⟩
                    · rw [if_neg (not_not_intro p)]; rfl
                    · rw [if_pos p]; rfl
  · simp only [hb, Bool.not_false]
    refine run_ ?_
    refine re_ ?_
    rw [check26 fun f => ?_]; rfl
    have h1 : validM ⟨c.Network.Addr, c.Network.Len⟩ = true := (validM_iff hr.n.1 hr.n.2).2 f.net.1
    simp [h1, f.net.2.1, f.net.2.2.1] at hb
end Go.Proofs.YtdallmabajeajaaGreatDoor.Fw
set_option linter.all false
set_option maxHeartbeats 4000000
set_option maxRecDepth 100000
namespace Go.Proofs.YtdallmabajeajaaGreatDoor.Fw
open Go
theorem cloneR_c (X : SH) (xs : List QReserve) (hl : xs.length ≤ 65536) (R : Hh) (hx : RdS R 3 X.v (xs.map cReserve)) : Ctr (τ := SH) Tryz.prog 53 [X.v] R [] (fun _ => True) (fun x => x.v) (fun x => [Sv 3 58 x.v (xs.map cReserve)]) := by
  refine in_ Tryz.func53 fun w0 => ?_
  refine if_ (fun c1 => ?_) (fun c1 => ?_)
  · have hxn := hx.isnil c1
    subst hxn
    refine nil_ cReserve 3 58 ?_
    exact rt_ nilH trivial
  · refine sl0_ cReserve fun U => ?_
    refine ap_ fun W => ?_
    exact rt_ W trivial
theorem timerNew_c (R : Hh) : Ctr (τ := Addr × Nat) Tryz.prog 54 [.int .i64 64] R [] (fun _ => True) (fun x => .tuple #[.pointer (some (padd x.1 0)), .int .i64 0]) (fun x => [Bx x.1 157 (ctimer_Timers ⟨64, nilH, some x.2⟩), Sv 2 224 nilH.v (([] : List Qtimer_one).map ctimer_one), Mp x.2 (vInt .i64) (vInt .i64) ([] : List (Int × Int))]) := by
  refine in_ Tryz.func54 fun w0 => ?_
  refine mm_ (κ := Int) (ν := Int) (vInt .i64) (vInt .i64) fun r => ?_
  refine nil_ ctimer_one 2 224 ?_
  refine bx_ fun t => ?_
  exact rt_ (t, r) trivial
end Go.Proofs.YtdallmabajeajaaGreatDoor.Fw
set_option linter.all false
set_option maxHeartbeats 1000000
set_option maxRecDepth 100000
namespace Go.Proofs.YtdallmabajeajaaGreatDoor.Fw
open Go
section
variable {n : Nat} {w0 : World} {R : Hh} {Ps : List HP} {L : List (Nat × Value)} {ops : Array Oper} {Q : Exit → Act → World → Prop} {rest : List Oper} {d : Nat} {ty T : TypeId} {pos : String} {aft : Array Edge} {qs : List (Nat × Operand)} {us : List (Nat × Value)} {fs : List (Nat × Nat)} {zs : List Value}
theorem bui_ (cs : List Value) {L1 : List (Nat × Value)} {Ps1 : List HP} {F1 : GF} (k : Gl n w0 R L1 Ps1 F1) (hf : stI Tryz.prog T = some fs := by exact stt rfl) (hz : zeI Tryz.prog T = some zs := by exact zet rfl) (hx : partsOf L qs = some us := by rfl) (hc : fillL fs zs us = some cs := by kernel_rfl) (hd : Nat.blt d n = true := by rfl)
    (r : Av n w0 R ((d, .agg ⟨cs⟩) :: L) Ps (.li Tryz.prog ops Q rest) L1 Ps1 F1 := by (repeat (apply x_; exact A3_)); exact av_r) : Gl n w0 R L Ps (.li Tryz.prog ops Q (⟨some d, .build T ⟨qs⟩, ty, pos, aft, none⟩ :: rest)) :=
  fun a w hs m => (p_ (C := Hp w0 R Ps) (ok_build hf hz hx hc) hd).g _ _ _ _ hs m fun a hs => r.g k a w hs m
end
theorem own_add {l : List QReserve} {r : QReserve} {h : Int} (hn : ∀ x ∈ l, x.Host ≠ r.Host) : (if h = r.Host then some r.Subnet else own l h) = own (l ++ [r]) h := by
  unfold own
  rw [List.find?_append]
  by_cases e : h = r.Host
  · rw [if_pos e]
    have : l.find? (fun x => decide (x.Host = h)) = none := by
      rw [List.find?_eq_none]
      intro x hx
      have := hn x hx
      simpa [e] using this
    rw [this]
    simp [e]
  · rw [if_neg e]
    have e2 : ¬ r.Host = h := fun h2 => e h2.symm
    simp [e2]
section
variable {c : QConfig} {rs : List QReserve}
theorem np_sub (hr : CfgR c) (hrr : ∀ r ∈ rs, 0 ≤ r.Subnet.Addr ∧ r.Subnet.Addr < 4294967296) (f : FieldsOK c) (po : PoolOK c rs) {p : QPrefix} (hp : p ∈ rs.map (·.Subnet)) : 0 ≤ p.Addr ∧ p.Addr < 4294967296 ∧ p.Len = c.SubnetLen ∧ validM p = true ∧ contM c.Network p.Addr = true := by
  obtain ⟨r, hm, rfl⟩ := List.mem_map.1 hp
  have h1 := hrr r hm
  have h2 := po.host r hm
  have hb := h2.2.2.2
  unfold base at hb
  have h3 := f.sub
  have h4 := f.net
  exact ⟨h1.1, h1.2, h2.2.2.1, (validM_iff h1.1 h1.2).2 ⟨by omega, by omega, by rw [h2.2.2.1]; exact hb.2⟩, (contM_iff hr.n.1 hr.n.2 h1.1 h1.2).2 hb.1⟩
theorem np_fault (hr : CfgR c) (f : FieldsOK c) (po : PoolOK c rs) : poolM c.Network c.SubnetLen c.Min c.Max = 0 := by
  have h3 := f.sub
  have h4 := f.net
  have h5 := po.row
  have b1 := h3.2.2.1
  have b2 := h3.2.2.2
  unfold base at b1 b2
  have v1 : validM c.Network = true := (validM_iff hr.n.1 hr.n.2).2 h4.1
  have v2 : validM ⟨c.Min, c.SubnetLen⟩ = true := (validM_iff hr.mn.1 hr.mn.2).2 ⟨by show 0 ≤ c.SubnetLen; omega, by show c.SubnetLen ≤ 32; omega, b1.2⟩
  have v3 : validM ⟨c.Max, c.SubnetLen⟩ = true := (validM_iff hr.mx.1 hr.mx.2).2 ⟨by show 0 ≤ c.SubnetLen; omega, by show c.SubnetLen ≤ 32; omega, b2.2⟩
  have v4 : contM c.Network c.Min = true := (contM_iff hr.n.1 hr.n.2 hr.mn.1 hr.mn.2).2 b1.1
  have v5 : contM c.Network c.Max = true := (contM_iff hr.n.1 hr.n.2 hr.mx.1 hr.mx.2).2 b2.1
  unfold poolM
  rw [if_neg (by rw [v1]; simp), if_neg (by omega), if_neg (by rw [v2, v3]; simp), if_neg (by rw [v4, v5]; simp)]
theorem np_nodup (f : FieldsOK c) (po : PoolOK c rs) : ((rs.map (·.Subnet)).map fun p => p.Addr / pw c.SubnetLen).Nodup := by
  unfold List.Nodup
  rw [List.pairwise_map, List.pairwise_map]
  refine List.Pairwise.imp_of_mem (fun {a b} ha hb h e => ?_) po.apart
  have h1 := po.host a ha
  have h2 := po.host b hb
  have b1 := h1.2.2.2
  have b2 := h2.2.2.2
  unfold base at b1 b2
  have e1 := Int.mul_ediv_add_emod a.Subnet.Addr (pw c.SubnetLen)
  have e2 := Int.mul_ediv_add_emod b.Subnet.Addr (pw c.SubnetLen)
  rw [b1.2] at e1
  rw [b2.2, ← e] at e2
  apply h
  have e3 : a.Subnet.Addr = b.Subnet.Addr := by omega
  have e4 : a.Subnet.Len = b.Subnet.Len := h1.2.2.1.trans h2.2.2.1.symm
  rw [show a.Subnet = ⟨a.Subnet.Addr, a.Subnet.Len⟩ from rfl, show b.Subnet = ⟨b.Subnet.Addr, b.Subnet.Len⟩ from rfl, e3, e4]
end
theorem newYes_c (c : QConfig) (rs : List QReserve) (hr : CfgR c) (hrr : ∀ r ∈ rs, 0 ≤ r.Subnet.Addr ∧ r.Subnet.Addr < 4294967296) (X : SH) (R : Hh) (hC : ClsR R X) (hR : RdS R 3 c.Reserved.v (rs.map cReserve)) (hx : checkS c rs = 0) (f : FieldsOK c) (po : PoolOK c rs) (hl : rs.length ≤ 64) :
    Ctr (τ := SG × SV) Tryz.prog 21 [.agg ⟨cConfig c⟩] R [] (fun x => SOK x.1 ∧ Rel x.1 x.2 ⟨0, 0, [], []⟩ ∧ x.1.rs = rs ∧ x.1.c = { c with Reserved := x.1.c.Reserved }) (fun x => .tuple #[.pointer (some (padd x.1.sp 0)), .int .i64 0]) (fun x => stP x.1 x.2) := by
  refine in_ Tryz.func21 fun w0 => ?_
  refine bo_' fun b1 => ?_
  refine cp_ (v := .int .i64 0) (fun R' q1 q2 => by rw [← hx]; exact check_c c rs hr hrr X R' (hC.le q1) (hR.le q1)) ?_
  refine ca_ (fun R' q1 q2 => cloneR_c c.Reserved rs (by omega) R' (hR.le q1)) fun Y _ => ?_
  refine mm_ (κ := Int) (ν := QLease) (vInt .i64) (vAgg cLease) fun rl => ?_
  refine mma_ (κ := Int) (ν := QPrefix) (vInt .i64) (vAgg cPrefix) (fun rk => ?_) rfl
  refine bui_ (clease_Store ⟨⟨0, 0⟩, ⟨c.Log, nilH⟩, { c with Reserved := Y }, some rl, some rk, none, none⟩) ?_
  refine nil_ cEvent 14 72 ?_
  refine bx_ fun sp => ?_
  refine nil_ cPrefix 2 25 ?_
  refine lo_ (fun z : SH × List (Int × QPrefix) × Nat => [(6, z.1.v), (30, .int .i64 z.2.2)]) (fun z => [Sv 2 25 z.1.v (((rs.take z.2.2).map (·.Subnet)).map cPrefix), Mp rk (vInt .i64) (vAgg cPrefix) z.2.1]) (fun z => z.2.2 ≤ rs.length ∧ KD z.2.1 ∧ ∀ h, mget z.2.1 h = own (rs.take z.2.2) h) (fun z => rs.length - z.2.2) (nilH, [], 0) ⟨by dsimp only; omega, .nil, fun h => rfl⟩ fun ⟨U, m, k⟩ ⟨z1, z2, z3⟩ => ?_
  dsimp only at z1 z2 z3 ⊢
  refine if_ (fun c3 => ?_) (fun c3 => ?_)
  · have hkl : k < rs.length := by omega
    have hel : el rs k = rs[k] := by simp [el, List.getD_eq_getElem?_getD, hkl]
    have hlt : ((rs.take k).map (·.Subnet)).length = k := by rw [List.length_map, List.length_take]; omega
    refine ax_ fun b5 => ?_
    refine mu_ (κ := Int) (ν := QPrefix) (kc := vInt .i64) (vc := vAgg cPrefix) (kx := (el rs k).Host) (ux := (el rs k).Subnet) ?_
    refine sl_ (e := (el rs k).Subnet) fun V => ?_
    refine ap_ fun W => ?_
    have e1 : (rs.take k).map (·.Subnet) ++ [(el rs k).Subnet] = (rs.take (k + 1)).map (·.Subnet) := by rw [hel, List.take_succ_eq_append_getElem hkl, List.map_append]; rfl
    rw [e1]
    refine ba_ (W, mset m (el rs k).Host (el rs k).Subnet, k + 1) ⟨by dsimp only; omega, z2.set, fun h => ?_⟩ (by dsimp only; omega)
    dsimp only
    rw [mget_set z2, z3, List.take_succ_eq_append_getElem hkl, ← hel]
    exact own_add (fun r hr => by have := cp_lt po.rise hkl hr; rw [← hel] at this; omega)
  · have hkp : k = rs.length := by omega
    subst hkp
    rw [List.take_length] at z3 ⊢
    refine ca_ (fun R' q1 q2 => timerNew_c R') fun ⟨tp, tm⟩ _ => ?_
    have hsub : ∀ p ∈ rs.map (·.Subnet), 0 ≤ p.Addr ∧ p.Addr < 4294967296 ∧ p.Len = c.SubnetLen ∧ validM p = true ∧ contM c.Network p.Addr = true := fun p hp => np_sub hr hrr f po hp
    refine ca_ (fun R' q1 q2 => newP_c c.Network c.SubnetLen c.Min c.Max U (rs.map (·.Subnet)) R' (rq_ q2 r3) (by rw [List.length_map]; omega) (np_fault hr f po) hr.mn hr.mx (by have := f.sub; have := f.net; omega) hsub (np_nodup f po)) fun ⟨pp, K, ik, ks, km⟩ ⟨g1, g2⟩ => ?_
    dsimp only at g1 g2 ⊢
    refine rt_ (⟨sp, tp, pp, rl, rk, tm, { c with Reserved := Y }, rs, m, pg0 c.Network c.SubnetLen c.Min c.Max K ik ks km⟩, ⟨0, 0, nilH, [], [], nilH, [], [], nilH, []⟩) ⟨?_, ?_, rfl, rfl⟩
    · have h3 := f.sub
      have h4 := f.net
      have hpw : 0 < pw c.SubnetLen := pw_pos
      refine ⟨⟨f.net, f.sub, f.num, f.ttl, f.log, f.cap, f.top, f.cls⟩, ⟨po.row, po.out, po.host, po.rise, po.apart⟩, hr.n, hr.mn, hr.mx, hrr, hl, z3, rfl, rfl, rfl, rfl, fun i => ?_, fun pr q1 q2 q3 => ⟨q1, q2, q3, by show 0 ≤ c.SubnetLen ∧ c.SubnetLen ≤ 32; omega, Int.ediv_nonneg hr.mn.1 (Int.le_of_lt hpw), ?_, Int.ediv_le_ediv hpw po.row, fun n hn => ?_, ?_, g2, fun i hi => ?_, g1.m, g1.d⟩⟩
      · show i ∈ ks ↔ ∃ r ∈ rs, r.Subnet.Addr / pw c.SubnetLen = i
        rw [g1.p.mem_iff, List.map_map, List.mem_map]
        rfl
      · show c.Max / pw c.SubnetLen < 4294967296
        have := Int.ediv_le_self (pw c.SubnetLen) hr.mx.1
        have := hr.mx
        omega
      · show n * pw c.SubnetLen < 4294967296
        have h9 : n ≤ c.Max / pw c.SubnetLen := hn
        have := Int.mul_le_of_le_ediv hpw h9
        have := hr.mx
        omega
      · show ks.length ≤ 1024
        rw [g1.p.length_eq, List.length_map, List.length_map]; omega
      · have hi2 : i ∈ ks := hi
        rw [g1.p.mem_iff] at hi2
        obtain ⟨q, hq, rfl⟩ := List.mem_map.1 hi2
        have h9 := hsub q hq
        exact ⟨Int.ediv_nonneg h9.1 (Int.le_of_lt hpw), by have := Int.ediv_le_self (pw c.SubnetLen) h9.1; omega⟩
    · have h5 := f.log
      refine ⟨⟨⟨by decide, by decide⟩, ⟨by decide, by decide⟩, .nil, .nil, by simp, by show min c.Log 0 ≤ _; simp; omega, by simp⟩, rfl, rfl, by simp [logS], .nil, .refl _, by simp, fun j h1 h2 => by simp at h2, ⟨.nil, by simp, by simp, fun k v e => by cases e⟩, .refl _, Runs.nil, fun i => ?_⟩
      constructor
      · intro h; exact absurd h inR_nil
      · rintro ⟨l, hl, _⟩; cases hl
end Go.Proofs.YtdallmabajeajaaGreatDoor.Fw
set_option linter.all false
set_option maxHeartbeats 1000000
set_option maxRecDepth 100000
namespace Go.Proofs.YtdallmabajeajaaGreatDoor.Fw
open Go
end Go.Proofs.YtdallmabajeajaaGreatDoor.Fw
set_option linter.all false
set_option maxHeartbeats 1000000
set_option maxRecDepth 100000
namespace Go.Proofs.YtdallmabajeajaaGreatDoor.Fw
open Go
end Go.Proofs.YtdallmabajeajaaGreatDoor.Fw
set_option linter.all false
set_option maxHeartbeats 4000000
set_option maxRecDepth 100000
namespace Go.Proofs.YtdallmabajeajaaGreatDoor.Fw
open Go
theorem rin_c (x lo hi : Int) (R : Hh) : Ctp Tryz.prog 84 [.int .i64 x, .int .i64 lo, .int .i64 hi] R [] (.bool (decide (lo ≤ x ∧ x ≤ hi))) := by
  refine in_ Tryz.func84 fun w0 => ?_
  refine re_ ?_
  grind [pack]
instance rin_i (x lo hi : Int) (R : Hh) : Cp 84 [.int .i64 x, .int .i64 lo, .int .i64 hi] R [] True (.bool (decide (lo ≤ x ∧ x ≤ hi))) := ⟨fun _ => rin_c x lo hi R⟩
instance dec_base {c : QConfig} {a : Int} : Decidable (base c a) := by unfold base; infer_instance
end Go.Proofs.YtdallmabajeajaaGreatDoor.Fw
set_option linter.all false
set_option maxHeartbeats 4000000
set_option maxRecDepth 100000
namespace Go.Proofs.YtdallmabajeajaaGreatDoor.Fw
open Go
end Go.Proofs.YtdallmabajeajaaGreatDoor.Fw
set_option linter.all false
set_option maxHeartbeats 4000000
set_option maxRecDepth 100000
namespace Go.Proofs.YtdallmabajeajaaGreatDoor.Fw
open Go
end Go.Proofs.YtdallmabajeajaaGreatDoor.Fw
set_option linter.all false
set_option maxHeartbeats 1000000
namespace Go.Proofs.YtdallmabajeajaaGreatDoor.Fw
open Go
section
variable {s : SG} {v : SV} {S : LS} {p : QPrefix}
end
end Go.Proofs.YtdallmabajeajaaGreatDoor.Fw
set_option linter.all false
set_option maxHeartbeats 1000000
namespace Go.Proofs.YtdallmabajeajaaGreatDoor.Fw
open Go
def Fits (c : QConfig) (rs : List QReserve) (l : QLease) (now : Int) : Prop := (0 ≤ l.Host ∧ l.Host < c.Hosts) ∧ l.Subnet.Len = c.SubnetLen ∧ Vld l.Subnet ∧ Cnt c.Network l.Subnet.Addr ∧ (now < l.Until ∨ l.Until = never) ∧ May c rs l.Host l.Subnet
instance {c rs l now} : Decidable (Fits c rs l now) := by unfold Fits; infer_instance
section
variable {c : QConfig} {rs : List QReserve} {s : LS} {x l : QLease} {cmd : QCmd} {h pub n : Int} {w p : QPrefix} {m : QMAC}
end
section
variable {s : SG} {v : SV} {S : LS} {p : QPrefix}
end
end Go.Proofs.YtdallmabajeajaaGreatDoor.Fw
set_option linter.all false
set_option maxHeartbeats 1000000
namespace Go.Proofs.YtdallmabajeajaaGreatDoor.Fw
open Go
def nu (x : QLease) : QLease := { x with Until := 0 }
theorem del_id {l : List QLease} {h : Int} (hn : ∀ y ∈ l, y.Host ≠ h) : del l h = l := List.filter_eq_self.2 fun y hy => by simpa using hn y hy
section
variable {c : QConfig} {rs : List QReserve} {s : LS} {cmd : QCmd}
/-! ### a follower -/
end
end Go.Proofs.YtdallmabajeajaaGreatDoor.Fw
set_option linter.all false
set_option maxHeartbeats 4000000
set_option maxRecDepth 100000
namespace Go.Proofs.YtdallmabajeajaaGreatDoor.Fw
open Go
theorem take_eq {α : Type} [Inhabited α] {a b : List α} {k : Nat} (ha : k < a.length) (hl : a.length = b.length) (h : a.take k = b.take k) (e : el a k = el b k) : a.take (k + 1) = b.take (k + 1) := by
  have e1 : el a k = a[k] := by simp [el, List.getD_eq_getElem?_getD, ha]
  have e2 : el b k = b[k]'(by omega) := by simp [el, List.getD_eq_getElem?_getD, show k < b.length by omega]
  rw [List.take_succ_eq_append_getElem ha, List.take_succ_eq_append_getElem (by omega), h, ← e1, ← e2, e]
theorem eqLeases_c (X Y : SH) (a b : List QLease) (R : Hh) (hX : RdS R 12 X.v (a.map cLease)) (hY : RdS R 12 Y.v (b.map cLease)) : Ctp Tryz.prog 60 [X.v, Y.v] R [] (.bool (decide (a = b))) := by
  have hb1 := hX.bd
  have hb2 := hY.bd
  refine in_ Tryz.func60 fun w0 => ?_
  refine if_ (fun c1 => ?_) (fun c1 => ?_)
  · refine re_ ?_
    rw [decide_eq_false (fun e => c1 (by rw [e]))]; rfl
  · have hlen : a.length = b.length := by omega
    refine lo_ (fun k : Nat => [(5, .int .i64 k)]) (fun _ => []) (fun k => k ≤ a.length ∧ a.take k = b.take k) (fun k => a.length - k) 0 ⟨by omega, rfl⟩ fun k ⟨k1, k2⟩ => ?_
    refine if_ (fun c2 => ?_) (fun c2 => ?_)
    · refine if_ (fun c3 => ?_) (fun c3 => ?_)
      · refine re_ ?_
        rw [decide_eq_false (fun e => c3 (by rw [e]))]; rfl
      · exact ba_ (k + 1) ⟨by omega, take_eq (by omega) hlen k2 (by first | exact c3 | exact Classical.not_not.1 c3)⟩ (by omega)
    · refine re_ ?_
      have : k = a.length := by omega
      rw [this, List.take_length] at k2
      rw [hlen, List.take_length] at k2
      rw [decide_eq_true k2]; rfl
theorem eqEvents_c (X Y : SH) (a b : List QEvent) (R : Hh) (hX : RdS R 14 X.v (a.map cEvent)) (hY : RdS R 14 Y.v (b.map cEvent)) : Ctp Tryz.prog 45 [X.v, Y.v] R [] (.bool (decide (a = b))) := by
  have hb1 := hX.bd
  have hb2 := hY.bd
  refine in_ Tryz.func45 fun w0 => ?_
  refine if_ (fun c1 => ?_) (fun c1 => ?_)
  · refine re_ ?_
    rw [decide_eq_false (fun e => c1 (by rw [e]))]; rfl
  · have hlen : a.length = b.length := by omega
    refine lo_ (fun k : Nat => [(5, .int .i64 k)]) (fun _ => []) (fun k => k ≤ a.length ∧ a.take k = b.take k) (fun k => a.length - k) 0 ⟨by omega, rfl⟩ fun k ⟨k1, k2⟩ => ?_
    refine if_ (fun c2 => ?_) (fun c2 => ?_)
    · refine if_ (fun c3 => ?_) (fun c3 => ?_)
      · refine re_ ?_
        rw [decide_eq_false (fun e => c3 (by rw [e]))]; rfl
      · exact ba_ (k + 1) ⟨by omega, take_eq (by omega) hlen k2 (by first | exact c3 | exact Classical.not_not.1 c3)⟩ (by omega)
    · refine re_ ?_
      have : k = a.length := by omega
      rw [this, List.take_length] at k2
      rw [hlen, List.take_length] at k2
      rw [decide_eq_true k2]; rfl
theorem eqImage_c (I J : QImage) (a b : List QLease) (d e : List QEvent) (R : Hh) (h1 : RdS R 12 I.Leases.v (a.map cLease)) (h2 : RdS R 12 J.Leases.v (b.map cLease)) (h3 : RdS R 14 I.Events.v (d.map cEvent)) (h4 : RdS R 14 J.Events.v (e.map cEvent)) :
    Ctp Tryz.prog 31 [.agg ⟨cImage I⟩, .agg ⟨cImage J⟩] R [] (.bool (decide (I.Rev = J.Rev ∧ I.Now = J.Now ∧ a = b ∧ d = e))) := by
  refine in_ Tryz.func31 fun w0 => ?_
  refine bo_' fun b1 => ?_
  refine bo_' fun b2 => ?_
  refine gsp_ (fun hb => ?_) (fun hb => ?_)
  · simp only [hb]
    refine run_ ?_
    have hb2 : I.Rev = J.Rev ∧ I.Now = J.Now := by simpa [bz_] using hb
    refine cp_ (fun R' q1 q2 => eqLeases_c _ _ a b R' (h1.le q1) (h2.le q1)) ?_
    refine gsp_ (fun hc => ?_) (fun hc => ?_)
    · simp only [hc]
      refine run_ ?_
      have hc2 : a = b := by simpa using hc
      refine cp_ (fun R' q1 q2 => eqEvents_c _ _ d e R' (h3.le q1) (h4.le q1)) ?_
      refine re_ ?_
      simp [hb2, hc2, pack]
    · simp only [hc, Bool.not_true]
      refine run_ ?_
      refine re_ ?_
      have hc2 : ¬ a = b := by simpa using hc
      simp [hc2, pack]
  · simp only [hb, Bool.not_true]
    refine run_ ?_
    refine re_ ?_
    have hb2 : ¬ (I.Rev = J.Rev ∧ I.Now = J.Now) := fun h => by simp [h.1, h.2] at hb
    rw [decide_eq_false fun h => hb2 ⟨h.1, h.2.1⟩]; rfl
end Go.Proofs.YtdallmabajeajaaGreatDoor.Fw
set_option linter.all false
set_option maxHeartbeats 4000000
set_option maxRecDepth 100000
namespace Go.Proofs.YtdallmabajeajaaGreatDoor.Fw
open Go
structure GoodC (c : QConfig) (rs : List QReserve) : Prop where
  hr : CfgR c
  rr : ∀ r ∈ rs, 0 ≤ r.Subnet.Addr ∧ r.Subnet.Addr < 4294967296
  ok : checkS c rs = 0
  f : FieldsOK c
  po : PoolOK c rs
  rl : rs.length ≤ 64
theorem good_of {c : QConfig} {rs : List QReserve} (hr : CfgR c) (rr : ∀ r ∈ rs, 0 ≤ r.Subnet.Addr ∧ r.Subnet.Addr < 4294967296) (h : checkS c rs = 0) : GoodC c rs :=
  have h2 := check_zero h
  ⟨hr, rr, h, h2.1, h2.2, pool_len h2.1 h2.2⟩
def plainC (X : SH) : QConfig := ⟨⟨167772160, 16⟩, 24, 167772160, 167772928, 1, 4789, 1500, 10, 3, 4, 5, 3232235520, 64, 64, 64, 64, X⟩
def plainR : List QReserve := [⟨2, ⟨167774464, 24⟩⟩]
theorem plain_f (X : SH) : FieldsOK (plainC X) := by
  have h5 : ∀ h : Int, 0 ≤ h → h < 5 → cls (3232235520 + h) = 0 := fun h h0 h1 => by
    have : h = 0 ∨ h = 1 ∨ h = 2 ∨ h = 3 ∨ h = 4 := by omega
    rcases this with rfl | rfl | rfl | rfl | rfl <;> decide
  refine ⟨?_, ?_, by dsimp only [plainC]; decide, by dsimp only [plainC]; decide, by dsimp only [plainC]; decide, by dsimp only [plainC]; decide, by dsimp only [plainC]; decide, h5⟩
  · show Vld ⟨167772160, 16⟩ ∧ (8 : Int) ≤ 16 ∧ (16 : Int) ≤ 28 ∧ cls 167772160 = 0
    decide
  · show (16 : Int) + 1 ≤ 24 ∧ (24 : Int) ≤ 30 ∧ (Cnt ⟨167772160, 16⟩ 167772160 ∧ (167772160 : Int) % pw 24 = 0) ∧ (Cnt ⟨167772160, 16⟩ 167772928 ∧ (167772928 : Int) % pw 24 = 0)
    decide
theorem plain_po (X : SH) : PoolOK (plainC X) plainR := by
  have h5 : ∀ h : Int, 0 ≤ h → h < 5 → ¬ Cnt ⟨167772160, 16⟩ (3232235520 + h) := fun h h0 h1 => by
    have : h = 0 ∨ h = 1 ∨ h = 2 ∨ h = 3 ∨ h = 4 := by omega
    rcases this with rfl | rfl | rfl | rfl | rfl <;> decide
  refine ⟨by dsimp only [plainC]; decide, h5, fun r hr => ?_, List.pairwise_singleton _ _, List.pairwise_singleton _ _⟩
  rw [List.mem_singleton.1 hr]
  show (0 : Int) ≤ 2 ∧ (2 : Int) < 5 ∧ (24 : Int) = 24 ∧ (Cnt ⟨167772160, 16⟩ 167774464 ∧ (167774464 : Int) % pw 24 = 0)
  decide
theorem plain_good (X : SH) : GoodC (plainC X) plainR := by
  refine good_of ⟨by dsimp only [plainC]; decide, by dsimp only [plainC]; decide, by dsimp only [plainC]; decide, by dsimp only [plainC]; decide⟩ (fun r hr => by rw [List.mem_singleton.1 hr]; decide) ?_
  unfold checkS
  rw [if_neg (not_not_intro (plain_f X)), if_neg (not_not_intro (plain_po X))]
theorem plain_c (R : Hh) : Ctr (τ := SH) Tryz.prog 20 [] R [] (fun _ => True) (fun X => .agg ⟨cConfig (plainC X)⟩) (fun X => [Sv 3 58 X.v (plainR.map cReserve)]) := by
  refine in_ Tryz.func20 fun w0 => ?_
  refine ax_ fun b0 => ?_
  refine sl_ (e := (⟨2, ⟨167774464, 24⟩⟩ : QReserve)) fun V => ?_
  exact rtC_ V trivial
def macM (n : Int) : QMAC := ⟨2, 0, 0, 0, IntKind.u8.wrap (n.fdiv 256), IntKind.u8.wrap n⟩
theorem mac_c (n : Int) (R : Hh) : Ctp Tryz.prog 29 [.int .i64 n] R [] (.agg ⟨cMAC (macM n)⟩) := by
  refine in_ Tryz.func29 fun w0 => ?_
  refine ax_ fun b0 => ?_
  refine bua_ (cMAC (macM n)) ?_
  exact rm_ () trivial
instance mac_i (n : Int) (R : Hh) : Cp 29 [.int .i64 n] R [] True (.agg ⟨cMAC (macM n)⟩) := ⟨fun _ => mac_c n R⟩
def asksM (h n : Int) : QCmd := ⟨1, h, ⟨0, 0⟩, IntKind.u32.wrap n, macM n, 0⟩
theorem asks_c (h n : Int) (R : Hh) : Ctp Tryz.prog 23 [.int .i64 h, .int .i64 n] R [] (.agg ⟨cCmd (asksM h n)⟩) := by
  refine in_ Tryz.func23 fun w0 => ?_
  refine ax_ fun b0 => ?_
  exact rm_ () trivial
instance asks_i (h n : Int) (R : Hh) : Cp 23 [.int .i64 h, .int .i64 n] R [] True (.agg ⟨cCmd (asksM h n)⟩) := ⟨fun _ => asks_c h n R⟩
end Go.Proofs.YtdallmabajeajaaGreatDoor.Fw
set_option linter.all false
set_option maxHeartbeats 4000000
set_option maxRecDepth 100000
namespace Go.Proofs.YtdallmabajeajaaGreatDoor.Fw
open Go
end Go.Proofs.YtdallmabajeajaaGreatDoor.Fw
set_option linter.all false
namespace Go.Proofs.YtdallmabajeajaaGreatDoor.Fw
open Go Go.ChangeShapes Go.WideShapes Go.ChangeAt Go.RowKit
section
variable {H : Type} {enc : TypeId × Value → H} {P : Program} {w : World} {base : Nat} {spare : Nat → Bool} {held : Bool} {fuel : Nat} {t : TypeId} {cs : List Value} {x : DataW H × List MemPlace}
theorem cellsOf_ty {ag : Bool} {n : Nat} (h : tyI P t = some (ag, n)) : P.cellsOf t = n := by
  obtain ⟨d, i, h1, h2, h3, h4⟩ := tyI_spec h
  simp [Program.cellsOf, h2, h4]
theorem trod_fx {k : IntKind} (ht : inI P t = some k) (h : DataW.trod enc P w base spare held fuel t cs = some x) : ∃ y : Fx k, cs = [.int k y.v] := by
  obtain ⟨n, rfl, _, hw⟩ := DataW.trod_int (inI_spec ht) h
  refine ⟨⟨n, ?_⟩, rfl⟩
  simp only [Lit.wf, Bool.and_eq_true, decide_eq_true_eq] at hw
  cases k <;> simp [IntKind.wrap, IntKind.min, IntKind.max, IntKind.signed, IntKind.bits] at hw ⊢ <;> (try split) <;> omega
theorem trod_len {fs : List (Nat × Nat)} {ag : Bool} {n : Nat} (hs : stI P t = some fs) (ht : tyI P t = some (ag, n)) (h : DataW.trod enc P w base spare held fuel t cs = some x) : cs.length = n := by
  obtain ⟨fds, h1, _⟩ := stI_spec hs
  obtain ⟨_, _, _, _, hl, _⟩ := DataW.trod_struct h1 h
  rw [hl, cellsOf_ty ht]
theorem rd_sliceQ {α : Type} {c : α → List Value} {q : DataW H → α → Prop} {E : TypeId} {ag : Bool} {k : Nat} (ht : slI P t = some E) (hE : tyI P E = some (ag, k)) (hk : Nat.ble 1 k = true)
    (hel : ∀ (m : Nat) (es : List Value) (y : DataW H × List MemPlace), DataW.trod enc P w base spare held m E es = some y → ∃ z : α, es = c z ∧ q y.1 z) (hck : ∀ z : α, (c z).length = k)
    (h : DataW.trod enc P w base spare held fuel t cs = some x) :
    ∃ (v : SH) (xs : List α), cs = [v.v] ∧ ((x.1 = .nil ∧ xs = []) ∨ ∃ els sp, x.1 = .slice els sp ∧ els.length = xs.length ∧ ∀ (i : Nat) (z : α), xs[i]? = some z → ∃ d, els[i]? = some d ∧ q d z) ∧ (xs.length ≤ 140737488355328 → RdS (hh w) k v.v (xs.map c)) := by
  rcases Go.Deep.open_slice (slI_spec ht) h with ⟨rfl, rfl⟩ | ⟨a, len, cap, m, n, D, Pl, rfl, hb, hl, hcap, rfl, rfl, hall⟩
  · exact ⟨nilH, [], rfl, .inl ⟨rfl, rfl⟩, fun _ => RdS.nil _ _⟩
  have hk1 : 1 ≤ k := Nat.le_of_ble_eq_true hk
  rw [cellsOf_ty hE] at hall
  have hm : len ≤ (if spare a.block = true then cap else len) := by split <;> omega
  by_cases hlen : len = 0
  · subst hlen
    exact ⟨⟨some a, 0, cap⟩, [], rfl, .inr ⟨_, _, rfl, by simp, by simp⟩, fun _ => ⟨by simp, by simp, some a, cap, rfl, by simp, fun h => absurd rfl h⟩⟩
  -- the elements
  have hex : ∀ i, i < len → ∃ z : α, w.cells? base (a.add (i * k)) k = some (c z) ∧ q (D i) z := by
    intro i hi
    obtain ⟨cs', h1, h2⟩ := hall i (by omega)
    obtain ⟨z, rfl, hq⟩ := hel _ _ _ h2
    exact ⟨z, h1, hq⟩
  have hxs : ∀ n, n ≤ len → ∃ xs : List α, xs.length = n ∧ ∀ i z, xs[i]? = some z → w.cells? base (a.add (i * k)) k = some (c z) ∧ q (D i) z := by
    intro n
    induction n with
    | zero => intro _; exact ⟨[], rfl, by simp⟩
    | succ n ih =>
      intro hn
      obtain ⟨xs, h1, h2⟩ := ih (by omega)
      obtain ⟨z, hz⟩ := hex n (by omega)
      refine ⟨xs ++ [z], by simp [h1], fun i y hy => ?_⟩
      rw [List.getElem?_append] at hy
      split at hy
      · exact h2 i y hy
      · rename_i hge
        have : i = n := by
          have := (List.getElem?_eq_some_iff.1 hy).1
          simp at this
          omega
        subst this
        rw [h1] at hy
        simp at hy
        subst hy
        exact hz
  obtain ⟨xs, hx1, hx2⟩ := hxs len (Nat.le_refl _)
  refine ⟨⟨some a, len, cap⟩, xs, rfl, .inr ⟨_, _, rfl, by simp [hx1], fun i z hz => ⟨D i, by have hi := (List.getElem?_eq_some_iff.1 hz).1; simp [show i < len by omega], (hx2 i z hz).2⟩⟩, fun hbd => ?_⟩
  -- the block
  have hcell : ∀ j, j < len * k → ∃ v, w.cell? (a.add j) = some v ∧ ((xs.map c).flatten)[j]? = some v := by
    intro j hj
    have hi : j / k < len := Nat.div_lt_of_lt_mul (by rw [Nat.mul_comm]; exact hj)
    obtain ⟨z, hz⟩ := get_of_lt (l := xs) (i := j / k) (by omega)
    have h1 := (hx2 _ _ hz).1
    unfold World.cells? at h1
    split at h1
    · have h2 := mapM_some_get h1 (j % k) (j % k) (by simp [Nat.mod_lt _ (show 0 < k by omega)])
      rw [Go.Deep.add_add, show j / k * k + j % k = j by rw [Nat.mul_comm]; exact Nat.div_add_mod j k] at h2
      have hlt : j % k < (c z).length := by rw [hck]; exact Nat.mod_lt _ (by omega)
      refine ⟨(c z)[j % k], by rw [h2, List.getElem?_eq_getElem hlt], ?_⟩
      have hfc := flat_cells (k := k) (ds := xs.map c) (i := j / k) (d := c z) (by intro d hd; obtain ⟨y, _, rfl⟩ := List.mem_map.1 hd; exact hck y) (get_map c hz)
      have h3 : (((xs.map c).flatten.drop (j / k * k)).take k)[j % k]? = (c z)[j % k]? := by rw [hfc]
      rw [List.getElem?_take_of_lt (Nat.mod_lt _ (by omega)), List.getElem?_drop, show j / k * k + j % k = j by rw [Nat.mul_comm]; exact Nat.div_add_mod j k] at h3
      rw [h3, List.getElem?_eq_getElem hlt]
    · cases h1
  obtain ⟨v0, hv0, _⟩ := hcell 0 (Nat.mul_pos (by omega) (by omega))
  obtain ⟨blk, off, spot⟩ := a
  have hobj : spot = none ∧ ∃ arr T fz, w.heap[blk]? = some (.cells arr T fz) := by
    rw [add_zero'] at hv0
    unfold World.cell? at hv0
    split at hv0
    · rename_i h1
      split at hv0
      · cases hv0
      · rename_i h2
        exact ⟨by simpa using h2, _, _, _, h1⟩
    · cases hv0
  obtain ⟨rfl, arr, T, fz, hblk⟩ := hobj
  have hfl : (xs.map c).flatten.length = len * k := by
    rw [flat_len (k := k) (by intro d hd; obtain ⟨y, _, rfl⟩ := List.mem_map.1 hd; exact hck y)]
    simp [hx1]
  refine ⟨by intro d hd; obtain ⟨y, _, rfl⟩ := List.mem_map.1 hd; exact hck y, by simpa using hbd, some ⟨blk, off, none⟩, cap, by simp [SH.v, hx1], by simpa [hx1] using hl, fun _ => ⟨blk, off, arr, T, fz, rfl, hblk, ?_⟩⟩
  apply List.ext_getElem?
  intro j
  simp only [List.length_map, hx1]
  by_cases hj : j < len * k
  · obtain ⟨v, h1, h2⟩ := hcell j hj
    rw [h2, List.getElem?_take_of_lt hj, List.getElem?_drop]
    rw [add_flat] at h1
    simpa [World.cell?, hblk] using h1
  · rw [List.getElem?_eq_none (by simp; omega), List.getElem?_eq_none (by omega)]
end
/-! ### from a walk's end to the row's -/
section
variable {H : Type} {enc : TypeId × Value → H} {P : Program}
theorem post_kept {f : Func} {s : ChangeSpec} {apart fresh handsOn again : Bool} {W W' : World} {args : Array Value} {v : Value} {ds gs : List (DataW H)} {before pa pv : List MemPlace}
    (hW : DataW.Whole enc P f.params.toList s.vars apart W args.toList ds gs before) (hb : Below W.heap.size W W')
    (hres : ∀ (b : Nat) (sp : Nat → Bool) (hd : Bool), DataW.TrodAll enc P W' b sp hd f.resultTypes.toList (v.resultList f.resultTypes.size) (s.fn H (ds ++ gs)).results [])
    (hargs : ∀ sp : Nat → Bool, (∀ p ∈ before, sp p.block = true) → DataW.TrodAll enc P W' 0 sp true f.params.toList args.toList (s.fn H (ds ++ gs)).args pa)
    (hvars : ∀ sp : Nat → Bool, (∀ p ∈ before, sp p.block = true) → DataW.TrodVars enc P W' sp s.vars (s.fn H (ds ++ gs)).vars pv)
    (hps : before = pa ++ pv)
    (hok : ∀ (j : Nat) (t : TypeId) (r : Value), f.resultTypes[j]? = some t → (v.resultList f.resultTypes.size)[j]? = some r → Value.okWide P W' .any 0 t r) :
    s.post enc P f apart fresh handsOn again W args v W' := by
  have hlt := hW.lt
  have hold : ∀ p ∈ before, (fun b => decide (b < W.heap.size)) p.block = true := fun p hp => by simpa using hlt p hp
  have hfr : W.keptBut W' (fun p => p ∈ before ∧ (p ∈ ([] : List MemPlace) ∨ p ∈ pa ∨ p ∈ pv)) := hb.frame _
  have hW0 := hW
  obtain ⟨_, _, _, _, _, hz, hn⟩ := hW0
  refine ⟨ds, gs, before, [], pa, pv, hW, hres _ _ _, hargs _ hold, hvars _ hold, hfr, fun _ => ⟨hok, ds.map id |> fun _ => _, _, [] ++ pa ++ pv, ⟨[] ++ pa, pv, trodAll_append (hargs _ (fun _ _ => rfl)) (hres _ _ _), hvars _ (fun _ _ => rfl), rfl, ?_, ?_⟩, ?_⟩⟩
  · intro b off hp
    have hmem : MemPlace.cell b off ∈ before := by rw [hps]; simpa using hp
    rw [Below.frozen hb (p := ⟨b, off, none⟩) (hlt _ hmem)]
    exact hz b off hmem
  · intro ha
    have h2 := hn ha
    rw [hps] at h2
    simpa using h2
  · intro p hp _
    rw [hps]
    simpa using hp
theorem trodAll_kept (hl : laidOutB P = true) {W W' : World} (hb : Below W.heap.size W W') : ∀ {ts : List TypeId} {vs : List Value} {ds : List (DataW H)} {ps : List MemPlace} {sp : Nat → Bool}, (∀ t ∈ ts, P.readableRec t = true ∧ t < P.types.size) → (∀ p ∈ ps, p.block < W.heap.size) → (∀ p ∈ ps, sp p.block = true) →
    DataW.TrodAll enc P W 0 (fun _ => true) true ts vs ds ps → DataW.TrodAll enc P W' 0 sp true ts vs ds ps
  | [], _, _, _, _, _, _, _, h => by
    obtain ⟨rfl, rfl, rfl⟩ := trodAll_nil h
    exact trodAll_mk0
  | t :: ts, vs, ds, ps, sp, hr, hlt, hsp, h => by
    obtain ⟨v, vs1, d, ds1, a, b, rfl, rfl, rfl, h1, h2⟩ := trodAll_cons h
    have ht := hr t (by simp)
    refine trodAll_cons_mk (Go.WideElems.Trod_stays hl ht.1 ht.2 h1 (fun p hp => hb.same (hlt p (by simp [hp]))) (fun p hp => hsp p (by simp [hp]))) (trodAll_kept hl hb (fun t ht => hr t (by simp [ht])) (fun p hp => hlt p (by simp [hp])) (fun p hp => hsp p (by simp [hp])) h2)
end
end Go.Proofs.YtdallmabajeajaaGreatDoor.Fw
set_option linter.all false
namespace Go.Proofs.YtdallmabajeajaaGreatDoor.Fw
open Go Go.ChangeShapes Go.WideShapes Go.ChangeAt Go.RowKit
section
variable {H : Type} {P : Program}
theorem w_each {t : TypeId} {d : DataW H} {n : Nat} : ∀ {ts : List TypeId} {ds : List (DataW H)} {i : Nat}, ts[i]? = some t → ds[i]? = some d → n ∈ DataW.weights P t d → n ∈ DataW.weightsEach P ts ds
  | t0 :: ts, d0 :: ds, 0, h1, h2, h3 => by
    simp only [List.getElem?_cons_zero, Option.some.injEq] at h1 h2
    subst h1 h2
    simp only [DataW.weightsEach, List.mem_append]
    exact .inl h3
  | t0 :: ts, d0 :: ds, i + 1, h1, h2, h3 => by
    simp only [List.getElem?_cons_succ] at h1 h2
    simp only [DataW.weightsEach, List.mem_append]
    exact .inr (w_each h1 h2 h3)
  | [], _, _, h1, _, _ => by simp at h1
  | _ :: _, [], _, _, h2, _ => by simp at h2
variable {enc : TypeId × Value → H} {w : World} {base : Nat} {spare : Nat → Bool} {held : Bool} {fuel : Nat} {t : TypeId} {cs : List Value} {x : DataW H × List MemPlace}
theorem trod_fdD {i o n : Nat} {U : TypeId} {ag : Bool} (hf : fdI P t i = some (o, U)) (hu : tyI P U = some (ag, n)) (h : DataW.trod enc P w base spare held fuel t cs = some x) : ∃ m y, DataW.trod enc P w base spare held m U ((cs.drop o).take n) = some y ∧ (∃ l, x.1 = .agg l ∧ l[i]? = some y.1) ∧ ∀ k ∈ DataW.weights P U y.1, k ∈ DataW.weights P t x.1 := by
  obtain ⟨fs, f, g1, g2, rfl, rfl⟩ := fdI_spec hf
  obtain ⟨xs, m, _, hx1, _, hx, hall⟩ := DataW.trod_struct g1 h
  have h2 := hall i f g2
  rw [cellsOf_ty hu] at h2
  have hi : i < xs.length := by rw [hx]; exact (Array.getElem?_eq_some_iff.1 g2).1
  rw [List.getElem?_eq_getElem hi] at h2
  refine ⟨m, xs[i], h2, ⟨xs.map (·.1), by rw [hx1], by simp [hi]⟩, fun k hk => ?_⟩
  rw [hx1]
  simp only [DataW.weights, g1]
  exact w_each (i := i) (by simp [g2]) (by simp [hi]) hk
end
end Go.Proofs.YtdallmabajeajaaGreatDoor.Fw
set_option linter.all false
set_option maxRecDepth 100000
namespace Go.Proofs.YtdallmabajeajaaGreatDoor.Fw
open Go
section
variable {H : Type} {enc : TypeId × Value → H} {w : World} {base : Nat} {spare : Nat → Bool} {held : Bool} {fuel : Nat} {cs : List Value} {x : DataW H × List MemPlace}
theorem trod_i {P : Program} {k : IntKind} {t : TypeId} (ht : inI P t = some k) (h : DataW.trod enc P w base spare held fuel t cs = some x) : ∃ n : Int, cs = [.int k n] ∧ k.wrap n = n := by
  obtain ⟨y, e⟩ := trod_fx ht h; exact ⟨y.v, e, y.h⟩
end
end Go.Proofs.YtdallmabajeajaaGreatDoor.Fw
set_option linter.all false
namespace Go.Proofs.YtdallmabajeajaaGreatDoor.Fw
open Go
end Go.Proofs.YtdallmabajeajaaGreatDoor.Fw
set_option linter.all false
set_option maxRecDepth 100000
namespace Go.Proofs.YtdallmabajeajaaGreatDoor.Fw
open Go Go.ChangeShapes Go.WideShapes Go.ChangeAt Go.RowKit Go.Proofs.YtdallmabajeajaaGreatDoor
theorem ctp_start {P : Program} {f : FuncId} {us : List Value} {v : Value} {W : World} (h : Ctp P f us (hh W) [] v) : Calls P f ⟨us⟩ W fun e W' => e = .returned v ∧ Below W.heap.size W W' :=
  (h W W (Hp.start W)).mono fun e W' ⟨_, _, he, m⟩ => ⟨he, m.below⟩
section
variable {H : Type} {enc : TypeId × Value → H} {w : World} {base : Nat} {spare : Nat → Bool} {held : Bool} {fuel : Nat} {t : TypeId} {cs : List Value} {x : DataW H × List MemPlace}
theorem trod_lenD {P : Program} {fs : List (Nat × Nat)} (hs : stI P t = some fs) (h : DataW.trod enc P w base spare held fuel t cs = some x) : ∃ l, x.1 = .agg l ∧ l.length = fs.length := by
  obtain ⟨fds, h1, h2⟩ := stI_spec hs
  obtain ⟨xs, m, _, hx1, _, hx, _⟩ := DataW.trod_struct h1 h
  refine ⟨xs.map (·.1), by rw [hx1], ?_⟩
  rw [List.length_map, hx]
  have := mapM_some_length h2
  simpa using this.symm
theorem two_of {a b : DataW H} {l l1 l2 : List (DataW H)} (e : x.1 = .agg l) (hl : l.length = 2) (e1 : x.1 = .agg l1) (g1 : l1[0]? = some a) (e2 : x.1 = .agg l2) (g2 : l2[1]? = some b) : x.1 = .agg [a, b] := by
  rw [e] at e1 e2
  cases e1; cases e2
  match l, hl with
  | [u, v], _ =>
    simp only [List.getElem?_cons_zero, List.getElem?_cons_succ, Option.some.injEq] at g1 g2
    rw [e, g1, g2]
theorem trod_iD {P : Program} {k : IntKind} (ht : inI P t = some k) (h : DataW.trod enc P w base spare held fuel t cs = some x) : ∃ n : Int, cs = [.int k n] ∧ x.1 = .lit (.int k n) := by
  obtain ⟨n, e, e2, _⟩ := DataW.trod_int (inI_spec ht) h
  exact ⟨n, e, by rw [e2]⟩
def pfxD (z : QPrefix) : DataW H := .agg [.lit (.int .u32 z.Addr), .lit (.int .i64 z.Len)]
def clsD (z : Qaddr_class) : DataW H := .agg [pfxD z.at_, .lit (.int .i64 z.num)]
theorem o_pfxD (h : DataW.trod enc Tryz.prog w base spare held fuel 25 cs = some x) : ∃ z : QPrefix, cs = cPrefix z ∧ x.1 = pfxD z := by
  have hl := trod_len (stt rfl) (tt rfl) h
  obtain ⟨l, e, hl2⟩ := trod_lenD (stt rfl) h
  obtain ⟨m0, y0, h0, ⟨l0, e0, i0⟩, _⟩ := trod_fdD (i := 0) (ft rfl rfl) (tt rfl) h
  obtain ⟨m1, y1, h1, ⟨l1, e1, i1⟩, _⟩ := trod_fdD (i := 1) (ft rfl rfl) (tt rfl) h
  obtain ⟨n0, c0, d0⟩ := trod_iD (int_ rfl) h0
  obtain ⟨n1, c1, d1⟩ := trod_iD (int_ rfl) h1
  match cs, hl with
  | [a0, a1], _ =>
    simp only [List.drop, List.take, List.cons.injEq, and_true] at c0 c1
    refine ⟨⟨n0, n1⟩, by simp [cPrefix, c0, c1], ?_⟩
    rw [two_of e hl2 e0 i0 e1 i1, d0, d1]; rfl
theorem o_clsD (h : DataW.trod enc Tryz.prog w base spare held fuel 192 cs = some x) : ∃ z : Qaddr_class, cs = caddr_class z ∧ x.1 = clsD z := by
  have hl := trod_len (stt rfl) (tt rfl) h
  obtain ⟨l, e, hl2⟩ := trod_lenD (stt rfl) h
  obtain ⟨m0, y0, h0, ⟨l0, e0, i0⟩, _⟩ := trod_fdD (i := 0) (ft rfl rfl) (tt rfl) h
  obtain ⟨m1, y1, h1, ⟨l1, e1, i1⟩, _⟩ := trod_fdD (i := 1) (ft rfl rfl) (tt rfl) h
  obtain ⟨n0, c0, d0⟩ := o_pfxD h0
  obtain ⟨n1, c1, d1⟩ := trod_iD (int_ rfl) h1
  match cs, hl with
  | [a0, a1, a2], _ =>
    simp only [List.drop, List.take, cPrefix, List.cons.injEq, and_true] at c0 c1
    refine ⟨⟨n0, n1⟩, by simp [caddr_class, c0, c1], ?_⟩
    rw [two_of e hl2 e0 i0 e1 i1, d0, d1]; rfl
end
theorem cls_inj {H : Type} {a b : Qaddr_class} (h : (clsD a : DataW H) = clsD b) : a = b := by
  obtain ⟨⟨a1, a2⟩, a3⟩ := a
  obtain ⟨⟨b1, b2⟩, b3⟩ := b
  simp only [clsD, pfxD, DataW.agg.injEq, List.cons.injEq, DataW.lit.injEq, Lit.int.injEq, true_and, and_true] at h
  obtain ⟨⟨rfl, rfl⟩, rfl⟩ := h
  rfl
theorem gCls : Tryz.prog.globalNamed "weft/addr.classes" = some 0 := by kernel_rfl
theorem tCls : (Tryz.prog.globals[0]?).map (·.type) = some 190 := by kernel_rfl
theorem cls_of_laid {W : World} (h : laidMetH Tryz.prog [("weft/addr.classes", Rows.laid_weft_addr_classes)] W) : ∃ X, ClsR (hh W) X := by
  rw [MakeChecks.laidMetH_plain _ _ _ (by kernel_rfl)] at h
  obtain ⟨ps, ⟨g, t, cs, fuel, p, q, hg, ht, hvar, hd, _, _⟩, _⟩ := h
  obtain rfl := Option.some.inj (gCls.symm.trans hg)
  obtain rfl := Option.some.inj (tCls.symm.trans ht)
  obtain ⟨v, xs, e1, e2, e3⟩ := rd_sliceQ (c := caddr_class) (q := fun d z => d = clsD z) (slt rfl) (tt rfl) rfl (fun m es y h => by obtain ⟨z, h1, h2⟩ := o_clsD h; exact ⟨z, h1, h2⟩) (fun _ => rfl) hd
  have hxs : xs = clsL := by
    rcases e2 with ⟨h1, _⟩ | ⟨els, sp, h4, h5, h6⟩
    · cases h1
    · have h4 : (Rows.laid_weft_addr_classes : DataW _) = .slice els sp := h4
      unfold Rows.laid_weft_addr_classes at h4
      cases h4
      apply List.ext_getElem?
      intro i
      by_cases hi : i < xs.length
      · obtain ⟨d, hd1, hd2⟩ := h6 i xs[i] (List.getElem?_eq_getElem hi)
        rw [List.getElem?_eq_getElem hi]
        have hi4 : i < 4 := by rw [← h5] at hi; exact hi
        have : i = 0 ∨ i = 1 ∨ i = 2 ∨ i = 3 := by omega
        rcases this with rfl | rfl | rfl | rfl
        · cases hd1
          rw [show xs[0] = ⟨⟨0, 8⟩, 1⟩ from (cls_inj (a := ⟨⟨0, 8⟩, 1⟩) (b := xs[0]) hd2).symm]; rfl
        · cases hd1
          rw [show xs[1] = ⟨⟨2130706432, 8⟩, 2⟩ from (cls_inj (a := ⟨⟨2130706432, 8⟩, 2⟩) (b := xs[1]) hd2).symm]; rfl
        · cases hd1
          rw [show xs[2] = ⟨⟨3758096384, 4⟩, 3⟩ from (cls_inj (a := ⟨⟨3758096384, 4⟩, 3⟩) (b := xs[2]) hd2).symm]; rfl
        · cases hd1
          rw [show xs[3] = ⟨⟨4026531840, 4⟩, 4⟩ from (cls_inj (a := ⟨⟨4026531840, 4⟩, 4⟩) (b := xs[3]) hd2).symm]; rfl
      · have h9 : xs.length = clsL.length := h5.symm
        rw [List.getElem?_eq_none (by omega), List.getElem?_eq_none (by omega)]
  subst hxs
  refine ⟨v, ?_, e3 (by decide)⟩
  have hc := World.var?_cell hg hvar 0
  have e0 : cs[0]? = some v.v := by
    obtain ⟨l⟩ := cs
    have e1 : l = [v.v] := e1
    rw [e1]; rfl
  rw [e0] at hc
  unfold World.cell? at hc
  split at hc
  · rename_i arr T fz h1
    split at hc
    · cases hc
    · refine ⟨arr, T, fz, h1, ?_⟩
      have hc : arr[0]? = some v.v := hc
      obtain ⟨l⟩ := arr
      cases l with
      | nil => simp at hc
      | cons a l =>
        have : a = v.v := by simpa using hc
        rw [this]; rfl
  · cases hc
end Go.Proofs.YtdallmabajeajaaGreatDoor.Fw
set_option linter.all false
set_option maxHeartbeats 4000000
set_option maxRecDepth 100000
namespace Go.Proofs.YtdallmabajeajaaGreatDoor.Fw
open Go
end Go.Proofs.YtdallmabajeajaaGreatDoor.Fw
set_option linter.all false
set_option maxHeartbeats 4000000
set_option maxRecDepth 100000
namespace Go.Proofs.YtdallmabajeajaaGreatDoor.Fw
open Go
def L0 (p : QPrefix) (u : Int) : QLease := ⟨0, p, IntKind.u32.wrap 3, macM 3, u, 1⟩
section
variable {c : QConfig} {rs : List QReserve} {p : QPrefix} {now u d : Int} {es : List QEvent}
end
end Go.Proofs.YtdallmabajeajaaGreatDoor.Fw
set_option linter.all false
set_option maxHeartbeats 4000000
set_option maxRecDepth 100000
namespace Go.Proofs.YtdallmabajeajaaGreatDoor.Fw
open Go
theorem el_of {α : Type} [Inhabited α] {l : List α} {k : Nat} (h : k < l.length) : el l k = l[k] := by simp [el, List.getD_eq_getElem?_getD, h]
end Go.Proofs.YtdallmabajeajaaGreatDoor.Fw
set_option linter.all false
set_option maxHeartbeats 4000000
set_option maxRecDepth 100000
namespace Go.Proofs.YtdallmabajeajaaGreatDoor.Fw
open Go
def Hosted (c : QConfig) (rs : List QReserve) (l : QLease) : Prop := 0 ≤ l.Host ∧ l.Host < c.Hosts ∧ May c rs l.Host l.Subnet
instance dec_Hosted {c rs l} : Decidable (Hosted c rs l) := by unfold Hosted; infer_instance
theorem hosted_c (s : SG) (now rev : Int) (X : SH) (o : SOK s) (l : QLease) (hl : 0 ≤ l.Subnet.Addr ∧ l.Subnet.Addr < 4294967296) (R : Hh) : Ctp Tryz.prog 103 [.pointer (some (padd s.sp 0)), .agg ⟨cLease l⟩] R [Bx s.sp 120 (clease_Store (s.st now rev X)), Sv 3 58 s.c.Reserved.v (s.rs.map cReserve), Mp s.rk (vInt .i64) (vAgg cPrefix) s.mk'] (.bool (decide (Hosted s.c s.rs l))) := by
  have hrl := o.rl
  have hmm := mayM_iff (h := l.Host) o hl.1 hl.2
  refine in_ Tryz.func103 fun w0 => ?_
  refine bo_' fun b => ?_
  obtain ⟨bb, hb⟩ : ∃ bb, bb = (bif decide (l.Host ≥ 0) then decide (l.Host < (s.st now rev X).config.Hosts) else false) := ⟨_, rfl⟩
  have hbi : bb = true ↔ 0 ≤ l.Host ∧ l.Host < s.c.Hosts := by
    rw [hb]
    show (bif decide (l.Host ≥ 0) then decide (l.Host < s.c.Hosts) else false) = true ↔ _
    by_cases h1 : l.Host ≥ 0 <;> simp [h1]
  simp only [← hb]
  cases bb with
  | true =>
    have hh := hbi.1 rfl
    refine run_ ?_
    refine cp_ (fun R' q1 q2 => may_c s R' now rev X l.Host l.Subnet (by omega)) ?_
    refine re_ ?_
    have : Hosted s.c s.rs l ↔ May s.c s.rs l.Host l.Subnet := ⟨fun h => h.2.2, fun h => ⟨hh.1, hh.2, h⟩⟩
    cases hm : mayM s.c s.rs s.mk' l.Host l.Subnet with
    | true => rw [decide_eq_true (this.2 (hmm.1 hm))]; rfl
    | false => rw [decide_eq_false fun h => by rw [hmm.2 (this.1 h)] at hm; cases hm]; rfl
  | false =>
    refine run_ ?_
    refine re_ ?_
    rw [decide_eq_false fun h => by have := hbi.2 ⟨h.1, h.2.1⟩; cases this]; rfl
end Go.Proofs.YtdallmabajeajaaGreatDoor.Fw
set_option linter.all false
set_option maxHeartbeats 4000000
set_option maxRecDepth 100000
namespace Go.Proofs.YtdallmabajeajaaGreatDoor.Fw
open Go
structure LmOK (c : QConfig) (rs : List QReserve) (now rev : Int) (L : List QLease) : Prop where
  rise : Rise L
  host : Apart L
  revs : L.Pairwise fun a b => a.Rev ≠ b.Rev
  ok : ∀ l ∈ L, Hosted c rs l ∧ (now < l.Until ∨ l.Until = never) ∧ 1 ≤ l.Rev ∧ l.Rev ≤ rev
theorem take_pw {α : Type} {Q : α → α → Prop} {l : List α} {k : Nat} {r : α} (h : l.Pairwise Q) (hk : k < l.length) (hr : r ∈ l.take k) : Q r l[k] := by
  obtain ⟨j, hj, rfl⟩ := List.getElem_of_mem hr
  rw [List.length_take] at hj
  rw [List.getElem_take]
  exact List.pairwise_iff_getElem.1 h j k (by omega) hk (by omega)
theorem take_top {α : Type} {Q : α → α → Prop} {l : List α} {j : Nat} {a : α} (hj : j < l.length) (h : (l.take (j + 1)).Pairwise Q) (ha : a ∈ l.take (j + 1)) : a = l[j] ∨ Q a l[j] := by
  rw [List.take_succ_eq_append_getElem hj] at h ha
  rcases List.mem_append.1 ha with ha | ha
  · exact .inr ((List.pairwise_append.1 h).2.2 a ha l[j] (by simp))
  · exact .inl (List.mem_singleton.1 ha)
theorem seen_set {m : List (Int × Int)} (kd : KD m) {l : List Int} {x : Int} (hm : ∀ h, mget m h = if h ∈ l then some 1 else none) (h : Int) : mget (mset m x 1) h = if h ∈ l ++ [x] then some 1 else none := by
  rw [mget_set kd, hm]
  by_cases hp : h = x
  · rw [if_pos hp, if_pos (by rw [hp]; simp)]
  · rw [if_neg hp]
    by_cases hi : h ∈ l
    · rw [if_pos hi, if_pos (List.mem_append_left _ hi)]
    · rw [if_neg hi, if_neg fun h2 => (List.mem_append.1 h2).elim hi fun h3 => hp (by simpa using h3)]
theorem seen_no {m : List (Int × Int)} {l : List Int} {x : Int} (hm : ∀ h, mget m h = if h ∈ l then some 1 else none) : (0 < (mget m x).getD 0) ↔ x ∈ l := by
  rw [hm]
  by_cases hi : x ∈ l <;> simp [hi]
open Classical in
theorem leasesMay_c (s : SG) (now rev : Int) (X : SH) (o : SOK s) (I : QImage) (L : List QLease) (hL : ∀ l ∈ L, 0 ≤ l.Subnet.Addr ∧ l.Subnet.Addr < 4294967296) (R : Hh) (hR : RdS R 12 I.Leases.v (L.map cLease)) :
    Ctr (τ := Bool) Tryz.prog 62 [.pointer (some (padd s.sp 0)), .agg ⟨cImage I⟩] R [Bx s.sp 120 (clease_Store (s.st now rev X)), Sv 3 58 s.c.Reserved.v (s.rs.map cReserve), Mp s.rk (vInt .i64) (vAgg cPrefix) s.mk'] (fun b => b = true ↔ LmOK s.c s.rs I.Now I.Rev L) (fun b => .bool b) (fun _ => [Bx s.sp 120 (clease_Store (s.st now rev X)), Sv 3 58 s.c.Reserved.v (s.rs.map cReserve), Mp s.rk (vInt .i64) (vAgg cPrefix) s.mk']) := by
  have hbd := hR.bd
  refine in_ Tryz.func62 fun w0 => ?_
  refine bo_' fun b3 => ?_
  refine mm_ (κ := Int) (ν := Int) (vInt .i64) (vInt .i64) fun ih => ?_
  refine mm_ (κ := Int) (ν := Int) (vInt .i64) (vInt .i64) fun ir => ?_
  refine lo_ (fun z : List (Int × Int) × List (Int × Int) × Nat => [(14, .int .i64 z.2.2)]) (fun z => [Mp ih (vInt .i64) (vInt .i64) z.1, Mp ir (vInt .i64) (vInt .i64) z.2.1]) (fun z => z.2.2 ≤ L.length ∧ (KD z.1 ∧ KD z.2.1) ∧ ((∀ h, mget z.1 h = if h ∈ (L.take z.2.2).map (·.Host) then some 1 else none) ∧ ∀ h, mget z.2.1 h = if h ∈ (L.take z.2.2).map (·.Rev) then some 1 else none) ∧ LmOK s.c s.rs I.Now I.Rev (L.take z.2.2)) (fun z => L.length - z.2.2) ([], [], 0) ⟨by dsimp only; omega, ⟨.nil, .nil⟩, ⟨fun _ => rfl, fun _ => rfl⟩, ⟨.nil, .nil, .nil, by simp⟩⟩ fun ⟨mh, mr, k⟩ ⟨z1, z2, z3, z4⟩ => ?_
  dsimp only at z1 z2 z3 z4 ⊢
  refine if_ (fun c1 => ?_) (fun c1 => ?_)
  · have hkl : k < L.length := by omega
    have hel : el L k = L[k] := el_of hkl
    have hm := List.getElem_mem hkl
    rw [← hel] at hm
    have hlr := hL _ hm
    refine ax_ fun b8 => ?_
    refine if_ (fun c2 => ?_) (fun c2 => ?_)
    · refine rt_ false (iff_of_false (by decide) fun p => ?_)
      have c2 : (k : Int) > 0 ∧ bySM (el L ((k : Int) - 1)) (el L k) ≥ 0 := c2
      have h2 : k - 1 < L.length := by omega
      have e2 : el L ((k : Int) - 1) = L[k - 1] := by
        rw [show (k : Int) - 1 = ((k - 1 : Nat) : Int) by omega]; exact el_of h2
      have h3 := (List.pairwise_iff_getElem.1 p.rise) (k - 1) k h2 hkl (by omega)
      rw [← hel, ← e2] at h3
      have h4 := bySM_lt.2 (.inl h3)
      omega
    · refine cp_ (fun R' q1 q2 => hosted_c s now rev X o (el L k) hlr R') ?_
      have c2 : (k : Int) ≤ 0 ∨ bySM (el L ((k : Int) - 1)) (el L k) < 0 := c2
      refine if_ (fun c3 => ?_) (fun c3 => ?_)
      · refine rt_ false (iff_of_false (by decide) fun p => ?_)
        rw [seen_no z3.1, seen_no z3.2] at c3
        rcases c3 with (h | h) | h
        · exact h (p.ok _ hm).1
        · obtain ⟨r, hr, e⟩ := List.mem_map.1 h
          have := take_pw p.host hkl hr
          rw [← hel] at this
          exact this e
        · obtain ⟨r, hr, e⟩ := List.mem_map.1 h
          have := take_pw p.revs hkl hr
          rw [← hel] at this
          exact this e
      · refine if_ (fun c4 => ?_) (fun c4 => ?_)
        · refine rt_ false (iff_of_false (by decide) fun p => ?_)
          have h5 := p.ok _ hm
          have hnv : never = 9223372036854775807 := rfl
          omega
        · refine hh_ [[3, 4, 5], [0, 1, 2], [6], [7]] [[Bx b8 39 (cLease (el L k))], [Bx b8 39 (cLease (el L k))]] ?_
          refine mu_ (κ := Int) (ν := Int) (kc := vInt .i64) (vc := vInt .i64) (kx := (el L k).Host) (ux := (1 : Int)) ?_
          refine mu_ (κ := Int) (ν := Int) (kc := vInt .i64) (vc := vInt .i64) (kx := (el L k).Rev) (ux := (1 : Int)) ?_
          have hnv : never = 9223372036854775807 := rfl
          have e1 : L.take (k + 1) = L.take k ++ [el L k] := by rw [hel, List.take_succ_eq_append_getElem hkl]
          have n1 : ¬ (el L k).Host ∈ (L.take k).map (·.Host) := by rw [← seen_no z3.1]; omega
          have n2 : ¬ (el L k).Rev ∈ (L.take k).map (·.Rev) := by rw [← seen_no z3.2]; omega
          refine ba_ (mset mh (el L k).Host 1, mset mr (el L k).Rev 1, k + 1) ⟨by dsimp only; omega, ⟨z2.1.set, z2.2.set⟩, ⟨?_, ?_⟩, ?_⟩ (by dsimp only; omega)
          · dsimp only; rw [e1, List.map_append]; exact seen_set z2.1 z3.1
          · dsimp only; rw [e1, List.map_append]; exact seen_set z2.2 z3.2
          · dsimp only
            rw [e1]
            refine ⟨?_, ?_, ?_, fun l hl => ?_⟩
            · unfold Rise
              rw [List.pairwise_append]
              refine ⟨z4.rise, List.pairwise_singleton _ _, fun a ha b hb => ?_⟩
              rw [List.mem_singleton.1 hb]
              cases k with
              | zero => simp at ha
              | succ j =>
                have hjl : j < L.length := by omega
                have e2 : el L (((j + 1 : Nat) : Int) - 1) = L[j] := by
                  rw [show ((j + 1 : Nat) : Int) - 1 = (j : Int) by omega]; exact el_of hjl
                rw [e2] at c2
                have hlt := bySM_lt.1 (c2.resolve_left (by omega))
                have hpm : L[j] ∈ L.take (j + 1) := by rw [List.take_succ_eq_append_getElem hjl]; exact List.mem_append_right _ (List.mem_singleton.2 rfl)
                have m1 := may_facts o (z4.ok _ hpm).1.2.2
                have m2 := may_facts o c3.1.1.2.2
                have hlt2 : L[j].Subnet.Addr < (el L ((j + 1 : Nat) : Int)).Subnet.Addr := by omega
                rcases take_top hjl z4.rise ha with e | e
                · rw [e]; exact hlt2
                · exact Int.lt_trans e hlt2
            · unfold Apart
              rw [List.pairwise_append]
              exact ⟨z4.host, List.pairwise_singleton _ _, fun a ha b hb e => by rw [List.mem_singleton.1 hb] at e; exact n1 (List.mem_map.2 ⟨a, ha, e⟩)⟩
            · rw [List.pairwise_append]
              exact ⟨z4.revs, List.pairwise_singleton _ _, fun a ha b hb e => by rw [List.mem_singleton.1 hb] at e; exact n2 (List.mem_map.2 ⟨a, ha, e⟩)⟩
            · rcases List.mem_append.1 hl with h | h
              · exact z4.ok l h
              · rw [List.mem_singleton.1 h]
                exact ⟨c3.1.1, by omega, by omega, by omega⟩
  · have hk : k = L.length := by omega
    rw [hk, List.take_length] at z4
    exact rt_ true (iff_of_true rfl z4)
end Go.Proofs.YtdallmabajeajaaGreatDoor.Fw
set_option linter.all false
set_option maxHeartbeats 4000000
set_option maxRecDepth 100000
namespace Go.Proofs.YtdallmabajeajaaGreatDoor.Fw
open Go
def Ev1 (c : QConfig) (rs : List QReserve) (r : Int) (e : QEvent) : Prop := e.Rev = r ∧ Hosted c rs e.Lease ∧ (e.Kind = 1 ∧ e.Lease.Rev = e.Rev ∨ e.Kind = 2 ∧ 1 ≤ e.Lease.Rev ∧ e.Lease.Rev < e.Rev)
structure EmOK (c : QConfig) (rs : List QReserve) (rev : Int) (E : List QEvent) : Prop where
  len : (E.length : Int) = min c.Log rev
  ok : ∀ i : Nat, i < E.length → Ev1 c rs (rev - E.length + 1 + i) (el E i)
theorem eventsMay_c (s : SG) (now rev : Int) (X : SH) (o : SOK s) (I : QImage) (E : List QEvent) (hi : 0 ≤ I.Rev ∧ I.Rev ≤ 1099511627776) (hL : ∀ e ∈ E, 0 ≤ e.Lease.Subnet.Addr ∧ e.Lease.Subnet.Addr < 4294967296) (R : Hh) (hR : RdS R 14 I.Events.v (E.map cEvent)) :
    Ctr (τ := Bool) Tryz.prog 63 [.pointer (some (padd s.sp 0)), .agg ⟨cImage I⟩] R [Bx s.sp 120 (clease_Store (s.st now rev X)), Sv 3 58 s.c.Reserved.v (s.rs.map cReserve), Mp s.rk (vInt .i64) (vAgg cPrefix) s.mk'] (fun b => b = true ↔ EmOK s.c s.rs I.Rev E) (fun b => .bool b) (fun _ => [Bx s.sp 120 (clease_Store (s.st now rev X)), Sv 3 58 s.c.Reserved.v (s.rs.map cReserve), Mp s.rk (vInt .i64) (vAgg cPrefix) s.mk']) := by
  have hbd := hR.bd
  have hlog := o.f.log
  refine in_ Tryz.func63 fun w0 => ?_
  refine bo_' fun b3 => ?_
  refine if_ (fun c1 => ?_) (fun c1 => ?_)
  · refine rt_ false (iff_of_false (by decide) fun p => ?_)
    exact c1 p.len
  · refine lo_ (fun k : Nat => [(24, .int .i64 k)]) (fun _ => []) (fun k => k ≤ E.length ∧ ∀ i : Nat, i < k → Ev1 s.c s.rs (I.Rev - E.length + 1 + i) (el E i)) (fun k => E.length - k) 0 ⟨by omega, by simp⟩ fun k ⟨z1, z2⟩ => ?_
    refine if_ (fun c2 => ?_) (fun c2 => ?_)
    · have hkl : k < E.length := by omega
      have hel : el E k = E[k] := el_of hkl
      have hm := List.getElem_mem hkl
      rw [← hel] at hm
      have hlr := hL _ hm
      refine ax_ fun b7 => ?_
      refine gsp_ (fun hb => ?_) (fun hb => ?_)
      · simp only [hb]
        refine run_ ?_
        have h5 : (el E k).Rev = I.Rev - E.length + 1 + k := by simpa using hb
        refine cp_ (fun R' q1 q2 => hosted_c s now rev X o (el E k).Lease hlr R') ?_
        refine if_ (fun c3 => ?_) (fun c3 => ?_)
        · exact rt_ false (iff_of_false (by decide) fun p => c3 (p.ok k hkl).2.1)
        · have c3 : Hosted s.c s.rs (el E k).Lease := c3
          refine if_ (fun c4 => ?_) (fun c4 => ?_)
          · have c4 : (el E k).Kind = 1 := c4
            refine if_ (fun c5 => ?_) (fun c5 => ?_)
            · refine rt_ false (iff_of_false (by decide) fun p => ?_)
              have c5 : ¬ (el E k).Lease.Rev = (el E k).Rev := c5
              rcases (p.ok k hkl).2.2 with h | h
              · exact c5 h.2
              · omega
            · have c5 : (el E k).Lease.Rev = (el E k).Rev := c5
              refine ba_ (k + 1) ⟨by omega, fun i hi => ?_⟩ (by omega)
              by_cases h : i < k
              · exact z2 i h
              · rw [show i = k by omega]; exact ⟨h5, c3, .inl ⟨c4, c5⟩⟩
          · have c4 : ¬ (el E k).Kind = 1 := c4
            refine if_ (fun c5 => ?_) (fun c5 => ?_)
            · have c5 : (el E k).Kind = 2 := c5
              refine if_ (fun c6 => ?_) (fun c6 => ?_)
              · refine rt_ false (iff_of_false (by decide) fun p => ?_)
                have c6 : (el E k).Lease.Rev < 1 ∨ (el E k).Lease.Rev ≥ (el E k).Rev := c6
                rcases (p.ok k hkl).2.2 with h | h
                · exact c4 h.1
                · omega
              · have c6 : 1 ≤ (el E k).Lease.Rev ∧ (el E k).Lease.Rev < (el E k).Rev := c6
                refine ba_ (k + 1) ⟨by omega, fun i hi => ?_⟩ (by omega)
                by_cases h : i < k
                · exact z2 i h
                · rw [show i = k by omega]; exact ⟨h5, c3, .inr ⟨c5, c6.1, c6.2⟩⟩
            · have c5 : ¬ (el E k).Kind = 2 := c5
              refine rt_ false (iff_of_false (by decide) fun p => ?_)
              rcases (p.ok k hkl).2.2 with h | h
              · exact c4 h.1
              · exact c5 h.1
      · simp only [hb, Bool.not_false]
        refine run_ ?_
        refine rt_ false (iff_of_false (by decide) fun p => ?_)
        have h6 := (p.ok k hkl).1
        simp [h6] at hb
    · refine rt_ true (iff_of_true rfl ⟨c1, fun i hi => z2 i (by omega)⟩)
end Go.Proofs.YtdallmabajeajaaGreatDoor.Fw
set_option linter.all false
set_option maxHeartbeats 4000000
set_option maxRecDepth 100000
namespace Go.Proofs.YtdallmabajeajaaGreatDoor.Fw
open Go
def lastE (E : List QEvent) (h : Int) : Option QEvent := E.reverse.find? fun e => decide (e.Lease.Host = h)
theorem lastE_app {E : List QEvent} {e : QEvent} {h : Int} : lastE (E ++ [e]) h = if h = e.Lease.Host then some e else lastE E h := by
  unfold lastE
  rw [List.reverse_append]
  show (e :: E.reverse).find? _ = _
  by_cases hh : h = e.Lease.Host
  · rw [if_pos hh, List.find?_cons_of_pos (by simp [hh])]
  · rw [if_neg hh, List.find?_cons_of_neg (by simpa using fun x => hh x.symm)]
def AgL (base : Int) (E : List QEvent) (l : QLease) : Prop := match lastE E l.Host with
  | none => l.Rev ≤ base
  | some e => e.Kind = 1 ∧ nu e.Lease = nu l
def isT (E : List QEvent) (l : QLease) : Bool := (lastE E l.Host).isSome
theorem lastE_host {E : List QEvent} {h : Int} {e : QEvent} (k : lastE E h = some e) : e.Lease.Host = h := by
  have := List.find?_some k
  simpa using this
theorem mset_len {m : List (Int × QEvent)} {k : Int} {u : QEvent} : (mset m k u).length ≤ m.length + 1 := by
  cases h : mget m k with
  | none => rw [mset_new h]; simp
  | some v =>
    obtain ⟨r, h1, h2, _⟩ := mset_perm h
    rw [(h2 u).length_eq, h1.length_eq]; simp
def lastM (E : List QEvent) : List (Int × QEvent) := E.foldl (fun m e => mset m e.Lease.Host e) []
theorem lastM_app {E : List QEvent} {e : QEvent} : lastM (E ++ [e]) = mset (lastM E) e.Lease.Host e := by
  unfold lastM; rw [List.foldl_append]; rfl
theorem rev_ind {α : Type} {p : List α → Prop} (h0 : p []) (h1 : ∀ l a, p l → p (l ++ [a])) (l : List α) : p l := by
  have : ∀ m : List α, p m.reverse := by
    intro m
    induction m with
    | nil => exact h0
    | cons a m ih => rw [List.reverse_cons]; exact h1 _ _ ih
  have h := this l.reverse
  rwa [List.reverse_reverse] at h
theorem lastM_all (E : List QEvent) : KD (lastM E) ∧ (∀ h, mget (lastM E) h = lastE E h) ∧ (lastM E).length ≤ E.length := by
  refine rev_ind (p := fun E => KD (lastM E) ∧ (∀ h, mget (lastM E) h = lastE E h) ∧ (lastM E).length ≤ E.length) ⟨.nil, fun _ => rfl, Nat.le_refl _⟩ (fun l e ⟨h1, h2, h3⟩ => ?_) E
  rw [lastM_app]
  refine ⟨h1.set, fun h => ?_, ?_⟩
  · rw [lastE_app, mget_set h1, h2]
  · have := mset_len (m := lastM l) (k := e.Lease.Host) (u := e)
    rw [List.length_append]; simp only [List.length_cons, List.length_nil]; omega
structure AgOK (base : Int) (E : List QEvent) (L : List QLease) : Prop where
  all : ∀ l ∈ L, AgL base E l
  num : ((lastM E).filter fun e => decide (e.2.Kind = 1)).length = (L.filter (isT E)).length
instance dec_AgL {b E l} : Decidable (AgL b E l) := by unfold AgL; split <;> infer_instance
theorem agree_c (s : SG) (I : QImage) (L : List QLease) (E : List QEvent) (hi : 0 ≤ I.Rev ∧ I.Rev ≤ 1099511627776) (hE : E.length ≤ 65536) (hLl : L.length ≤ 65536) (R : Hh) (hX : RdS R 12 I.Leases.v (L.map cLease)) (hR : RdS R 14 I.Events.v (E.map cEvent)) :
    Ctr (τ := Bool) Tryz.prog 64 [.pointer (some (padd s.sp 0)), .agg ⟨cImage I⟩] R [] (fun b => b = true ↔ AgOK (I.Rev - E.length) E L) (fun b => .bool b) (fun _ => []) := by
  have hbd := hR.bd
  refine in_ Tryz.func64 fun w0 => ?_
  refine bo_' fun b3 => ?_
  refine mm_ (κ := Int) (ν := QEvent) (vInt .i64) (vAgg cEvent) fun im => ?_
  refine lo_ (fun z : List (Int × QEvent) × Nat => [(20, .int .i64 z.2)]) (fun z => [Mp im (vInt .i64) (vAgg cEvent) z.1]) (fun z => z.2 ≤ E.length ∧ z.1 = lastM (E.take z.2)) (fun z => E.length - z.2) ([], 0) ⟨by dsimp only; omega, rfl⟩ fun ⟨m, k⟩ ⟨z1, zm⟩ => ?_
  dsimp only at z1 zm ⊢
  refine if_ (fun c1 => ?_) (fun c1 => ?_)
  · have hkl : k < E.length := by omega
    refine ax_ fun b7 => ?_
    refine mu_ (κ := Int) (ν := QEvent) (kc := vInt .i64) (vc := vAgg cEvent) (kx := (el E k).Lease.Host) (ux := el E k) ?_
    have e1 : E.take (k + 1) = E.take k ++ [el E k] := by rw [el_of hkl, List.take_succ_eq_append_getElem hkl]
    refine ba_ (mset m (el E k).Lease.Host (el E k), k + 1) ⟨by dsimp only; omega, ?_⟩ (by dsimp only; omega)
    dsimp only
    rw [e1, lastM_app, zm]
  · have hk : k = E.length := by omega
    rw [hk, List.take_length] at zm
    obtain ⟨z2, z3, z4⟩ := lastM_all E
    rw [← zm] at z2 z3 z4
    obtain ⟨N, hN⟩ : ∃ N, N = (m.filter fun e => decide (e.2.Kind = 1)).length := ⟨_, rfl⟩
    have hNm : N ≤ m.length := by rw [hN]; exact List.length_filter_le _ _
    refine rg_ fun b => ?_
    refine lo_ (fun z : Int × List (Int × QEvent) => [(8, .int .i64 z.1)]) (fun z => [Ri b im (vInt .i64) (vAgg cEvent) m z.2]) (fun z => ∃ dn : List (Int × QEvent), m.Perm (dn ++ z.2) ∧ z.1 = ((dn.filter fun e => decide (e.2.Kind = 1)).length : Int)) (fun z => z.2.length) (0, m) ⟨[], .refl _, rfl⟩ fun ⟨cn, left⟩ ⟨dn, h1, h2⟩ => ?_
    dsimp only at h1 h2 ⊢
    have hdl := h1.length_eq
    rw [List.length_append] at hdl
    have hcn : cn ≤ dn.length ∧ 0 ≤ cn := by rw [h2]; exact ⟨Int.ofNat_le.2 (List.length_filter_le _ _), Int.natCast_nonneg _⟩
    refine nx_ (fun h => ?_) (fun i e h => ?_)
    · subst h
      rw [List.append_nil] at h1
      have hcN : cn = (N : Int) := by rw [h2, hN, (h1.filter _).length_eq]
      refine ur_ ?_
      refine lo_ (fun z : Int × Nat => [(8, .int .i64 z.1), (44, .int .i64 z.2)]) (fun _ => []) (fun z => z.2 ≤ L.length ∧ z.1 = N - (((L.take z.2).filter (isT E)).length : Int) ∧ ∀ l ∈ L.take z.2, AgL (I.Rev - E.length) E l) (fun z => L.length - z.2) (cn, 0) ⟨by dsimp only; omega, by dsimp only; rw [hcN]; simp, by simp⟩ fun ⟨lv, j⟩ ⟨y1, y2, y3⟩ => ?_
      dsimp only at y1 y2 y3 ⊢
      have hfl : ((L.take j).filter (isT E)).length ≤ j := Nat.le_trans (List.length_filter_le _ _) (by rw [List.length_take]; omega)
      refine if_ (fun c2 => ?_) (fun c2 => ?_)
      · have hjl : j < L.length := by omega
        have hel : el L j = L[j] := el_of hjl
        have hm : el L j ∈ L := by rw [hel]; exact List.getElem_mem hjl
        have e1 : L.take (j + 1) = L.take j ++ [el L j] := by rw [hel, List.take_succ_eq_append_getElem hjl]
        refine ax_ fun b12 => ?_
        have hz := z3 (el L j).Host
        cases hg : mget m (el L j).Host with
        | none =>
          rw [hg] at hz
          simp only [hg, Option.isSome_none, Option.getD_none]
          refine run_ ?_
          have hag : AgL (I.Rev - E.length) E (el L j) ↔ (el L j).Rev ≤ I.Rev - E.length := by unfold AgL; rw [← hz]
          have hit : isT E (el L j) = false := by unfold isT; rw [← hz]; rfl
          refine ax_ fun b13 => ?_
          refine if_ (fun c3 => ?_) (fun c3 => ?_)
          · refine rt_ false (iff_of_false (by decide) fun p => ?_)
            have := hag.1 (p.all _ hm)
            have c3 : (el L j).Rev > I.Rev - E.length := c3
            omega
          · have c3 : (el L j).Rev ≤ I.Rev - E.length := c3
            refine ba_ (lv, j + 1) ⟨by dsimp only; omega, ?_, ?_⟩ (by dsimp only; omega)
            · dsimp only
              rw [e1, List.filter_append, List.filter_cons_of_neg (by rw [hit]; decide), y2]
              simp
            · dsimp only
              rw [e1]
              intro l hl
              rcases List.mem_append.1 hl with h | h
              · exact y3 l h
              · rw [List.mem_singleton.1 h]; exact hag.2 c3
        | some e0 =>
          rw [hg] at hz
          have hh := lastE_host hz.symm
          simp only [hg, Option.isSome_some, Option.getD_some]
          refine run_ ?_
          have hag : AgL (I.Rev - E.length) E (el L j) ↔ e0.Kind = 1 ∧ nu e0.Lease = nu (el L j) := by unfold AgL; rw [← hz]
          have hit : isT E (el L j) = true := by unfold isT; rw [← hz]; rfl
          have hnu : nu e0.Lease = nu (el L j) ↔ e0.Lease.Subnet = (el L j).Subnet ∧ e0.Lease.Pub = (el L j).Pub ∧ e0.Lease.MAC = (el L j).MAC ∧ e0.Lease.Rev = (el L j).Rev := by
            constructor
            · intro h
              simp only [nu, QLease.mk.injEq] at h
              exact ⟨h.2.1, h.2.2.1, h.2.2.2.1, h.2.2.2.2.2⟩
            · rintro ⟨a1, a2, a3, a4⟩
              simp only [nu, QLease.mk.injEq]
              exact ⟨hh, a1, a2, a3, trivial, a4⟩
          refine ax_ fun b13 => ?_
          refine ax_ fun b15 => ?_
          refine if_ (fun c3 => ?_) (fun c3 => ?_)
          · refine rt_ false (iff_of_false (by decide) fun p => ?_)
            have c3 : (((¬e0.Kind = 1 ∨ ¬e0.Lease.Subnet = (el L j).Subnet) ∨ ¬e0.Lease.Pub = (el L j).Pub) ∨ ¬e0.Lease.MAC = (el L j).MAC) ∨ ¬e0.Lease.Rev = (el L j).Rev := c3
            have h9 := hag.1 (p.all _ hm)
            have h10 := hnu.1 h9.2
            rcases c3 with (((h | h) | h) | h) | h
            · exact h h9.1
            · exact h h10.1
            · exact h h10.2.1
            · exact h h10.2.2.1
            · exact h h10.2.2.2
          · have c3 : (((e0.Kind = 1 ∧ e0.Lease.Subnet = (el L j).Subnet) ∧ e0.Lease.Pub = (el L j).Pub) ∧ e0.Lease.MAC = (el L j).MAC) ∧ e0.Lease.Rev = (el L j).Rev := c3
            refine ba_ (lv - 1, j + 1) ⟨by dsimp only; omega, ?_, ?_⟩ (by dsimp only; omega)
            · dsimp only
              rw [e1, List.filter_append, List.filter_cons_of_pos hit, y2]
              simp
              omega
            · dsimp only
              rw [e1]
              intro l hl
              rcases List.mem_append.1 hl with h | h
              · exact y3 l h
              · rw [List.mem_singleton.1 h, hag, hnu]
                exact ⟨c3.1.1.1.1, c3.1.1.1.2, c3.1.1.2, c3.1.2, c3.2⟩
      · have hj : j = L.length := by omega
        rw [hj, List.take_length] at y2 y3
        refine rt_ (lv == 0) ?_
        rw [beq_iff_eq]
        exact ⟨fun h => ⟨y3, by rw [← zm, ← hN]; omega⟩, fun h => by have := h.num; rw [← zm, ← hN] at this; omega⟩
    · have hp := perm_erase h
      have hlf := hp.length_eq
      simp only [List.length_cons] at hlf
      have hcn2 : cn < 9223372036854775807 := by omega
      refine ax_ fun b10 => ?_
      have hperm : m.Perm ((dn ++ [e]) ++ left.eraseIdx i) := by rw [List.append_assoc]; exact h1.trans (List.Perm.append_left dn hp)
      refine if_ (fun c2 => ?_) (fun c2 => ?_)
      · refine ue_ ?_
        refine ba_ (cn + 1, left.eraseIdx i) ⟨dn ++ [e], hperm, ?_⟩ (by dsimp only; omega)
        have c2 : e.2.Kind = 1 := c2
        dsimp only
        rw [List.filter_append, List.length_append, h2]
        simp [c2]
      · refine ue_ ?_
        refine ba_ (cn, left.eraseIdx i) ⟨dn ++ [e], hperm, ?_⟩ (by dsimp only; omega)
        have c2 : ¬ e.2.Kind = 1 := c2
        dsimp only
        rw [List.filter_append, List.length_append, h2]
        simp [c2]
end Go.Proofs.YtdallmabajeajaaGreatDoor.Fw
set_option linter.all false
set_option maxHeartbeats 4000000
set_option maxRecDepth 100000
namespace Go.Proofs.YtdallmabajeajaaGreatDoor.Fw
open Go
structure ImgOK (c : QConfig) (rs : List QReserve) (now rev : Int) (L : List QLease) (E : List QEvent) : Prop where
  r0 : 0 ≤ rev
  r1 : rev ≤ 1099511627776
  n0 : 0 ≤ now
  lm : LmOK c rs now rev L
  em : EmOK c rs rev E
  ag : AgOK (rev - E.length) E L
theorem img_res {c : QConfig} {rs : List QReserve} {Y : SH} {now rev : Int} {L : List QLease} {E : List QEvent} (h : ImgOK c rs now rev L E) : ImgOK { c with Reserved := Y } rs now rev L E :=
  ⟨h.r0, h.r1, h.n0, ⟨h.lm.rise, h.lm.host, h.lm.revs, h.lm.ok⟩, ⟨h.em.len, h.em.ok⟩, h.ag⟩
theorem img_li {c : QConfig} {rs : List QReserve} {now rev : Int} {L : List QLease} {E : List QEvent} (h : ImgOK c rs now rev L E) (hn : now ≤ never) (hu : ∀ l ∈ L, l.Until ≤ never) (k : Nat) : LI c rs ⟨now, rev, L.take k, E⟩ where
  now := ⟨h.n0, hn⟩
  rev := ⟨h.r0, h.r1⟩
  rise := h.lm.rise.sublist (List.take_sublist _ _)
  apart := h.lm.host.sublist (List.take_sublist _ _)
  ok x hx := by
    have hx := List.mem_of_mem_take hx
    have k := h.lm.ok x hx
    exact ⟨⟨k.1.1, k.1.2.1⟩, k.1.2.2, k.2.2, k.2.1, hu x hx⟩
  log := by have := h.em.len; show min c.Log rev ≤ (E.length : Int); omega
  evs i hi := by
    have h1 := (h.em.ok i hi).1
    rw [el_of hi] at h1
    exact h1
theorem img_log {c : QConfig} {rs : List QReserve} {now rev : Int} {L : List QLease} {E : List QEvent} (h : ImgOK c rs now rev L E) (M : List QLease) : logS c ⟨now, rev, M, E⟩ = E := by
  have := h.em.len
  unfold logS
  show E.drop (E.length - (min c.Log rev).toNat) = E
  rw [show E.length - (min c.Log rev).toNat = 0 by omega]; rfl
theorem claim_ok {s : SG} {h : Int} {p : QPrefix} (o : SOK s) (m : May s.c s.rs h p) : p.Len = s.g.sl ∧ validM p = true ∧ contM s.g.net p.Addr = true ∧ ((s.g.mn ≤ numP s.g p ∧ numP s.g p ≤ s.g.mx) ∨ numP s.g p ∈ s.g.ks) := by
  have f := may_facts o m
  have b := base_vld o f.1 f.2.1
  refine ⟨by rw [o.sl]; exact f.1, b.2.1, by rw [o.net]; exact b.2.2, ?_⟩
  unfold May at m
  cases e : own s.rs h with
  | some q =>
    rw [e] at m
    obtain ⟨a, ha, _, e2⟩ := own_some e
    exact .inr ((o.ks _).2 ⟨a, ha, by rw [e2, show p = q from m]⟩)
  | none =>
    rw [e] at m
    have hr := row_iff o f.2.1
    exact .inl ⟨hr.1.2 m.2.2.2.2.1, hr.2.2 m.2.2.2.2.2⟩
theorem restoreYes_c (c : QConfig) (rs : List QReserve) (g : GoodC c rs) (X : SH) (I : QImage) (L : List QLease) (E : List QEvent) (hI : ImgOK c rs I.Now I.Rev L E) (hn : I.Now ≤ never) (hu : ∀ l ∈ L, l.Until ≤ never) (R : Hh) (hC : ClsR R X) (hR : RdS R 3 c.Reserved.v (rs.map cReserve)) (hL : RdS R 12 I.Leases.v (L.map cLease)) (hE : RdS R 14 I.Events.v (E.map cEvent)) :
    Ctr (τ := SG × SV) Tryz.prog 35 [.agg ⟨cConfig c⟩, .agg ⟨cImage I⟩] R [] (fun x => SOK x.1 ∧ Rel x.1 x.2 ⟨I.Now, I.Rev, L, E⟩ ∧ x.1.rs = rs ∧ x.1.c = { c with Reserved := x.1.c.Reserved }) (fun x => .tuple #[.pointer (some (padd x.1.sp 0)), .int .i64 0]) (fun x => stP x.1 x.2) := by
  have hbd := hL.bd
  have hbd2 := hE.bd
  refine in_ Tryz.func35 fun w0 => ?_
  refine bo_' fun b2 => ?_
  refine bo_' fun b3 => ?_
  refine ca_ (fun R' q1 q2 => newYes_c c rs g.hr g.rr X R' (hC.le q1) (hR.le q1) g.ok g.f g.po g.rl) fun ⟨s, v⟩ ⟨o, r, e1, e2⟩ => ?_
  dsimp only at o r e1 e2 ⊢
  have hIs : ImgOK s.c s.rs I.Now I.Rev L E := by rw [e1, e2]; exact img_res hI
  have hLr : ∀ l ∈ L, 0 ≤ l.Subnet.Addr ∧ l.Subnet.Addr < 4294967296 := fun l hl => (may_facts o (hIs.lm.ok l hl).1.2.2).2.2
  have hEr : ∀ e ∈ E, 0 ≤ e.Lease.Subnet.Addr ∧ e.Lease.Subnet.Addr < 4294967296 := fun e he => by
    obtain ⟨i, hi, rfl⟩ := List.mem_iff_getElem.1 he
    have := (hIs.em.ok i hi).2.1.2.2
    rw [el_of hi] at this
    exact (may_facts o this).2.2
  have hlog := o.f.log
  have hEl := hIs.em.len
  have hLl : L.length ≤ 64 := by
    have := (img_li hIs hn hu L.length).len o.f
    simpa using this
  have hr0 := hIs.r0
  have hr1 := hIs.r1
  have hn0 := hIs.n0
  have hb : (bif bif decide (I.Rev < 0) then true else decide (I.Rev > 1099511627776) then true else decide (I.Now < 0)) = false := by
    rw [decide_eq_false (by omega), decide_eq_false (by omega), decide_eq_false (by omega)]; rfl
  simp only [hb]
  refine run_ ?_
  refine ca_ (fun R' q1 q2 => leasesMay_c s v.now v.rev v.X o I L hLr R' (hL.le q1)) fun b1 hb1 => ?_
  obtain rfl : b1 = true := hb1.2 hIs.lm
  refine run_ ?_
  refine ca_ (fun R' q1 q2 => eventsMay_c s v.now v.rev v.X o I E ⟨hr0, hr1⟩ hEr R' (hE.le q1)) fun b1 hb1 => ?_
  obtain rfl : b1 = true := hb1.2 hIs.em
  refine run_ ?_
  refine ca_ (fun R' q1 q2 => agree_c s I L E ⟨hr0, hr1⟩ (by omega) (by omega) R' (hL.le q1) (hE.le q1)) fun b1 hb1 => ?_
  obtain rfl : b1 = true := hb1.2 hIs.ag
  refine run_ ?_
  refine hh_ [[1, 4, 5], [0, 2, 3, 6, 7, 8], [9], [10, 11, 12], [13]] [[Bx b3 65 (cImage I)], [Bx b3 65 (cImage I)]] ?_
  refine ca_ (fun R' q1 q2 => cloneE_c I.Events E (by omega) R' (hE.le q1)) fun Y _ => ?_
  have hrel0 : Rel s { v with now := I.Now, rev := I.Rev, X := Y, es := E } ⟨I.Now, I.Rev, L.take 0, E⟩ := ⟨img_li hIs hn hu 0, rfl, rfl, (img_log hIs _).symm, r.kd, r.ml, r.mh, r.hp, r.pl, r.th, r.runs, r.tk⟩
  refine lo_ (fun z : SV × Nat => [(71, .int .i64 z.2)]) (fun z => stP s z.1) (fun z => z.2 ≤ L.length ∧ Rel s z.1 ⟨I.Now, I.Rev, L.take z.2, E⟩) (fun z => L.length - z.2) ({ v with now := I.Now, rev := I.Rev, X := Y, es := E }, 0) ⟨Nat.zero_le _, hrel0⟩ fun ⟨v2, k⟩ ⟨z1, z2⟩ => ?_
  dsimp only at z1 z2 ⊢
  refine if_ (fun c1 => ?_) (fun c1 => ?_)
  · have hkl : k < L.length := by omega
    have hel : el L k = L[k] := el_of hkl
    have hm : el L k ∈ L := by rw [hel]; exact List.getElem_mem hkl
    have hok := hIs.lm.ok _ hm
    have hco := claim_ok o hok.1.2.2
    have hmf := may_facts o hok.1.2.2
    have e5 : L.take (k + 1) = L.take k ++ [el L k] := by rw [hel, List.take_succ_eq_append_getElem hkl]
    have hne : ∀ y ∈ L.take k, y.Host ≠ (el L k).Host := fun y hy => by have := take_pw hIs.lm.host hkl hy; rw [← hel] at this; exact this
    have hnf : free (L.take k) (el L k).Subnet := fun y hy e => by
      have := take_pw hIs.lm.rise hkl hy
      rw [← hel, e] at this
      exact absurd this (Int.lt_irrefl _)
    refine ax_ fun b9 => ?_
    refine ca_ (fun R' q1 q2 => claim_c s.pp s.g v2.PX v2.pr (el L k).Subnet (rel_pi z2 o) hmf.2.2.1 hmf.2.2.2 hco.1 hco.2.1 hco.2.2.1 hco.2.2.2 R') fun ⟨ok, Y2, pr⟩ hx => ?_
    obtain ⟨x1, x2, x3, x4, x5⟩ := hx
    have htk := taken_iff o z2 hmf.1 hmf.2.1
    have hok2 : ok = true := x1.2 fun h => htk.1 h hnf
    subst hok2
    refine run_ ?_
    have hthl := z2.th.length_eq
    rw [List.length_map, List.length_take] at hthl
    refine ca_ (fun R' q1 q2 => hold_c s { v2 with PX := Y2, pr := pr } R' (el L k) (by show v2.th.length ≤ 65535; omega) (fun _ => by show v2.th.length < 64; omega) z2.hp z2.pl) fun x hx => ?_
    have hls : (L.take (k + 1)).Perm (el L k :: del (L.take k) (el L k).Host) := by
      rw [e5, del_id hne]; exact List.perm_append_comm
    have hrel := rel_set (S := ⟨I.Now, I.Rev, L.take k, E⟩) (S' := ⟨I.Now, I.Rev, L.take (k + 1), E⟩) (x := el L k) (X := v2.X) (PX := Y2) (es := v2.es) (pr := pr) z2 (img_li hIs hn hu (k + 1)) hls hx z2.now z2.rev (by rw [z2.es, img_log hIs, img_log hIs]) x2 (fun n => by
      rw [x3, z2.tk]
      show _ ↔ ∃ l ∈ L.take (k + 1), numP s.g l.Subnet = n
      rw [e5]
      constructor
      · rintro (⟨l, hl, e⟩ | e)
        · exact ⟨l, List.mem_append_left _ hl, e⟩
        · exact ⟨_, List.mem_append_right _ (List.mem_singleton.2 rfl), e.symm⟩
      · rintro ⟨l, hl, e⟩
        rcases List.mem_append.1 hl with h | h
        · exact .inl ⟨l, h, e⟩
        · rw [List.mem_singleton.1 h] at e; exact .inr e.symm)
    exact ba_ (_, k + 1) ⟨by dsimp only; omega, hrel⟩ (by dsimp only; omega)
  · have hk : k = L.length := by omega
    rw [hk, List.take_length] at z2
    exact rt_ (s, v2) ⟨o, z2, e1, e2⟩
end Go.Proofs.YtdallmabajeajaaGreatDoor.Fw
set_option linter.all false
set_option maxHeartbeats 4000000
set_option maxRecDepth 100000
namespace Go.Proofs.YtdallmabajeajaaGreatDoor.Fw
open Go
end Go.Proofs.YtdallmabajeajaaGreatDoor.Fw
set_option linter.all false
set_option maxHeartbeats 1000000
namespace Go.Proofs.YtdallmabajeajaaGreatDoor.Fw
open Go
section
variable {l : List QLease} {x y : QLease} {h k : Int}
theorem ofH_upd (hx : ∃ z ∈ l, z.Host = y.Host) (a : Apart l) : ofH (upd l y) h = if h = y.Host then some y else ofH l h := by
  apply Option.ext
  intro u
  rw [ofH_some (apart_upd a), mem_upd]
  by_cases e : h = y.Host
  · rw [if_pos e]
    constructor
    · rintro ⟨⟨h1, h2⟩ | ⟨h1, _⟩, h3⟩
      · exact absurd (h3.trans e) h2
      · rw [h1]
    · intro h1
      cases h1
      exact ⟨.inr ⟨rfl, hx⟩, e.symm⟩
  · rw [if_neg e, ofH_some a]
    constructor
    · rintro ⟨⟨h1, h2⟩ | ⟨h1, _⟩, h3⟩
      · exact ⟨h1, h3⟩
      · rw [h1] at h3; exact absurd h3.symm e
    · rintro ⟨h1, h2⟩
      exact ⟨.inl ⟨h1, fun h3 => e (h2.symm.trans h3)⟩, h2⟩
theorem ofH_del (a : Apart l) : ofH (del l k) h = if h = k then none else ofH l h := by
  apply Option.ext
  intro u
  rw [ofH_some (apart_del a), mem_del]
  by_cases e : h = k
  · rw [if_pos e]
    constructor
    · rintro ⟨⟨_, h2⟩, h3⟩; exact absurd (h3.trans e) h2
    · intro h1; cases h1
  · rw [if_neg e, ofH_some a]
    constructor
    · rintro ⟨⟨h1, _⟩, h3⟩; exact ⟨h1, h3⟩
    · rintro ⟨h1, h2⟩; exact ⟨⟨h1, fun h3 => e (h2.symm.trans h3)⟩, h2⟩
theorem ofH_ins (a : Apart l) (hn : ∀ z ∈ l, z.Host ≠ y.Host) : ofH (ins l y) h = if h = y.Host then some y else ofH l h := by
  apply Option.ext
  intro u
  rw [ofH_some (apart_ins a hn), mem_ins]
  by_cases e : h = y.Host
  · rw [if_pos e]
    constructor
    · rintro ⟨h1 | h1, h3⟩
      · rw [h1]
      · exact absurd (h3.trans e) (hn u h1)
    · intro h1; cases h1; exact ⟨.inl rfl, e.symm⟩
  · rw [if_neg e, ofH_some a]
    constructor
    · rintro ⟨h1 | h1, h3⟩
      · rw [h1] at h3; exact absurd h3.symm e
      · exact ⟨h1, h3⟩
    · rintro ⟨h1, h2⟩; exact ⟨.inr h1, h2⟩
end
def Told (o : Option QEvent) (m : Option QLease) : Prop := match o with
  | none => m = none
  | some e => (e.Kind = 1 ∧ ∃ l, m = some l ∧ nu e.Lease = nu l) ∨ (e.Kind = 2 ∧ m = none)
structure HI (c : QConfig) (rs : List QReserve) (s : LS) : Prop where
  len : (s.es.length : Int) = s.rev
  all : ∀ i : Nat, i < s.es.length → Ev1 c rs (i + 1) (el s.es i)
  last : ∀ h, Told (lastE s.es h) (ofH s.ls h)
section
variable {c : QConfig} {rs : List QReserve} {s : LS}
theorem HI.add (i : HI c rs s) {e : QEvent} {now : Int} {ls : List QLease} {m : Option QLease} (he : Ev1 c rs (s.rev + 1) e) (hl : ∀ h, ofH ls h = if h = e.Lease.Host then m else ofH s.ls h) (ht : Told (some e) m) : HI c rs ⟨now, s.rev + 1, ls, s.es ++ [e]⟩ where
  len := by have := i.len; show ((s.es ++ [e]).length : Int) = s.rev + 1; rw [List.length_append]; simp only [List.length_cons, List.length_nil]; omega
  all k hk := by
    have hln := i.len
    have hk : k < (s.es ++ [e]).length := hk
    rw [List.length_append] at hk
    simp only [List.length_cons, List.length_nil] at hk
    show Ev1 c rs (k + 1) (el (s.es ++ [e]) k)
    by_cases h1 : k < s.es.length
    · have h2 := i.all k h1
      rw [el_of h1] at h2
      rw [el_of (by rw [List.length_append]; omega), List.getElem_append_left h1]
      exact h2
    · have h3 : k = s.es.length := by omega
      have h4 : el (s.es ++ [e]) k = e := by
        rw [el_of (by rw [List.length_append]; simp; omega), List.getElem_append_right (by omega)]
        simp
      rw [h4, show (k : Int) + 1 = s.rev + 1 by omega]
      exact he
  last h := by
    show Told (lastE (s.es ++ [e]) h) (ofH ls h)
    rw [lastE_app, hl]
    by_cases e1 : h = e.Lease.Host
    · rw [if_pos e1, if_pos e1]; exact ht
    · rw [if_neg e1, if_neg e1]; exact i.last h
theorem HI.rem (i : HI c rs s) (a : Apart s.ls) {x : QLease} (hx : Hosted c rs x) (h1 : 1 ≤ x.Rev) (h2 : x.Rev ≤ s.rev) : HI c rs (remS s x) :=
  i.add (m := none) ⟨rfl, hx, .inr ⟨rfl, h1, by show x.Rev < s.rev + 1; omega⟩⟩ (fun h => ofH_del a) (.inr ⟨rfl, rfl⟩)
theorem HI.rems : ∀ (l : List QLease) {s : LS}, HI c rs s → Apart s.ls → (∀ x ∈ l, Hosted c rs x ∧ 1 ≤ x.Rev ∧ x.Rev ≤ s.rev) → HI c rs (l.foldl remS s)
  | [], _, i, _, _ => i
  | x :: l, s, i, a, h => by
    have hx := h x (by simp)
    refine HI.rems l (i.rem a hx.1 hx.2.1 hx.2.2) (apart_del a) fun y hy => ?_
    have := h y (by simp [hy])
    exact ⟨this.1, this.2.1, by show y.Rev ≤ s.rev + 1; omega⟩
theorem HI.same (i : HI c rs s) {now : Int} {ls : List QLease} (h : ∀ k, Told (lastE s.es k) (ofH s.ls k) → Told (lastE s.es k) (ofH ls k)) : HI c rs ⟨now, s.rev, ls, s.es⟩ := ⟨i.len, i.all, fun k => h k (i.last k)⟩
theorem told_upd {o : Option QEvent} {m : Option QLease} {y l : QLease} (hn : nu l = nu y) (hm : m = some l) (h : Told o m) : Told o (some y) := by
  subst hm
  unfold Told at h ⊢
  cases o with
  | none => cases h
  | some e =>
    rcases h with ⟨h1, l', h2, h3⟩ | ⟨_, h2⟩
    · cases h2
      exact .inl ⟨h1, y, rfl, h3.trans hn⟩
    · cases h2
theorem hi_cmd (f : FieldsOK c) (li : LI c rs s) (i : HI c rs s) {cmd : QCmd} : HI c rs (cmdS c rs s cmd).1 := by
  unfold cmdS
  split
  · exact i
  split
  · split
    · exact i
    · exact HI.rems _ (s := ⟨aft s.now cmd.N, s.rev, s.ls, s.es⟩) ⟨i.len, i.all, i.last⟩ li.apart fun x hx => by
        have hm := (mem_due.1 hx).1
        have k := li.ok x hm
        exact ⟨⟨k.host.1, k.host.2, k.may⟩, k.rev.1, k.rev.2⟩
  split
  · exact i
  rename_i hh
  cases ho : ofH s.ls cmd.Host with
  | some l =>
    obtain ⟨hl, hlh⟩ := (ofH_some li.apart).1 ho
    have k := li.ok l hl
    dsimp only
    have up : HI c rs ⟨s.now, s.rev, upd s.ls { l with Until := aft s.now c.TTL }, s.es⟩ := i.same fun k h => by
      rw [ofH_upd (y := { l with Until := aft s.now c.TTL }) ⟨l, hl, rfl⟩ li.apart]
      by_cases e : k = l.Host
      · rw [if_pos e]
        exact told_upd (l := l) rfl ((ofH_some li.apart).2 ⟨hl, e.symm⟩) h
      · rw [if_neg e]; exact h
    split
    · split
      · exact up
      · exact i.add (m := some ⟨l.Host, l.Subnet, cmd.Pub, cmd.MAC, aft s.now c.TTL, s.rev + 1⟩) ⟨rfl, ⟨k.host.1, k.host.2, k.may⟩, .inl ⟨rfl, rfl⟩⟩ (fun h => ofH_upd (y := ⟨l.Host, l.Subnet, cmd.Pub, cmd.MAC, aft s.now c.TTL, s.rev + 1⟩) ⟨l, hl, rfl⟩ li.apart) (.inl ⟨rfl, _, rfl, rfl⟩)
    split
    · split
      · exact up
      · exact i
    · exact i.rem li.apart ⟨k.host.1, k.host.2, k.may⟩ k.rev.1 k.rev.2
  | none =>
    dsimp only
    split
    · cases hc : choose c rs s.ls cmd.Host cmd.Subnet with
      | none => exact i
      | some p =>
        obtain ⟨cm, _⟩ := choose_ok hc
        exact i.add (m := some ⟨cmd.Host, p, cmd.Pub, cmd.MAC, aft s.now c.TTL, s.rev + 1⟩) ⟨rfl, ⟨by show 0 ≤ cmd.Host; omega, by show cmd.Host < c.Hosts; omega, cm⟩, .inl ⟨rfl, rfl⟩⟩ (fun h => ofH_ins (y := ⟨cmd.Host, p, cmd.Pub, cmd.MAC, aft s.now c.TTL, s.rev + 1⟩) li.apart (ofH_none.1 ho)) (.inl ⟨rfl, _, rfl, rfl⟩)
    · exact i
theorem hi_apply (f : FieldsOK c) (li : LI c rs s) (i : HI c rs s) {cmd : QCmd} : HI c rs (applyS c rs s cmd).1 := by
  unfold applyS
  split
  · exact i
  · exact hi_cmd f li i
end
end Go.Proofs.YtdallmabajeajaaGreatDoor.Fw
set_option linter.all false
set_option maxHeartbeats 1000000
namespace Go.Proofs.YtdallmabajeajaaGreatDoor.Fw
open Go
section
variable {c : QConfig} {rs : List QReserve} {s : LS}
theorem last_mem {E : List QEvent} {h : Int} {e : QEvent} (k : lastE E h = some e) : e ∈ E := by
  have := List.mem_of_find?_eq_some k
  simpa using this
theorem last_suffix {P D : List QEvent} {h : Int} : lastE (P ++ D) h = match lastE D h with | some e => some e | none => lastE P h := by
  refine rev_ind (p := fun D => lastE (P ++ D) h = match lastE D h with | some e => some e | none => lastE P h) ?_ (fun l a ih => ?_) D
  · rw [List.append_nil]; rfl
  · rw [← List.append_assoc, lastE_app, lastE_app, ih]
    by_cases e : h = a.Lease.Host
    · rw [if_pos e, if_pos e]
    · rw [if_neg e, if_neg e]
theorem live_told (li : LI c rs s) (i : HI c rs s) {l : QLease} (hl : l ∈ s.ls) : ∃ e, lastE s.es l.Host = some e ∧ e.Kind = 1 ∧ nu e.Lease = nu l := by
  have h1 := (ofH_some li.apart).2 ⟨hl, rfl⟩
  have h2 := i.last l.Host
  rw [h1] at h2
  unfold Told at h2
  cases h3 : lastE s.es l.Host with
  | none => rw [h3] at h2; cases h2
  | some e =>
    rw [h3] at h2
    rcases h2 with ⟨h4, l', h5, h6⟩ | ⟨_, h5⟩
    · cases h5; exact ⟨e, rfl, h4, h6⟩
    · cases h5
theorem ev_rev (i : HI c rs s) {e : QEvent} (he : e ∈ s.es) : ∃ k : Nat, ∃ h : k < s.es.length, s.es[k] = e ∧ e.Rev = k + 1 := by
  obtain ⟨k, hk, rfl⟩ := List.mem_iff_getElem.1 he
  have := (i.all k hk).1
  rw [el_of hk] at this
  exact ⟨k, hk, rfl, this⟩
theorem img_ok (f : FieldsOK c) (li : LI c rs s) (i : HI c rs s) : ImgOK c rs s.now s.rev s.ls (logS c s) := by
  have hlog := f.log
  have hrv := li.rev
  have hlen := i.len
  have hll := li.log
  unfold maxRev at hrv
  have hL : (logS c s).length = (min c.Log s.rev).toNat := by unfold logS; rw [List.length_drop]; omega
  have hsp : s.es.take (s.es.length - (min c.Log s.rev).toNat) ++ logS c s = s.es := List.take_append_drop _ _
  have hpre : ∀ e ∈ s.es.take (s.es.length - (min c.Log s.rev).toNat), e.Rev ≤ s.rev - (logS c s).length := fun e he => by
    obtain ⟨k, hk, rfl⟩ := List.mem_iff_getElem.1 he
    rw [List.length_take] at hk
    have h1 := (i.all k (by omega)).1
    rw [el_of (by omega)] at h1
    rw [List.getElem_take]
    omega
  have hag : ∀ l ∈ s.ls, AgL (s.rev - (logS c s).length) (logS c s) l := fun l hl => by
    obtain ⟨e, h1, h2, h3⟩ := live_told li i hl
    have hrev : l.Rev = e.Rev := by
      have h4 := congrArg QLease.Rev h3
      obtain ⟨k, hk, he, _⟩ := ev_rev i (last_mem h1)
      have h5 := (i.all k hk).2.2
      rw [el_of hk, he] at h5
      have h4 : e.Lease.Rev = l.Rev := h4
      omega
    rw [← hsp, last_suffix] at h1
    unfold AgL
    cases h6 : lastE (logS c s) l.Host with
    | some e' =>
      rw [h6] at h1
      cases h1
      exact ⟨h2, h3⟩
    | none =>
      rw [h6] at h1
      show l.Rev ≤ _
      rw [hrev]
      exact hpre e (last_mem h1)
  refine ⟨hrv.1, hrv.2, li.now.1, ⟨li.rise, li.apart, ?_, fun l hl => ?_⟩, ⟨by omega, fun k hk => ?_⟩, ⟨hag, ?_⟩⟩
  · refine List.Pairwise.imp_of_mem (fun {a b} ha hb hne e => ?_) li.apart
    obtain ⟨ea, a1, a2, a3⟩ := live_told li i ha
    obtain ⟨eb, b1, b2, b3⟩ := live_told li i hb
    obtain ⟨k, hk, ka, kr⟩ := ev_rev i (last_mem a1)
    obtain ⟨j, hj, jb, jr⟩ := ev_rev i (last_mem b1)
    have h5 := (i.all k hk).2.2
    rw [el_of hk, ka] at h5
    have h6 := (i.all j hj).2.2
    rw [el_of hj, jb] at h6
    have h7 : ea.Lease.Rev = a.Rev := by have := congrArg QLease.Rev a3; exact this
    have h8 : eb.Lease.Rev = b.Rev := by have := congrArg QLease.Rev b3; exact this
    have hkj : k = j := by omega
    subst hkj
    rw [ka] at jb
    subst jb
    have h9 := lastE_host a1
    have h10 := lastE_host b1
    exact hne (h9.symm.trans h10)
  · have k := li.ok l hl
    exact ⟨⟨k.host.1, k.host.2, k.may⟩, k.till.1, k.rev.1, k.rev.2⟩
  · have hk2 : s.es.length - (min c.Log s.rev).toNat + k < s.es.length := by omega
    have h1 := i.all (s.es.length - (min c.Log s.rev).toNat + k) hk2
    rw [el_of hk2] at h1
    rw [el_of hk]
    have h2 : (logS c s)[k] = s.es[s.es.length - (min c.Log s.rev).toNat + k] := by
      simp only [logS, List.getElem_drop]
    rw [h2]
    have h3 : s.rev - ((logS c s).length : Int) + 1 + k = ((s.es.length - (min c.Log s.rev).toNat + k : Nat) : Int) + 1 := by omega
    rw [h3]; exact h1
  · obtain ⟨d1, d2, _⟩ := lastM_all (logS c s)
    have hA : (((lastM (logS c s)).filter fun e => decide (e.2.Kind = 1)).map (·.1)).Nodup := (d1.sublist ((List.filter_sublist).map _))
    have hB : ((s.ls.filter (isT (logS c s))).map (·.Host)).Nodup := (apart_nodup.1 li.apart).sublist ((List.filter_sublist).map _)
    have hm : ∀ h, h ∈ ((lastM (logS c s)).filter fun e => decide (e.2.Kind = 1)).map (·.1) ↔ h ∈ (s.ls.filter (isT (logS c s))).map (·.Host) := by
      intro h
      constructor
      · intro hh
        obtain ⟨p, hp, rfl⟩ := List.mem_map.1 hh
        rw [List.mem_filter] at hp
        have h1 : lastE (logS c s) p.1 = some p.2 := by rw [← d2]; exact mget_mem d1 hp.1
        have h2 : lastE s.es p.1 = some p.2 := by rw [← hsp, last_suffix, h1]
        have h3 := i.last p.1
        rw [h2] at h3
        have hk : p.2.Kind = 1 := by simpa using hp.2
        rcases h3 with ⟨_, l, h4, _⟩ | ⟨h4, _⟩
        · obtain ⟨h5, h6⟩ := (ofH_some li.apart).1 h4
          exact List.mem_map.2 ⟨l, List.mem_filter.2 ⟨h5, by unfold isT; rw [h6, h1]; rfl⟩, h6⟩
        · omega
      · intro hh
        obtain ⟨l, hl, rfl⟩ := List.mem_map.1 hh
        rw [List.mem_filter] at hl
        have h1 := hag l hl.1
        have h2 := hl.2
        unfold isT at h2
        unfold AgL at h1
        cases h3 : lastE (logS c s) l.Host with
        | none => rw [h3] at h2; cases h2
        | some e =>
          rw [h3] at h1
          rw [← d2] at h3
          exact List.mem_map.2 ⟨(l.Host, e), List.mem_filter.2 ⟨mget_in h3, by simpa using h1.1⟩, rfl⟩
    have h1 := nodup_sub hA fun x hx => (hm x).1 hx
    have h2 := nodup_sub hB fun x hx => (hm x).2 hx
    simp only [List.length_map] at h1 h2
    omega
/-! ### a store with a longer memory -/
def preS (P : List QEvent) (t : LS) : LS := ⟨t.now, t.rev, t.ls, P ++ t.es⟩
theorem rem_pre {P : List QEvent} : ∀ (l : List QLease) (t : LS), l.foldl remS (preS P t) = preS P (l.foldl remS t)
  | [], _ => rfl
  | x :: l, t => by
    have e : remS (preS P t) x = preS P (remS t x) := by simp [remS, preS, List.append_assoc]
    rw [List.foldl_cons, List.foldl_cons, e, rem_pre l]
theorem cmd_pre {P : List QEvent} {t : LS} {x : QCmd} : cmdS c rs (preS P t) x = (preS P (cmdS c rs t x).1, (cmdS c rs t x).2) := by
  unfold cmdS
  by_cases h1 : x.Kind < 1 ∨ 4 < x.Kind
  · simp only [if_pos h1]
  simp only [if_neg h1]
  by_cases h2 : x.Kind = 4
  · simp only [if_pos h2]
    by_cases h3 : x.N < 0
    · simp only [if_pos h3]
    · simp only [if_neg h3]
      have : tickS (preS P t) x.N = preS P (tickS t x.N) := by
        unfold tickS
        exact rem_pre _ ⟨aft t.now x.N, t.rev, t.ls, t.es⟩
      rw [this]
  simp only [if_neg h2]
  by_cases h3 : x.Host < 0 ∨ c.Hosts ≤ x.Host
  · simp only [if_pos h3]
  simp only [if_neg h3]
  show (match ofH t.ls x.Host with | some l => _ | none => _) = _
  cases ho : ofH t.ls x.Host with
  | some l =>
    dsimp only
    by_cases k1 : x.Kind = 1
    · simp only [if_pos k1]
      by_cases k2 : l.Pub = x.Pub ∧ l.MAC = x.MAC
      · simp only [if_pos k2]; rfl
      · simp only [if_neg k2]; simp [preS]
    · simp only [if_neg k1]
      by_cases k2 : x.Kind = 2
      · simp only [if_pos k2]
        by_cases k3 : l.Subnet = x.Subnet
        · simp only [if_pos k3]; rfl
        · simp only [if_neg k3]
      · simp only [if_neg k2]; simp [preS, remS]
  | none =>
    dsimp only
    by_cases k1 : x.Kind = 1
    · simp only [if_pos k1]
      show (match choose c rs t.ls x.Host x.Subnet with | none => _ | some p => _) = _
      cases hc : choose c rs t.ls x.Host x.Subnet with
      | none => rfl
      | some p => simp [preS]
    · simp only [if_neg k1]
theorem apply_pre {P : List QEvent} {t : LS} {x : QCmd} : applyS c rs (preS P t) x = (preS P (applyS c rs t x).1, (applyS c rs t x).2) := by
  unfold applyS
  rw [cmd_pre]
  dsimp only
  show (if (cmdS c rs t x).1.rev > maxRev then _ else _) = _
  split <;> rfl
theorem log_pre {P : List QEvent} {t : LS} (li : LI c rs t) : logS c (preS P t) = logS c t := by
  have := li.log
  unfold logS
  show (P ++ t.es).drop ((P ++ t.es).length - (min c.Log t.rev).toNat) = _
  rw [List.length_append, show P.length + t.es.length - (min c.Log t.rev).toNat = P.length + (t.es.length - (min c.Log t.rev).toNat) by omega, List.drop_append]
  simp
end
end Go.Proofs.YtdallmabajeajaaGreatDoor.Fw
set_option linter.all false
set_option maxHeartbeats 4000000
namespace Go.Proofs.YtdallmabajeajaaGreatDoor.Fw
open Go
section
variable {n : Nat} {w0 : World} {R : Hh} {Ps : List HP} {L : List (Nat × Value)} {ops : Array Oper} {rest : List Oper} {d : Nat} {ty T T2 E : TypeId} {pos : String} {aft : Array Edge} {x y : Operand} {p : Addr} {C : World → Prop} {F : GF}
end
section
variable {n : Nat} {w0 : World} {R : Hh} {Ps Qs Ps1 : List HP} {L L' L1 : List (Nat × Value)} {ops : Array Oper} {K : Act → World → Prop} {pl0 dn pl : List PE} {D is : List Nat} {F1 : GF}
end
section
variable {n : Nat} {w0 : World} {R : Hh} {Ps : List HP} {L : List (Nat × Value)} {ops : Array Oper} {Q : Exit → Act → World → Prop} {rest : List Oper} {d : Nat} {ty T T2 E : TypeId} {pos : String} {aft : Array Edge} {x y : Operand} {t j : Nat} {want b : Bool}
end
theorem mv_ {n : Nat} {w0 : World} {R : Hh} {Ps : List HP} (Qs : List HP) {L : List (Nat × Value)} {F : GF} (k : Gl n w0 R L Qs F) (hP : Sub Qs Ps) : Gl n w0 R L Ps F := fun a w hs m => k a w hs (m.sub hP)
theorem remC {x p : HP} {l m : List HP} (h : Rem l p m) : Rem (x :: l) p (x :: m) := by
  obtain ⟨a, b, rfl, rfl⟩ := h
  exact ⟨x :: a, b, rfl, rfl⟩
theorem ctpAs {P : Program} {f : FuncId} {args : List Value} {R : Hh} {Ps : List HP} {v v' : Value} (h : Ctp P f args R Ps v) (e : v = v') : Ctp P f args R Ps v' := e ▸ h
end Go.Proofs.YtdallmabajeajaaGreatDoor.Fw
set_option linter.all false
set_option maxHeartbeats 4000000
set_option maxRecDepth 100000
namespace Go.Proofs.YtdallmabajeajaaGreatDoor.Fw
open Go
end Go.Proofs.YtdallmabajeajaaGreatDoor.Fw
set_option linter.all false
set_option maxHeartbeats 1000000
namespace Go.Proofs.YtdallmabajeajaaGreatDoor.Fw
open Go
def p0 : QPrefix := ⟨167772160, 24⟩
def p1 : QPrefix := ⟨167772416, 24⟩
def lz (h : Int) (p : QPrefix) (n r : Int) : QLease := ⟨h, p, IntKind.u32.wrap n, macM n, 10, r⟩
def bLs (d : Int) : List QLease := [lz 0 p0 3 (5 + d), lz 1 p1 2 (4 + d)]
def bEs (d : Int) : List QEvent := [⟨2 + d, 2, lz 0 p0 1 (1 + d)⟩, ⟨3 + d, 1, lz 0 p0 1 (3 + d)⟩, ⟨4 + d, 1, lz 1 p1 2 (4 + d)⟩, ⟨5 + d, 1, lz 0 p0 3 (5 + d)⟩]
def pE (d : Nat) : List QEvent := (List.range (d + 1)).map fun (k : Nat) => ⟨(k : Int) + 1, 1, lz 0 p0 1 (k + 1)⟩
def bT (d : Int) : LS := ⟨0, 5 + d, bLs d, bEs d⟩
section
variable {X : SH} {d : Nat}
theorem b_st1 : applyS (plainC X) plainR ⟨0, 0, [], []⟩ (asksM 0 1) = (⟨0, 1, [lz 0 p0 1 1], [⟨1, 1, lz 0 p0 1 1⟩]⟩, ⟨0, lz 0 p0 1 1, 1, 0⟩) := by kernel_rfl
theorem b_st2 : (applyS (plainC X) plainR ⟨0, 1, [lz 0 p0 1 1], [⟨1, 1, lz 0 p0 1 1⟩]⟩ ⟨3, 0, ⟨0, 0⟩, 0, ⟨0, 0, 0, 0, 0, 0⟩, 0⟩).1 = ⟨0, 2, [], [⟨1, 1, lz 0 p0 1 1⟩, ⟨2, 2, lz 0 p0 1 1⟩]⟩ := by kernel_rfl
theorem b_st3 : (applyS (plainC X) plainR ⟨0, 2, [], [⟨1, 1, lz 0 p0 1 1⟩, ⟨2, 2, lz 0 p0 1 1⟩]⟩ (asksM 0 1)).1 = ⟨0, 3, [lz 0 p0 1 3], [⟨1, 1, lz 0 p0 1 1⟩, ⟨2, 2, lz 0 p0 1 1⟩, ⟨3, 1, lz 0 p0 1 3⟩]⟩ := by kernel_rfl
theorem b_st4 : (applyS (plainC X) plainR ⟨0, 3, [lz 0 p0 1 3], [⟨1, 1, lz 0 p0 1 1⟩, ⟨2, 2, lz 0 p0 1 1⟩, ⟨3, 1, lz 0 p0 1 3⟩]⟩ (asksM 1 2)).1 = ⟨0, 4, [lz 0 p0 1 3, lz 1 p1 2 4], [⟨1, 1, lz 0 p0 1 1⟩, ⟨2, 2, lz 0 p0 1 1⟩, ⟨3, 1, lz 0 p0 1 3⟩, ⟨4, 1, lz 1 p1 2 4⟩]⟩ := by kernel_rfl
theorem b_st5 : (applyS (plainC X) plainR ⟨0, 4, [lz 0 p0 1 3, lz 1 p1 2 4], [⟨1, 1, lz 0 p0 1 1⟩, ⟨2, 2, lz 0 p0 1 1⟩, ⟨3, 1, lz 0 p0 1 3⟩, ⟨4, 1, lz 1 p1 2 4⟩]⟩ (asksM 0 3)).1 = ⟨0, 5, bLs 0, ⟨1, 1, lz 0 p0 1 1⟩ :: bEs 0⟩ := by kernel_rfl
theorem b_log : logS (plainC X) ⟨0, 5, bLs 0, ⟨1, 1, lz 0 p0 1 1⟩ :: bEs 0⟩ = bEs 0 := by kernel_rfl
theorem b_may0 : May (plainC X) plainR 0 p0 := by
  have h : own plainR 0 = none := rfl
  unfold May
  rw [h]
  show p0.Len = 24 ∧ Cnt ⟨167772160, 16⟩ p0.Addr ∧ Vld p0 ∧ (∀ r ∈ plainR, r.Subnet ≠ p0) ∧ (167772160 : Int) ≤ p0.Addr ∧ p0.Addr ≤ 167772928
  decide
theorem b_may1 : May (plainC X) plainR 1 p1 := by
  have h : own plainR 1 = none := rfl
  unfold May
  rw [h]
  show p1.Len = 24 ∧ Cnt ⟨167772160, 16⟩ p1.Addr ∧ Vld p1 ∧ (∀ r ∈ plainR, r.Subnet ≠ p1) ∧ (167772160 : Int) ≤ p1.Addr ∧ p1.Addr ≤ 167772928
  decide
theorem b_ho0 {n r : Int} : Hosted (plainC X) plainR (lz 0 p0 n r) := ⟨by show (0 : Int) ≤ 0; omega, by show (0 : Int) < 5; omega, b_may0⟩
theorem b_ho1 {n r : Int} : Hosted (plainC X) plainR (lz 1 p1 n r) := ⟨by show (0 : Int) ≤ 1; omega, by show (1 : Int) < 5; omega, b_may1⟩
theorem pE_len : (pE d).length = d + 1 := by simp [pE]
theorem pE_get {k : Nat} (h : k < (pE d).length) : (pE d)[k] = ⟨(k : Int) + 1, 1, lz 0 p0 1 (k + 1)⟩ := by simp [pE]
theorem lastE_all {E : List QEvent} {k h : Int} (ha : ∀ e ∈ E, e.Lease.Host = k) (hk : h ≠ k) : lastE E h = none := by
  unfold lastE
  rw [List.find?_eq_none]
  intro e he
  have := ha e (List.mem_reverse.1 he)
  simp only [decide_eq_true_eq]
  intro h2
  exact hk (h2.symm.trans this)
theorem pE_host : ∀ e ∈ pE d, e.Lease.Host = 0 := fun e he => by
  obtain ⟨k, _, rfl⟩ := List.mem_map.1 he
  rfl
theorem b_hi : HI (plainC X) plainR (preS (pE d) (bT d)) where
  len := by
    show ((pE d ++ bEs d).length : Int) = 5 + d
    rw [List.length_append, pE_len]
    simp [bEs]; omega
  all i hi := by
    have hi : i < (pE d ++ bEs d).length := hi
    show Ev1 _ _ _ (el (pE d ++ bEs d) i)
    rw [el_of hi]
    by_cases h : i < (pE d).length
    · rw [List.getElem_append_left h, pE_get]
      exact ⟨rfl, b_ho0, .inl ⟨rfl, rfl⟩⟩
    · rw [List.getElem_append_right (by omega)]
      have hl := pE_len (d := d)
      rw [List.length_append] at hi
      simp only [bEs, List.length_cons, List.length_nil] at hi
      have hj : i - (pE d).length = 0 ∨ i - (pE d).length = 1 ∨ i - (pE d).length = 2 ∨ i - (pE d).length = 3 := by omega
      rcases hj with h0 | h0 | h0 | h0
      · simp only [h0]
        refine ⟨?_, b_ho0, .inr ⟨rfl, ?_, ?_⟩⟩
        · show (2 + d : Int) = _; omega
        · show (1 : Int) ≤ 1 + d; omega
        · show (1 + d : Int) < 2 + d; omega
      · simp only [h0]
        refine ⟨?_, b_ho0, .inl ⟨rfl, rfl⟩⟩
        show (3 + d : Int) = _; omega
      · simp only [h0]
        refine ⟨?_, b_ho1, .inl ⟨rfl, rfl⟩⟩
        show (4 + d : Int) = _; omega
      · simp only [h0]
        refine ⟨?_, b_ho0, .inl ⟨rfl, rfl⟩⟩
        show (5 + d : Int) = _; omega
  last h := by
    show Told (lastE (pE d ++ bEs d) h) (ofH (bLs d) h)
    have e : pE d ++ bEs d = (((pE d ++ [⟨2 + d, 2, lz 0 p0 1 (1 + d)⟩]) ++ [⟨3 + d, 1, lz 0 p0 1 (3 + d)⟩]) ++ [⟨4 + d, 1, lz 1 p1 2 (4 + d)⟩]) ++ [⟨5 + d, 1, lz 0 p0 3 (5 + d)⟩] := by simp [bEs]
    rw [e, lastE_app, lastE_app, lastE_app, lastE_app]
    show Told (if h = 0 then _ else if h = 1 then _ else if h = 0 then _ else if h = 0 then _ else _) _
    by_cases h0 : h = 0
    · subst h0
      rw [if_pos rfl]
      exact .inl ⟨rfl, _, rfl, rfl⟩
    · by_cases h1 : h = 1
      · subst h1
        rw [if_neg (by decide), if_pos rfl]
        exact .inl ⟨rfl, _, rfl, rfl⟩
      · rw [if_neg h0, if_neg h1, if_neg h0, if_neg h0, lastE_all pE_host h0]
        show ofH (bLs d) h = none
        rw [ofH_none]
        intro y hy
        simp only [bLs, List.mem_cons, List.not_mem_nil, or_false] at hy
        rcases hy with rfl | rfl
        · exact fun k => h0 k.symm
        · exact fun k => h1 k.symm
theorem b_li (hd : 5 + (d : Int) ≤ maxRev) : LI (plainC X) plainR (preS (pE d) (bT d)) where
  now := by show (0 : Int) ≤ 0 ∧ (0 : Int) ≤ never; decide
  rev := ⟨by show (0 : Int) ≤ 5 + d; omega, hd⟩
  rise := by
    show (bLs d).Pairwise _
    refine List.Pairwise.cons (fun y hy => ?_) (List.pairwise_singleton _ _)
    rw [List.mem_singleton.1 hy]
    show (167772160 : Int) < 167772416
    decide
  apart := by
    show (bLs d).Pairwise _
    refine List.Pairwise.cons (fun y hy => ?_) (List.pairwise_singleton _ _)
    rw [List.mem_singleton.1 hy]
    show (0 : Int) ≠ 1
    decide
  ok x hx := by
    have hx : x ∈ bLs d := hx
    simp only [bLs, List.mem_cons, List.not_mem_nil, or_false] at hx
    rcases hx with rfl | rfl
    · exact ⟨⟨by show (0 : Int) ≤ 0; omega, by show (0 : Int) < 5; omega⟩, b_may0, ⟨by show (1 : Int) ≤ 5 + d; omega, by show (5 + d : Int) ≤ 5 + d; omega⟩, ⟨.inl (by show (0 : Int) < 10; omega), by show (10 : Int) ≤ never; decide⟩⟩
    · exact ⟨⟨by show (0 : Int) ≤ 1; omega, by show (1 : Int) < 5; omega⟩, b_may1, ⟨by show (1 : Int) ≤ 4 + d; omega, by show (4 + d : Int) ≤ 5 + d; omega⟩, ⟨.inl (by show (0 : Int) < 10; omega), by show (10 : Int) ≤ never; decide⟩⟩
  log := by
    show min (4 : Int) (5 + d) ≤ ((pE d ++ bEs d).length : Int)
    rw [List.length_append, pE_len]
    simp only [bEs, List.length_cons, List.length_nil]
    omega
  evs i hi := by
    have h := b_hi (X := X) (d := d)
    have h1 := (h.all i hi).1
    rw [el_of hi] at h1
    have h2 := h.len
    omega
end
/-! ### the store at its end -/
def bN (n r q : Int) (E : List QEvent) : LS := ⟨0, r, [lz 0 p0 n r, lz 1 p1 2 q], E⟩
section
variable {X : SH} {n m r q : Int} {E : List QEvent}
theorem bN_of {n r q : Int} {E : List QEvent} : ofH (bN n r q E).ls 0 = some (lz 0 p0 n r) := rfl
theorem b_turn (hn : IntKind.u32.wrap n ≠ IntKind.u32.wrap m) (hr : r + 1 ≤ maxRev) : applyS (plainC X) plainR (bN n r q E) (asksM 0 m) = (bN m (r + 1) q (E ++ [⟨r + 1, 1, lz 0 p0 m (r + 1)⟩]), ⟨0, lz 0 p0 m (r + 1), r + 1, 0⟩) :=
  ap_turn (c := plainC X) (s := bN n r q E) (l := lz 0 p0 n r) (w := ⟨0, 0⟩) (pub := IntKind.u32.wrap m) (m := macM m) (n := 0) (by omega) (by show (0 : Int) < 5; omega) bN_of (fun h => hn h.1) hr
theorem b_full {c : QConfig} {rs : List QReserve} {s : LS} {cmd : QCmd} (hr : s.rev = maxRev) (h : maxRev < (cmdS c rs s cmd).1.rev ∨ (cmdS c rs s cmd) = (s, zL, 4)) : applyS c rs s cmd = (s, ⟨4, zL, maxRev, s.now⟩) := by
  unfold applyS
  rcases h with h | h
  · rw [if_pos (by omega), hr]
  · rw [h, if_neg (by dsimp only; omega), hr]
theorem rems_rev : ∀ (l : List QLease) (s : LS), (l.foldl remS s).rev = s.rev + l.length
  | [], s => by simp
  | x :: l, s => by
    rw [List.foldl_cons, rems_rev l]
    show s.rev + 1 + (l.length : Int) = s.rev + ((l.length + 1 : Nat) : Int)
    omega
theorem b_due {t : Int} (ht : 10 ≤ t) : (dueS (bN n r q E) t).length = 2 := by
  unfold dueS
  rw [(List.mergeSort_perm _ _).length_eq]
  have e : (bN n r q E).ls.filter (fun x => decide (x.Until ≤ t)) = (bN n r q E).ls := List.filter_eq_self.2 fun y hy => by
    have hy : y ∈ [lz 0 p0 n r, lz 1 p1 2 q] := hy
    simp only [List.mem_cons, List.not_mem_nil, or_false] at hy
    rcases hy with rfl | rfl <;> exact decide_eq_true ht
  rw [e]; rfl
theorem b_tick {k : Int} (hk : 10 ≤ k) (hk2 : k ≤ never) : applyS (plainC X) plainR (bN n maxRev q E) ⟨4, 0, ⟨0, 0⟩, 0, ⟨0, 0, 0, 0, 0, 0⟩, k⟩ = (bN n maxRev q E, ⟨4, zL, maxRev, 0⟩) := by
  refine b_full rfl (.inl ?_)
  unfold cmdS
  dsimp only
  rw [if_neg (by decide), if_pos rfl, if_neg (by omega)]
  show maxRev < (tickS (bN n maxRev q E) k).rev
  unfold tickS
  rw [rems_rev, b_due (by show 10 ≤ aft 0 k; unfold aft; split <;> omega)]
  show maxRev < maxRev + 2
  omega
theorem b_ask (hn : IntKind.u32.wrap n ≠ IntKind.u32.wrap m) : applyS (plainC X) plainR (bN n maxRev q E) (asksM 0 m) = (bN n maxRev q E, ⟨4, zL, maxRev, 0⟩) := by
  refine b_full rfl (.inl ?_)
  show maxRev < (cmdS (plainC X) plainR (bN n maxRev q E) ⟨1, 0, ⟨0, 0⟩, IntKind.u32.wrap m, macM m, 0⟩).1.rev
  unfold cmdS
  dsimp only
  rw [if_neg (by decide), if_neg (by decide), if_neg (by show ¬ ((0 : Int) < 0 ∨ (5 : Int) ≤ 0); omega), bN_of]
  dsimp only
  rw [if_pos rfl, if_neg (fun h => hn h.1)]
  show maxRev < maxRev + 1
  omega
theorem b_new : applyS (plainC X) plainR (bN n maxRev q E) (asksM 3 1) = (bN n maxRev q E, ⟨4, zL, maxRev, 0⟩) := by
  refine b_full rfl ?_
  show maxRev < (cmdS (plainC X) plainR (bN n maxRev q E) ⟨1, 3, ⟨0, 0⟩, IntKind.u32.wrap 1, macM 1, 0⟩).1.rev ∨ cmdS (plainC X) plainR (bN n maxRev q E) ⟨1, 3, ⟨0, 0⟩, IntKind.u32.wrap 1, macM 1, 0⟩ = _
  unfold cmdS
  dsimp only
  have e : ofH (bN n maxRev q E).ls 3 = none := rfl
  rw [if_neg (by decide), if_neg (by decide), if_neg (by show ¬ ((3 : Int) < 0 ∨ (5 : Int) ≤ 3); omega), e]
  dsimp only
  rw [if_pos rfl]
  split
  · exact .inr rfl
  · exact .inl (by show maxRev < maxRev + 1; omega)
theorem b_rel : applyS (plainC X) plainR (bN n maxRev q E) ⟨3, 0, ⟨0, 0⟩, 0, ⟨0, 0, 0, 0, 0, 0⟩, 0⟩ = (bN n maxRev q E, ⟨4, zL, maxRev, 0⟩) := by
  refine b_full rfl (.inl ?_)
  unfold cmdS
  dsimp only
  rw [if_neg (by decide), if_neg (by decide), if_neg (by show ¬ ((0 : Int) < 0 ∨ (5 : Int) ≤ 0); omega), bN_of]
  dsimp only
  rw [if_neg (by decide), if_neg (by decide)]
  show maxRev < maxRev + 1
  omega
theorem b_nine : applyS (plainC X) plainR (bN n maxRev q E) ⟨4, 0, ⟨0, 0⟩, 0, ⟨0, 0, 0, 0, 0, 0⟩, 9⟩ = (⟨9, maxRev, [lz 0 p0 n maxRev, lz 1 p1 2 q], E⟩, ⟨0, zL, maxRev, 9⟩) := by
  refine apply_of (S := ⟨9, maxRev, [lz 0 p0 n maxRev, lz 1 p1 2 q], E⟩) ?_ (Int.le_refl _)
  unfold cmdS
  dsimp only
  rw [if_neg (by decide), if_pos rfl, if_neg (by decide)]
  have e : (bN n maxRev q E).ls.filter (fun x => decide (x.Until ≤ aft 0 9)) = [] := List.filter_eq_nil_iff.2 fun y hy => by
    have hy : y ∈ [lz 0 p0 n maxRev, lz 1 p1 2 q] := hy
    simp only [List.mem_cons, List.not_mem_nil, or_false] at hy
    rcases hy with rfl | rfl <;> (simp only [decide_eq_true_eq]; show ¬ (10 : Int) ≤ 9; decide)
  show (tickS (bN n maxRev q E) 9, zL, (0 : Int)) = _
  unfold tickS dueS
  rw [show (bN n maxRev q E).now = 0 from rfl, e, List.mergeSort_nil]
  rfl
def bU (n q : Int) (E : List QEvent) : LS := ⟨9, maxRev, [⟨0, p0, IntKind.u32.wrap n, macM n, 19, maxRev⟩, lz 1 p1 2 q], E⟩
theorem b_renew : applyS (plainC X) plainR ⟨9, maxRev, [lz 0 p0 n maxRev, lz 1 p1 2 q], E⟩ ⟨2, 0, p0, 0, ⟨0, 0, 0, 0, 0, 0⟩, 0⟩ = (bU n q E, ⟨0, ⟨0, p0, IntKind.u32.wrap n, macM n, 19, maxRev⟩, maxRev, 9⟩) :=
  ap_renew (c := plainC X) (s := ⟨9, maxRev, [lz 0 p0 n maxRev, lz 1 p1 2 q], E⟩) (l := lz 0 p0 n maxRev) (by omega) (by show (0 : Int) < 5; omega) rfl rfl (Int.le_refl _)
theorem b_rel4 : applyS (plainC X) plainR (bU n q E) ⟨3, 4, ⟨0, 0⟩, 0, ⟨0, 0, 0, 0, 0, 0⟩, 0⟩ = (bU n q E, ⟨111, zL, maxRev, 9⟩) := by
  refine apply_of (S := bU n q E) ?_ (Int.le_refl _)
  unfold cmdS
  dsimp only
  have e : ofH (bU n q E).ls 4 = none := rfl
  rw [if_neg (by decide), if_neg (by decide), if_neg (by show ¬ ((4 : Int) < 0 ∨ (5 : Int) ≤ 4); omega), e]
  rfl
theorem b_back : applyS (plainC X) plainR (bU n q E) ⟨4, 0, ⟨0, 0⟩, 0, ⟨0, 0, 0, 0, 0, 0⟩, -1⟩ = (bU n q E, ⟨1, zL, maxRev, 9⟩) := by
  refine apply_of (S := bU n q E) ?_ (Int.le_refl _)
  unfold cmdS
  dsimp only
  rw [if_neg (by decide), if_pos rfl, if_pos (by decide)]
end
def Hst (X : SH) (d : Nat) (T : LS) : Prop := LI (plainC X) plainR (preS (pE d) T) ∧ HI (plainC X) plainR (preS (pE d) T)
theorem hst_apply {X : SH} {d : Nat} {T : LS} {cmd : QCmd} (h : Hst X d T) : Hst X d (applyS (plainC X) plainR T cmd).1 := by
  have h1 := LI.apply (cmd := cmd) (plain_f X) (plain_po X) h.1
  have h2 := hi_apply (cmd := cmd) (plain_f X) h.1 h.2
  rw [apply_pre] at h1 h2
  exact ⟨h1, h2⟩
theorem hst_img {X : SH} {d : Nat} {T : LS} (h : Hst X d T) (e : logS (plainC X) (preS (pE d) T) = logS (plainC X) T) : ImgOK (plainC X) plainR T.now T.rev T.ls (logS (plainC X) T) := by
  rw [← e]
  exact img_ok (plain_f X) h.1 h.2
/-! ### numbers moved up in a list -/
def shL (d : Int) (l : QLease) : QLease := { l with Rev := l.Rev + d }
def shE (d : Int) (e : QEvent) : QEvent := ⟨e.Rev + d, e.Kind, shL d e.Lease⟩
theorem sh_len {α : Type} {f : α → α} {l : List α} {k : Nat} (hk : k ≤ l.length) : ((l.take k).map f ++ l.drop k).length = l.length := by
  rw [List.length_append, List.length_map, List.length_take, List.length_drop]; omega
theorem sh_el {α : Type} [Inhabited α] {f : α → α} {l : List α} {k : Nat} (hk : k < l.length) : el ((l.take k).map f ++ l.drop k) k = el l k := by
  have hl := sh_len (f := f) (Nat.le_of_lt hk)
  rw [el_of (by omega), el_of hk, List.getElem_append_right (by simp; omega)]
  simp only [List.length_map, List.length_take, List.getElem_drop]
  congr 1; omega
theorem sh_set {α : Type} [Inhabited α] {f : α → α} {l : List α} {k : Nat} (hk : k < l.length) (y : α) : ((l.take k).map f ++ l.drop k).set k y = (l.take k).map f ++ y :: l.drop (k + 1) := by
  rw [List.set_append_right _ _ (by simp; omega), List.drop_eq_getElem_cons hk]
  have : k - ((l.take k).map f).length = 0 := by simp; omega
  rw [this]; rfl
theorem sh_next {α : Type} [Inhabited α] {f : α → α} {l : List α} {k : Nat} (hk : k < l.length) : (l.take k).map f ++ f (el l k) :: l.drop (k + 1) = (l.take (k + 1)).map f ++ l.drop (k + 1) := by
  rw [List.take_succ_eq_append_getElem hk, List.map_append, el_of hk]
  simp
theorem sh_el2 {α : Type} [Inhabited α] {f : α → α} {l : List α} {k : Nat} (hk : k < l.length) (y : α) : el ((l.take k).map f ++ y :: l.drop (k + 1)) k = y := by
  rw [el_of (by simp; omega), List.getElem_append_right (by simp; omega)]
  have : k - ((l.take k).map f).length = 0 := by simp; omega
  simp only [this]; rfl
theorem sh_set2 {α : Type} [Inhabited α] {f : α → α} {l : List α} {k : Nat} (hk : k < l.length) (x y : α) : ((l.take k).map f ++ x :: l.drop (k + 1)).set k y = (l.take k).map f ++ y :: l.drop (k + 1) := by
  rw [List.set_append_right _ _ (by simp; omega)]
  have : k - ((l.take k).map f).length = 0 := by simp; omega
  rw [this]; rfl
theorem sh_bLs {d : Int} : (bLs 0).map (shL d) = bLs d := by simp [bLs, shL, lz]
theorem sh_bEs {d : Int} : (bEs 0).map (shE d) = bEs d := by simp [bEs, shE, shL, lz]
end Go.Proofs.YtdallmabajeajaaGreatDoor.Fw
set_option linter.all false
set_option maxRecDepth 100000
namespace Go.Proofs.YtdallmabajeajaaGreatDoor.Fw
open Go
section
variable {H : Type} {enc : TypeId × Value → H} {w : World} {base : Nat} {spare : Nat → Bool} {held : Bool} {fuel : Nat} {cs : List Value} {x : DataW H × List MemPlace}
end
end Go.Proofs.YtdallmabajeajaaGreatDoor.Fw
