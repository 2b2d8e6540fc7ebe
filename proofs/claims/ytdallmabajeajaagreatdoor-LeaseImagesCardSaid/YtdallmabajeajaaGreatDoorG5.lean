/-
  Own work: walks and laws, joined by wip/tool/compact.py.
-/
import Derived.Test.YtdallmabajeajaaGreatDoorG4
import Derived.ProofKit
import Derived.OpenShut
import Derived.JoinedCond
import Derived.Carry
import Derived.Deep.Slices
import Derived.Test.YtdallmabajeajaaGreatDoorRows
import Derived.Deep.DeepWitnessRowRef
import Derived.LaidMore
import Derived.KernelRfl
set_option linter.all false
set_option linter.all false
set_option maxHeartbeats 4000000
set_option maxRecDepth 100000
namespace Go.Proofs.YtdallmabajeajaaGreatDoor.Fw
open Go
section
variable {n : Nat} {w0 : World} {R : Hh} {Ps : List HP} {L : List (Nat × Value)} {ops : Array Oper} {Q : Exit → Act → World → Prop} {rest : List Oper} {d : Nat} {x : Operand} {ty : TypeId} {pos : String} {aft : Array Edge} {v : Value} {C : World → Prop}
theorem ok_makeI (hx : ev L x = some v) : Ok Tryz.prog C L ⟨some d, .makeInterface 160 x, ty, pos, aft, none⟩ (.iface 160 v) := fun ρ ha w _ => by
  have hu := run_underlying Tryz.underlying160 w
  simp [execOp, Instr.makeInterface, hu, ha x v hx, Result.andThen]
theorem mi_ {L1 : List (Nat × Value)} {Ps1 : List HP} {F1 : GF} (k : Gl n w0 R L1 Ps1 F1) (hx : ev L x = some v := by rfl) (hd : Nat.blt d n = true := by rfl) (r : Av n w0 R ((d, .iface 160 v) :: L) Ps (.li Tryz.prog ops Q rest) L1 Ps1 F1 := by (repeat (apply x_; exact A3_)); exact av_r) :
    Gl n w0 R L Ps (.li Tryz.prog ops Q (⟨some d, .makeInterface 160 x, ty, pos, aft, none⟩ :: rest)) := fun a w hs m => (p_ (C := Hp w0 R Ps) (ok_makeI hx) hd).g _ _ _ _ hs m fun a hs => r.g k a w hs m
end
structure PNew (sl : Int) (ps : List QPrefix) (ks : List Int) (km : List (Int × Int)) : Prop where
  p : ks.Perm (ps.map fun p => p.Addr / pw sl)
  d : KD km
  m : ∀ i, mget km i = some 1 ↔ i ∈ ks
abbrev pg0 (net : QPrefix) (sl lo hi : Int) (K : SH) (ik : Nat) (ks : List Int) (km : List (Int × Int)) : PG := ⟨net, sl, lo / pw sl, hi / pw sl, K, ik, ks, km⟩
theorem newP_c (net : QPrefix) (sl lo hi : Int) (V : SH) (ps : List QPrefix) (R : Hh) (hx : RdS R 2 V.v (ps.map cPrefix)) (hl : ps.length ≤ 1024) (hf : poolM net sl lo hi = 0) (hr0 : 0 ≤ lo ∧ lo < 4294967296) (hr1 : 0 ≤ hi ∧ hi < 4294967296) (hsl : 0 ≤ sl ∧ sl ≤ 32)
    (hp : ∀ p ∈ ps, 0 ≤ p.Addr ∧ p.Addr < 4294967296 ∧ p.Len = sl ∧ validM p = true ∧ contM net p.Addr = true) (hd : (ps.map fun p => p.Addr / pw sl).Nodup) :
    Ctr (τ := Addr × SH × Nat × List Int × List (Int × Int)) Tryz.prog 55 [.agg ⟨cPrefix net⟩, .int .i64 sl, .int .u32 lo, .int .u32 hi, V.v] R [] (fun x => PNew sl ps x.2.2.2.1 x.2.2.2.2 ∧ x.2.2.2.1.Pairwise (· < ·)) (fun x => .tuple #[.pointer (some (padd x.1 0)), .int .i64 0]) (fun x => plP x.1 (pg0 net sl lo hi x.2.1 x.2.2.1 x.2.2.2.1 x.2.2.2.2) nilH []) := by
  refine in_ Tryz.func55 fun w0 => ?_
  refine bo_' fun b1 => ?_
  refine if_ (fun c1 => ?_) (fun c1 => ?_)
  · exfalso; omega
  · refine if_ (fun c2 => ?_) (fun c2 => ?_)
    · exfalso; omega
    · refine mm_ (κ := Int) (ν := Int) (vInt .i64) (vInt .i64) fun ik => ?_
      refine nil_ (cInt .i64) 1 2 ?_
      refine nil_ cpool_run 2 222 ?_
      refine bx_ fun pp => ?_
      refine al_ fun b3 => ?_
      refine hh_ [[0, 1, 5, 6], [2, 3], [4], [7], [8, 9], [10], [11, 12], [13]] [[Bx b3 118 [.pointer (some (padd pp 0))]], [Bx b3 118 [.pointer (some (padd pp 0))]]] ?_
      refine cp_ (fun R' q1 q2 => number_c pp ⟨net, sl, 0, 0, nilH, ik, [], []⟩ nilH lo hr0.1 hr0.2 hsl.1 hsl.2 R') ?_
      refine cp_ (fun R' q1 q2 => number_c pp ⟨net, sl, 0, 0, nilH, ik, [], []⟩ nilH hi hr1.1 hr1.2 hsl.1 hsl.2 R') ?_
      let nm : QPrefix → Int := fun p => p.Addr / pw sl
      refine lo_ (fun z : SH × List (Int × Int) × Nat => [(46, .int .i64 z.2.2)]) (fun z => [Bx pp 163 (cpool_Pool ⟨net, sl, lo / pw sl, hi / pw sl, z.1, some ik, nilH⟩), Sv 1 2 z.1.v (((ps.take z.2.2).map nm).map (cInt .i64)), Mp ik (vInt .i64) (vInt .i64) z.2.1]) (fun z => z.2.2 ≤ ps.length ∧ KD z.2.1 ∧ ∀ i, mget z.2.1 i = if i ∈ (ps.take z.2.2).map nm then some 1 else none) (fun z => ps.length - z.2.2) (nilH, [], 0) ⟨by dsimp only; omega, .nil, fun i => rfl⟩ fun ⟨K, km, k⟩ ⟨z1, z2, z3⟩ => ?_
      dsimp only at z1 z2 z3 ⊢
      refine if_ (fun c3 => ?_) (fun c3 => ?_)
      · have hk : k < ps.length := by omega
        have hpk := hp ps[k] (List.getElem_mem hk)
        have hel : el ps k = ps[k] := by simp [el, List.getD_eq_getElem?_getD, hk]
        rw [← hel] at hpk
        have hvl : validM ⟨(el ps k).Addr, (el ps k).Len⟩ = true := hpk.2.2.2.1
        have hnk : ¬ nm (el ps k) ∈ (ps.take k).map nm := by
          rw [hel]
          intro hm
          obtain ⟨x, hx, e⟩ := List.mem_map.1 hm
          obtain ⟨j, hj, rfl⟩ := List.getElem_of_mem hx
          rw [List.length_take] at hj
          have h9 := hd
          unfold List.Nodup at h9
          rw [List.pairwise_map, List.pairwise_iff_getElem] at h9
          rw [List.getElem_take] at e
          exact h9 j k (by omega) hk (by omega) e
        have hkl : ((ps.take k).map nm).length = k := by rw [List.length_map, List.length_take]; omega
        have hg0 : mget km (nm (el ps k)) = none := by rw [z3, if_neg hnk]
        refine ax_ fun b5 => ?_
        refine if_ (fun c4 => ?_) (fun c4 => ?_)
        · exfalso
          rcases c4 with c | c
          · exact c hpk.2.2.1
          · rw [hvl] at c; cases c
        · refine if_ (fun c5 => ?_) (fun c5 => ?_)
          · exfalso
            have h9 : contM net (el ps k).Addr = true := hpk.2.2.2.2
            simp [h9] at c5
          · refine hh_ [[0, 1, 2, 3], [4, 5, 6], [7], [8, 9, 10]] [[Bx b3 118 [.pointer (some (padd pp 0))], Bx pp 163 (cpool_Pool ⟨net, sl, lo / pw sl, hi / pw sl, K, some ik, nilH⟩)], [Bx b3 118 [.pointer (some (padd pp 0))], Bx b5 25 (cPrefix (el ps k))], [], [Mp ik (vInt .i64) (vInt .i64) km]] ?_
            refine cp_ (fun R' q1 q2 => number_c pp ⟨net, sl, lo / pw sl, hi / pw sl, K, ik, [], []⟩ nilH (el ps k).Addr hpk.1 hpk.2.1 hsl.1 hsl.2 R') ?_
            refine if_ (fun c6 => ?_) (fun c6 => ?_)
            · exfalso
              have c7 : 0 < (mget km ((el ps k).Addr / pw sl)).getD 0 := c6
              have hg1 : mget km ((el ps k).Addr / pw sl) = none := hg0
              rw [hg1] at c7
              exact absurd c7 (by decide)
            · refine hh_ [[0, 1, 2, 3], [4, 5, 6], [7], [8]] [[Bx b3 118 [.pointer (some (padd pp 0))], Bx pp 163 (cpool_Pool ⟨net, sl, lo / pw sl, hi / pw sl, K, some ik, nilH⟩)], [Bx b3 118 [.pointer (some (padd pp 0))], Bx b5 25 (cPrefix (el ps k))]] ?_
              refine cp_ (fun R' q1 q2 => number_c pp ⟨net, sl, lo / pw sl, hi / pw sl, K, ik, [], []⟩ nilH (el ps k).Addr hpk.1 hpk.2.1 hsl.1 hsl.2 R') ?_
              refine mu_ (κ := Int) (ν := Int) (kc := vInt .i64) (vc := vInt .i64) (kx := nm (el ps k)) (ux := (1 : Int)) ?_
              refine hh_ [[0, 1, 2, 3, 4], [5, 6, 7], [8], [9], [10], [11, 12], [13]] [[Bx b3 118 [.pointer (some (padd pp 0))], Bx pp 163 (cpool_Pool ⟨net, sl, lo / pw sl, hi / pw sl, K, some ik, nilH⟩)], [Bx b3 118 [.pointer (some (padd pp 0))], Bx b5 25 (cPrefix (el ps k))]] ?_
              refine cp_ (v := .int .i64 (nm (el ps k))) (fun R' q1 q2 => number_c pp ⟨net, sl, lo / pw sl, hi / pw sl, K, ik, [], []⟩ nilH (el ps k).Addr hpk.1 hpk.2.1 hsl.1 hsl.2 R') ?_
              refine sl_ (e := nm (el ps k)) fun Y => ?_
              refine ap_ fun W => ?_
              have e1 : (ps.take k).map nm ++ [nm (el ps k)] = (ps.take (k + 1)).map nm := by rw [hel, List.take_succ_eq_append_getElem hk, List.map_append]; rfl
              rw [e1]
              refine ba_ (W, mset km (nm (el ps k)) 1, k + 1) ⟨by dsimp only; omega, z2.set, fun i => ?_⟩ (by dsimp only; omega)
              dsimp only
              rw [mget_set z2, z3, ← e1]
              by_cases hi : i = nm (el ps k)
              · rw [if_pos hi, if_pos (by rw [hi]; simp)]
              · rw [if_neg hi]
                by_cases hi2 : i ∈ (ps.take k).map nm
                · rw [if_pos hi2, if_pos (List.mem_append_left _ hi2)]
                · rw [if_neg hi2, if_neg (fun h => by rcases List.mem_append.1 h with h | h; · exact hi2 h
                                                      · exact hi (List.mem_singleton.1 h))]
      · have hkp : k = ps.length := by omega
        subst hkp
        rw [List.take_length] at z3 ⊢
        refine mi_ ?_
        refine ca_ (fun R' q1 q2 => sortK_c b3 pp (pg0 net sl lo hi K ik (ps.map nm) km) nilH (by show (ps.map nm).length ≤ 65536; rw [List.length_map]; omega) R') fun ks hks => ?_
        have hks1 : ks.Perm (ps.map nm) := hks.1
        refine rt_ (pp, K, ik, ks, km) ⟨⟨hks1, z2, fun i => ?_⟩, ?_⟩
        · dsimp only
          rw [z3, hks1.mem_iff]
          split <;> simp_all
        · dsimp only
          have h8 : ks.Nodup := hks1.nodup_iff.2 hd
          unfold List.Nodup at h8
          exact (h8.and hks.2).imp fun {a b} h => by have := h.1; have := h.2; omega
end Go.Proofs.YtdallmabajeajaaGreatDoor.Fw
set_option linter.all false
set_option maxHeartbeats 4000000
set_option maxRecDepth 100000
namespace Go.Proofs.YtdallmabajeajaaGreatDoor.Fw
open Go
section
variable {n : Nat} {w0 : World} {R : Hh} {Ps : List HP} {L : List (Nat × Value)} {ops : Array Oper} {Q : Exit → Act → World → Prop} {rest : List Oper} {d : Nat} {x : Operand} {ty T : TypeId} {pos : String} {aft : Array Edge} {v : Value} {C : World → Prop} {g : Nat} {z : Nat}
theorem gl_ {L1 : List (Nat × Value)} {Ps1 : List HP} {F1 : GF} (k : Gl n w0 R L1 Ps1 F1) (hc : CellsAt R ⟨g, 0, none⟩ [v] := by assumption) (ht : tyI Tryz.prog T = some (false, z) := by exact tt rfl) (hd : Nat.blt d n = true := by rfl) (r : Av n w0 R ((d, v) :: L) Ps (.li Tryz.prog ops Q rest) L1 Ps1 F1 := by (repeat (apply x_; exact A3_)); exact av_r) :
    Gl n w0 R L Ps (.li Tryz.prog ops Q (⟨some d, .load T (.global g), ty, pos, aft, none⟩ :: rest)) := fun a w hs m =>
  (p_ (C := Hp w0 R Ps) (ok_load_sc (p := ⟨g, 0, none⟩) (o := 0) (cs := [v]) rfl ht (fr_at hc) rfl) hd).g _ _ _ _ hs m fun a hs => r.g k a w hs m
end
theorem cnt0 {a : Int} : Cnt ⟨0, 8⟩ a ↔ 0 ≤ a ∧ a < 16777216 := by
  have e : pw 8 = 16777216 := by decide
  simp only [Cnt, Vld, e]; omega
theorem cnt1 {a : Int} : Cnt ⟨2130706432, 8⟩ a ↔ 2130706432 ≤ a ∧ a < 2147483648 := by
  have e : pw 8 = 16777216 := by decide
  simp only [Cnt, Vld, e]; omega
theorem cnt2 {a : Int} : Cnt ⟨3758096384, 4⟩ a ↔ 3758096384 ≤ a ∧ a < 4026531840 := by
  have e : pw 4 = 268435456 := by decide
  simp only [Cnt, Vld, e]; omega
theorem cnt3 {a : Int} : Cnt ⟨4026531840, 4⟩ a ↔ 4026531840 ≤ a ∧ a < 4294967296 := by
  have e : pw 4 = 268435456 := by decide
  simp only [Cnt, Vld, e]; omega
theorem cls_at {a : Int} (a0 : 0 ≤ a) (a1 : a < 4294967296) {k : Nat} (hk : k < 4) (h1 : Cnt (el clsL (k : Nat)).at_ a) : cls a = (el clsL (k : Nat)).num := by
  have h5 : k = 0 ∨ k = 1 ∨ k = 2 ∨ k = 3 := by omega
  unfold cls
  rcases h5 with h | h | h | h <;> subst h
  · have := cnt0.1 h1; rw [if_pos (by omega)]; rfl
  · have := cnt1.1 h1; rw [if_neg (by omega), if_pos (by omega)]; rfl
  · have := cnt2.1 h1; rw [if_neg (by omega), if_neg (by omega), if_neg (by omega), if_pos (by omega)]; rfl
  · have := cnt3.1 h1; rw [if_neg (by omega), if_neg (by omega), if_pos (by omega)]; rfl
theorem cls_no {a : Int} (a0 : 0 ≤ a) (a1 : a < 4294967296) (h : ∀ k : Nat, k < 4 → ¬ Cnt (el clsL k).at_ a) : cls a = 0 := by
  have h0 : ¬ (0 ≤ a ∧ a < 16777216) := fun h' => h 0 (by omega) (cnt0.2 h')
  have h1 : ¬ (2130706432 ≤ a ∧ a < 2147483648) := fun h' => h 1 (by omega) (cnt1.2 h')
  have h2 : ¬ (3758096384 ≤ a ∧ a < 4026531840) := fun h' => h 2 (by omega) (cnt2.2 h')
  have h3 : ¬ (4026531840 ≤ a ∧ a < 4294967296) := fun h' => h 3 (by omega) (cnt3.2 h')
  unfold cls
  rw [if_neg (by omega), if_neg (by omega), if_neg (by omega), if_neg (by omega)]
theorem class_c (a : Int) (a0 : 0 ≤ a) (a1 : a < 4294967296) (X : SH) (R : Hh) (h : ClsR R X) : Ctp Tryz.prog 87 [.int .u32 a] R [] (.int .i64 (cls a)) := by
  have hg := h.g
  have hx := h.l
  have key : ∀ k, k < 4 → (contM (el clsL (k : Nat)).at_ a = true ↔ Cnt (el clsL (k : Nat)).at_ a) := fun k hk => by
    have h5 : k = 0 ∨ k = 1 ∨ k = 2 ∨ k = 3 := by omega
    rcases h5 with h | h | h | h <;> subst h <;> exact contM_iff (by decide) (by decide) a0 a1
  refine in_ Tryz.func87 fun w0 => ?_
  refine gl_ ?_
  refine lo_ (fun k : Nat => [(7, .int .i64 k)]) (fun _ => []) (fun k => k ≤ 4 ∧ ∀ j : Nat, j < k → contM (el clsL j).at_ a = false) (fun k => 4 - k) 0 ⟨by omega, by omega⟩ fun k hk => ?_
  have hcl : clsL.length = 4 := rfl
  refine if_ (fun c1 => ?_) (fun c1 => ?_)
  · have hk4 : k < 4 := by omega
    refine ax_ fun b => ?_
    refine if_ (fun c2 => ?_) (fun c2 => ?_)
    · refine re_ ?_
      rw [cls_at a0 a1 hk4 ((key k hk4).1 c2)]; rfl
    · refine ba_ (k + 1) ⟨by omega, fun j hj => ?_⟩ (by omega)
      by_cases hjk : j < k
      · exact hk.2 j hjk
      · have : j = k := by omega
        subst this
        first | exact c2 | exact Bool.eq_false_iff.2 c2
  · have hk4 : k = 4 := by omega
    refine re_ ?_
    rw [cls_no a0 a1 fun j hj hc => ?_]; rfl
    rw [← key j hj, hk.2 j (by omega)] at hc
    cases hc
end Go.Proofs.YtdallmabajeajaaGreatDoor.Fw
set_option linter.all false
set_option maxHeartbeats 4000000
set_option maxRecDepth 100000
namespace Go.Proofs.YtdallmabajeajaaGreatDoor.Fw
open Go
theorem in_c (x lo hi : Int) (R : Hh) : Ctp Tryz.prog 86 [.int .i64 x, .int .i64 lo, .int .i64 hi] R [] (.bool (decide (lo ≤ x ∧ x ≤ hi))) := by
  refine in_ Tryz.func86 fun w0 => ?_
  refine re_ ?_
  grind [pack]
instance (x lo hi : Int) (R : Hh) : Cp 86 [.int .i64 x, .int .i64 lo, .int .i64 hi] R [] True (.bool (decide (lo ≤ x ∧ x ≤ hi))) := ⟨fun _ => in_c x lo hi R⟩
theorem subnet_cf (c : QConfig) (a : Int) (R : Hh) : Ctp Tryz.prog 88 [.agg ⟨cConfig c⟩, .int .u32 a] R [] (.bool (contM c.Network a && validM ⟨a, c.SubnetLen⟩)) := by
  refine in_ Tryz.func88 fun w0 => ?_
  refine bo_' fun b => ?_
  refine re_ ?_
  simp only [pack]
  cases contM c.Network a <;> rfl
instance (c : QConfig) (a : Int) (R : Hh) : Cp 88 [.agg ⟨cConfig c⟩, .int .u32 a] R [] True (.bool (contM c.Network a && validM ⟨a, c.SubnetLen⟩)) := ⟨fun _ => subnet_cf c a R⟩
end Go.Proofs.YtdallmabajeajaaGreatDoor.Fw
set_option linter.all false
set_option maxHeartbeats 4000000
set_option maxRecDepth 100000
namespace Go.Proofs.YtdallmabajeajaaGreatDoor.Fw
open Go
theorem part_one {P : Program} {T : TypeId} (hA : ∀ w, (isAgg T).run P w = .ok false w) {cs : Array Value} {o : Nat} {v : Value} (h : cs[o]? = some v) (w : World) : (part T cs o).run P w = .ok v w := by
  simp [part, hA w, h, Result.andThen]
instance : Ky Tryz.prog 25 inferInstance (vAgg cPrefix) := ⟨key_two Tryz.underlying25 rfl Tryz.underlying23 Tryz.underlying3 (eqt rfl) inferInstance (fun k w => ⟨_, part_one Tryz.isAgg23 (by rfl) w⟩) (fun k w => ⟨_, part_one Tryz.isAgg3 (by rfl) w⟩) (fun k => by simp [Instr.sameBits, cPrefix])⟩
theorem checkPool_c (c : QConfig) (rs : List QReserve) (hn : 0 ≤ c.Network.Addr ∧ c.Network.Addr < 4294967296) (hf : 0 ≤ c.First ∧ c.First < 4294967296) (f : FieldsOK c) (hrr : ∀ r ∈ rs, 0 ≤ r.Subnet.Addr ∧ r.Subnet.Addr < 4294967296) (R : Hh) (hR : RdS R 3 c.Reserved.v (rs.map cReserve)) : Ctr (τ := Int) Tryz.prog 89 [.agg ⟨cConfig c⟩] R [] (fun e => (e = 0 ∧ PoolOK c rs) ∨ (e = 28 ∧ ¬ PoolOK c rs)) (fun e => .int .i64 e) (fun _ => []) := by
  have htop := f.top
  have hbd := hR.bd
  have hlog := f.log
  refine in_ Tryz.func89 fun w0 => ?_
  refine bo_' fun b1 => ?_
  refine if_ (fun c1 => ?_) (fun c1 => ?_)
  · exact rt_ 28 (.inr ⟨rfl, fun p => by have := p.row; omega⟩)
  · refine lo_ (fun k : Nat => [(15, .int .i64 k)]) (fun _ => []) (fun k => (k : Int) ≤ c.Hosts ∧ ∀ h : Int, 0 ≤ h → h < k → ¬ Cnt c.Network (c.First + h)) (fun k => (c.Hosts - k).toNat) 0 ⟨by omega, by omega⟩ fun k hk => ?_
    refine if_ (fun c2 => ?_) (fun c2 => ?_)
    · have e2 : IntKind.u32.wrap (c.First + IntKind.u32.wrap (k : Int)) = c.First + k := by
        rw [wrap32 (a := (k : Int)) (by omega) (by omega), wrap32 (by omega) (by omega)]
      have e3 := contM_iff (a := c.First + k) hn.1 hn.2 (by omega) (by omega)
      refine if_ (fun c3 => ?_) (fun c3 => ?_)
      · rw [e2, e3] at c3
        exact rt_ 28 (.inr ⟨rfl, fun p => p.out k (by omega) (by omega) c3⟩)
      · refine ba_ (k + 1) ⟨by omega, fun h h0 h1 hc => ?_⟩ (by omega)
        by_cases h2 : h < k
        · exact hk.2 h h0 h2 hc
        · rw [show h = k by omega, ← e3, ← e2] at hc
          first | exact c3 hc | (rw [hc] at c3; cases c3)
    · have hout : ∀ h : Int, 0 ≤ h → h < c.Hosts → ¬ Cnt c.Network (c.First + h) := fun h h0 h1 => hk.2 h h0 (by omega)
      refine mm_ (κ := QPrefix) (ν := Int) (vAgg cPrefix) (vInt .i64) fun ik => ?_
      refine lo_ (fun z : Int × List (QPrefix × Int) × Nat => [(4, .int .i64 z.1), (31, .int .i64 z.2.2)]) (fun z => [Mp ik (vAgg cPrefix) (vInt .i64) z.2.1]) (fun z => z.2.2 ≤ rs.length ∧ KD z.2.1 ∧ (∀ p, mget z.2.1 p = if p ∈ (rs.take z.2.2).map (·.Subnet) then some 1 else none) ∧ CpI c (rs.take z.2.2) z.1) (fun z => rs.length - z.2.2) (-1, [], 0) ⟨by dsimp only; omega, .nil, fun p => rfl, cpi_nil⟩ fun ⟨last, m, k2⟩ ⟨z1, z2, z3, z4⟩ => ?_
      dsimp only at z1 z2 z3 z4 ⊢
      refine if_ (fun c3 => ?_) (fun c3 => ?_)
      · have hkl : k2 < rs.length := by omega
        have hel : el rs k2 = rs[k2] := by simp [el, List.getD_eq_getElem?_getD, hkl]
        have hmr := hrr _ (List.getElem_mem hkl)
        rw [← hel] at hmr
        have hvm := validM_iff (p := ⟨(el rs k2).Subnet.Addr, c.SubnetLen⟩) hmr.1 hmr.2
        have hcm := contM_iff (p := c.Network) (a := (el rs k2).Subnet.Addr) hn.1 hn.2 hmr.1 hmr.2
        refine ax_ fun b5 => ?_
        refine if_ (fun c4 => ?_) (fun c4 => ?_)
        · refine rt_ 28 (.inr ⟨rfl, fun p => ?_⟩)
          have hh := p.host rs[k2] (List.getElem_mem hkl)
          rw [← hel] at hh
          rcases c4 with y | y
          · rcases z4.at_ with h | ⟨r, hr, h⟩
            · omega
            · have := cp_lt p.rise hkl hr
              rw [← hel] at this
              omega
          · omega
        · refine if_ (fun c5 => ?_) (fun c5 => ?_)
          · refine rt_ 28 (.inr ⟨rfl, fun p => ?_⟩)
            have hh := p.host rs[k2] (List.getElem_mem hkl)
            rw [← hel] at hh
            have hb := hh.2.2.2
            unfold base at hb
            rcases c5 with (y | y | y) | y
            · exact y hh.2.2.1
            · rw [hcm.2 hb.1] at y; cases y
            · rw [hvm.2 ⟨by show 0 ≤ c.SubnetLen; have := f.sub; have := f.net; omega, by show c.SubnetLen ≤ 32; have := f.sub; omega, hb.2⟩] at y; cases y
            · have c6 : 0 < (mget m (el rs k2).Subnet).getD 0 := y
              rw [z3] at c6
              by_cases hi : (el rs k2).Subnet ∈ (rs.take k2).map (·.Subnet)
              · obtain ⟨r, hr, e⟩ := List.mem_map.1 hi
                have := cp_ne p.apart hkl hr
                rw [← hel] at this
                exact this e
              · rw [if_neg hi] at c6; exact absurd c6 (by decide)
          · refine mu_ (κ := QPrefix) (ν := Int) (kc := vAgg cPrefix) (vc := vInt .i64) (kx := (el rs k2).Subnet) (ux := (1 : Int)) ?_
            have c6 : (mget m (el rs k2).Subnet).getD 0 ≤ 0 := c5.2
            have hni : ¬ (el rs k2).Subnet ∈ (rs.take k2).map (·.Subnet) := fun hi => by
              rw [z3, if_pos hi] at c6; exact absurd c6 (by decide)
            have e1 : rs.take (k2 + 1) = rs.take k2 ++ [el rs k2] := by rw [hel, List.take_succ_eq_append_getElem hkl]
            refine ba_ ((el rs k2).Host, mset m (el rs k2).Subnet 1, k2 + 1) ⟨by dsimp only; omega, z2.set, fun p => ?_, ?_⟩ (by dsimp only; omega)
            · dsimp only
              rw [mget_set z2, z3, e1, List.map_append]
              by_cases hp : p = (el rs k2).Subnet
              · rw [if_pos hp, if_pos (by rw [hp]; simp)]
              · rw [if_neg hp]
                by_cases hi2 : p ∈ (rs.take k2).map (·.Subnet)
                · rw [if_pos hi2, if_pos (List.mem_append_left _ hi2)]
                · rw [if_neg hi2, if_neg (fun h => by rcases List.mem_append.1 h with h | h; · exact hi2 h
                                                      · exact hp (by simpa using h))]
            · dsimp only
              rw [e1]
              exact cpi_add z4 c4.1 c4.2 c5.1.1 ⟨hcm.1 c5.1.2.1, (hvm.1 c5.1.2.2).2.2⟩ hni
      · have hkp : k2 = rs.length := by omega
        rw [hkp, List.take_length] at z4
        exact rt_ 0 (.inl ⟨rfl, ⟨c1, hout, z4.host, z4.rise, z4.apart⟩⟩)
end Go.Proofs.YtdallmabajeajaaGreatDoor.Fw
set_option linter.all false
set_option maxHeartbeats 4000000
set_option maxRecDepth 100000
namespace Go.Proofs.YtdallmabajeajaaGreatDoor.Fw
open Go
theorem chk1 {c : QConfig} (hr : CfgR c) (hb : (bif !validM ⟨c.Network.Addr, c.Network.Len⟩ then true else !decide (8 ≤ c.Network.Len ∧ c.Network.Len ≤ 28)) = false) : Vld c.Network ∧ 8 ≤ c.Network.Len ∧ c.Network.Len ≤ 28 := by
  cases h1 : validM ⟨c.Network.Addr, c.Network.Len⟩ with
  | false => rw [h1] at hb; cases hb
  | true =>
    rw [h1] at hb
    refine ⟨(validM_iff hr.n.1 hr.n.2).1 h1, ?_⟩
    simpa using hb
theorem chk2 {c : QConfig} (hr : CfgR c) (h : Vld c.Network ∧ 8 ≤ c.Network.Len ∧ c.Network.Len ≤ 28) : (((IntKind.i64.wrap (c.Network.Len + 1) ≤ c.SubnetLen ∧ c.SubnetLen ≤ 30) ∧ contM c.Network c.Min = true ∧ validM ⟨c.Min, c.SubnetLen⟩ = true) ∧ contM c.Network c.Max = true ∧ validM ⟨c.Max, c.SubnetLen⟩ = true) ↔ (c.Network.Len + 1 ≤ c.SubnetLen ∧ c.SubnetLen ≤ 30 ∧ base c c.Min ∧ base c c.Max) := by
  have e : IntKind.i64.wrap (c.Network.Len + 1) = c.Network.Len + 1 := wrap_i64 (by omega) (by omega)
  rw [e, contM_iff hr.n.1 hr.n.2 hr.mn.1 hr.mn.2, contM_iff hr.n.1 hr.n.2 hr.mx.1 hr.mx.2, validM_iff hr.mn.1 hr.mn.2, validM_iff hr.mx.1 hr.mx.2]
  unfold base Vld
  constructor
  · rintro ⟨⟨⟨h1, h2⟩, h3, _, _, h4⟩, h5, _, _, h6⟩
    exact ⟨h1, h2, ⟨h3, h4⟩, h5, h6⟩
  · rintro ⟨h1, h2, ⟨h3, h4⟩, h5, h6⟩
    exact ⟨⟨⟨h1, h2⟩, h3, by show 0 ≤ c.SubnetLen; omega, by show c.SubnetLen ≤ 32; omega, h4⟩, h5, by show 0 ≤ c.SubnetLen; omega, by show c.SubnetLen ≤ 32; omega, h6⟩
theorem check_c (c : QConfig) (rs : List QReserve) (hr : CfgR c) (hrr : ∀ r ∈ rs, 0 ≤ r.Subnet.Addr ∧ r.Subnet.Addr < 4294967296) (X : SH) (R : Hh) (hC : ClsR R X) (hR : RdS R 3 c.Reserved.v (rs.map cReserve)) : Ctp Tryz.prog 52 [.agg ⟨cConfig c⟩] R [] (.int .i64 (checkS c rs)) := by
  refine in_ Tryz.func52 fun w0 => ?_
  refine bo_' fun b1 => ?_
  refine ax_ fun b2 => ?_
  refine gsp_ (fun hb => ?_) (fun hb => ?_)
  · simp only [hb]
    refine run_ ?_
    refine cp_ (fun R' q1 q2 => class_c c.Network.Addr hr.n.1 hr.n.2 X R' (hC.le q1)) ?_
    refine if_ (fun c1 => ?_) (fun c1 => ?_)
    · refine re_ ?_
      rw [check26 fun f => c1 f.net.2.2.2]; rfl
    · refine if_ (fun c2 => ?_) (fun c2 => ?_)
      · refine re_ ?_
        rw [check26 fun f => ?_]; rfl
        have P := (chk2 hr (chk1 hr hb)).2 f.sub
        first | exact absurd P c2 | grind
      · refine if_ (fun c3 => ?_) (fun c3 => ?_)
        · refine re_ ?_
          rw [check26 fun f => ?_]; rfl
          have P := f.num
          omega
        · refine if_ (fun c4 => ?_) (fun c4 => ?_)
          · refine re_ ?_
            rw [check26 fun f => ?_]; rfl
            have P := f.ttl
            omega
          · refine if_ (fun c5 => ?_) (fun c5 => ?_)
            · refine re_ ?_
              rw [check26 fun f => ?_]; rfl
              have P := f.log
              omega
            · refine if_ (fun c6 => ?_) (fun c6 => ?_)
              · refine re_ ?_
                rw [check26 fun f => ?_]; rfl
                have P := f.cap
                omega
              · have e1 : IntKind.u64.wrap (IntKind.u64.wrap (IntKind.u64.wrap c.First + IntKind.u64.wrap c.Hosts) - 1) = c.First + c.Hosts - 1 := by
                  have := hr.f
                  simp [IntKind.wrap, IntKind.bits, IntKind.signed]
                  omega
                refine if_ (fun c7 => ?_) (fun c7 => ?_)
                · refine re_ ?_
                  rw [e1] at c7
                  rw [check26 fun f => by have := f.top; omega]; rfl
                · have c7 : c.First + c.Hosts - 1 ≤ 4294967295 := by rw [e1] at c7; omega
                  refine lo_ (fun k : Nat => [(140, .int .i64 k)]) (fun _ => []) (fun k => (k : Int) ≤ c.Hosts ∧ ∀ h : Int, 0 ≤ h → h < k → cls (c.First + h) = 0) (fun k => (c.Hosts - k).toNat) 0 ⟨by omega, by omega⟩ fun k hk => ?_
                  refine if_ (fun c8 => ?_) (fun c8 => ?_)
                  · have e2 : IntKind.u32.wrap (c.First + IntKind.u32.wrap (k : Int)) = c.First + k := by
                      have := hr.f
                      rw [wrap32 (a := (k : Int)) (by omega) (by omega), wrap32 (by omega) (by omega)]
                    refine cp_ (fun R' q1 q2 => class_c (IntKind.u32.wrap (c.First + IntKind.u32.wrap (k : Int))) (by rw [e2]; have := hr.f; omega) (by rw [e2]; omega) X R' (hC.le q1)) ?_
                    refine if_ (fun c9 => ?_) (fun c9 => ?_)
                    · refine re_ ?_
                      rw [e2] at c9
                      rw [check26 fun f => c9 (f.cls k (by omega) (by omega))]; rfl
                    · exact ba_ (k + 1) ⟨by omega, fun h h0 h1 => by
                        by_cases h2 : h < k
                        · exact hk.2 h h0 h2
                        · rw [show h = k by omega]; rw [e2] at c9; exact c9⟩ (by omega)
                  · have h1 := chk1 hr hb
                    have h2 := (chk2 hr h1).1 c2
                    have f : FieldsOK c := ⟨⟨h1.1, h1.2.1, h1.2.2, c1⟩, h2, ⟨c3.1.1.1, c3.1.1.2, c3.1.2.1, c3.1.2.2, c3.2⟩, ⟨c4.1.1.1, c4.1.1.2, c4.1.2, c4.2⟩, ⟨c5.1.1.1, c5.1.1.2, c5.1.2.1, c5.1.2.2, c5.2⟩, ⟨c6.1.1.1, c6.1.1.2, c6.1.2.1, c6.1.2.2, c6.2⟩, c7, fun h h0 h1 => hk.2 h h0 (by omega)⟩
                    refine ca_ (fun R' q1 q2 => checkPool_c c rs hr.n hr.f f hrr R' (hR.le q1)) fun e he => ?_
                    refine re_ ?_
                    unfold checkS
                    rw [if_neg (not_not_intro f)]
                    rcases he with ⟨rfl, p⟩ | ⟨rfl, p⟩
                    · rw [if_neg (not_not_intro p)]; rfl
                    · rw [if_pos p]; rfl
  · simp only [hb, Bool.not_false]
    refine run_ ?_
    refine re_ ?_
    rw [check26 fun f => ?_]; rfl
    have h1 : validM ⟨c.Network.Addr, c.Network.Len⟩ = true := (validM_iff hr.n.1 hr.n.2).2 f.net.1
    simp [h1, f.net.2.1, f.net.2.2.1] at hb
end Go.Proofs.YtdallmabajeajaaGreatDoor.Fw
set_option linter.all false
set_option maxHeartbeats 4000000
set_option maxRecDepth 100000
namespace Go.Proofs.YtdallmabajeajaaGreatDoor.Fw
open Go
theorem cloneR_c (X : SH) (xs : List QReserve) (hl : xs.length ≤ 65536) (R : Hh) (hx : RdS R 3 X.v (xs.map cReserve)) : Ctr (τ := SH) Tryz.prog 53 [X.v] R [] (fun _ => True) (fun x => x.v) (fun x => [Sv 3 58 x.v (xs.map cReserve)]) := by
  refine in_ Tryz.func53 fun w0 => ?_
  refine if_ (fun c1 => ?_) (fun c1 => ?_)
  · have hxn := hx.isnil c1
    subst hxn
    refine nil_ cReserve 3 58 ?_
    exact rt_ nilH trivial
  · refine sl0_ cReserve fun U => ?_
    refine ap_ fun W => ?_
    exact rt_ W trivial
theorem timerNew_c (R : Hh) : Ctr (τ := Addr × Nat) Tryz.prog 54 [.int .i64 64] R [] (fun _ => True) (fun x => .tuple #[.pointer (some (padd x.1 0)), .int .i64 0]) (fun x => [Bx x.1 157 (ctimer_Timers ⟨64, nilH, some x.2⟩), Sv 2 224 nilH.v (([] : List Qtimer_one).map ctimer_one), Mp x.2 (vInt .i64) (vInt .i64) ([] : List (Int × Int))]) := by
  refine in_ Tryz.func54 fun w0 => ?_
  refine mm_ (κ := Int) (ν := Int) (vInt .i64) (vInt .i64) fun r => ?_
  refine nil_ ctimer_one 2 224 ?_
  refine bx_ fun t => ?_
  exact rt_ (t, r) trivial
end Go.Proofs.YtdallmabajeajaaGreatDoor.Fw
set_option linter.all false
set_option maxHeartbeats 1000000
set_option maxRecDepth 100000
namespace Go.Proofs.YtdallmabajeajaaGreatDoor.Fw
open Go
section
variable {n : Nat} {w0 : World} {R : Hh} {Ps : List HP} {L : List (Nat × Value)} {ops : Array Oper} {Q : Exit → Act → World → Prop} {rest : List Oper} {d : Nat} {ty T : TypeId} {pos : String} {aft : Array Edge} {qs : List (Nat × Operand)} {us : List (Nat × Value)} {fs : List (Nat × Nat)} {zs : List Value}
theorem bui_ (cs : List Value) {L1 : List (Nat × Value)} {Ps1 : List HP} {F1 : GF} (k : Gl n w0 R L1 Ps1 F1) (hf : stI Tryz.prog T = some fs := by exact stt rfl) (hz : zeI Tryz.prog T = some zs := by exact zet rfl) (hx : partsOf L qs = some us := by rfl) (hc : fillL fs zs us = some cs := by kernel_rfl) (hd : Nat.blt d n = true := by rfl)
    (r : Av n w0 R ((d, .agg ⟨cs⟩) :: L) Ps (.li Tryz.prog ops Q rest) L1 Ps1 F1 := by (repeat (apply x_; exact A3_)); exact av_r) : Gl n w0 R L Ps (.li Tryz.prog ops Q (⟨some d, .build T ⟨qs⟩, ty, pos, aft, none⟩ :: rest)) :=
  fun a w hs m => (p_ (C := Hp w0 R Ps) (ok_build hf hz hx hc) hd).g _ _ _ _ hs m fun a hs => r.g k a w hs m
end
theorem own_add {l : List QReserve} {r : QReserve} {h : Int} (hn : ∀ x ∈ l, x.Host ≠ r.Host) : (if h = r.Host then some r.Subnet else own l h) = own (l ++ [r]) h := by
  unfold own
  rw [List.find?_append]
  by_cases e : h = r.Host
  · rw [if_pos e]
    have : l.find? (fun x => decide (x.Host = h)) = none := by
      rw [List.find?_eq_none]
      intro x hx
      have := hn x hx
      simpa [e] using this
    rw [this]
    simp [e]
  · rw [if_neg e]
    have e2 : ¬ r.Host = h := fun h2 => e h2.symm
    simp [e2]
section
variable {c : QConfig} {rs : List QReserve}
theorem np_sub (hr : CfgR c) (hrr : ∀ r ∈ rs, 0 ≤ r.Subnet.Addr ∧ r.Subnet.Addr < 4294967296) (f : FieldsOK c) (po : PoolOK c rs) {p : QPrefix} (hp : p ∈ rs.map (·.Subnet)) : 0 ≤ p.Addr ∧ p.Addr < 4294967296 ∧ p.Len = c.SubnetLen ∧ validM p = true ∧ contM c.Network p.Addr = true := by
  obtain ⟨r, hm, rfl⟩ := List.mem_map.1 hp
  have h1 := hrr r hm
  have h2 := po.host r hm
  have hb := h2.2.2.2
  unfold base at hb
  have h3 := f.sub
  have h4 := f.net
  exact ⟨h1.1, h1.2, h2.2.2.1, (validM_iff h1.1 h1.2).2 ⟨by omega, by omega, by rw [h2.2.2.1]; exact hb.2⟩, (contM_iff hr.n.1 hr.n.2 h1.1 h1.2).2 hb.1⟩
theorem np_fault (hr : CfgR c) (f : FieldsOK c) (po : PoolOK c rs) : poolM c.Network c.SubnetLen c.Min c.Max = 0 := by
  have h3 := f.sub
  have h4 := f.net
  have h5 := po.row
  have b1 := h3.2.2.1
  have b2 := h3.2.2.2
  unfold base at b1 b2
  have v1 : validM c.Network = true := (validM_iff hr.n.1 hr.n.2).2 h4.1
  have v2 : validM ⟨c.Min, c.SubnetLen⟩ = true := (validM_iff hr.mn.1 hr.mn.2).2 ⟨by show 0 ≤ c.SubnetLen; omega, by show c.SubnetLen ≤ 32; omega, b1.2⟩
  have v3 : validM ⟨c.Max, c.SubnetLen⟩ = true := (validM_iff hr.mx.1 hr.mx.2).2 ⟨by show 0 ≤ c.SubnetLen; omega, by show c.SubnetLen ≤ 32; omega, b2.2⟩
  have v4 : contM c.Network c.Min = true := (contM_iff hr.n.1 hr.n.2 hr.mn.1 hr.mn.2).2 b1.1
  have v5 : contM c.Network c.Max = true := (contM_iff hr.n.1 hr.n.2 hr.mx.1 hr.mx.2).2 b2.1
  unfold poolM
  rw [if_neg (by rw [v1]; simp), if_neg (by omega), if_neg (by rw [v2, v3]; simp), if_neg (by rw [v4, v5]; simp)]
theorem np_nodup (f : FieldsOK c) (po : PoolOK c rs) : ((rs.map (·.Subnet)).map fun p => p.Addr / pw c.SubnetLen).Nodup := by
  unfold List.Nodup
  rw [List.pairwise_map, List.pairwise_map]
  refine List.Pairwise.imp_of_mem (fun {a b} ha hb h e => ?_) po.apart
  have h1 := po.host a ha
  have h2 := po.host b hb
  have b1 := h1.2.2.2
  have b2 := h2.2.2.2
  unfold base at b1 b2
  have e1 := Int.mul_ediv_add_emod a.Subnet.Addr (pw c.SubnetLen)
  have e2 := Int.mul_ediv_add_emod b.Subnet.Addr (pw c.SubnetLen)
  rw [b1.2] at e1
  rw [b2.2, ← e] at e2
  apply h
  have e3 : a.Subnet.Addr = b.Subnet.Addr := by omega
  have e4 : a.Subnet.Len = b.Subnet.Len := h1.2.2.1.trans h2.2.2.1.symm
  rw [show a.Subnet = ⟨a.Subnet.Addr, a.Subnet.Len⟩ from rfl, show b.Subnet = ⟨b.Subnet.Addr, b.Subnet.Len⟩ from rfl, e3, e4]
end
theorem newNo_c (c : QConfig) (rs : List QReserve) (hr : CfgR c) (hrr : ∀ r ∈ rs, 0 ≤ r.Subnet.Addr ∧ r.Subnet.Addr < 4294967296) (X : SH) (R : Hh) (hC : ClsR R X) (hR : RdS R 3 c.Reserved.v (rs.map cReserve)) (hx : checkS c rs ≠ 0) : Ctp Tryz.prog 21 [.agg ⟨cConfig c⟩] R [] (.tuple #[.pointer none, .int .i64 (checkS c rs)]) := by
  refine in_ Tryz.func21 fun w0 => ?_
  refine bo_' fun b1 => ?_
  refine cp_ (fun R' q1 q2 => check_c c rs hr hrr X R' (hC.le q1) (hR.le q1)) ?_
  refine if_ (fun c1 => ?_) (fun c1 => ?_)
  · exact re_ rfl
  · exact absurd c1 hx
theorem newYes_c (c : QConfig) (rs : List QReserve) (hr : CfgR c) (hrr : ∀ r ∈ rs, 0 ≤ r.Subnet.Addr ∧ r.Subnet.Addr < 4294967296) (X : SH) (R : Hh) (hC : ClsR R X) (hR : RdS R 3 c.Reserved.v (rs.map cReserve)) (hx : checkS c rs = 0) (f : FieldsOK c) (po : PoolOK c rs) (hl : rs.length ≤ 64) :
    Ctr (τ := SG × SV) Tryz.prog 21 [.agg ⟨cConfig c⟩] R [] (fun x => SOK x.1 ∧ Rel x.1 x.2 ⟨0, 0, [], []⟩ ∧ x.1.rs = rs ∧ x.1.c = { c with Reserved := x.1.c.Reserved }) (fun x => .tuple #[.pointer (some (padd x.1.sp 0)), .int .i64 0]) (fun x => stP x.1 x.2) := by
  refine in_ Tryz.func21 fun w0 => ?_
  refine bo_' fun b1 => ?_
  refine cp_ (v := .int .i64 0) (fun R' q1 q2 => by rw [← hx]; exact check_c c rs hr hrr X R' (hC.le q1) (hR.le q1)) ?_
  refine ca_ (fun R' q1 q2 => cloneR_c c.Reserved rs (by omega) R' (hR.le q1)) fun Y _ => ?_
  refine mm_ (κ := Int) (ν := QLease) (vInt .i64) (vAgg cLease) fun rl => ?_
  refine mma_ (κ := Int) (ν := QPrefix) (vInt .i64) (vAgg cPrefix) (fun rk => ?_) rfl
  refine bui_ (clease_Store ⟨⟨0, 0⟩, ⟨c.Log, nilH⟩, { c with Reserved := Y }, some rl, some rk, none, none⟩) ?_
  refine nil_ cEvent 14 72 ?_
  refine bx_ fun sp => ?_
  refine nil_ cPrefix 2 25 ?_
  refine lo_ (fun z : SH × List (Int × QPrefix) × Nat => [(6, z.1.v), (30, .int .i64 z.2.2)]) (fun z => [Sv 2 25 z.1.v (((rs.take z.2.2).map (·.Subnet)).map cPrefix), Mp rk (vInt .i64) (vAgg cPrefix) z.2.1]) (fun z => z.2.2 ≤ rs.length ∧ KD z.2.1 ∧ ∀ h, mget z.2.1 h = own (rs.take z.2.2) h) (fun z => rs.length - z.2.2) (nilH, [], 0) ⟨by dsimp only; omega, .nil, fun h => rfl⟩ fun ⟨U, m, k⟩ ⟨z1, z2, z3⟩ => ?_
  dsimp only at z1 z2 z3 ⊢
  refine if_ (fun c3 => ?_) (fun c3 => ?_)
  · have hkl : k < rs.length := by omega
    have hel : el rs k = rs[k] := by simp [el, List.getD_eq_getElem?_getD, hkl]
    have hlt : ((rs.take k).map (·.Subnet)).length = k := by rw [List.length_map, List.length_take]; omega
    refine ax_ fun b5 => ?_
    refine mu_ (κ := Int) (ν := QPrefix) (kc := vInt .i64) (vc := vAgg cPrefix) (kx := (el rs k).Host) (ux := (el rs k).Subnet) ?_
    refine sl_ (e := (el rs k).Subnet) fun V => ?_
    refine ap_ fun W => ?_
    have e1 : (rs.take k).map (·.Subnet) ++ [(el rs k).Subnet] = (rs.take (k + 1)).map (·.Subnet) := by rw [hel, List.take_succ_eq_append_getElem hkl, List.map_append]; rfl
    rw [e1]
    refine ba_ (W, mset m (el rs k).Host (el rs k).Subnet, k + 1) ⟨by dsimp only; omega, z2.set, fun h => ?_⟩ (by dsimp only; omega)
    dsimp only
    rw [mget_set z2, z3, List.take_succ_eq_append_getElem hkl, ← hel]
    exact own_add (fun r hr => by have := cp_lt po.rise hkl hr; rw [← hel] at this; omega)
  · have hkp : k = rs.length := by omega
    subst hkp
    rw [List.take_length] at z3 ⊢
    refine ca_ (fun R' q1 q2 => timerNew_c R') fun ⟨tp, tm⟩ _ => ?_
    have hsub : ∀ p ∈ rs.map (·.Subnet), 0 ≤ p.Addr ∧ p.Addr < 4294967296 ∧ p.Len = c.SubnetLen ∧ validM p = true ∧ contM c.Network p.Addr = true := fun p hp => np_sub hr hrr f po hp
    refine ca_ (fun R' q1 q2 => newP_c c.Network c.SubnetLen c.Min c.Max U (rs.map (·.Subnet)) R' (rq_ q2 r3) (by rw [List.length_map]; omega) (np_fault hr f po) hr.mn hr.mx (by have := f.sub; have := f.net; omega) hsub (np_nodup f po)) fun ⟨pp, K, ik, ks, km⟩ ⟨g1, g2⟩ => ?_
    dsimp only at g1 g2 ⊢
    refine rt_ (⟨sp, tp, pp, rl, rk, tm, { c with Reserved := Y }, rs, m, pg0 c.Network c.SubnetLen c.Min c.Max K ik ks km⟩, ⟨0, 0, nilH, [], [], nilH, [], [], nilH, []⟩) ⟨?_, ?_, rfl, rfl⟩
    · have h3 := f.sub
      have h4 := f.net
      have hpw : 0 < pw c.SubnetLen := pw_pos
      refine ⟨⟨f.net, f.sub, f.num, f.ttl, f.log, f.cap, f.top, f.cls⟩, ⟨po.row, po.out, po.host, po.rise, po.apart⟩, hr.n, hr.mn, hr.mx, hrr, hl, z3, rfl, rfl, rfl, rfl, fun i => ?_, fun pr q1 q2 q3 => ⟨q1, q2, q3, by show 0 ≤ c.SubnetLen ∧ c.SubnetLen ≤ 32; omega, Int.ediv_nonneg hr.mn.1 (Int.le_of_lt hpw), ?_, Int.ediv_le_ediv hpw po.row, fun n hn => ?_, ?_, g2, fun i hi => ?_, g1.m, g1.d⟩⟩
      · show i ∈ ks ↔ ∃ r ∈ rs, r.Subnet.Addr / pw c.SubnetLen = i
        rw [g1.p.mem_iff, List.map_map, List.mem_map]
        rfl
      · show c.Max / pw c.SubnetLen < 4294967296
        have := Int.ediv_le_self (pw c.SubnetLen) hr.mx.1
        have := hr.mx
        omega
      · show n * pw c.SubnetLen < 4294967296
        have h9 : n ≤ c.Max / pw c.SubnetLen := hn
        have := Int.mul_le_of_le_ediv hpw h9
        have := hr.mx
        omega
      · show ks.length ≤ 1024
        rw [g1.p.length_eq, List.length_map, List.length_map]; omega
      · have hi2 : i ∈ ks := hi
        rw [g1.p.mem_iff] at hi2
        obtain ⟨q, hq, rfl⟩ := List.mem_map.1 hi2
        have h9 := hsub q hq
        exact ⟨Int.ediv_nonneg h9.1 (Int.le_of_lt hpw), by have := Int.ediv_le_self (pw c.SubnetLen) h9.1; omega⟩
    · have h5 := f.log
      refine ⟨⟨⟨by decide, by decide⟩, ⟨by decide, by decide⟩, .nil, .nil, by simp, by show min c.Log 0 ≤ _; simp; omega, by simp⟩, rfl, rfl, by simp [logS], .nil, .refl _, by simp, fun j h1 h2 => by simp at h2, ⟨.nil, by simp, by simp, fun k v e => by cases e⟩, .refl _, Runs.nil, fun i => ?_⟩
      constructor
      · intro h; exact absurd h inR_nil
      · rintro ⟨l, hl, _⟩; cases hl
end Go.Proofs.YtdallmabajeajaaGreatDoor.Fw
set_option linter.all false
set_option maxHeartbeats 1000000
set_option maxRecDepth 100000
namespace Go.Proofs.YtdallmabajeajaaGreatDoor.Fw
open Go
theorem rclass_c (a : Int) (a0 : 0 ≤ a) (a1 : a < 4294967296) (R : Hh) : Ctp Tryz.prog 116 [.int .u32 a] R [] (.int .i64 (cls a)) := by
  have e : IntKind.i64.wrap a = a := wrap_i64 (by omega) (by omega)
  have hq : 0 ≤ a / 16777216 := by omega
  refine in_ Tryz.func116 fun w0 => ?_
  simp only [e]
  refine if_ (fun c1 => ?_) (fun c1 => ?_)
  · refine re_ ?_
    unfold cls; rw [if_pos c1]; rfl
  · refine if_ (fun c2 => ?_) (fun c2 => ?_)
    · refine re_ ?_
      unfold cls; rw [if_neg c1, if_pos c2]; rfl
    · refine if_ (fun c3 => ?_) (fun c3 => ?_)
      · refine re_ ?_
        unfold cls; rw [if_neg c1, if_neg c2, if_pos c3]; rfl
      · refine if_ (fun c4 => ?_) (fun c4 => ?_)
        · refine re_ ?_
          unfold cls; rw [if_neg c1, if_neg c2, if_neg (by omega), if_pos c4]; rfl
        · refine re_ ?_
          unfold cls; rw [if_neg c1, if_neg c2, if_neg (by omega), if_neg (by omega)]; rfl
theorem rsize_c (n : Int) (h0 : 0 ≤ n) (h1 : n ≤ 32) (R : Hh) : Ctp Tryz.prog 154 [.int .i64 n] R [] (.int .i64 (pw n)) := by
  refine in_ Tryz.func154 fun w0 => ?_
  refine lo_ (fun z : Int × Int => [(3, .int .i64 z.1), (4, .int .i64 z.2)]) (fun _ => []) (fun z => n ≤ z.2 ∧ z.2 ≤ 32 ∧ z.1 = 2 ^ (z.2 - n).toNat) (fun z => (32 - z.2).toNat) (1, n) ⟨by dsimp only; omega, by dsimp only; omega, by dsimp only; rw [Int.sub_self]; rfl⟩ fun ⟨x, j⟩ ⟨z0, z1, z2⟩ => ?_
  dsimp only at z0 z1 z2 ⊢
  have hb : 1 ≤ x ∧ x ≤ 4294967296 := by
    have h2 : (2 : Nat) ^ (j - n).toNat ≤ 2 ^ 32 := Nat.pow_le_pow_right (by omega) (by omega)
    have h3 : 0 < (2 : Nat) ^ (j - n).toNat := Nat.pow_pos (by omega)
    have h4 : x = ((2 ^ (j - n).toNat : Nat) : Int) := by rw [z2]; simp
    omega
  have e1 : IntKind.i64.wrap (2 * x) = 2 * x := wrap_i64 (by omega) (by omega)
  refine if_ (fun c1 => ?_) (fun c1 => ?_)
  · refine ba_ (2 * x, j + 1) ⟨by dsimp only; omega, by dsimp only; omega, by dsimp only; rw [z2, show (j + 1 - n).toNat = (j - n).toNat + 1 by omega, Int.pow_succ]; omega⟩ (by dsimp only; omega)
  · refine re_ ?_
    have : j = 32 := by omega
    unfold pw
    rw [z2, this]; rfl
end Go.Proofs.YtdallmabajeajaaGreatDoor.Fw
set_option linter.all false
set_option maxHeartbeats 1000000
set_option maxRecDepth 100000
namespace Go.Proofs.YtdallmabajeajaaGreatDoor.Fw
open Go
theorem rfault_c (p : QPrefix) (a0 : 0 ≤ p.Addr) (a1 : p.Addr < 4294967296) (R : Hh) : Ctr (τ := Int) Tryz.prog 153 [.agg ⟨cPrefix p⟩] R [] (fun e => e = 0 ↔ Vld p) (fun e => .int .i64 e) (fun _ => []) := by
  have e : IntKind.i64.wrap p.Addr = p.Addr := wrap_i64 (by omega) (by omega)
  refine in_ Tryz.func153 fun w0 => ?_
  refine bo_' fun b => ?_
  refine if_ (fun c1 => ?_) (fun c1 => ?_)
  · refine rt_ 11 (iff_of_false (by decide) fun v => ?_)
    have h1 := v.1
    have h2 := v.2.1
    omega
  · have hpw : 0 < pw p.Len := pw_pos
    refine cq_ (fun R' q1 q2 => rsize_c p.Len (by omega) (by omega) R') ?_
    refine if_ (fun c2 => ?_) (fun c2 => ?_)
    · rw [e] at c2
      exact rt_ 12 (iff_of_false (by decide) fun v => c2 v.2.2)
    · rw [e] at c2
      exact rt_ 0 (iff_of_true rfl ⟨c1.1, c1.2, c2⟩)
theorem rvalid_c (p : QPrefix) (a0 : 0 ≤ p.Addr) (a1 : p.Addr < 4294967296) (R : Hh) : Ctp Tryz.prog 115 [.agg ⟨cPrefix p⟩] R [] (.bool (decide (Vld p))) := by
  refine in_ Tryz.func115 fun w0 => ?_
  refine bo_' fun b => ?_
  refine ca_ (fun R' q1 q2 => rfault_c p a0 a1 R') fun e he => ?_
  refine re_ ?_
  simp only [pack, Value.bool.injEq]
  by_cases h : e = 0 <;> simp [h, ← he]
theorem rspan_c (p : QPrefix) (a0 : 0 ≤ p.Addr) (a1 : p.Addr < 4294967296) (R : Hh) : Ctr (τ := Int × Int × Int) Tryz.prog 117 [.agg ⟨cPrefix p⟩] R [] (fun x => (Vld p ∧ x = (p.Addr, p.Addr + pw p.Len - 1, 0)) ∨ (¬ Vld p ∧ x.2.2 ≠ 0)) (fun x => .tuple #[.int .u32 x.1, .int .u32 x.2.1, .int .i64 x.2.2]) (fun _ => []) := by
  have e : IntKind.i64.wrap p.Addr = p.Addr := wrap_i64 (by omega) (by omega)
  refine in_ Tryz.func117 fun w0 => ?_
  refine bo_' fun b => ?_
  refine ca_ (fun R' q1 q2 => rfault_c p a0 a1 R') fun ee he => ?_
  refine if_ (fun c1 => ?_) (fun c1 => ?_)
  · exact rt_ (0, 0, ee) (.inr ⟨fun v => c1 (he.2 v), c1⟩)
  · have v : Vld p := he.1 c1
    have hpw : 0 < pw p.Len := pw_pos
    have hle := pw_le v.1
    have htop := vld_top v a0 a1
    refine cq_ (fun R' q1 q2 => rsize_c p.Len v.1 v.2.1 R') ?_
    have e1 : IntKind.i64.wrap (p.Addr + pw p.Len) = p.Addr + pw p.Len := wrap_i64 (by omega) (by omega)
    have e2 : IntKind.i64.wrap (p.Addr + pw p.Len - 1) = p.Addr + pw p.Len - 1 := wrap_i64 (by omega) (by omega)
    have e3 : IntKind.u32.wrap (p.Addr + pw p.Len - 1) = p.Addr + pw p.Len - 1 := wrap32 (by omega) (by omega)
    simp only [e, e1, e2, e3]
    exact rt_ (p.Addr, p.Addr + pw p.Len - 1, 0) (.inl ⟨v, rfl⟩)
theorem rcont_c (p : QPrefix) (a : Int) (a0 : 0 ≤ p.Addr) (a1 : p.Addr < 4294967296) (R : Hh) : Ctp Tryz.prog 83 [.agg ⟨cPrefix p⟩, .int .u32 a] R [] (.bool (decide (Cnt p a))) := by
  refine in_ Tryz.func83 fun w0 => ?_
  refine bo_' fun b => ?_
  refine ca_ (fun R' q1 q2 => rspan_c p a0 a1 R') fun ⟨lo, hi, ee⟩ he => ?_
  dsimp only at he ⊢
  refine re_ ?_
  simp only [pack, Value.bool.injEq]
  unfold Cnt
  rcases he with ⟨v, h⟩ | ⟨v, h⟩
  · cases h
    simp only [v, true_and]
    by_cases h1 : p.Addr ≤ a <;> by_cases h2 : a ≤ p.Addr + pw p.Len - 1 <;> simp [h1, h2] <;> omega
  · simp [v, h]
end Go.Proofs.YtdallmabajeajaaGreatDoor.Fw
set_option linter.all false
set_option maxHeartbeats 4000000
set_option maxRecDepth 100000
namespace Go.Proofs.YtdallmabajeajaaGreatDoor.Fw
open Go
theorem rin_c (x lo hi : Int) (R : Hh) : Ctp Tryz.prog 84 [.int .i64 x, .int .i64 lo, .int .i64 hi] R [] (.bool (decide (lo ≤ x ∧ x ≤ hi))) := by
  refine in_ Tryz.func84 fun w0 => ?_
  refine re_ ?_
  grind [pack]
instance rin_i (x lo hi : Int) (R : Hh) : Cp 84 [.int .i64 x, .int .i64 lo, .int .i64 hi] R [] True (.bool (decide (lo ≤ x ∧ x ≤ hi))) := ⟨fun _ => rin_c x lo hi R⟩
theorem rsize2_c (n : Int) (h0 : 0 ≤ n) (h1 : n ≤ 32) (R : Hh) : Ctp Tryz.prog 118 [.int .i64 n] R [] (.int .i64 (pw n)) := by
  refine in_ Tryz.func118 fun w0 => ?_
  refine re_ ?_
  have hb : min (32 - n).toNat IntKind.i64.bits = (32 - n).toNat := Nat.min_eq_left (by show (32 - n).toNat ≤ 64; omega)
  have hp := pw_le h0
  have hp2 : 0 < pw n := pw_pos
  rw [hb, Int.one_mul]
  have : IntKind.i64.wrap (2 ^ (32 - n).toNat) = pw n := wrap_i64 (n := pw n) (by omega) (by omega)
  rw [this]; rfl
instance dec_base {c : QConfig} {a : Int} : Decidable (base c a) := by unfold base; infer_instance
theorem rbase_c (c : QConfig) (a : Int) (hn : 0 ≤ c.Network.Addr ∧ c.Network.Addr < 4294967296) (a0 : 0 ≤ a) (a1 : a < 4294967296) (h0 : 0 ≤ c.SubnetLen) (h1 : c.SubnetLen ≤ 32) (R : Hh) : Ctp Tryz.prog 85 [.agg ⟨cConfig c⟩, .int .u32 a] R [] (.bool (decide (base c a))) := by
  refine in_ Tryz.func85 fun w0 => ?_
  refine bo_' fun b => ?_
  have hpw : 0 < pw c.SubnetLen := pw_pos
  have e : IntKind.i64.wrap a = a := wrap_i64 (by omega) (by omega)
  refine cp_ (fun R' q1 q2 => rsize2_c c.SubnetLen h0 h1 R') ?_
  simp only [e]
  refine gsp_ (fun hb => ?_) (fun hb => ?_)
  · simp only [hb]
    refine run_ ?_
    refine cp_ (fun R' q1 q2 => rcont_c c.Network a hn.1 hn.2 R') ?_
    refine re_ ?_
    simp only [pack, Value.bool.injEq]
    have h9 : a % pw c.SubnetLen = 0 := by simpa using hb
    unfold base
    by_cases h8 : Cnt c.Network a <;> simp [h8, h9]
  · simp only [hb, Bool.not_true]
    refine run_ ?_
    refine re_ ?_
    have h9 : ¬ a % pw c.SubnetLen = 0 := by simpa using hb
    unfold base
    simp [pack, h9]
end Go.Proofs.YtdallmabajeajaaGreatDoor.Fw
set_option linter.all false
set_option maxHeartbeats 4000000
set_option maxRecDepth 100000
namespace Go.Proofs.YtdallmabajeajaaGreatDoor.Fw
open Go
theorem rfields_c (c : QConfig) (hr : CfgR c) (R : Hh) : Ctr (τ := Bool) Tryz.prog 82 [.agg ⟨cConfig c⟩] R [] (fun b => b = true ↔ FieldsOK c) (fun b => .bool b) (fun _ => []) := by
  refine in_ Tryz.func82 fun w0 => ?_
  refine bo_' fun b1 => ?_
  refine cp_ (fun R' q1 q2 => rvalid_c c.Network hr.n.1 hr.n.2 R') ?_
  refine gsp_ (fun hb => ?_) (fun hb => ?_)
  · simp only [hb]
    refine run_ ?_
    have hv : Vld c.Network ∧ 8 ≤ c.Network.Len ∧ c.Network.Len ≤ 28 := by
      cases h1 : decide (Vld c.Network) with
      | false => rw [h1] at hb; cases hb
      | true => rw [h1] at hb; exact ⟨of_decide_eq_true h1, by simpa using hb⟩
    have ew : IntKind.i64.wrap (c.Network.Len + 1) = c.Network.Len + 1 := wrap_i64 (by omega) (by omega)
    refine cp_ (fun R' q1 q2 => rclass_c c.Network.Addr hr.n.1 hr.n.2 R') ?_
    refine if_ (fun c1 => ?_) (fun c1 => ?_)
    · exact rt_ false (iff_of_false (by decide) fun f => c1 f.net.2.2.2)
    · refine gsp_ (fun hb2 => ?_) (fun hb2 => ?_)
      · simp only [hb2]
        refine run_ ?_
        have hs : c.Network.Len + 1 ≤ c.SubnetLen ∧ c.SubnetLen ≤ 30 := by simpa using hb2
        refine cp_ (fun R' q1 q2 => rbase_c c c.Min hr.n hr.mn.1 hr.mn.2 (by omega) (by omega) R') ?_
        refine gsp_ (fun hb3 => ?_) (fun hb3 => ?_)
        · simp only [hb3]
          refine run_ ?_
          refine cp_ (fun R' q1 q2 => rbase_c c c.Max hr.n hr.mx.1 hr.mx.2 (by omega) (by omega) R') ?_
          have hm : base c c.Min := by simpa using hb3
          refine if_ (fun c2 => ?_) (fun c2 => ?_)
          · exact rt_ false (iff_of_false (by decide) fun f => c2 f.sub.2.2.2)
          · refine if_ (fun c3 => ?_) (fun c3 => ?_)
            · refine rt_ false (iff_of_false (by decide) fun f => ?_)
              have P := f.num
              omega
            · refine if_ (fun c4 => ?_) (fun c4 => ?_)
              · refine rt_ false (iff_of_false (by decide) fun f => ?_)
                have P := f.ttl
                have P2 := f.log
                omega
              · refine if_ (fun c5 => ?_) (fun c5 => ?_)
                · refine rt_ false (iff_of_false (by decide) fun f => ?_)
                  have P := f.cap
                  have P2 := f.log
                  omega
                · have hf := hr.f
                  refine lo_ (fun k : Nat => [(3, .int .i64 k)]) (fun _ => []) (fun k => (k : Int) ≤ c.Hosts ∧ (k = 0 ∨ c.First + k - 1 ≤ 4294967295) ∧ ∀ h : Int, 0 ≤ h → h < k → cls (c.First + h) = 0) (fun k => (c.Hosts - k).toNat) 0 ⟨by omega, .inl rfl, by omega⟩ fun k ⟨k1, k2, k3⟩ => ?_
                  have ea : IntKind.i64.wrap c.First = c.First := wrap_i64 (by omega) (by omega)
                  have eb : IntKind.i64.wrap (c.First + k) = c.First + k := wrap_i64 (by omega) (by omega)
                  refine if_ (fun c6 => ?_) (fun c6 => ?_)
                  · simp only [ea, eb]
                    refine gsp_ (fun hb4 => ?_) (fun hb4 => ?_)
                    · simp only [hb4]
                      refine run_ ?_
                      have h9 : c.First + k ≤ 4294967295 := by have := of_decide_eq_false hb4; omega
                      have ec : IntKind.u32.wrap (c.First + k) = c.First + k := wrap32 (by omega) (by omega)
                      refine cp_ (fun R' q1 q2 => rclass_c (IntKind.u32.wrap (c.First + k)) (by omega) (by omega) R') ?_
                      refine if_ (fun c7 => ?_) (fun c7 => ?_)
                      · rw [ec] at c7
                        exact rt_ false (iff_of_false (by decide) fun f => c7 (f.cls k (by omega) (by omega)))
                      · rw [ec] at c7
                        exact ba_ (k + 1) ⟨by omega, .inr (by omega), fun h h0 h1 => by
                          by_cases h2 : h < k
                          · exact k3 h h0 h2
                          · rw [show h = k by omega]; exact c7⟩ (by omega)
                    · simp only [hb4, Bool.not_false]
                      refine run_ ?_
                      have h9 : c.First + k > 4294967295 := of_decide_eq_true hb4
                      exact rt_ false (iff_of_false (by decide) fun f => by have := f.top; omega)
                  · exact rt_ true (iff_of_true rfl ⟨⟨hv.1, hv.2.1, hv.2.2, c1⟩, ⟨hs.1, hs.2, hm, c2⟩, ⟨c3.1.1.1, c3.1.1.2, c3.1.2.1, c3.1.2.2, c3.2⟩, by omega, by omega, by omega, by omega, fun h h0 h1 => k3 h h0 (by omega)⟩)
        · simp only [hb3, Bool.not_false]
          refine run_ ?_
          refine rt_ false (iff_of_false (by decide) fun f => ?_)
          simp [f.sub.2.2.1] at hb3
      · simp only [hb2, Bool.not_false]
        refine run_ ?_
        refine rt_ false (iff_of_false (by decide) fun f => ?_)
        simp [f.sub.1, f.sub.2.1] at hb2
  · simp only [hb, Bool.not_false]
    refine run_ ?_
    refine rt_ false (iff_of_false (by decide) fun f => ?_)
    simp [f.net.1, f.net.2.1, f.net.2.2.1] at hb
end Go.Proofs.YtdallmabajeajaaGreatDoor.Fw
set_option linter.all false
set_option maxHeartbeats 4000000
set_option maxRecDepth 100000
namespace Go.Proofs.YtdallmabajeajaaGreatDoor.Fw
open Go
theorem rcheck_c (c : QConfig) (rs : List QReserve) (hr : CfgR c) (hrr : ∀ r ∈ rs, 0 ≤ r.Subnet.Addr ∧ r.Subnet.Addr < 4294967296) (R : Hh) (hR : RdS R 3 c.Reserved.v (rs.map cReserve)) : Ctp Tryz.prog 50 [.agg ⟨cConfig c⟩] R [] (.int .i64 (checkS c rs)) := by
  have hbd := hR.bd
  refine in_ Tryz.func50 fun w0 => ?_
  refine bo_' fun b1 => ?_
  refine ca_ (fun R' q1 q2 => rfields_c c hr R') fun b hb => ?_
  refine if_ (fun c1 => ?_) (fun c1 => ?_)
  · refine re_ ?_
    rw [check26 fun f => ?_]; rfl
    rw [hb.2 f] at c1; cases c1
  · have f : FieldsOK c := hb.1 (by first | exact c1 | simpa using c1)
    have htop := f.top
    have hlog := f.log
    have hf := hr.f
    refine if_ (fun c2 => ?_) (fun c2 => ?_)
    · refine re_ ?_
      unfold checkS
      rw [if_neg (not_not_intro f), if_pos fun p => by have := p.row; omega]; rfl
    · refine lo_ (fun k : Nat => [(3, .int .i64 k)]) (fun _ => []) (fun k => (k : Int) ≤ c.Hosts ∧ ∀ h : Int, 0 ≤ h → h < k → ¬ Cnt c.Network (c.First + h)) (fun k => (c.Hosts - k).toNat) 0 ⟨by omega, by omega⟩ fun k hk => ?_
      refine if_ (fun c3 => ?_) (fun c3 => ?_)
      · have e2 : IntKind.u32.wrap (c.First + IntKind.u32.wrap (k : Int)) = c.First + k := by
          rw [wrap32 (a := (k : Int)) (by omega) (by omega), wrap32 (by omega) (by omega)]
        refine cp_ (fun R' q1 q2 => rcont_c c.Network (IntKind.u32.wrap (c.First + IntKind.u32.wrap (k : Int))) hr.n.1 hr.n.2 R') ?_
        refine if_ (fun c4 => ?_) (fun c4 => ?_)
        · rw [e2] at c4
          refine re_ ?_
          unfold checkS
          rw [if_neg (not_not_intro f), if_pos fun p => p.out k (by omega) (by omega) c4]; rfl
        · rw [e2] at c4
          refine ba_ (k + 1) ⟨by omega, fun h h0 h1 => ?_⟩ (by omega)
          by_cases h2 : h < k
          · exact hk.2 h h0 h2
          · rw [show h = k by omega]; exact c4
      · have hout : ∀ h : Int, 0 ≤ h → h < c.Hosts → ¬ Cnt c.Network (c.First + h) := fun h h0 h1 => hk.2 h h0 (by omega)
        have hsub := f.sub
        have hnet := f.net
        refine lo_ (fun k2 : Nat => [(4, .int .i64 k2)]) (fun _ => []) (fun k2 => k2 ≤ rs.length ∧ k2 ≤ 64 ∧ ∃ last, CpI c (rs.take k2) last) (fun k2 => rs.length - k2) 0 ⟨by omega, by omega, -1, cpi_nil⟩ fun k2 ⟨z1, z2, last, z4⟩ => ?_
        refine if_ (fun c4 => ?_) (fun c4 => ?_)
        · have hkl : k2 < rs.length := by omega
          have hel : el rs k2 = rs[k2] := by simp [el, List.getD_eq_getElem?_getD, hkl]
          have hmr := hrr _ (List.getElem_mem hkl)
          rw [← hel] at hmr
          have hno : PoolOK c rs → 0 ≤ (el rs k2).Host ∧ (el rs k2).Host < c.Hosts ∧ (el rs k2).Subnet.Len = c.SubnetLen ∧ base c (el rs k2).Subnet.Addr := fun p => by rw [hel]; exact p.host rs[k2] (List.getElem_mem hkl)
          refine ax_ fun b5 => ?_
          have no28 : ¬ PoolOK c rs → Value.int .i64 28 = .int .i64 (checkS c rs) := fun hp => by
            unfold checkS
            rw [if_neg (not_not_intro f), if_pos hp]
          refine gsp_ (fun hb1 => ?_) (fun hb1 => ?_)
          · simp only [hb1]
            refine run_ ?_
            have h8 : (0 ≤ (el rs k2).Host ∧ (el rs k2).Host ≤ c.Hosts - 1) ∧ (el rs k2).Subnet.Len = c.SubnetLen := by simpa [bz_] using hb1
            refine cp_ (fun R' q1 q2 => rbase_c c (el rs k2).Subnet.Addr hr.n hmr.1 hmr.2 (by omega) (by omega) R') ?_
            refine if_ (fun c5 => ?_) (fun c5 => ?_)
            · refine re_ ?_
              exact no28 fun p => c5 (hno p).2.2.2
            · refine if_ (fun c6 => ?_) (fun c6 => ?_)
              · refine re_ ?_
                refine no28 fun p => ?_
                have hpl := pool_len f p
                rcases c6 with h | ⟨h, h'⟩
                · omega
                · have h2 : k2 - 1 < rs.length := by omega
                  have e2 : el rs ((k2 : Int) - 1) = rs[k2 - 1] := by
                    rw [show (k2 : Int) - 1 = ((k2 - 1 : Nat) : Int) by omega]
                    simp [el, List.getD_eq_getElem?_getD, h2]
                  have h3 := (List.pairwise_iff_getElem.1 p.rise) (k2 - 1) k2 h2 hkl (by omega)
                  rw [← hel, ← e2] at h3
                  omega
              · refine lo_ (fun j : Nat => [(6, .int .i64 j)]) (fun _ => []) (fun j => j ≤ k2 ∧ ∀ r ∈ rs.take j, r.Subnet ≠ (el rs k2).Subnet) (fun j => k2 - j) 0 ⟨by omega, by simp⟩ fun j ⟨j1, j2⟩ => ?_
                refine if_ (fun c7 => ?_) (fun c7 => ?_)
                · have hjl : j < rs.length := by omega
                  have hej : el rs j = rs[j] := by simp [el, List.getD_eq_getElem?_getD, hjl]
                  refine if_ (fun c8 => ?_) (fun c8 => ?_)
                  · refine re_ ?_
                    refine no28 fun p => ?_
                    have h3 := (List.pairwise_iff_getElem.1 p.apart) j k2 hjl hkl (by omega)
                    rw [← hel, ← hej] at h3
                    exact h3 c8
                  · refine ba_ (j + 1) ⟨by omega, fun r hr => ?_⟩ (by omega)
                    rw [List.take_succ_eq_append_getElem hjl, ← hej] at hr
                    rcases List.mem_append.1 hr with h | h
                    · exact j2 r h
                    · rw [List.mem_singleton.1 h]; exact c8
                · have hj : j = k2 := by omega
                  subst hj
                  have e1 : rs.take (j + 1) = rs.take j ++ [el rs j] := by rw [hel, List.take_succ_eq_append_getElem hkl]
                  refine ba_ (j + 1) ⟨by omega, by omega, (el rs j).Host, ?_⟩ (by omega)
                  rw [e1]
                  refine cpi_add z4 (cpi_last hkl z4 h8.1.1 fun i hi => ?_) (by omega) h8.2 (by first | exact c5 | exact Classical.not_not.1 c5) fun hm => ?_
                  · subst hi
                    have e3 : ((i + 1 : Nat) : Int) - 1 = i := by omega
                    rw [e3] at c6
                    omega
                  · obtain ⟨r, hr2, e⟩ := List.mem_map.1 hm
                    exact j2 r hr2 e
          · simp only [hb1, Bool.not_false]
            refine run_ ?_
            refine re_ ?_
            refine no28 fun p => ?_
            have h9 := hno p
            simp [h9.1, h9.2.2.1, show (el rs k2).Host ≤ c.Hosts - 1 by omega] at hb1
        · have hkp : k2 = rs.length := by omega
          rw [hkp, List.take_length] at z4
          refine re_ ?_
          unfold checkS
          rw [if_neg (not_not_intro f), if_neg (not_not_intro ⟨by omega, hout, z4.host, z4.rise, z4.apart⟩)]; rfl
end Go.Proofs.YtdallmabajeajaaGreatDoor.Fw
set_option linter.all false
set_option maxHeartbeats 1000000
namespace Go.Proofs.YtdallmabajeajaaGreatDoor.Fw
open Go
section
variable {s : SG} {v : SV} {S : LS} {p : QPrefix}
end
end Go.Proofs.YtdallmabajeajaaGreatDoor.Fw
set_option linter.all false
set_option maxHeartbeats 1000000
namespace Go.Proofs.YtdallmabajeajaaGreatDoor.Fw
open Go
def Fits (c : QConfig) (rs : List QReserve) (l : QLease) (now : Int) : Prop := (0 ≤ l.Host ∧ l.Host < c.Hosts) ∧ l.Subnet.Len = c.SubnetLen ∧ Vld l.Subnet ∧ Cnt c.Network l.Subnet.Addr ∧ (now < l.Until ∨ l.Until = never) ∧ May c rs l.Host l.Subnet
instance {c rs l now} : Decidable (Fits c rs l now) := by unfold Fits; infer_instance
section
variable {c : QConfig} {rs : List QReserve} {s : LS} {x l : QLease} {cmd : QCmd} {h pub n : Int} {w p : QPrefix} {m : QMAC}
end
section
variable {s : SG} {v : SV} {S : LS} {p : QPrefix}
theorem own_take {rs : List QReserve} {h : Int} {k : Nat} (hk : k < rs.length) (hn : ∀ r ∈ rs.take k, r.Host ≠ h) (he : rs[k].Host = h) : own rs h = some rs[k].Subnet := by
  unfold own
  have : rs.find? (fun r => decide (r.Host = h)) = some rs[k] := by
    rw [List.find?_eq_some_iff_getElem]
    refine ⟨by simpa using he, k, hk, rfl, fun j hj => ?_⟩
    have hm : rs[j] ∈ rs.take k := by
      rw [List.mem_take_iff_getElem]
      exact ⟨j, by omega, rfl⟩
    simpa using hn _ hm
  rw [this]; rfl
theorem own_nobody {rs : List QReserve} {h : Int} (hn : ∀ r ∈ rs, r.Host ≠ h) : own rs h = none := by
  unfold own
  have : rs.find? (fun r => decide (r.Host = h)) = none := by
    rw [List.find?_eq_none]; intro r hr; simpa using hn r hr
  rw [this]; rfl
end
end Go.Proofs.YtdallmabajeajaaGreatDoor.Fw
set_option linter.all false
set_option maxHeartbeats 1000000
namespace Go.Proofs.YtdallmabajeajaaGreatDoor.Fw
open Go
section
variable {c : QConfig} {rs : List QReserve} {s : LS} {cmd : QCmd}
/-! ### a follower -/
end
end Go.Proofs.YtdallmabajeajaaGreatDoor.Fw
set_option linter.all false
set_option maxHeartbeats 4000000
set_option maxRecDepth 100000
namespace Go.Proofs.YtdallmabajeajaaGreatDoor.Fw
open Go
theorem take_eq {α : Type} [Inhabited α] {a b : List α} {k : Nat} (ha : k < a.length) (hl : a.length = b.length) (h : a.take k = b.take k) (e : el a k = el b k) : a.take (k + 1) = b.take (k + 1) := by
  have e1 : el a k = a[k] := by simp [el, List.getD_eq_getElem?_getD, ha]
  have e2 : el b k = b[k]'(by omega) := by simp [el, List.getD_eq_getElem?_getD, show k < b.length by omega]
  rw [List.take_succ_eq_append_getElem ha, List.take_succ_eq_append_getElem (by omega), h, ← e1, ← e2, e]
theorem eqLeases_c (X Y : SH) (a b : List QLease) (R : Hh) (hX : RdS R 12 X.v (a.map cLease)) (hY : RdS R 12 Y.v (b.map cLease)) : Ctp Tryz.prog 60 [X.v, Y.v] R [] (.bool (decide (a = b))) := by
  have hb1 := hX.bd
  have hb2 := hY.bd
  refine in_ Tryz.func60 fun w0 => ?_
  refine if_ (fun c1 => ?_) (fun c1 => ?_)
  · refine re_ ?_
    rw [decide_eq_false (fun e => c1 (by rw [e]))]; rfl
  · have hlen : a.length = b.length := by omega
    refine lo_ (fun k : Nat => [(5, .int .i64 k)]) (fun _ => []) (fun k => k ≤ a.length ∧ a.take k = b.take k) (fun k => a.length - k) 0 ⟨by omega, rfl⟩ fun k ⟨k1, k2⟩ => ?_
    refine if_ (fun c2 => ?_) (fun c2 => ?_)
    · refine if_ (fun c3 => ?_) (fun c3 => ?_)
      · refine re_ ?_
        rw [decide_eq_false (fun e => c3 (by rw [e]))]; rfl
      · exact ba_ (k + 1) ⟨by omega, take_eq (by omega) hlen k2 (by first | exact c3 | exact Classical.not_not.1 c3)⟩ (by omega)
    · refine re_ ?_
      have : k = a.length := by omega
      rw [this, List.take_length] at k2
      rw [hlen, List.take_length] at k2
      rw [decide_eq_true k2]; rfl
theorem eqEvents_c (X Y : SH) (a b : List QEvent) (R : Hh) (hX : RdS R 14 X.v (a.map cEvent)) (hY : RdS R 14 Y.v (b.map cEvent)) : Ctp Tryz.prog 45 [X.v, Y.v] R [] (.bool (decide (a = b))) := by
  have hb1 := hX.bd
  have hb2 := hY.bd
  refine in_ Tryz.func45 fun w0 => ?_
  refine if_ (fun c1 => ?_) (fun c1 => ?_)
  · refine re_ ?_
    rw [decide_eq_false (fun e => c1 (by rw [e]))]; rfl
  · have hlen : a.length = b.length := by omega
    refine lo_ (fun k : Nat => [(5, .int .i64 k)]) (fun _ => []) (fun k => k ≤ a.length ∧ a.take k = b.take k) (fun k => a.length - k) 0 ⟨by omega, rfl⟩ fun k ⟨k1, k2⟩ => ?_
    refine if_ (fun c2 => ?_) (fun c2 => ?_)
    · refine if_ (fun c3 => ?_) (fun c3 => ?_)
      · refine re_ ?_
        rw [decide_eq_false (fun e => c3 (by rw [e]))]; rfl
      · exact ba_ (k + 1) ⟨by omega, take_eq (by omega) hlen k2 (by first | exact c3 | exact Classical.not_not.1 c3)⟩ (by omega)
    · refine re_ ?_
      have : k = a.length := by omega
      rw [this, List.take_length] at k2
      rw [hlen, List.take_length] at k2
      rw [decide_eq_true k2]; rfl
theorem eqImage_c (I J : QImage) (a b : List QLease) (d e : List QEvent) (R : Hh) (h1 : RdS R 12 I.Leases.v (a.map cLease)) (h2 : RdS R 12 J.Leases.v (b.map cLease)) (h3 : RdS R 14 I.Events.v (d.map cEvent)) (h4 : RdS R 14 J.Events.v (e.map cEvent)) :
    Ctp Tryz.prog 31 [.agg ⟨cImage I⟩, .agg ⟨cImage J⟩] R [] (.bool (decide (I.Rev = J.Rev ∧ I.Now = J.Now ∧ a = b ∧ d = e))) := by
  refine in_ Tryz.func31 fun w0 => ?_
  refine bo_' fun b1 => ?_
  refine bo_' fun b2 => ?_
  refine gsp_ (fun hb => ?_) (fun hb => ?_)
  · simp only [hb]
    refine run_ ?_
    have hb2 : I.Rev = J.Rev ∧ I.Now = J.Now := by simpa [bz_] using hb
    refine cp_ (fun R' q1 q2 => eqLeases_c _ _ a b R' (h1.le q1) (h2.le q1)) ?_
    refine gsp_ (fun hc => ?_) (fun hc => ?_)
    · simp only [hc]
      refine run_ ?_
      have hc2 : a = b := by simpa using hc
      refine cp_ (fun R' q1 q2 => eqEvents_c _ _ d e R' (h3.le q1) (h4.le q1)) ?_
      refine re_ ?_
      simp [hb2, hc2, pack]
    · simp only [hc, Bool.not_true]
      refine run_ ?_
      refine re_ ?_
      have hc2 : ¬ a = b := by simpa using hc
      simp [hc2, pack]
  · simp only [hb, Bool.not_true]
    refine run_ ?_
    refine re_ ?_
    have hb2 : ¬ (I.Rev = J.Rev ∧ I.Now = J.Now) := fun h => by simp [h.1, h.2] at hb
    rw [decide_eq_false fun h => hb2 ⟨h.1, h.2.1⟩]; rfl
theorem eqSnap_c (I J : QSnap) (a b : List QLease) (R : Hh) (h1 : RdS R 12 I.Leases.v (a.map cLease)) (h2 : RdS R 12 J.Leases.v (b.map cLease)) :
    Ctp Tryz.prog 28 [.agg ⟨cSnap I⟩, .agg ⟨cSnap J⟩] R [] (.bool (decide (I.Rev = J.Rev ∧ I.Now = J.Now ∧ a = b))) := by
  refine in_ Tryz.func28 fun w0 => ?_
  refine bo_' fun b1 => ?_
  refine bo_' fun b2 => ?_
  refine gsp_ (fun hb => ?_) (fun hb => ?_)
  · simp only [hb]
    refine run_ ?_
    have hb2 : I.Rev = J.Rev ∧ I.Now = J.Now := by simpa [bz_] using hb
    refine cp_ (fun R' q1 q2 => eqLeases_c _ _ a b R' (h1.le q1) (h2.le q1)) ?_
    refine re_ ?_
    simp [hb2, pack]
  · simp only [hb, Bool.not_true]
    refine run_ ?_
    refine re_ ?_
    have hb2 : ¬ (I.Rev = J.Rev ∧ I.Now = J.Now) := fun h => by simp [h.1, h.2] at hb
    rw [decide_eq_false fun h => hb2 ⟨h.1, h.2.1⟩]; rfl
end Go.Proofs.YtdallmabajeajaaGreatDoor.Fw
set_option linter.all false
set_option maxHeartbeats 4000000
set_option maxRecDepth 100000
namespace Go.Proofs.YtdallmabajeajaaGreatDoor.Fw
open Go
structure GoodC (c : QConfig) (rs : List QReserve) : Prop where
  hr : CfgR c
  rr : ∀ r ∈ rs, 0 ≤ r.Subnet.Addr ∧ r.Subnet.Addr < 4294967296
  ok : checkS c rs = 0
  f : FieldsOK c
  po : PoolOK c rs
  rl : rs.length ≤ 64
theorem good_of {c : QConfig} {rs : List QReserve} (hr : CfgR c) (rr : ∀ r ∈ rs, 0 ≤ r.Subnet.Addr ∧ r.Subnet.Addr < 4294967296) (h : checkS c rs = 0) : GoodC c rs :=
  have h2 := check_zero h
  ⟨hr, rr, h, h2.1, h2.2, pool_len h2.1 h2.2⟩
def macM (n : Int) : QMAC := ⟨2, 0, 0, 0, IntKind.u8.wrap (n.fdiv 256), IntKind.u8.wrap n⟩
theorem mac_c (n : Int) (R : Hh) : Ctp Tryz.prog 29 [.int .i64 n] R [] (.agg ⟨cMAC (macM n)⟩) := by
  refine in_ Tryz.func29 fun w0 => ?_
  refine ax_ fun b0 => ?_
  refine bua_ (cMAC (macM n)) ?_
  exact rm_ () trivial
instance mac_i (n : Int) (R : Hh) : Cp 29 [.int .i64 n] R [] True (.agg ⟨cMAC (macM n)⟩) := ⟨fun _ => mac_c n R⟩
def asksM (h n : Int) : QCmd := ⟨1, h, ⟨0, 0⟩, IntKind.u32.wrap n, macM n, 0⟩
theorem asks_c (h n : Int) (R : Hh) : Ctp Tryz.prog 23 [.int .i64 h, .int .i64 n] R [] (.agg ⟨cCmd (asksM h n)⟩) := by
  refine in_ Tryz.func23 fun w0 => ?_
  refine ax_ fun b0 => ?_
  exact rm_ () trivial
instance asks_i (h n : Int) (R : Hh) : Cp 23 [.int .i64 h, .int .i64 n] R [] True (.agg ⟨cCmd (asksM h n)⟩) := ⟨fun _ => asks_c h n R⟩
end Go.Proofs.YtdallmabajeajaaGreatDoor.Fw
set_option linter.all false
set_option maxHeartbeats 4000000
set_option maxRecDepth 100000
namespace Go.Proofs.YtdallmabajeajaaGreatDoor.Fw
open Go
end Go.Proofs.YtdallmabajeajaaGreatDoor.Fw
set_option linter.all false
namespace Go.Proofs.YtdallmabajeajaaGreatDoor.Fw
open Go Go.ChangeShapes Go.WideShapes Go.ChangeAt Go.RowKit
section
variable {H : Type} {enc : TypeId × Value → H} {P : Program} {w : World} {base : Nat} {spare : Nat → Bool} {held : Bool} {fuel : Nat} {t : TypeId} {cs : List Value} {x : DataW H × List MemPlace}
theorem cellsOf_ty {ag : Bool} {n : Nat} (h : tyI P t = some (ag, n)) : P.cellsOf t = n := by
  obtain ⟨d, i, h1, h2, h3, h4⟩ := tyI_spec h
  simp [Program.cellsOf, h2, h4]
theorem trod_fx {k : IntKind} (ht : inI P t = some k) (h : DataW.trod enc P w base spare held fuel t cs = some x) : ∃ y : Fx k, cs = [.int k y.v] := by
  obtain ⟨n, rfl, _, hw⟩ := DataW.trod_int (inI_spec ht) h
  refine ⟨⟨n, ?_⟩, rfl⟩
  simp only [Lit.wf, Bool.and_eq_true, decide_eq_true_eq] at hw
  cases k <;> simp [IntKind.wrap, IntKind.min, IntKind.max, IntKind.signed, IntKind.bits] at hw ⊢ <;> (try split) <;> omega
theorem trod_len {fs : List (Nat × Nat)} {ag : Bool} {n : Nat} (hs : stI P t = some fs) (ht : tyI P t = some (ag, n)) (h : DataW.trod enc P w base spare held fuel t cs = some x) : cs.length = n := by
  obtain ⟨fds, h1, _⟩ := stI_spec hs
  obtain ⟨_, _, _, _, hl, _⟩ := DataW.trod_struct h1 h
  rw [hl, cellsOf_ty ht]
theorem trod_lenA {m n : Nat} {E : TypeId} {ag : Bool} (hs : arI P t = some (m, E)) (ht : tyI P t = some (ag, n)) (h : DataW.trod enc P w base spare held fuel t cs = some x) : cs.length = n := by
  obtain ⟨_, _, _, _, hl, _⟩ := DataW.trod_array (arI_spec hs) h
  rw [hl, cellsOf_ty ht]
theorem trod_fd {i o n : Nat} {U : TypeId} {ag : Bool} (hf : fdI P t i = some (o, U)) (hu : tyI P U = some (ag, n)) (h : DataW.trod enc P w base spare held fuel t cs = some x) : ∃ m y, DataW.trod enc P w base spare held m U ((cs.drop o).take n) = some y := by
  obtain ⟨fs, f, h1, h2, rfl, rfl⟩ := fdI_spec hf
  obtain ⟨xs, m, _, _, _, hx, hall⟩ := DataW.trod_struct h1 h
  have := hall i f h2
  rw [cellsOf_ty hu] at this
  have hi : i < xs.length := by
    rw [hx]
    exact (Array.getElem?_eq_some_iff.1 h2).1
  exact ⟨m, xs[i], by rw [this, List.getElem?_eq_getElem hi]⟩
theorem trod_el {i m n : Nat} {E : TypeId} {ag : Bool} (hs : arI P t = some (m, E)) (hu : tyI P E = some (ag, n)) (hi : Nat.blt i m = true) (h : DataW.trod enc P w base spare held fuel t cs = some x) : ∃ q y, DataW.trod enc P w base spare held q E ((cs.drop (i * n)).take n) = some y := by
  obtain ⟨xs, q, _, _, _, hx, hall⟩ := DataW.trod_array (arI_spec hs) h
  have hlt : i < m := Nat.le_of_ble_eq_true hi
  have := hall i hlt
  rw [cellsOf_ty hu] at this
  exact ⟨q, xs[i], by rw [this, List.getElem?_eq_getElem (by omega)]⟩
theorem rd_sliceQ {α : Type} {c : α → List Value} {q : DataW H → α → Prop} {E : TypeId} {ag : Bool} {k : Nat} (ht : slI P t = some E) (hE : tyI P E = some (ag, k)) (hk : Nat.ble 1 k = true)
    (hel : ∀ (m : Nat) (es : List Value) (y : DataW H × List MemPlace), DataW.trod enc P w base spare held m E es = some y → ∃ z : α, es = c z ∧ q y.1 z) (hck : ∀ z : α, (c z).length = k)
    (h : DataW.trod enc P w base spare held fuel t cs = some x) :
    ∃ (v : SH) (xs : List α), cs = [v.v] ∧ ((x.1 = .nil ∧ xs = []) ∨ ∃ els sp, x.1 = .slice els sp ∧ els.length = xs.length ∧ ∀ (i : Nat) (z : α), xs[i]? = some z → ∃ d, els[i]? = some d ∧ q d z) ∧ (xs.length ≤ 140737488355328 → RdS (hh w) k v.v (xs.map c)) := by
  rcases Go.Deep.open_slice (slI_spec ht) h with ⟨rfl, rfl⟩ | ⟨a, len, cap, m, n, D, Pl, rfl, hb, hl, hcap, rfl, rfl, hall⟩
  · exact ⟨nilH, [], rfl, .inl ⟨rfl, rfl⟩, fun _ => RdS.nil _ _⟩
  have hk1 : 1 ≤ k := Nat.le_of_ble_eq_true hk
  rw [cellsOf_ty hE] at hall
  have hm : len ≤ (if spare a.block = true then cap else len) := by split <;> omega
  by_cases hlen : len = 0
  · subst hlen
    exact ⟨⟨some a, 0, cap⟩, [], rfl, .inr ⟨_, _, rfl, by simp, by simp⟩, fun _ => ⟨by simp, by simp, some a, cap, rfl, by simp, fun h => absurd rfl h⟩⟩
  -- the elements
  have hex : ∀ i, i < len → ∃ z : α, w.cells? base (a.add (i * k)) k = some (c z) ∧ q (D i) z := by
    intro i hi
    obtain ⟨cs', h1, h2⟩ := hall i (by omega)
    obtain ⟨z, rfl, hq⟩ := hel _ _ _ h2
    exact ⟨z, h1, hq⟩
  have hxs : ∀ n, n ≤ len → ∃ xs : List α, xs.length = n ∧ ∀ i z, xs[i]? = some z → w.cells? base (a.add (i * k)) k = some (c z) ∧ q (D i) z := by
    intro n
    induction n with
    | zero => intro _; exact ⟨[], rfl, by simp⟩
    | succ n ih =>
      intro hn
      obtain ⟨xs, h1, h2⟩ := ih (by omega)
      obtain ⟨z, hz⟩ := hex n (by omega)
      refine ⟨xs ++ [z], by simp [h1], fun i y hy => ?_⟩
      rw [List.getElem?_append] at hy
      split at hy
      · exact h2 i y hy
      · rename_i hge
        have : i = n := by
          have := (List.getElem?_eq_some_iff.1 hy).1
          simp at this
          omega
        subst this
        rw [h1] at hy
        simp at hy
        subst hy
        exact hz
  obtain ⟨xs, hx1, hx2⟩ := hxs len (Nat.le_refl _)
  refine ⟨⟨some a, len, cap⟩, xs, rfl, .inr ⟨_, _, rfl, by simp [hx1], fun i z hz => ⟨D i, by have hi := (List.getElem?_eq_some_iff.1 hz).1; simp [show i < len by omega], (hx2 i z hz).2⟩⟩, fun hbd => ?_⟩
  -- the block
  have hcell : ∀ j, j < len * k → ∃ v, w.cell? (a.add j) = some v ∧ ((xs.map c).flatten)[j]? = some v := by
    intro j hj
    have hi : j / k < len := Nat.div_lt_of_lt_mul (by rw [Nat.mul_comm]; exact hj)
    obtain ⟨z, hz⟩ := get_of_lt (l := xs) (i := j / k) (by omega)
    have h1 := (hx2 _ _ hz).1
    unfold World.cells? at h1
    split at h1
    · have h2 := mapM_some_get h1 (j % k) (j % k) (by simp [Nat.mod_lt _ (show 0 < k by omega)])
      rw [Go.Deep.add_add, show j / k * k + j % k = j by rw [Nat.mul_comm]; exact Nat.div_add_mod j k] at h2
      have hlt : j % k < (c z).length := by rw [hck]; exact Nat.mod_lt _ (by omega)
      refine ⟨(c z)[j % k], by rw [h2, List.getElem?_eq_getElem hlt], ?_⟩
      have hfc := flat_cells (k := k) (ds := xs.map c) (i := j / k) (d := c z) (by intro d hd; obtain ⟨y, _, rfl⟩ := List.mem_map.1 hd; exact hck y) (get_map c hz)
      have h3 : (((xs.map c).flatten.drop (j / k * k)).take k)[j % k]? = (c z)[j % k]? := by rw [hfc]
      rw [List.getElem?_take_of_lt (Nat.mod_lt _ (by omega)), List.getElem?_drop, show j / k * k + j % k = j by rw [Nat.mul_comm]; exact Nat.div_add_mod j k] at h3
      rw [h3, List.getElem?_eq_getElem hlt]
    · cases h1
  obtain ⟨v0, hv0, _⟩ := hcell 0 (Nat.mul_pos (by omega) (by omega))
  obtain ⟨blk, off, spot⟩ := a
  have hobj : spot = none ∧ ∃ arr T fz, w.heap[blk]? = some (.cells arr T fz) := by
    rw [add_zero'] at hv0
    unfold World.cell? at hv0
    split at hv0
    · rename_i h1
      split at hv0
      · cases hv0
      · rename_i h2
        exact ⟨by simpa using h2, _, _, _, h1⟩
    · cases hv0
  obtain ⟨rfl, arr, T, fz, hblk⟩ := hobj
  have hfl : (xs.map c).flatten.length = len * k := by
    rw [flat_len (k := k) (by intro d hd; obtain ⟨y, _, rfl⟩ := List.mem_map.1 hd; exact hck y)]
    simp [hx1]
  refine ⟨by intro d hd; obtain ⟨y, _, rfl⟩ := List.mem_map.1 hd; exact hck y, by simpa using hbd, some ⟨blk, off, none⟩, cap, by simp [SH.v, hx1], by simpa [hx1] using hl, fun _ => ⟨blk, off, arr, T, fz, rfl, hblk, ?_⟩⟩
  apply List.ext_getElem?
  intro j
  simp only [List.length_map, hx1]
  by_cases hj : j < len * k
  · obtain ⟨v, h1, h2⟩ := hcell j hj
    rw [h2, List.getElem?_take_of_lt hj, List.getElem?_drop]
    rw [add_flat] at h1
    simpa [World.cell?, hblk] using h1
  · rw [List.getElem?_eq_none (by simp; omega), List.getElem?_eq_none (by omega)]
end
/-! ### from a walk's end to the row's -/
section
variable {H : Type} {enc : TypeId × Value → H} {P : Program}
theorem post_kept {f : Func} {s : ChangeSpec} {apart fresh handsOn again : Bool} {W W' : World} {args : Array Value} {v : Value} {ds gs : List (DataW H)} {before pa pv : List MemPlace}
    (hW : DataW.Whole enc P f.params.toList s.vars apart W args.toList ds gs before) (hb : Below W.heap.size W W')
    (hres : ∀ (b : Nat) (sp : Nat → Bool) (hd : Bool), DataW.TrodAll enc P W' b sp hd f.resultTypes.toList (v.resultList f.resultTypes.size) (s.fn H (ds ++ gs)).results [])
    (hargs : ∀ sp : Nat → Bool, (∀ p ∈ before, sp p.block = true) → DataW.TrodAll enc P W' 0 sp true f.params.toList args.toList (s.fn H (ds ++ gs)).args pa)
    (hvars : ∀ sp : Nat → Bool, (∀ p ∈ before, sp p.block = true) → DataW.TrodVars enc P W' sp s.vars (s.fn H (ds ++ gs)).vars pv)
    (hps : before = pa ++ pv)
    (hok : ∀ (j : Nat) (t : TypeId) (r : Value), f.resultTypes[j]? = some t → (v.resultList f.resultTypes.size)[j]? = some r → Value.okWide P W' .any 0 t r) :
    s.post enc P f apart fresh handsOn again W args v W' := by
  have hlt := hW.lt
  have hold : ∀ p ∈ before, (fun b => decide (b < W.heap.size)) p.block = true := fun p hp => by simpa using hlt p hp
  have hfr : W.keptBut W' (fun p => p ∈ before ∧ (p ∈ ([] : List MemPlace) ∨ p ∈ pa ∨ p ∈ pv)) := hb.frame _
  have hW0 := hW
  obtain ⟨_, _, _, _, _, hz, hn⟩ := hW0
  refine ⟨ds, gs, before, [], pa, pv, hW, hres _ _ _, hargs _ hold, hvars _ hold, hfr, fun _ => ⟨hok, ds.map id |> fun _ => _, _, [] ++ pa ++ pv, ⟨[] ++ pa, pv, trodAll_append (hargs _ (fun _ _ => rfl)) (hres _ _ _), hvars _ (fun _ _ => rfl), rfl, ?_, ?_⟩, ?_⟩⟩
  · intro b off hp
    have hmem : MemPlace.cell b off ∈ before := by rw [hps]; simpa using hp
    rw [Below.frozen hb (p := ⟨b, off, none⟩) (hlt _ hmem)]
    exact hz b off hmem
  · intro ha
    have h2 := hn ha
    rw [hps] at h2
    simpa using h2
  · intro p hp _
    rw [hps]
    simpa using hp
theorem trodAll_kept (hl : laidOutB P = true) {W W' : World} (hb : Below W.heap.size W W') : ∀ {ts : List TypeId} {vs : List Value} {ds : List (DataW H)} {ps : List MemPlace} {sp : Nat → Bool}, (∀ t ∈ ts, P.readableRec t = true ∧ t < P.types.size) → (∀ p ∈ ps, p.block < W.heap.size) → (∀ p ∈ ps, sp p.block = true) →
    DataW.TrodAll enc P W 0 (fun _ => true) true ts vs ds ps → DataW.TrodAll enc P W' 0 sp true ts vs ds ps
  | [], _, _, _, _, _, _, _, h => by
    obtain ⟨rfl, rfl, rfl⟩ := trodAll_nil h
    exact trodAll_mk0
  | t :: ts, vs, ds, ps, sp, hr, hlt, hsp, h => by
    obtain ⟨v, vs1, d, ds1, a, b, rfl, rfl, rfl, h1, h2⟩ := trodAll_cons h
    have ht := hr t (by simp)
    refine trodAll_cons_mk (Go.WideElems.Trod_stays hl ht.1 ht.2 h1 (fun p hp => hb.same (hlt p (by simp [hp]))) (fun p hp => hsp p (by simp [hp]))) (trodAll_kept hl hb (fun t ht => hr t (by simp [ht])) (fun p hp => hlt p (by simp [hp])) (fun p hp => hsp p (by simp [hp])) h2)
end
end Go.Proofs.YtdallmabajeajaaGreatDoor.Fw
set_option linter.all false
namespace Go.Proofs.YtdallmabajeajaaGreatDoor.Fw
open Go Go.ChangeShapes Go.WideShapes Go.ChangeAt Go.RowKit
section
variable {H : Type} {P : Program}
theorem w_each {t : TypeId} {d : DataW H} {n : Nat} : ∀ {ts : List TypeId} {ds : List (DataW H)} {i : Nat}, ts[i]? = some t → ds[i]? = some d → n ∈ DataW.weights P t d → n ∈ DataW.weightsEach P ts ds
  | t0 :: ts, d0 :: ds, 0, h1, h2, h3 => by
    simp only [List.getElem?_cons_zero, Option.some.injEq] at h1 h2
    subst h1 h2
    simp only [DataW.weightsEach, List.mem_append]
    exact .inl h3
  | t0 :: ts, d0 :: ds, i + 1, h1, h2, h3 => by
    simp only [List.getElem?_cons_succ] at h1 h2
    simp only [DataW.weightsEach, List.mem_append]
    exact .inr (w_each h1 h2 h3)
  | [], _, _, h1, _, _ => by simp at h1
  | _ :: _, [], _, _, h2, _ => by simp at h2
theorem w_le {ts : List TypeId} {ds : List (DataW H)} (hk : (DataW.weightsEach P ts ds).all (· ≤ reachBytes) = true) {n : Nat} (h : n ∈ DataW.weightsEach P ts ds) : n ≤ 140737488351232 := of_decide_eq_true (List.all_eq_true.1 hk n h)
theorem bytes_by {E : TypeId} {z : Nat} (h : byI P E = some z) : P.bytesOf E = z := by
  unfold byI at h
  unfold Program.bytesOf
  cases hi : P.info? E with
  | none => rw [hi] at h; cases h
  | some i => rw [hi] at h; simp only [Option.map_some, Option.some.injEq] at h ⊢; simpa using h
variable {enc : TypeId × Value → H} {w : World} {base : Nat} {spare : Nat → Bool} {held : Bool} {fuel : Nat} {t : TypeId} {cs : List Value} {x : DataW H × List MemPlace}
theorem rd_slW {α : Type} {c : α → List Value} {q : α → Prop} {E : TypeId} {ag : Bool} {k z : Nat} (ht : slI P t = some E) (hE : tyI P E = some (ag, k)) (hby : byI P E = some z) (hz : Nat.ble 1 z = true) (hk : Nat.ble 1 k = true)
    (hel : ∀ (m : Nat) (es : List Value) (y : DataW H × List MemPlace), DataW.trod enc P w base spare held m E es = some y → ∃ z : α, es = c z ∧ q z) (hck : ∀ z : α, (c z).length = k)
    (h : DataW.trod enc P w base spare held fuel t cs = some x) :
    ∃ (v : SH) (xs : List α), cs = [v.v] ∧ (xs = [] ∨ ∃ n ∈ DataW.weights P t x.1, xs.length ≤ n) ∧ (∀ z ∈ xs, q z) ∧ (xs.length ≤ 140737488355328 → RdS (hh w) k v.v (xs.map c)) := by
  obtain ⟨v, xs, h1, h2, h3⟩ := rd_sliceQ (c := c) (q := fun _ => q) ht hE hk (fun m es y h => hel m es y h) hck h
  refine ⟨v, xs, h1, ?_, ?_, h3⟩
  · rcases h2 with ⟨_, rfl⟩ | ⟨els, sp, h4, h5, _⟩
    · exact .inl rfl
    · refine .inr ⟨(els.length + sp.length) * P.bytesOf E, ?_, ?_⟩
      · rw [h4]; simp only [DataW.weights, slI_spec ht]; exact List.mem_cons_self
      · rw [bytes_by hby, ← h5]
        exact Nat.le_trans (Nat.le_add_right _ _) (Nat.le_mul_of_pos_right _ (Nat.le_of_ble_eq_true hz))
  · rcases h2 with ⟨_, rfl⟩ | ⟨els, sp, h4, h5, h6⟩
    · simp
    · intro z hz
      obtain ⟨i, hi⟩ := List.getElem?_of_mem hz
      obtain ⟨_, _, hq⟩ := h6 i z hi
      exact hq
theorem trod_fdD {i o n : Nat} {U : TypeId} {ag : Bool} (hf : fdI P t i = some (o, U)) (hu : tyI P U = some (ag, n)) (h : DataW.trod enc P w base spare held fuel t cs = some x) : ∃ m y, DataW.trod enc P w base spare held m U ((cs.drop o).take n) = some y ∧ (∃ l, x.1 = .agg l ∧ l[i]? = some y.1) ∧ ∀ k ∈ DataW.weights P U y.1, k ∈ DataW.weights P t x.1 := by
  obtain ⟨fs, f, g1, g2, rfl, rfl⟩ := fdI_spec hf
  obtain ⟨xs, m, _, hx1, _, hx, hall⟩ := DataW.trod_struct g1 h
  have h2 := hall i f g2
  rw [cellsOf_ty hu] at h2
  have hi : i < xs.length := by rw [hx]; exact (Array.getElem?_eq_some_iff.1 g2).1
  rw [List.getElem?_eq_getElem hi] at h2
  refine ⟨m, xs[i], h2, ⟨xs.map (·.1), by rw [hx1], by simp [hi]⟩, fun k hk => ?_⟩
  rw [hx1]
  simp only [DataW.weights, g1]
  exact w_each (i := i) (by simp [g2]) (by simp [hi]) hk
end
end Go.Proofs.YtdallmabajeajaaGreatDoor.Fw
set_option linter.all false
set_option maxRecDepth 100000
namespace Go.Proofs.YtdallmabajeajaaGreatDoor.Fw
open Go
section
variable {H : Type} {enc : TypeId × Value → H} {w : World} {base : Nat} {spare : Nat → Bool} {held : Bool} {fuel : Nat} {cs : List Value} {x : DataW H × List MemPlace}
theorem trod_i {P : Program} {k : IntKind} {t : TypeId} (ht : inI P t = some k) (h : DataW.trod enc P w base spare held fuel t cs = some x) : ∃ n : Int, cs = [.int k n] ∧ k.wrap n = n := by
  obtain ⟨y, e⟩ := trod_fx ht h; exact ⟨y.v, e, y.h⟩
theorem o_Prefix (h : DataW.trod enc Tryz.prog w base spare held fuel 25 cs = some x) : ∃ y : QPrefix, cs = cPrefix y ∧ RPrefix y := by
  have hl := trod_len (stt rfl) (tt rfl) h
  obtain ⟨m0, x0, h0⟩ := trod_fd (i := 0) (ft rfl rfl) (tt rfl) h
  obtain ⟨y0, e0, g0⟩ := trod_i (int_ rfl) h0
  obtain ⟨m1, x1, h1⟩ := trod_fd (i := 1) (ft rfl rfl) (tt rfl) h
  obtain ⟨y1, e1, g1⟩ := trod_i (int_ rfl) h1
  match cs, hl with
  | [a0, a1], _ =>
    simp only [List.drop, List.take, List.cons.injEq, and_true] at e0 e1
    exact ⟨⟨y0, y1⟩, by simp [cPrefix, e0, e1], (And.intro g0 g1)⟩
theorem o_MAC (h : DataW.trod enc Tryz.prog w base spare held fuel 37 cs = some x) : ∃ y : QMAC, cs = cMAC y ∧ RMAC y := by
  have hl := trod_lenA (art rfl) (tt rfl) h
  obtain ⟨m0, x0, h0⟩ := trod_el (i := 0) (art rfl) (tt rfl) rfl h
  obtain ⟨y0, e0, g0⟩ := trod_i (int_ rfl) h0
  obtain ⟨m1, x1, h1⟩ := trod_el (i := 1) (art rfl) (tt rfl) rfl h
  obtain ⟨y1, e1, g1⟩ := trod_i (int_ rfl) h1
  obtain ⟨m2, x2, h2⟩ := trod_el (i := 2) (art rfl) (tt rfl) rfl h
  obtain ⟨y2, e2, g2⟩ := trod_i (int_ rfl) h2
  obtain ⟨m3, x3, h3⟩ := trod_el (i := 3) (art rfl) (tt rfl) rfl h
  obtain ⟨y3, e3, g3⟩ := trod_i (int_ rfl) h3
  obtain ⟨m4, x4, h4⟩ := trod_el (i := 4) (art rfl) (tt rfl) rfl h
  obtain ⟨y4, e4, g4⟩ := trod_i (int_ rfl) h4
  obtain ⟨m5, x5, h5⟩ := trod_el (i := 5) (art rfl) (tt rfl) rfl h
  obtain ⟨y5, e5, g5⟩ := trod_i (int_ rfl) h5
  match cs, hl with
  | [a0, a1, a2, a3, a4, a5], _ =>
    simp only [List.drop, List.take, List.cons.injEq, and_true] at e0 e1 e2 e3 e4 e5
    exact ⟨⟨y0, y1, y2, y3, y4, y5⟩, by simp [cMAC, e0, e1, e2, e3, e4, e5], (And.intro g0 (And.intro g1 (And.intro g2 (And.intro g3 (And.intro g4 g5)))))⟩
theorem o_Cmd (h : DataW.trod enc Tryz.prog w base spare held fuel 44 cs = some x) : ∃ y : QCmd, cs = cCmd y ∧ RCmd y := by
  have hl := trod_len (stt rfl) (tt rfl) h
  obtain ⟨m0, x0, h0⟩ := trod_fd (i := 0) (ft rfl rfl) (tt rfl) h
  obtain ⟨y0, e0, g0⟩ := trod_i (int_ rfl) h0
  obtain ⟨m1, x1, h1⟩ := trod_fd (i := 1) (ft rfl rfl) (tt rfl) h
  obtain ⟨y1, e1, g1⟩ := trod_i (int_ rfl) h1
  obtain ⟨m2, x2, h2⟩ := trod_fd (i := 2) (ft rfl rfl) (tt rfl) h
  obtain ⟨y2, e2, g2⟩ := o_Prefix h2
  obtain ⟨m3, x3, h3⟩ := trod_fd (i := 3) (ft rfl rfl) (tt rfl) h
  obtain ⟨y3, e3, g3⟩ := trod_i (int_ rfl) h3
  obtain ⟨m4, x4, h4⟩ := trod_fd (i := 4) (ft rfl rfl) (tt rfl) h
  obtain ⟨y4, e4, g4⟩ := o_MAC h4
  obtain ⟨m5, x5, h5⟩ := trod_fd (i := 5) (ft rfl rfl) (tt rfl) h
  obtain ⟨y5, e5, g5⟩ := trod_i (int_ rfl) h5
  match cs, hl with
  | [a0, a1, a2, a3, a4, a5, a6, a7, a8, a9, a10, a11], _ =>
    simp only [List.drop, List.take, cPrefix, cMAC, List.cons.injEq, and_true] at e0 e1 e2 e3 e4 e5
    exact ⟨⟨y0, y1, y2, y3, y4, y5⟩, by simp [cCmd, e0, e1, e2, e3, e4, e5], (And.intro g0 (And.intro g1 (And.intro g2 (And.intro g3 (And.intro g4 g5)))))⟩
theorem o_Reserve (h : DataW.trod enc Tryz.prog w base spare held fuel 58 cs = some x) : ∃ y : QReserve, cs = cReserve y ∧ RReserve y := by
  have hl := trod_len (stt rfl) (tt rfl) h
  obtain ⟨m0, x0, h0⟩ := trod_fd (i := 0) (ft rfl rfl) (tt rfl) h
  obtain ⟨y0, e0, g0⟩ := trod_i (int_ rfl) h0
  obtain ⟨m1, x1, h1⟩ := trod_fd (i := 1) (ft rfl rfl) (tt rfl) h
  obtain ⟨y1, e1, g1⟩ := o_Prefix h1
  match cs, hl with
  | [a0, a1, a2], _ =>
    simp only [List.drop, List.take, cPrefix, List.cons.injEq, and_true] at e0 e1
    exact ⟨⟨y0, y1⟩, by simp [cReserve, e0, e1], (And.intro g0 g1)⟩
end
end Go.Proofs.YtdallmabajeajaaGreatDoor.Fw
set_option linter.all false
namespace Go.Proofs.YtdallmabajeajaaGreatDoor.Fw
open Go
theorem u32_rng {a : Int} (h : IntKind.u32.wrap a = a) : 0 ≤ a ∧ a < 4294967296 := by
  simp [IntKind.wrap, IntKind.bits, IntKind.signed] at h; omega
theorem i64_rng {a : Int} (h : IntKind.i64.wrap a = a) : -9223372036854775808 ≤ a ∧ a ≤ 9223372036854775807 := by
  simp [IntKind.wrap, IntKind.bits, IntKind.signed] at h; split at h <;> omega
theorem cfg_rng {c : QConfig} (h : RConfig c) : CfgR c := ⟨u32_rng h.1.1, u32_rng h.2.2.1, u32_rng h.2.2.2.1, u32_rng h.2.2.2.2.2.2.2.2.2.2.2.1⟩
theorem cmd_rng {c : QCmd} (h : RCmd c) : CmdR c := ⟨(u32_rng h.2.2.1.1).1, (u32_rng h.2.2.1.1).2, (i64_rng h.2.2.2.2.2).2⟩
end Go.Proofs.YtdallmabajeajaaGreatDoor.Fw
set_option linter.all false
set_option maxRecDepth 100000
namespace Go.Proofs.YtdallmabajeajaaGreatDoor.Fw
open Go Go.ChangeShapes Go.WideShapes Go.ChangeAt Go.RowKit Go.Proofs.YtdallmabajeajaaGreatDoor
theorem ctp_start {P : Program} {f : FuncId} {us : List Value} {v : Value} {W : World} (h : Ctp P f us (hh W) [] v) : Calls P f ⟨us⟩ W fun e W' => e = .returned v ∧ Below W.heap.size W W' :=
  (h W W (Hp.start W)).mono fun e W' ⟨_, _, he, m⟩ => ⟨he, m.below⟩
section
variable {H : Type} {enc : TypeId × Value → H} {w : World} {base : Nat} {spare : Nat → Bool} {held : Bool} {fuel : Nat} {t : TypeId} {cs : List Value} {x : DataW H × List MemPlace}
theorem trod_lenD {P : Program} {fs : List (Nat × Nat)} (hs : stI P t = some fs) (h : DataW.trod enc P w base spare held fuel t cs = some x) : ∃ l, x.1 = .agg l ∧ l.length = fs.length := by
  obtain ⟨fds, h1, h2⟩ := stI_spec hs
  obtain ⟨xs, m, _, hx1, _, hx, _⟩ := DataW.trod_struct h1 h
  refine ⟨xs.map (·.1), by rw [hx1], ?_⟩
  rw [List.length_map, hx]
  have := mapM_some_length h2
  simpa using this.symm
theorem two_of {a b : DataW H} {l l1 l2 : List (DataW H)} (e : x.1 = .agg l) (hl : l.length = 2) (e1 : x.1 = .agg l1) (g1 : l1[0]? = some a) (e2 : x.1 = .agg l2) (g2 : l2[1]? = some b) : x.1 = .agg [a, b] := by
  rw [e] at e1 e2
  cases e1; cases e2
  match l, hl with
  | [u, v], _ =>
    simp only [List.getElem?_cons_zero, List.getElem?_cons_succ, Option.some.injEq] at g1 g2
    rw [e, g1, g2]
theorem trod_iD {P : Program} {k : IntKind} (ht : inI P t = some k) (h : DataW.trod enc P w base spare held fuel t cs = some x) : ∃ n : Int, cs = [.int k n] ∧ x.1 = .lit (.int k n) := by
  obtain ⟨n, e, e2, _⟩ := DataW.trod_int (inI_spec ht) h
  exact ⟨n, e, by rw [e2]⟩
def pfxD (z : QPrefix) : DataW H := .agg [.lit (.int .u32 z.Addr), .lit (.int .i64 z.Len)]
def clsD (z : Qaddr_class) : DataW H := .agg [pfxD z.at_, .lit (.int .i64 z.num)]
theorem o_pfxD (h : DataW.trod enc Tryz.prog w base spare held fuel 25 cs = some x) : ∃ z : QPrefix, cs = cPrefix z ∧ x.1 = pfxD z := by
  have hl := trod_len (stt rfl) (tt rfl) h
  obtain ⟨l, e, hl2⟩ := trod_lenD (stt rfl) h
  obtain ⟨m0, y0, h0, ⟨l0, e0, i0⟩, _⟩ := trod_fdD (i := 0) (ft rfl rfl) (tt rfl) h
  obtain ⟨m1, y1, h1, ⟨l1, e1, i1⟩, _⟩ := trod_fdD (i := 1) (ft rfl rfl) (tt rfl) h
  obtain ⟨n0, c0, d0⟩ := trod_iD (int_ rfl) h0
  obtain ⟨n1, c1, d1⟩ := trod_iD (int_ rfl) h1
  match cs, hl with
  | [a0, a1], _ =>
    simp only [List.drop, List.take, List.cons.injEq, and_true] at c0 c1
    refine ⟨⟨n0, n1⟩, by simp [cPrefix, c0, c1], ?_⟩
    rw [two_of e hl2 e0 i0 e1 i1, d0, d1]; rfl
theorem o_clsD (h : DataW.trod enc Tryz.prog w base spare held fuel 192 cs = some x) : ∃ z : Qaddr_class, cs = caddr_class z ∧ x.1 = clsD z := by
  have hl := trod_len (stt rfl) (tt rfl) h
  obtain ⟨l, e, hl2⟩ := trod_lenD (stt rfl) h
  obtain ⟨m0, y0, h0, ⟨l0, e0, i0⟩, _⟩ := trod_fdD (i := 0) (ft rfl rfl) (tt rfl) h
  obtain ⟨m1, y1, h1, ⟨l1, e1, i1⟩, _⟩ := trod_fdD (i := 1) (ft rfl rfl) (tt rfl) h
  obtain ⟨n0, c0, d0⟩ := o_pfxD h0
  obtain ⟨n1, c1, d1⟩ := trod_iD (int_ rfl) h1
  match cs, hl with
  | [a0, a1, a2], _ =>
    simp only [List.drop, List.take, cPrefix, List.cons.injEq, and_true] at c0 c1
    refine ⟨⟨n0, n1⟩, by simp [caddr_class, c0, c1], ?_⟩
    rw [two_of e hl2 e0 i0 e1 i1, d0, d1]; rfl
end
theorem cls_inj {H : Type} {a b : Qaddr_class} (h : (clsD a : DataW H) = clsD b) : a = b := by
  obtain ⟨⟨a1, a2⟩, a3⟩ := a
  obtain ⟨⟨b1, b2⟩, b3⟩ := b
  simp only [clsD, pfxD, DataW.agg.injEq, List.cons.injEq, DataW.lit.injEq, Lit.int.injEq, true_and, and_true] at h
  obtain ⟨⟨rfl, rfl⟩, rfl⟩ := h
  rfl
theorem gCls : Tryz.prog.globalNamed "weft/addr.classes" = some 0 := by kernel_rfl
theorem tCls : (Tryz.prog.globals[0]?).map (·.type) = some 190 := by kernel_rfl
theorem cls_of_laid {W : World} (h : laidMetH Tryz.prog [("weft/addr.classes", Rows.laid_weft_addr_classes)] W) : ∃ X, ClsR (hh W) X := by
  rw [MakeChecks.laidMetH_plain _ _ _ (by kernel_rfl)] at h
  obtain ⟨ps, ⟨g, t, cs, fuel, p, q, hg, ht, hvar, hd, _, _⟩, _⟩ := h
  obtain rfl := Option.some.inj (gCls.symm.trans hg)
  obtain rfl := Option.some.inj (tCls.symm.trans ht)
  obtain ⟨v, xs, e1, e2, e3⟩ := rd_sliceQ (c := caddr_class) (q := fun d z => d = clsD z) (slt rfl) (tt rfl) rfl (fun m es y h => by obtain ⟨z, h1, h2⟩ := o_clsD h; exact ⟨z, h1, h2⟩) (fun _ => rfl) hd
  have hxs : xs = clsL := by
    rcases e2 with ⟨h1, _⟩ | ⟨els, sp, h4, h5, h6⟩
    · cases h1
    · have h4 : (Rows.laid_weft_addr_classes : DataW _) = .slice els sp := h4
      unfold Rows.laid_weft_addr_classes at h4
      cases h4
      apply List.ext_getElem?
      intro i
      by_cases hi : i < xs.length
      · obtain ⟨d, hd1, hd2⟩ := h6 i xs[i] (List.getElem?_eq_getElem hi)
        rw [List.getElem?_eq_getElem hi]
        have hi4 : i < 4 := by rw [← h5] at hi; exact hi
        have : i = 0 ∨ i = 1 ∨ i = 2 ∨ i = 3 := by omega
        rcases this with rfl | rfl | rfl | rfl
        · cases hd1
          rw [show xs[0] = ⟨⟨0, 8⟩, 1⟩ from (cls_inj (a := ⟨⟨0, 8⟩, 1⟩) (b := xs[0]) hd2).symm]; rfl
        · cases hd1
          rw [show xs[1] = ⟨⟨2130706432, 8⟩, 2⟩ from (cls_inj (a := ⟨⟨2130706432, 8⟩, 2⟩) (b := xs[1]) hd2).symm]; rfl
        · cases hd1
          rw [show xs[2] = ⟨⟨3758096384, 4⟩, 3⟩ from (cls_inj (a := ⟨⟨3758096384, 4⟩, 3⟩) (b := xs[2]) hd2).symm]; rfl
        · cases hd1
          rw [show xs[3] = ⟨⟨4026531840, 4⟩, 4⟩ from (cls_inj (a := ⟨⟨4026531840, 4⟩, 4⟩) (b := xs[3]) hd2).symm]; rfl
      · have h9 : xs.length = clsL.length := h5.symm
        rw [List.getElem?_eq_none (by omega), List.getElem?_eq_none (by omega)]
  subst hxs
  refine ⟨v, ?_, e3 (by decide)⟩
  have hc := World.var?_cell hg hvar 0
  have e0 : cs[0]? = some v.v := by
    obtain ⟨l⟩ := cs
    have e1 : l = [v.v] := e1
    rw [e1]; rfl
  rw [e0] at hc
  unfold World.cell? at hc
  split at hc
  · rename_i arr T fz h1
    split at hc
    · cases hc
    · refine ⟨arr, T, fz, h1, ?_⟩
      have hc : arr[0]? = some v.v := hc
      obtain ⟨l⟩ := arr
      cases l with
      | nil => simp at hc
      | cons a l =>
        have : a = v.v := by simpa using hc
        rw [this]; rfl
  · cases hc
end Go.Proofs.YtdallmabajeajaaGreatDoor.Fw
set_option linter.all false
set_option maxHeartbeats 4000000
set_option maxRecDepth 100000
namespace Go.Proofs.YtdallmabajeajaaGreatDoor.Fw
open Go
theorem row_in {c : QConfig} {rs : List QReserve} (g : GoodC c rs) {k : Nat} : c.Min + k * pw c.SubnetLen ≤ c.Max ↔ k < rowN c := by
  have hp : 0 < pw c.SubnetLen := pw_pos
  have h0 : 0 ≤ (c.Max - c.Min) / pw c.SubnetLen := Int.ediv_nonneg (by have := g.po.row; omega) (by omega)
  have h1 : (k : Int) * pw c.SubnetLen ≤ c.Max - c.Min ↔ (k : Int) ≤ (c.Max - c.Min) / pw c.SubnetLen := (Int.le_ediv_iff_mul_le hp).symm
  unfold rowN
  omega
theorem lowest_at {c : QConfig} {rs : List QReserve} {ls : List QLease} {k : Nat} (hk : k < rowN c) (h1 : Frei c rs (rowAt c k) ∧ free ls (rowAt c k)) (h2 : ∀ j, j < k → ¬ (Frei c rs (rowAt c j) ∧ free ls (rowAt c j))) : lowest c rs ls = some (rowAt c k) := by
  unfold lowest
  exact find_row (rowAt c) _ _ _ hk (decide_eq_true h1) fun j hj => decide_eq_false (h2 j hj)
theorem lowest_no {c : QConfig} {rs : List QReserve} {ls : List QLease} (h2 : ∀ j, j < rowN c → ¬ (Frei c rs (rowAt c j) ∧ free ls (rowAt c j))) : lowest c rs ls = none := by
  unfold lowest
  rw [List.find?_eq_none]
  intro p hp
  obtain ⟨j, hj, rfl⟩ := List.mem_map.1 hp
  simpa using h2 j (List.mem_range.1 hj)
end Go.Proofs.YtdallmabajeajaaGreatDoor.Fw
set_option linter.all false
set_option maxHeartbeats 4000000
namespace Go.Proofs.YtdallmabajeajaaGreatDoor.Fw
open Go
section
variable {n : Nat} {w0 : World} {R : Hh} {Ps : List HP} {L : List (Nat × Value)} {ops : Array Oper} {rest : List Oper} {d : Nat} {ty T T2 E : TypeId} {pos : String} {aft : Array Edge} {x y : Operand} {p : Addr} {C : World → Prop} {F : GF}
end
section
variable {n : Nat} {w0 : World} {R : Hh} {Ps Qs Ps1 : List HP} {L L' L1 : List (Nat × Value)} {ops : Array Oper} {K : Act → World → Prop} {pl0 dn pl : List PE} {D is : List Nat} {F1 : GF}
end
section
variable {n : Nat} {w0 : World} {R : Hh} {Ps : List HP} {L : List (Nat × Value)} {ops : Array Oper} {Q : Exit → Act → World → Prop} {rest : List Oper} {d : Nat} {ty T T2 E : TypeId} {pos : String} {aft : Array Edge} {x y : Operand} {t j : Nat} {want b : Bool}
theorem pny_ {L1 : List (Nat × Value)} {Ps1 : List HP} {F1 : GF} (k : Gl n w0 R L1 Ps1 F1) (hx : ev L x = some (.pointer none) := by rfl) (hy : ev L y = some (.pointer none) := by rfl) (hT : ptI Tryz.prog T = some E := by exact ptt rfl) (hd : Nat.blt d n = true := by rfl)
    (r : Av n w0 R ((d, .bool true) :: L) Ps (.li Tryz.prog ops Q rest) L1 Ps1 F1 := by (repeat (apply x_; exact A3_)); exact av_r) : Gl n w0 R L Ps (.li Tryz.prog ops Q (⟨some d, .binOp .eql T x y T2, ty, pos, aft, none⟩ :: rest)) :=
  fun a w hs m => (p_ (C := Hp w0 R Ps) (ok_isNilN hx hy hT) hd).g _ _ _ _ hs m fun a hs => r.g k a w hs m
end
theorem ctpAs {P : Program} {f : FuncId} {args : List Value} {R : Hh} {Ps : List HP} {v v' : Value} (h : Ctp P f args R Ps v) (e : v = v') : Ctp P f args R Ps v' := e ▸ h
end Go.Proofs.YtdallmabajeajaaGreatDoor.Fw
set_option linter.all false
set_option maxHeartbeats 1000000
namespace Go.Proofs.YtdallmabajeajaaGreatDoor.Fw
open Go
section
variable {P : Program} {w0 w : World} {R : Hh} {Ps Qs As : List HP} {p q : HP}
def Gp (As : List HP) : HP := fun h => SepL As h
theorem Hp.gp (m : Hp w0 R (As ++ Ps) w) : Hp w0 R (Gp As :: Ps) w := m.map fun h s => by
  obtain ⟨a, b, ha, hb, d, rfl⟩ := s.unappend
  exact ⟨a, b, ha, hb, d, rfl⟩
theorem Hp.ungp (m : Hp w0 R (Gp As :: Ps) w) : Hp w0 R (As ++ Ps) w := m.map fun h s => by
  obtain ⟨a, b, ha, hb, d, rfl⟩ := s
  exact SepL.append ha hb d
theorem Hp.ungp2 (m : Hp w0 R ((fun h => SepL [p, q] h) :: Ps) w) : Hp w0 R (p :: q :: Ps) w := Hp.ungp (As := [p, q]) m
theorem Hp.gp2 (m : Hp w0 R (p :: q :: Ps) w) : Hp w0 R ((fun h => SepL [p, q] h) :: Ps) w := Hp.gp (As := [p, q]) m
theorem Hp.orl (m : Hp w0 R ((fun h => p h ∨ q h) :: Ps) w) : Hp w0 R (p :: Ps) w ∨ Hp w0 R (q :: Ps) w := by
  obtain ⟨h, ⟨h1, h2, t, ⟨h3, h4, hp, s, d1, rfl⟩, d2, rfl⟩, d, e⟩ := m.heap
  rcases hp with hp | hp
  · exact .inl ⟨m.os, m.tape, m.output, m.size, _, ⟨h1, _, t, ⟨h3, h4, hp, s, d1, rfl⟩, d2, rfl⟩, d, e⟩
  · exact .inr ⟨m.os, m.tape, m.output, m.size, _, ⟨h1, _, t, ⟨h3, h4, hp, s, d1, rfl⟩, d2, rfl⟩, d, e⟩
theorem Hp.imp (m : Hp w0 R (p :: Ps) w) (f : ∀ h, p h → q h) : Hp w0 R (q :: Ps) w := m.map fun _ => SepL.head f
end
def Sw (k : Nat) (E : TypeId) (v0 : Value) (ds0 : List (List Value)) (v : Value) (ds : List (List Value)) : HP := fun h =>
  (Sv k E v ds h ∧ Sv k E v0 ds0 h ∧ ∃ a cap, v0 = .slice a ds0.length cap ∧ v = .slice a ds.length cap ∧ ds0.length ≤ ds.length) ∨ SepL [Sv k E v ds, Sv k E v0 ds0] h
section
variable {P : Program} {w0 w : World} {R : Hh} {Ps Qs : List HP} {k : Nat} {E : TypeId} {v v0 : Value} {ds ds0 : List (List Value)}
theorem Hp.toSw (m : Hp w0 R Ps w) (hP : Rem Ps (Sv k E v ds) Qs) : Hp w0 R (Sw k E v ds v ds :: Qs) w := (m.front hP).imp fun h s => by
  obtain ⟨a, cap, e, _⟩ := s.shape
  exact .inl ⟨s, s, a, cap, e, e, Nat.le_refl _⟩
theorem Hp.swNew (m : Hp w0 R Ps w) (hP : Rem Ps (Sw k E v0 ds0 v ds) Qs) : Hp w0 R (Sv k E v ds :: Qs) w := by
  rcases (m.front hP).orl with m1 | m1
  · exact m1.imp fun h s => s.1
  · exact ((m1.ungp2).perm (Qs := Sv k E v0 ds0 :: Sv k E v ds :: Qs) (List.Perm.swap _ _ _)).drop
theorem Hp.swOld (m : Hp w0 R Ps w) (hP : Rem Ps (Sw k E v0 ds0 v ds) Qs) : Hp w0 R (Sv k E v0 ds0 :: Qs) w := by
  rcases (m.front hP).orl with m1 | m1
  · exact m1.imp fun h s => s.2.1
  · exact m1.ungp2.drop
theorem Hp.appendW (m : Hp w0 R Ps w) {T T2 : TypeId} {ag : Bool} {bytes : Nat} {u : Value} {es : List (List Value)} {ty : TypeId} {zs : List Value}
    (hT : slI P T = some E) (hT2 : notInt P T2 = true) (hE : tyI P E = some (ag, k)) (hz : zeI P E = some zs) (hzl : zs.length = k) (hb : byI P E = some bytes) (hbb : Nat.ble bytes 4096 = true)
    (hP : Rem Ps (Sw k E v0 ds0 v ds) Qs) (hu : RdS (hh w) k u es) (ho : ∀ e ∈ es, ones e = true) (hlen : ds.length + es.length ≤ 140737488355328 ∧ (2 * (ds.length + es.length) + 192) * bytes ≤ 281474976710656) :
    ∃ v' w', (Builtin.append_ #[T, T2] ty #[v, u]).run P w = .ok v' w' ∧ Hp w0 R (Sw k E v0 ds0 v' (ds ++ es) :: Qs) w' := by
  rcases (m.front hP).orl with m1 | m1
  · obtain ⟨i, hi, z, hz1, hz2, hbi⟩ : ∃ i, P.info? E = some i ∧ ∃ z, i.zero = some z ∧ z.cells = ⟨zs⟩ ∧ i.bytes = bytes := by
      unfold byI at hb
      unfold zeI at hz
      cases hi : P.info? E with
      | none => simp [hi] at hb
      | some i =>
        cases hz1 : i.zero with
        | none => simp [hi, hz1] at hz
        | some z =>
          simp only [hi, hz1, Option.bind_some, Option.map_some, Option.some.injEq] at hz
          exact ⟨i, rfl, z, hz1, by rw [← hz], by simpa [hi] using hb⟩
    obtain ⟨D2, hD2, hD2n⟩ := notInt_spec hT2
    obtain ⟨g, ⟨hg, hg0, ov⟩, gl, m2⟩ := m1.exact
    have hrd := hg.reads
    have hrv := hrd.le gl
    have hlu : (Builtin.lenOf u).run P w = .ok es.length w := by
      obtain ⟨_, _, a, cap, rfl, _⟩ := hu
      simp [Builtin.lenOf, pure, Sem.run]
    have hesl : es.flatten.length = es.length * k := flat_len hu.1
    have hdsl : ds.flatten.length = ds.length * k := flat_len hrd.1
    have hall' : ∀ d ∈ ds ++ es, d.length = k := by
      intro d hd
      rcases List.mem_append.1 hd with h | h
      · exact hrd.1 d h
      · exact hu.1 d h
    have hall : (∀ d ∈ ds ++ es, d.length = k) ∧ (ds ++ es).length ≤ 140737488355328 := ⟨hall', by simp; omega⟩
    have hones : ones es.flatten = true := by
      simp only [ones, List.all_eq_true, List.mem_flatten]
      rintro x ⟨e, he, hx⟩
      have := ho e he
      simp only [ones, List.all_eq_true] at this
      exact this x hx
    obtain ⟨base, cap, rfl, e0, hle0⟩ := ov
    cases e0
    have hcap : ds.length ≤ cap := by
      obtain ⟨b2, c2, e, h⟩ := hg.shape
      cases e; exact h
    by_cases hc : ds.length + es.length ≤ cap
    · rw [run_append_fit (P := P) (w := w) (T := T) (T2 := T2) (ty := ty) (n := ds.length) (cap := cap) (base := base) (slI_spec hT) hD2 hD2n hE hlu (run_firstCells hu) hc]
      obtain ⟨h1, ⟨h2, rfl, rfl⟩ | ⟨b, off, cap', cs, e, h3, h4, h5, rfl⟩⟩ := hg
      · simp only [Value.slice.injEq] at h2
        obtain ⟨rfl, _, rfl⟩ := h2
        have : es = [] := by simpa using hc
        subst this
        refine ⟨_, w, rfl, m2.imp fun h hs => .inl ⟨⟨⟨by simp, by simp⟩, .inl ⟨by simp, rfl, hs⟩⟩, ?_, none, 0, rfl, by simp, by simpa using hle0⟩⟩
        rw [hs]; exact hg0
      · simp only [Value.slice.injEq] at e
        obtain ⟨rfl, _, rfl⟩ := e
        have hadd : (⟨b, off, none⟩ : Addr).add (ds.length * k) = ⟨b, off + ds.length * k, none⟩ := by
          unfold Addr.add
          by_cases h : ds.length * k = 0
          · simp [h]
          · simp [h]
        have hbk : w.heap[b]? = some (.cells ⟨cs⟩ E (0, 0)) := gl _ _ (by simp [hone])
        have hmul := Nat.mul_le_mul_right k hc
        rw [Nat.add_mul] at hmul
        have hfit : off + ds.length * k + es.flatten.length ≤ cs.length := by
          rw [hesl]
          omega
        obtain ⟨w', k1, k2, k3, k4, k5⟩ := run_storeCells (P := P) es.flatten w b (off + ds.length * k) 0 cs E hbk (by omega) hones
        refine ⟨.slice (some ⟨b, off, none⟩) (ds.length + es.length) cap, w', ?_, ?_⟩
        · simp only [hadd, Sem.run_bind', k1, Result.andThen, Sem.run]
        · have m3 := m2.block k2 k3 k4 k5
          have hmul0 := Nat.mul_le_mul_right k hle0
          have hdp : (putAt cs (off + ds.length * k) es.flatten).drop off = (cs.drop off).take (ds.length * k) ++ es.flatten ++ cs.drop (off + ds.length * k + es.flatten.length) := by
            rw [putAt_eq _ _ _ hfit]
            have e1 : (cs.take (off + ds.length * k)).drop off = (cs.drop off).take (ds.length * k) := by
              rw [List.drop_take]; congr 1; omega
            rw [List.append_assoc, List.drop_append_of_le_length (by simp; omega), e1, ← List.append_assoc]
          have hdl : ((cs.drop off).take (ds.length * k)).length = ds.length * k := by rw [List.length_take, List.length_drop]; omega
          refine m3.swp s0 fun h hs => .inl ⟨⟨hall, .inr ⟨b, off, cap, putAt cs (off + ds.length * k) es.flatten, by simp, by simpa using hc, by rw [putAt_length]; exact h4, ?_, by simpa using hs⟩⟩, ?_, some ⟨b, off, none⟩, cap, rfl, by simp, by simp; omega⟩
          · rw [hdp, List.length_append, Nat.add_mul, List.flatten_append, ← h5, ← hesl, List.take_append_of_le_length (by rw [List.length_append, hdl]; omega), List.take_of_length_le (by rw [List.length_append, hdl]; omega)]
          · obtain ⟨g1, ⟨g2, _, _⟩ | ⟨b', off', cap2, cs', e, g3, g4, g5, g6⟩⟩ := hg0
            · cases g2
            · simp only [Value.slice.injEq, Option.some.injEq, Addr.mk.injEq] at e
              obtain ⟨⟨rfl, rfl, _⟩, _, rfl⟩ := e
              have hcs : cs' = cs := by
                have := congrFun g6 b
                simp only [hone, if_true, Option.some.injEq, Obj.cells.injEq, Array.mk.injEq] at this
                exact this.1.symm
              subst hcs
              refine ⟨g1, .inr ⟨b, off, cap, putAt cs' (off + ds.length * k) es.flatten, rfl, g3, by rw [putAt_length]; exact g4, ?_, by simpa using hs⟩⟩
              rw [hdp, List.append_assoc, List.take_append_of_le_length (by rw [hdl]; exact hmul0), List.take_take, Nat.min_eq_left hmul0]
              exact g5
    · have gl' : hle g (hh w.drew) := gl
      have hfv := run_firstCells (P := P) (w := w.drew) (hrd.le gl')
      have hfu := run_firstCells (P := P) (w := w.drew) (k := k) (v := u) (ds := es) hu
      obtain ⟨c, hc1, hrun⟩ := run_append_grow (P := P) (w := w) (T := T) (T2 := T2) (ty := ty) (n := ds.length) (cap := cap) (base := base) (slI_spec hT) hD2 hD2n hE hi hz1 hlu hfu hfv hc (by rw [hbi]; exact hlen)
      refine ⟨_, _, hrun, ?_⟩
      have m3 := (m2.drew).alloc (.cells ((⟨ds.flatten⟩ : Array Value) ++ ⟨es.flatten⟩ ++ Builtin.zeroCells z.cells (c - (ds.length + es.length))) E)
      have m4 := (m3.perm (Qs := (fun h => h = g) :: _ :: Qs) (List.Perm.swap _ _ _)).imp (q := Sv k E (.slice base ds0.length cap) ds0) fun h hs => by rw [hs]; exact hg0
      have m5 := (m4.perm (Qs := _ :: Sv k E (.slice base ds0.length cap) ds0 :: Qs) (List.Perm.swap _ _ _)).imp (q := Sv k E (.slice (some ⟨w.heap.size, 0, none⟩) (ds.length + es.length) c) (ds ++ es)) fun h hs => ⟨hall, .inr ⟨w.heap.size, 0, c, ds.flatten ++ es.flatten ++ (Builtin.zeroCells z.cells (c - (ds.length + es.length))).toList, by simp, by simpa using hc1, ?_, ?_, ?_⟩⟩
      · exact (Hp.gp2 m5).imp fun h s => .inr s
      · have : (Builtin.zeroCells z.cells (c - (ds.length + es.length))).size = (c - (ds.length + es.length)) * k := by
          simp [Builtin.zeroCells, hz2, hzl]
        simp only [List.length_append, Array.length_toList, this, hdsl, hesl, Nat.zero_add]
        rw [← Nat.add_mul, ← Nat.add_mul]
        exact Nat.mul_le_mul_right k (by omega)
      · rw [List.drop_zero, List.length_append, List.flatten_append, List.take_append_of_le_length (by rw [List.length_append, hdsl, hesl, Nat.add_mul]; exact Nat.le_refl _), List.take_of_length_le (by rw [List.length_append, hdsl, hesl, Nat.add_mul]; exact Nat.le_refl _)]
      · rw [hs]
        have : (⟨ds.flatten⟩ : Array Value) ++ ⟨es.flatten⟩ ++ Builtin.zeroCells z.cells (c - (ds.length + es.length)) = ⟨ds.flatten ++ es.flatten ++ (Builtin.zeroCells z.cells (c - (ds.length + es.length))).toList⟩ := by
          apply Array.ext'
          simp
        rw [this]
        rfl
  · obtain ⟨v', w', h1, h2⟩ := Hp.append (P := P) (ty := ty) m1.ungp2 hT hT2 hE hz hzl hb hbb r0 hu ho hlen
    refine ⟨v', w', h1, ?_⟩
    exact (Hp.gp2 h2).imp fun h s => .inr s
theorem Sw.sh {h : Hh} (s : Sw k E v0 ds0 v ds h) : ∃ x : SH, v = x.v := by
  rcases s with s | ⟨h1, h2, s, _⟩
  · exact s.1.sh
  · exact s.sh
end
section
variable {n : Nat} {w0 : World} {R : Hh} {Ps Qs : List HP} {L : List (Nat × Value)} {ops : Array Oper} {Q : Exit → Act → World → Prop} {rest : List Oper} {d : Nat} {ty : TypeId} {pos : String} {aft : Array Edge}
theorem apw0_ {α : Type} {ct : α → List Value} {xs ys : List α} {T T2 E : TypeId} {ag : Bool} {k bytes : Nat} {x y : Operand} {X Y : SH} {zs : List Value} {v0 : Value} {ds0 : List (List Value)} {L1 : SH → List (Nat × Value)} {Ps1 : SH → List HP} {F1 : SH → GF} (kk : ∀ Z, Gl n w0 R (L1 Z) (Ps1 Z) (F1 Z)) (hx : ev L x = some X.v := by rfl) (hy : ev L y = some Y.v := by rfl) (hP : Rem Ps (Sw k E v0 ds0 X.v (xs.map ct)) Qs := by first | exact r0 | exact r1 | exact r2 | exact r3 | exact r4 | exact r5 | exact r6 | exact r7 | exact r8 | exact r9 | exact r10 | exact r11) (hu : RC (Hp w0 R Ps) k Y.v (ys.map ct) := by first | (apply rc_own; (first | exact r0 | exact r1 | exact r2 | exact r3 | exact r4 | exact r5 | exact r6 | exact r7 | exact r8 | exact r9 | exact r10 | exact r11)) | (apply rc_fr; assumption))
    (hT : slI Tryz.prog T = some E := by exact slt rfl) (hT2 : notInt Tryz.prog T2 = true := by exact nit rfl) (hE : tyI Tryz.prog E = some (ag, k) := by exact tt rfl) (hz : zeI Tryz.prog E = some zs := by exact zet rfl) (hzl : zs.length = k := by rfl) (hb : byI Tryz.prog E = some bytes := by exact byt rfl) (hbb : Nat.ble bytes 4096 = true := by rfl) (ho : Cs ct k := by infer_instance)
    (hlen : xs.length + ys.length ≤ 140737488355328 ∧ (2 * (xs.length + ys.length) + 192) * bytes ≤ 281474976710656 := by (try simp only [List.length_append, List.length_cons, List.length_nil]); omega) (hd : Nat.blt d n = true := by rfl) (r : ∀ Z : SH, Av n w0 R ((d, Z.v) :: L) (Sw k E v0 ds0 Z.v ((xs ++ ys).map ct) :: Qs) (.li Tryz.prog ops Q rest) (L1 Z) (Ps1 Z) (F1 Z) := by intro zx9; (repeat (apply x_; exact A3_)); exact av_r) :
    Gl n w0 R L Ps (.li Tryz.prog ops Q (⟨some d, .call ⟨.builtin .append, #[x, y], #[T, T2]⟩, ty, pos, aft, none⟩ :: rest)) := fun a w hs m => by
  obtain ⟨v', w', h1, h2⟩ := Hp.appendW (P := Tryz.prog) m (ty := ty) hT hT2 hE hz hzl hb hbb hP (hu w m) (by intro e he; obtain ⟨z, _, rfl⟩ := List.mem_map.1 he; exact ho.o z) (by simpa using hlen)
  obtain ⟨g, hg, _⟩ := h2.look r0
  obtain ⟨Z, rfl⟩ := hg.sh
  rw [← List.map_append] at h2
  refine step_val rfl rfl hs hd (v := Z.v) (w' := w') ?_ fun a' hs' => (r Z).g (kk Z) a' w' hs' h2
  simp [execOp, resolve, invoke, builtin, hs.evs x _ hx, hs.evs y _ hy, bind, Sem.run_bind', h1, pure, Sem.run, Result.andThen]
variable {F : GF} {k : Nat} {E : TypeId} {v v0 : Value} {ds ds0 : List (List Value)}
theorem toSw_ (kk : Gl n w0 R L (Sw k E v ds v ds :: Qs) F) (hP : Rem Ps (Sv k E v ds) Qs := by first | exact r0 | exact r1 | exact r2 | exact r3 | exact r4 | exact r5 | exact r6 | exact r7 | exact r8 | exact r9 | exact r10 | exact r11) : Gl n w0 R L Ps F := fun a w hs m => kk a w hs (m.toSw hP)
theorem swNew_ (kk : Gl n w0 R L (Sv k E v ds :: Qs) F) (hP : Rem Ps (Sw k E v0 ds0 v ds) Qs := by first | exact r0 | exact r1 | exact r2 | exact r3 | exact r4 | exact r5 | exact r6 | exact r7 | exact r8 | exact r9 | exact r10 | exact r11) : Gl n w0 R L Ps F := fun a w hs m => kk a w hs (m.swNew hP)
theorem swOld_ (kk : Gl n w0 R L (Sv k E v0 ds0 :: Qs) F) (hP : Rem Ps (Sw k E v0 ds0 v ds) Qs := by first | exact r0 | exact r1 | exact r2 | exact r3 | exact r4 | exact r5 | exact r6 | exact r7 | exact r8 | exact r9 | exact r10 | exact r11) : Gl n w0 R L Ps F := fun a w hs m => kk a w hs (m.swOld hP)
theorem gp_ {As : List HP} (kk : Gl n w0 R L (Gp As :: Qs) F) (hP : Ps.Perm (As ++ Qs)) : Gl n w0 R L Ps F := fun a w hs m => kk a w hs (m.perm hP).gp
end
end Go.Proofs.YtdallmabajeajaaGreatDoor.Fw
set_option linter.all false
set_option maxHeartbeats 1000000
namespace Go.Proofs.YtdallmabajeajaaGreatDoor.Fw
open Go
section
variable {c : QConfig} {rs : List QReserve} {h : Int} {p : QPrefix} {ls : List QLease} {l x : QLease}
/-! ### who may have what -/
theorem may_has (po : PoolOK c rs) (hh : ∃ r ∈ rs, r.Host = h) : May c rs h p ↔ ∃ r ∈ rs, r.Host = h ∧ r.Subnet = p := by
  unfold May own
  cases e : rs.find? fun r => decide (r.Host = h) with
  | none =>
    rw [List.find?_eq_none] at e
    obtain ⟨r, h1, h2⟩ := hh
    have := e r h1
    simp [h2] at this
  | some r =>
    have h1 := List.find?_some e
    have h1 : r.Host = h := by simpa using h1
    have h2 := List.mem_of_find?_eq_some e
    simp only [Option.map_some]
    constructor
    · rintro rfl; exact ⟨r, h2, h1, rfl⟩
    · rintro ⟨r', h3, h4, rfl⟩
      have : r' = r := by
        have hp := po.rise
        obtain ⟨i, hi, rfl⟩ := List.mem_iff_getElem.1 h3
        obtain ⟨j, hj, rfl⟩ := List.mem_iff_getElem.1 h2
        rw [List.pairwise_iff_getElem] at hp
        rcases Nat.lt_trichotomy i j with hij | hij | hij
        · have := hp i j hi hj hij; omega
        · subst hij; rfl
        · have := hp j i hj hi hij; omega
      rw [this]
theorem may_no (hh : ∀ r ∈ rs, r.Host ≠ h) : May c rs h p ↔ Frei c rs p := by
  unfold May own
  rw [List.find?_eq_none.2 (fun r hr => by simpa using hh r hr)]
  rfl
/-! ### a new lease in its place -/
theorem ins_step {out : List QLease} {y : QLease} {t : List QLease} : out ++ ins (y :: t) x = if x.Subnet.Addr < y.Subnet.Addr then (out ++ [x] ++ [y]) ++ t else (out ++ [y]) ++ ins t x := by
  show out ++ (if x.Subnet.Addr < y.Subnet.Addr then x :: y :: t else y :: ins t x) = _
  split <;> simp
theorem ins_nil {out : List QLease} : out ++ ins [] x = out ++ [x] := rfl
/-! ### a lease set, a lease taken out -/
theorem set_upd {i : Nat} (a : Apart ls) (hi : i < ls.length) (e : x.Host = ls[i].Host) : ls.set i x = upd ls x := by
  apply List.ext_getElem
  · simp [upd]
  · intro j h1 h2
    have hj : j < ls.length := by simpa using h1
    simp only [upd, List.getElem_map, List.getElem_set]
    by_cases hij : i = j
    · subst hij; rw [if_pos rfl, if_pos e.symm]
    · rw [if_neg hij, if_neg]
      intro e2
      have e2 : ls[j].Host = ls[i].Host := e2.trans e
      rw [Apart, List.pairwise_iff_getElem] at a
      rcases Nat.lt_or_gt_of_ne hij with h | h
      · exact a i j hi hj h e2.symm
      · exact a j i hj hi h e2
theorem del_app {a b : List QLease} : del (a ++ b) h = del a h ++ del b h := List.filter_append _ _
theorem del_one : del [x] h = if x.Host = h then [] else [x] := by
  unfold del
  by_cases e : x.Host = h
  · rw [if_pos e, List.filter_cons_of_neg (by simpa using e)]; rfl
  · rw [if_neg e, List.filter_cons_of_pos (by simpa using e)]; rfl
theorem del_len {l : List QLease} : (del l h).length ≤ l.length := List.length_filter_le _ _
theorem apart_ne {i j : Nat} (a : Apart ls) (hi : i < ls.length) (hj : j < ls.length) (hij : i ≠ j) : ls[i].Host ≠ ls[j].Host := by
  rw [Apart, List.pairwise_iff_getElem] at a
  rcases Nat.lt_or_gt_of_ne hij with h | h
  · exact a i j hi hj h
  · exact (a j i hj hi h).symm
/-! ### the first that runs out -/
def FirstU (now : Int) (ls : List QLease) (k : Nat) (m : Int) : Prop :=
  (m = -1 ∧ ∀ y ∈ ls.take k, now < y.Until) ∨ (0 ≤ m ∧ m < k ∧ (el ls m).Until ≤ now ∧ (∀ j : Nat, j < k → j < m → (el ls j).Until ≤ now → (el ls m).Until < (el ls j).Until) ∧ ∀ j : Nat, j < k → m < j → (el ls j).Until ≤ now → (el ls m).Until ≤ (el ls j).Until)
theorem firstU_nil {now : Int} : FirstU now ls 0 (-1) := .inl ⟨rfl, by simp⟩
theorem elx {α : Type} [Inhabited α] {l : List α} {i : Nat} (h : i < l.length) : el l (i : Int) = l[i] := by simp [el, List.getD_eq_getElem?_getD, h]
theorem firstU_step {now m : Int} {k : Nat} (hk : k < ls.length) (f : FirstU now ls k m) : FirstU now ls (k + 1) (if (el ls k).Until ≤ now ∧ (m < 0 ∨ (el ls k).Until < (el ls m).Until) then (k : Int) else m) := by
  have e1 : ls.take (k + 1) = ls.take k ++ [el ls k] := by rw [elx hk, List.take_succ_eq_append_getElem hk]
  rcases f with ⟨rfl, h1⟩ | ⟨h1, h2, h3, h4, h5⟩
  · have hj : ∀ j : Nat, j < k → now < (el ls j).Until := fun j hj => h1 _ (by
      rw [elx (by omega)]
      exact List.mem_iff_getElem.2 ⟨j, by simp; omega, by simp⟩)
    by_cases c1 : (el ls k).Until ≤ now
    · rw [if_pos ⟨c1, .inl (by omega)⟩]
      refine .inr ⟨by omega, by omega, c1, fun j a b d => ?_, fun j a b d => by omega⟩
      have := hj j (by omega); omega
    · rw [if_neg (fun h => c1 h.1)]
      refine .inl ⟨rfl, fun y hy => ?_⟩
      rw [e1] at hy
      rcases List.mem_append.1 hy with h | h
      · exact h1 y h
      · rw [List.mem_singleton.1 h]; omega
  · by_cases c1 : (el ls k).Until ≤ now ∧ (m < 0 ∨ (el ls k).Until < (el ls m).Until)
    · rw [if_pos c1]
      obtain ⟨c2, c3⟩ := c1
      have c3 : (el ls k).Until < (el ls m).Until := by omega
      refine .inr ⟨by omega, by omega, c2, fun j a b d => ?_, fun j a b d => by omega⟩
      by_cases hjm : (j : Int) < m
      · have := h4 j (by omega) hjm d; omega
      · by_cases hje : (j : Int) = m
        · rw [hje]; exact c3
        · have := h5 j (by omega) (by omega) d; omega
    · rw [if_neg c1]
      refine .inr ⟨h1, by omega, h3, fun j a b d => ?_, fun j a b d => ?_⟩
      · exact h4 j (by omega) b d
      · by_cases hjk : j = k
        · subst hjk
          refine Classical.byContradiction fun hn => c1 ⟨d, .inr (by omega)⟩
        · exact h5 j (by omega) b d
theorem leU_iff {a b : QLease} : leU a b = true ↔ (a.Until < b.Until ∨ a.Until = b.Until ∧ a.Subnet.Addr ≤ b.Subnet.Addr) := by
  unfold leU; rw [decide_eq_true_eq]
theorem due_sorted {s : LS} {now : Int} : (dueS s now).Pairwise fun a b => leU a b = true :=
  List.pairwise_mergeSort (fun a b c h1 h2 => by rw [leU_iff] at *; omega) (fun a b => by rw [Bool.or_eq_true, leU_iff, leU_iff]; omega) _
theorem due_none {s : LS} {now : Int} (h : ∀ y ∈ s.ls, now < y.Until) : dueS s now = [] := by
  have h1 : (s.ls.filter fun x => decide (x.Until ≤ now)) = [] := List.filter_eq_nil_iff.2 fun y hy => by have := h y hy; simp; omega
  have h2 := (due_perm (s := s) (now := now)).length_eq
  rw [h1] at h2
  exact List.length_eq_zero_iff.1 (by simpa using h2)
theorem due_cons {s t : LS} {now m : Int} (r : Rise s.ls) (a : Apart s.ls) (f : FirstU now s.ls s.ls.length m) (h0 : 0 ≤ m) (ht : t.ls = del s.ls (el s.ls m).Host) : dueS s now = el s.ls m :: dueS t now := by
  rcases f with ⟨rfl, _⟩ | ⟨_, h2, h3, h4, h5⟩
  · omega
  obtain ⟨k, rfl⟩ : ∃ k : Nat, m = k := ⟨m.toNat, by omega⟩
  have hk : k < s.ls.length := by omega
  have hx : el s.ls (k : Int) = s.ls[k] := elx hk
  have hm : el s.ls (k : Int) ∈ s.ls := by rw [hx]; exact List.getElem_mem hk
  have hp : (dueS s now).Perm (el s.ls (k : Int) :: dueS t now) := by
    refine due_perm.trans ?_
    have h6 := (del_perm (S := s) a hm).filter fun x => decide (x.Until ≤ now)
    rw [List.filter_cons_of_pos (by simpa using h3)] at h6
    refine h6.trans (List.Perm.cons _ ?_)
    rw [← ht]
    exact due_perm.symm
  have hle : ∀ y ∈ s.ls, y.Until ≤ now → leU (el s.ls (k : Int)) y = true := fun y hy hu => by
    obtain ⟨j, hj, rfl⟩ := List.mem_iff_getElem.1 hy
    rw [leU_iff]
    have e := elx hj
    rcases Nat.lt_trichotomy j k with hjk | hjk | hjk
    · have := h4 j hj (by omega) (by rw [e]; exact hu)
      rw [e] at this; exact .inl this
    · subst hjk; rw [hx]; exact .inr ⟨rfl, Int.le_refl _⟩
    · have h7 := h5 j hj (by omega) (by rw [e]; exact hu)
      rw [e] at h7
      have h8 : s.ls[k].Subnet.Addr < s.ls[j].Subnet.Addr := by
        have := r
        rw [Rise, List.pairwise_iff_getElem] at this
        exact this k j hk hj hjk
      rw [hx] at h7 ⊢
      omega
  have hin : ∀ y ∈ el s.ls (k : Int) :: dueS t now, y ∈ s.ls ∧ y.Until ≤ now := fun y hy => mem_due.1 (hp.mem_iff.2 hy)
  refine sorted_uniq (lt := fun a b => leU b a = false) hp ?_ ?_ fun a ha b hb h6 h7 => ?_
  · exact due_sorted.imp fun {a b} h => by simp [h]
  · rw [List.pairwise_cons]
    refine ⟨fun y hy => ?_, due_sorted.imp fun {a b} h => by simp [h]⟩
    have := hin y (List.mem_cons_of_mem _ hy)
    simp [hle y this.1 this.2]
  · have h8 := mem_due.1 ha
    have h9 := mem_due.1 hb
    simp only [Bool.not_eq_false] at h6 h7
    rw [leU_iff] at h6 h7
    exact rise_eq r h8.1 h9.1 (by omega)
end
end Go.Proofs.YtdallmabajeajaaGreatDoor.Fw
set_option linter.all false
set_option maxHeartbeats 4000000
set_option maxRecDepth 100000
namespace Go.Proofs.YtdallmabajeajaaGreatDoor.Fw
open Go
theorem rsub_c (c : QConfig) (p : QPrefix) (hr : CfgR c) (a0 : 0 ≤ p.Addr) (a1 : p.Addr < 4294967296) (R : Hh) : Ctp Tryz.prog 146 [.agg ⟨cConfig c⟩, .agg ⟨cPrefix p⟩] R [] (.bool (decide (p.Len = c.SubnetLen ∧ Vld p ∧ Cnt c.Network p.Addr))) := by
  refine in_ Tryz.func146 fun w0 => ?_
  refine bo_' fun b2 => ?_
  refine bo_' fun b3 => ?_
  refine gsp_ (fun hb => ?_) (fun hb => ?_)
  · simp only [hb]
    refine run_ ?_
    have hb2 : p.Len = c.SubnetLen := by simpa using hb
    refine cp_ (fun R' q1 q2 => rvalid_c p a0 a1 R') ?_
    refine gsp_ (fun hc => ?_) (fun hc => ?_)
    · simp only [hc]
      refine run_ ?_
      have hc2 : Vld p := by simpa using hc
      refine cp_ (fun R' q1 q2 => rcont_c c.Network p.Addr hr.n.1 hr.n.2 R') ?_
      refine re_ ?_
      simp [hb2, hc2, pack]
    · simp only [hc, Bool.not_true]
      refine run_ ?_
      refine re_ ?_
      have hc2 : ¬ Vld p := by simpa using hc
      simp [hc2, pack]
  · simp only [hb, Bool.not_true]
    refine run_ ?_
    refine re_ ?_
    have hb2 : ¬ p.Len = c.SubnetLen := by simpa using hb
    simp [hb2, pack]
theorem or_step {α : Type} {b d : Bool} {l : List α} {a : α} {Q : α → Prop} (hb : b = true ↔ ∃ r, r ∈ l ∧ Q r) (hd : d = true ↔ Q a) : (bif b then true else d) = true ↔ ∃ r, r ∈ l ++ [a] ∧ Q r := by
  constructor
  · intro h
    cases hbb : b with
    | true => obtain ⟨r, h1, h2⟩ := hb.1 hbb; exact ⟨r, List.mem_append_left _ h1, h2⟩
    | false => rw [hbb] at h; exact ⟨a, by simp, hd.1 h⟩
  · rintro ⟨r, h1, h2⟩
    rcases List.mem_append.1 h1 with h3 | h3
    · rw [hb.2 ⟨r, h3, h2⟩]; rfl
    · rw [List.mem_singleton.1 h3] at h2
      rw [hd.2 h2]; cases b <;> rfl
theorem rmay_c (c : QConfig) (rs : List QReserve) (h : Int) (p : QPrefix) (hr : CfgR c) (po : PoolOK c rs) (a0 : 0 ≤ p.Addr) (a1 : p.Addr < 4294967296) (R : Hh) (hR : RdS R 3 c.Reserved.v (rs.map cReserve)) :
    Ctp Tryz.prog 107 [.agg ⟨cConfig c⟩, .int .i64 h, .agg ⟨cPrefix p⟩] R [] (.bool (decide (May c rs h p))) := by
  have hbd := hR.bd
  refine in_ Tryz.func107 fun w0 => ?_
  refine bo_' fun b3 => ?_
  refine bo_' fun b5 => ?_
  refine lo_ (fun z : Bool × Bool × Bool × Nat => [(7, .bool z.1), (8, .bool z.2.1), (9, .bool z.2.2.1), (10, .int .i64 z.2.2.2)]) (fun _ => []) (fun z => z.2.2.2 ≤ rs.length ∧ (z.1 = true ↔ ∃ r ∈ rs.take z.2.2.2, r.Host = h ∧ r.Subnet = p) ∧ (z.2.1 = true ↔ ∃ r ∈ rs.take z.2.2.2, r.Host ≠ h ∧ r.Subnet = p) ∧ (z.2.2.1 = true ↔ ∃ r ∈ rs.take z.2.2.2, r.Host = h)) (fun z => rs.length - z.2.2.2) (false, false, false, 0) ⟨by dsimp only; omega, by simp, by simp, by simp⟩ fun ⟨ow, fo, ha, k⟩ ⟨z1, z2, z3, z4⟩ => ?_
  dsimp only at z1 z2 z3 z4 ⊢
  refine if_ (fun c1 => ?_) (fun c1 => ?_)
  · have hkl : k < rs.length := by omega
    have e1 : rs.take (k + 1) = rs.take k ++ [el rs k] := by rw [elx hkl, List.take_succ_eq_append_getElem hkl]
    refine ax_ fun b11 => ?_
    refine ba_ (bif ow then true else bif (el rs k).Host == h then decide ((el rs k).Subnet = p) else false, bif fo then true else bif (el rs k).Host != h then decide ((el rs k).Subnet = p) else false, bif ha then true else (el rs k).Host == h, k + 1) ⟨by dsimp only; omega, ?_, ?_, ?_⟩ (by dsimp only; omega)
    · dsimp only; rw [e1]
      exact or_step z2 (by simp [bif1])
    · dsimp only; rw [e1]
      exact or_step z3 (by simp [bif1])
    · dsimp only; rw [e1]
      exact or_step z4 (by simp)
  · have hk : k = rs.length := by omega
    rw [hk, List.take_length] at z2 z3 z4
    refine if_ (fun c2 => ?_) (fun c2 => ?_)
    · refine re_ ?_
      have h1 := may_has po (p := p) (z4.1 c2)
      rw [← z2] at h1
      cases ow with
      | true => rw [decide_eq_true (h1.2 rfl)]; rfl
      | false => rw [decide_eq_false (fun h => by cases h1.1 h)]; rfl
    · have hn : ∀ r ∈ rs, r.Host ≠ h := fun r hr e => by rw [z4.2 ⟨r, hr, e⟩] at c2; cases c2
      have hf : fo = true ↔ ∃ r, r ∈ rs ∧ r.Subnet = p := by
        rw [z3]
        exact ⟨fun ⟨r, a, _, b⟩ => ⟨r, a, b⟩, fun ⟨r, a, b⟩ => ⟨r, a, hn r a, b⟩⟩
      have hm : May c rs h p ↔ (((p.Len = c.SubnetLen ∧ Vld p ∧ Cnt c.Network p.Addr) ∧ ¬ fo = true) ∧ c.Min ≤ p.Addr) ∧ p.Addr ≤ c.Max := by
        rw [may_no hn, hf]
        unfold Frei
        constructor
        · rintro ⟨a, b, d, e, f, g⟩
          exact ⟨⟨⟨⟨a, d, b⟩, fun ⟨r, x, y⟩ => e r x y⟩, f⟩, g⟩
        · rintro ⟨⟨⟨⟨a, d, b⟩, e⟩, f⟩, g⟩
          exact ⟨a, b, d, fun r x y => e ⟨r, x, y⟩, f, g⟩
      refine cp_ (fun R' q1 q2 => rsub_c c p hr a0 a1 R') ?_
      refine re_ ?_
      simp only [hm, pack, Value.bool.injEq, bif1]
      by_cases h1 : p.Len = c.SubnetLen ∧ Vld p ∧ Cnt c.Network p.Addr <;> cases fo <;> by_cases h3 : c.Min ≤ p.Addr <;> by_cases h4 : p.Addr ≤ c.Max <;> simp [h1, h3, h4]
end Go.Proofs.YtdallmabajeajaaGreatDoor.Fw
set_option linter.all false
set_option maxHeartbeats 4000000
set_option maxRecDepth 100000
namespace Go.Proofs.YtdallmabajeajaaGreatDoor.Fw
open Go
structure RG where
  sp : Addr
  c : QConfig
  rs : List QReserve
def RG.st (g : RG) (now rev : Int) (X E : SH) : Qweftref11_Store := ⟨g.c, now, rev, X, E⟩
def RG.bx (g : RG) (now rev : Int) (X E : SH) : HP := Bx g.sp 141 (cweftref11_Store (g.st now rev X E))
theorem ofH_take {ls : List QLease} {k : Nat} {h : Int} (hk : k < ls.length) (hn : ∀ y ∈ ls.take k, y.Host ≠ h) (e : (el ls k).Host = h) : ofH ls h = some (el ls k) := by
  have e1 : ls = ls.take k ++ (el ls k :: ls.drop (k + 1)) := by
    rw [elx hk, ← List.drop_eq_getElem_cons hk, List.take_append_drop]
  unfold ofH
  conv => lhs; rw [e1]
  rw [List.find?_append, List.find?_eq_none.2 (fun y hy => by simpa using hn y hy), List.find?_cons_of_pos (by simpa using e)]
  rfl
theorem take_all {α : Type} [Inhabited α] {l : List α} {k : Nat} {p : α → Prop} (hk : k < l.length) (h : ∀ y ∈ l.take k, p y) (h2 : p (el l k)) : ∀ y ∈ l.take (k + 1), p y := by
  rw [List.take_succ_eq_append_getElem hk, ← elx hk]
  intro y hy
  rcases List.mem_append.1 hy with h3 | h3
  · exact h y h3
  · rw [List.mem_singleton.1 h3]; exact h2
section
variable (g : RG) (now rev : Int) (X E : SH) (ls : List QLease) (R : Hh)
theorem rof_c (h : Int) (hX : RdS R 12 X.v (ls.map cLease)) :
    Ctr (τ := Int) Tryz.prog 149 [.pointer (some (padd g.sp 0)), .int .i64 h] R [g.bx now rev X E] (fun x => (x = -1 ∧ ofH ls h = none) ∨ (0 ≤ x ∧ x < ls.length ∧ ofH ls h = some (el ls x))) (fun x => .int .i64 x) (fun _ => [g.bx now rev X E]) := by
  have hbd := hX.bd
  unfold RG.bx
  refine in_ Tryz.func149 fun w0 => ?_
  refine lo_ (fun k : Nat => [(5, .int .i64 k)]) (fun _ => []) (fun k => k ≤ ls.length ∧ ∀ y ∈ ls.take k, y.Host ≠ h) (fun k => ls.length - k) 0 ⟨by omega, by simp⟩ fun k ⟨z1, z2⟩ => ?_
  refine if_ (fun c1 => ?_) (fun c1 => ?_)
  · have hkl : k < ls.length := by omega
    refine if_ (fun c2 => ?_) (fun c2 => ?_)
    · exact rt_ (k : Int) (.inr ⟨by omega, by omega, ofH_take hkl z2 c2⟩)
    · exact ba_ (k + 1) ⟨by omega, take_all hkl z2 c2⟩ (by omega)
  · have hk : k = ls.length := by omega
    rw [hk, List.take_length] at z2
    exact rt_ (-1) (.inl ⟨rfl, ofH_none.2 z2⟩)
theorem rfree_c (p : QPrefix) (hX : RdS R 12 X.v (ls.map cLease)) :
    Ctp Tryz.prog 203 [.pointer (some (padd g.sp 0)), .agg ⟨cPrefix p⟩] R [g.bx now rev X E] (.bool (decide (free ls p))) := by
  have hbd := hX.bd
  unfold RG.bx
  refine in_ Tryz.func203 fun w0 => ?_
  refine bo_' fun b3 => ?_
  refine lo_ (fun k : Nat => [(5, .int .i64 k)]) (fun _ => []) (fun k => k ≤ ls.length ∧ ∀ y ∈ ls.take k, y.Subnet ≠ p) (fun k => ls.length - k) 0 ⟨by omega, by simp⟩ fun k ⟨z1, z2⟩ => ?_
  refine if_ (fun c1 => ?_) (fun c1 => ?_)
  · have hkl : k < ls.length := by omega
    refine if_ (fun c2 => ?_) (fun c2 => ?_)
    · refine re_ ?_
      rw [decide_eq_false fun hf => ?_]; rfl
      refine hf (el ls k) ?_ c2
      rw [elx hkl]; exact List.getElem_mem hkl
    · exact ba_ (k + 1) ⟨by omega, take_all hkl z2 c2⟩ (by omega)
  · have hk : k = ls.length := by omega
    rw [hk, List.take_length] at z2
    refine re_ ?_
    rw [decide_eq_true (show free ls p from z2)]; rfl
theorem rchoose_c (gg : GoodC g.c g.rs) (h : Int) (w : QPrefix) (w0' : 0 ≤ w.Addr) (w1' : w.Addr < 4294967296) (hX : RdS R 12 X.v (ls.map cLease)) (hR : RdS R 3 g.c.Reserved.v (g.rs.map cReserve)) :
    Ctr (τ := QPrefix × Bool) Tryz.prog 189 [.pointer (some (padd g.sp 0)), .int .i64 h, .agg ⟨cPrefix w⟩] R [g.bx now rev X E] (fun x => (∃ p, choose g.c g.rs ls h w = some p ∧ x = (p, true)) ∨ (choose g.c g.rs ls h w = none ∧ x.2 = false)) (fun x => .tuple #[.agg ⟨cPrefix x.1⟩, .bool x.2]) (fun _ => [g.bx now rev X E]) := by
  have hbd := hR.bd
  have hrl := gg.rl
  have hs := gg.f.sub
  have hnet := gg.f.net
  have hmn := gg.hr.mn
  have hmx := gg.hr.mx
  have hpw : 0 < pw g.c.SubnetLen := pw_pos
  have hpl : pw g.c.SubnetLen ≤ 4294967296 := pw_le (by omega)
  have hq1 : 9 ≤ (g.st now rev X E).c.SubnetLen ∧ (g.st now rev X E).c.SubnetLen ≤ 30 := ⟨by show 9 ≤ g.c.SubnetLen; omega, hs.2.1⟩
  refine in_ Tryz.func189 fun w0 => ?_
  refine bo_' fun b5 => ?_
  refine ax_ fun b6 => ?_
  refine lo_ (fun k : Nat => [(8, .int .i64 k)]) (fun _ => []) (fun k => k ≤ g.rs.length ∧ ∀ r ∈ g.rs.take k, r.Host ≠ h) (fun k => g.rs.length - k) 0 ⟨by omega, by simp⟩ fun k ⟨z1, z2⟩ => ?_
  refine if_ (fun c1 => ?_) (fun c1 => ?_)
  · have hkl : k < g.rs.length := by omega
    refine ax_ fun b9 => ?_
    refine if_ (fun c2 => ?_) (fun c2 => ?_)
    · have ho : own g.rs h = some (el g.rs k).Subnet := by rw [elx hkl]; exact own_take hkl z2 (by rw [← elx hkl]; exact c2)
      refine hh_ [[0, 1], [2, 3, 4], [5], [6], [7]] [[Bx b9 58 (cReserve (el g.rs k))], [Bx b9 58 (cReserve (el g.rs k))]] ?_
      refine cp_ (fun R' q1 q2 => rfree_c g now rev X E ls R' (el g.rs k).Subnet (hX.le q1)) ?_
      refine rm_ ((el g.rs k).Subnet, decide (free ls (el g.rs k).Subnet)) ?_
      unfold choose
      rw [ho]
      dsimp only
      by_cases hf : free ls (el g.rs k).Subnet
      · exact .inl ⟨_, if_pos hf, by rw [decide_eq_true hf]⟩
      · exact .inr ⟨if_neg hf, decide_eq_false hf⟩
    · exact ba_ (k + 1) ⟨by omega, take_all hkl z2 c2⟩ (by omega)
  · have hk : k = g.rs.length := by omega
    rw [hk, List.take_length] at z2
    have ho : own g.rs h = none := own_nobody z2
    have hmay : ∀ p, May g.c g.rs h p ↔ Frei g.c g.rs p := fun p => may_no z2
    refine cp_ (fun R' q1 q2 => rmay_c g.c g.rs h w gg.hr gg.po w0' w1' R' (hR.le q1)) ?_
    have ch : choose g.c g.rs ls h w = if Frei g.c g.rs w ∧ free ls w then some w else lowest g.c g.rs ls := by unfold choose; rw [ho]
    have e1 : IntKind.i64.wrap (1 * 2 ^ min (32 - g.c.SubnetLen).toNat IntKind.i64.bits) = pw g.c.SubnetLen := by
      have hb : min (32 - g.c.SubnetLen).toNat IntKind.i64.bits = (32 - g.c.SubnetLen).toNat := Nat.min_eq_left (by show (32 - g.c.SubnetLen).toNat ≤ 64; omega)
      rw [hb, Int.one_mul]
      exact wrap_i64 (n := pw g.c.SubnetLen) (by omega) (by omega)
    have e2 : IntKind.i64.wrap g.c.Min = g.c.Min := wrap_i64 (by omega) (by omega)
    have e3 : IntKind.i64.wrap g.c.Max = g.c.Max := wrap_i64 (by omega) (by omega)
    have hsc : ∀ a b X E, (g.st a b X E).c = g.c := fun _ _ _ _ => rfl
    have tail : ¬ (Frei g.c g.rs w ∧ free ls w) → choose g.c g.rs ls h w = lowest g.c g.rs ls := fun hn => by rw [ch, if_neg hn]
    by_cases hm : May g.c g.rs h w
    case' pos =>
      simp only [decide_eq_true hm]
      refine run_ ?_
      refine cp_ (fun R' q1 q2 => rfree_c g now rev X E ls R' w (hX.le q1)) ?_
      refine if_ (fun c2 => ?_) (fun c2 => ?_)
      refine rm_ (w, true) (.inl ⟨w, by rw [ch, if_pos ⟨(hmay w).1 hm, by simpa using c2⟩], rfl⟩)
      have ht := tail fun hh => by simp [hh.2] at c2
    case' neg =>
      simp only [decide_eq_false hm]
      refine run_ ?_
      have ht := tail fun hh => hm ((hmay w).2 hh.1)
    all_goals
      simp only [hsc, e1, e2]
      refine lo_ (fun z : Nat × Int => [(11, .int .i64 z.2)]) (fun _ => []) (fun z => z.2 = g.c.Min + z.1 * pw g.c.SubnetLen ∧ (0 ≤ z.2 ∧ z.2 ≤ 8589934592) ∧ ∀ j, j < z.1 → j < rowN g.c → ¬ (Frei g.c g.rs (rowAt g.c j) ∧ free ls (rowAt g.c j))) (fun z => rowN g.c - z.1) (0, g.c.Min) ⟨by simp, by dsimp only; omega, by simp⟩ fun ⟨k, a⟩ ⟨y1, y2, y3⟩ => ?_
      dsimp only at y1 y2 y3 ⊢
      simp only [hsc, e3]
      refine if_ (fun c3 => ?_) (fun c3 => ?_)
      · have hk : k < rowN g.c := (row_in gg).1 (by rw [← y1]; exact c3)
        have ea : IntKind.u32.wrap a = a := wrap32 (by omega) (by omega)
        have hrow : rowAt g.c k = ⟨a, g.c.SubnetLen⟩ := by unfold rowAt; rw [y1]
        have back : ¬ (Frei g.c g.rs ⟨a, g.c.SubnetLen⟩ ∧ free ls ⟨a, g.c.SubnetLen⟩) → (a + pw g.c.SubnetLen = g.c.Min + ((k + 1 : Nat) : Int) * pw g.c.SubnetLen) ∧ (0 ≤ a + pw g.c.SubnetLen ∧ a + pw g.c.SubnetLen ≤ 8589934592) ∧ ∀ j, j < k + 1 → j < rowN g.c → ¬ (Frei g.c g.rs (rowAt g.c j) ∧ free ls (rowAt g.c j)) := fun hn => by
          refine ⟨by rw [y1, show ((k + 1 : Nat) : Int) = (k : Int) + 1 by omega, Int.add_mul]; omega, by omega, fun j hj hj2 => ?_⟩
          by_cases h : j < k
          · exact y3 j h hj2
          · have : j = k := by omega
            subst this
            rw [hrow]; exact hn
        simp only [ea]
        refine ax_ fun b12 => ?_
        refine cp_ (fun R' q1 q2 => rmay_c g.c g.rs h ⟨a, g.c.SubnetLen⟩ gg.hr gg.po (by dsimp only; omega) (by dsimp only; omega) R' (hR.le q1)) ?_
        by_cases hm2 : May g.c g.rs h ⟨a, g.c.SubnetLen⟩
        · simp only [decide_eq_true hm2]
          refine run_ ?_
          refine cp_ (fun R' q1 q2 => rfree_c g now rev X E ls R' ⟨a, g.c.SubnetLen⟩ (hX.le q1)) ?_
          refine if_ (fun c4 => ?_) (fun c4 => ?_)
          · refine rm_ (⟨a, g.c.SubnetLen⟩, true) (.inl ⟨_, ?_, rfl⟩)
            rw [ht, ← hrow]
            exact lowest_at hk (by rw [hrow]; exact ⟨(hmay _).1 hm2, by simpa using c4⟩) fun j hj => y3 j hj (by omega)
          · exact ba_ (k + 1, a + pw g.c.SubnetLen) (back fun hh => by simp [hh.2] at c4) (by dsimp only; omega)
        · simp only [decide_eq_false hm2]
          refine run_ ?_
          exact ba_ (k + 1, a + pw g.c.SubnetLen) (back fun hh => hm2 ((hmay _).2 hh.1)) (by dsimp only; omega)
      · have hno : lowest g.c g.rs ls = none := lowest_no fun j hj => y3 j (by
          have : ¬ k < rowN g.c := fun h => by have := (row_in gg).2 h; omega
          omega) hj
        refine rm_ (⟨0, 0⟩, false) (.inr ⟨by rw [ht, hno], rfl⟩)
end
end Go.Proofs.YtdallmabajeajaaGreatDoor.Fw
set_option linter.all false
set_option maxHeartbeats 4000000
set_option maxRecDepth 100000
namespace Go.Proofs.YtdallmabajeajaaGreatDoor.Fw
open Go
section
variable (g : RG) (now rev : Int) (X E E0 : SH) (es0 es : List QEvent) (R : Hh)
theorem revent_c (kd : Int) (l : QLease) (hl : es.length ≤ 1100000000000) :
    Ctr (τ := SH) Tryz.prog 188 [.pointer (some (padd g.sp 0)), .int .i64 kd, .agg ⟨cLease l⟩] R [g.bx now rev X E, Sw 14 72 E0.v (es0.map cEvent) E.v (es.map cEvent)] (fun _ => True) (fun _ => .tuple #[]) (fun Z => [g.bx now rev X Z, Sw 14 72 E0.v (es0.map cEvent) Z.v ((es ++ [(⟨rev, kd, l⟩ : QEvent)]).map cEvent)]) := by
  unfold RG.bx
  refine in_ Tryz.func188 fun w0 => ?_
  refine bo_' fun b5 => ?_
  refine hh_ [[0, 1, 2, 3, 4], [5, 6, 7, 8, 9, 10, 11], [12], [13], [14, 15], [16]] [[Bx g.sp 141 (cweftref11_Store (g.st now rev X E))], [Bx b5 39 (cLease l), Bx g.sp 141 (cweftref11_Store (g.st now rev X E))]] ?_
  refine sl_ (e := (⟨rev, kd, l⟩ : QEvent)) fun V => ?_
  refine apw0_ (ys := [(⟨rev, kd, l⟩ : QEvent)]) fun Z => ?_
  exact rn_ Z trivial
theorem rins_c (ls : List QLease) (l : QLease) (hl : ls.length ≤ 64) :
    Ctr (τ := SH) Tryz.prog 190 [.pointer (some (padd g.sp 0)), .agg ⟨cLease l⟩] R [g.bx now rev X E, Sv 12 39 X.v (ls.map cLease)] (fun _ => True) (fun _ => .tuple #[]) (fun Z => [g.bx now rev Z E, Sv 12 39 Z.v ((ins ls l).map cLease)]) := by
  unfold RG.bx
  refine in_ Tryz.func190 fun w0 => ?_
  refine bo_' fun b3 => ?_
  refine nil_ cLease 12 39 ?_
  refine lo_ (fun z : SH × List QLease × Bool × Nat => [(4, z.1.v), (5, .bool z.2.2.1), (6, .int .i64 z.2.2.2)]) (fun z => [Sv 12 39 z.1.v (z.2.1.map cLease)]) (fun z => z.2.2.2 ≤ ls.length ∧ z.2.1.length ≤ z.2.2.2 + (if z.2.2.1 = true then 1 else 0) ∧ ins ls l = z.2.1 ++ (if z.2.2.1 = true then ls.drop z.2.2.2 else ins (ls.drop z.2.2.2) l)) (fun z => ls.length - z.2.2.2) (nilH, [], false, 0) ⟨by dsimp only; omega, by simp, by simp⟩ fun ⟨Y, out, dn, k⟩ ⟨z1, z2, z3⟩ => ?_
  dsimp only at z1 z2 z3 ⊢
  refine if_ (fun c1 => ?_) (fun c1 => ?_)
  · have hkl : k < ls.length := by omega
    have e1 : ls.drop k = el ls k :: ls.drop (k + 1) := by rw [elx hkl, ← List.drop_eq_getElem_cons hkl]
    refine if_ (fun c2 => ?_) (fun c2 => ?_)
    · have hd : dn = false ∧ l.Subnet.Addr < (el ls k).Subnet.Addr := by
        cases dn
        · exact ⟨rfl, by simpa using c2⟩
        · simp at c2
      rw [hd.1, e1] at z3
      rw [hd.1, if_neg (by decide)] at z2
      refine sl_ (e := l) fun V => ?_
      refine ap_ (ys := [l]) fun Z => ?_
      refine sl_ (e := el ls k) fun V2 => ?_
      refine ap_ (ys := [el ls k]) fun Z2 => ?_
      refine ba_ (Z2, out ++ [l] ++ [el ls k], true, k + 1) ⟨by dsimp only; omega, ?_, ?_⟩ (by dsimp only; omega)
      · dsimp only
        rw [if_pos rfl]
        simp only [List.length_append, List.length_cons, List.length_nil]
        omega
      · dsimp only
        rw [z3, if_pos rfl, if_neg (by decide), ins_step, if_pos hd.2]
    · have z2' : out.length ≤ k + 1 := by cases dn <;> simp at z2 <;> omega
      refine sl_ (e := el ls k) fun V2 => ?_
      refine ap_ (ys := [el ls k]) fun Z2 => ?_
      refine ba_ (Z2, out ++ [el ls k], dn, k + 1) ⟨by dsimp only; omega, by simp only [List.length_append, List.length_cons, List.length_nil]; omega, ?_⟩ (by dsimp only; omega)
      dsimp only
      rw [z3, e1]
      cases dn with
      | true => rw [if_pos rfl, if_pos rfl, List.append_assoc]; rfl
      | false =>
        rw [if_neg (by decide), if_neg (by decide), ins_step, if_neg]
        simpa using c2
  · have hk : k = ls.length := by omega
    rw [hk, List.drop_length] at z3
    refine if_ (fun c2 => ?_) (fun c2 => ?_)
    · have hd : dn = false := by cases dn; rfl; simp at c2
      rw [hd, if_neg (by decide)] at z3 z2
      refine sl_ (e := l) fun V => ?_
      refine ap_ (ys := [l]) fun Z => ?_
      rw [z3, ins_nil]
      exact rn_ Z trivial
    · have hd : dn = true := by cases dn; simp at c2; rfl
      rw [hd, if_pos rfl, List.append_nil] at z3
      rw [z3]
      exact rn_ Y trivial
theorem rrem_c (ls : List QLease) (i : Nat) (hi : i < ls.length) (ha : Apart ls) (hl : ls.length ≤ 64) (he : es.length ≤ 1100000000000) (hr : 0 ≤ rev ∧ rev ≤ 1100000000000) :
    Ctr (τ := SH × SH) Tryz.prog 150 [.pointer (some (padd g.sp 0)), .int .i64 i] R [g.bx now rev X E, Sv 12 39 X.v (ls.map cLease), Sw 14 72 E0.v (es0.map cEvent) E.v (es.map cEvent)] (fun _ => True) (fun _ => .agg ⟨cLease (el ls i)⟩) (fun Z => [g.bx now (rev + 1) Z.1 Z.2, Sv 12 39 Z.1.v ((del ls (el ls i).Host).map cLease), Sw 14 72 E0.v (es0.map cEvent) Z.2.v ((es ++ [(⟨rev + 1, 2, el ls i⟩ : QEvent)]).map cEvent)]) := by
  have hq : 0 ≤ (g.st now rev X E).rev ∧ (g.st now rev X E).rev ≤ 1100000000000 := hr
  refine in_ Tryz.func150 fun w0 => ?_
  refine ax_ fun b4 => ?_
  refine ax_ fun b5 => ?_
  refine nil_ cLease 12 39 ?_
  refine lo_ (fun z : SH × Nat => [(6, z.1.v), (7, .int .i64 z.2)]) (fun z => [Sv 12 39 z.1.v ((del (ls.take z.2) (el ls i).Host).map cLease)]) (fun z => z.2 ≤ ls.length) (fun z => ls.length - z.2) (nilH, 0) (by dsimp only; omega) fun ⟨Y, k⟩ z1 => ?_
  dsimp only at z1 ⊢
  have hdl : (del (ls.take k) (el ls i).Host).length ≤ 64 := by
    have := del_len (l := ls.take k) (h := (el ls i).Host)
    rw [List.length_take] at this; omega
  refine if_ (fun c1 => ?_) (fun c1 => ?_)
  · have hkl : k < ls.length := by omega
    have e1 : del (ls.take (k + 1)) (el ls i).Host = del (ls.take k) (el ls i).Host ++ (if (el ls k).Host = (el ls i).Host then [] else [el ls k]) := by
      rw [List.take_succ_eq_append_getElem hkl, ← elx hkl, del_app, del_one]
    refine if_ (fun c2 => ?_) (fun c2 => ?_)
    · have hne : (el ls k).Host ≠ (el ls i).Host := by
        rw [elx hkl, elx hi]
        exact apart_ne ha hkl hi (by omega)
      rw [if_neg hne] at e1
      refine sl_ (e := el ls k) fun V2 => ?_
      refine ap_ (ys := [el ls k]) fun Z2 => ?_
      rw [← e1]
      exact ba_ (Z2, k + 1) (by dsimp only; omega) (by dsimp only; omega)
    · have hki : k = i := by omega
      rw [if_pos (by rw [hki]), List.append_nil] at e1
      rw [← e1]
      exact ba_ (Y, k + 1) (by dsimp only; omega) (by dsimp only; omega)
  · have hk : k = ls.length := by omega
    rw [hk, List.take_length]
    have hw : IntKind.i64.wrap ((g.st now rev X E).rev + 1) = rev + 1 := wrap_i64 (n := rev + 1) (by omega) (by omega)
    simp only [hw]
    refine ca_ (fun R' q1 q2 => revent_c g now (rev + 1) Y E E0 es0 es R' 2 (el ls i) he) fun Z _ => ?_
    exact rm_ (Y, Z) trivial
end
end Go.Proofs.YtdallmabajeajaaGreatDoor.Fw
set_option linter.all false
set_option maxHeartbeats 4000000
set_option maxRecDepth 100000
namespace Go.Proofs.YtdallmabajeajaaGreatDoor.Fw
open Go
theorem rafter_c (a n : Int) (a0 : 0 ≤ a) (a1 : a ≤ 9223372036854775807) (n0 : 0 ≤ n) (n1 : n ≤ 9223372036854775807) (R : Hh) : Ctp Tryz.prog 151 [.int .i64 a, .int .i64 n] R [] (.int .i64 (aft a n)) := by
  refine in_ Tryz.func151 fun w0 => ?_
  refine if_ (fun c1 => ?_) (fun c1 => ?_)
  · exfalso; omega
  · refine if_ (fun c2 => ?_) (fun c2 => ?_)
    · refine re_ ?_
      unfold aft never
      rw [if_neg (by omega)]; rfl
    · refine if_ (fun c3 => ?_) (fun c3 => ?_)
      · exfalso; omega
      · refine re_ ?_
        unfold aft never
        rw [if_pos (by omega)]
        simp only [pack, Value.int.injEq, true_and]
        omega
def RG.tP (g : RG) (E0 : SH) (es0 : List QEvent) (S : LS) (X E : SH) : List HP := [g.bx S.now S.rev X E, Sv 3 58 g.c.Reserved.v (g.rs.map cReserve), Sv 12 39 X.v (S.ls.map cLease), Sw 14 72 E0.v (es0.map cEvent) E.v (S.es.map cEvent)]
section
variable (g : RG) (gg : GoodC g.c g.rs) (S : LS) (li : LI g.c g.rs S) (hes : S.es.length ≤ S.rev) (X E E0 : SH) (es0 : List QEvent) (R : Hh)
include gg li hes
theorem racq_c (cmd : QCmd) (hk : cmd.Kind = 1) (h0 : 0 ≤ cmd.Host) (h1 : cmd.Host < g.c.Hosts) (hw : 0 ≤ cmd.Subnet.Addr ∧ cmd.Subnet.Addr < 4294967296) :
    Ctr (τ := (LS × QLease × Int) × SH × SH) Tryz.prog 148 [.pointer (some (padd g.sp 0)), .agg ⟨cCmd cmd⟩] R (g.tP E0 es0 S X E) (fun x => cmdS g.c g.rs S cmd = x.1) (fun x => .tuple #[.agg ⟨cLease x.1.2.1⟩, .int .i64 x.1.2.2]) (fun x => g.tP E0 es0 x.1.1 x.2.1 x.2.2) := by
  have hrv := li.rev
  have hnw := li.now
  have htl := gg.f.ttl
  unfold maxRev at hrv
  unfold never at hnw
  have hq : 0 ≤ (g.st S.now S.rev X E).rev ∧ (g.st S.now S.rev X E).rev ≤ 1099511627776 := hrv
  have hll := li.len gg.f
  have hcm : cmdS g.c g.rs S cmd = match ofH S.ls cmd.Host with
      | some l => if l.Pub = cmd.Pub ∧ l.MAC = cmd.MAC then (⟨S.now, S.rev, upd S.ls { l with Until := aft S.now g.c.TTL }, S.es⟩, { l with Until := aft S.now g.c.TTL }, 0)
        else (⟨S.now, S.rev + 1, upd S.ls ⟨l.Host, l.Subnet, cmd.Pub, cmd.MAC, aft S.now g.c.TTL, S.rev + 1⟩, S.es ++ [⟨S.rev + 1, 1, ⟨l.Host, l.Subnet, cmd.Pub, cmd.MAC, aft S.now g.c.TTL, S.rev + 1⟩⟩]⟩, ⟨l.Host, l.Subnet, cmd.Pub, cmd.MAC, aft S.now g.c.TTL, S.rev + 1⟩, 0)
      | none => match choose g.c g.rs S.ls cmd.Host cmd.Subnet with
        | none => (S, zL, 4)
        | some p => (⟨S.now, S.rev + 1, ins S.ls ⟨cmd.Host, p, cmd.Pub, cmd.MAC, aft S.now g.c.TTL, S.rev + 1⟩, S.es ++ [⟨S.rev + 1, 1, ⟨cmd.Host, p, cmd.Pub, cmd.MAC, aft S.now g.c.TTL, S.rev + 1⟩⟩]⟩, ⟨cmd.Host, p, cmd.Pub, cmd.MAC, aft S.now g.c.TTL, S.rev + 1⟩, 0) := by
    unfold cmdS
    rw [if_neg (by omega), if_neg (by omega), if_neg (by omega)]
    simp only [hk, if_true]
    cases ofH S.ls cmd.Host with
    | some l => rfl
    | none => dsimp only; cases choose g.c g.rs S.ls cmd.Host cmd.Subnet <;> rfl
  have hw1 : IntKind.i64.wrap ((g.st S.now S.rev X E).rev + 1) = S.rev + 1 := wrap_i64 (n := S.rev + 1) (by omega) (by omega)
  refine in_ Tryz.func148 fun w0 => ?_
  refine bo_' fun b3 => ?_
  refine ax_ fun b4 => ?_
  refine cq_ (fun R' q1 q2 => rafter_c S.now g.c.TTL (by omega) (by omega) (by omega) (by omega) R') ?_
  refine ca_ (fun R' q1 q2 => rof_c g S.now S.rev X E S.ls R' cmd.Host (rq_ q2 r3)) fun x hx => ?_
  refine if_ (fun c1 => ?_) (fun c1 => ?_)
  · have hx2 : 0 ≤ x ∧ x < S.ls.length ∧ ofH S.ls cmd.Host = some (el S.ls x) := by
      rcases hx with ⟨h, _⟩ | h
      · omega
      · exact h
    obtain ⟨i, rfl⟩ : ∃ i : Nat, x = i := ⟨x.toNat, by omega⟩
    have hil : i < S.ls.length := by omega
    rw [hx2.2.2] at hcm
    dsimp only at hcm
    have hset : ∀ y : QLease, y.Host = (el S.ls i).Host → S.ls.set ((i : Int)).toNat y = upd S.ls y := fun y hy => by rw [Int.toNat_natCast]; exact set_upd li.apart hil (by rw [hy, elx hil])
    refine ax_ fun b8 => ?_
    refine if_ (fun c2 => ?_) (fun c2 => ?_)
    · rw [if_neg (fun h => by rcases c2 with c2 | c2; exact c2 h.1; exact c2 h.2)] at hcm
      simp only [hw1]
      refine run_ ?_
      refine ca_ (fun R' q1 q2 => revent_c g S.now (S.rev + 1) X E E0 es0 S.es R' 1 ⟨(el S.ls i).Host, (el S.ls i).Subnet, cmd.Pub, cmd.MAC, aft S.now g.c.TTL, S.rev + 1⟩ (by omega)) fun Z _ => ?_
      simp only [hset]
      exact rm_ (_, X, Z) hcm
    · have c3 : (el S.ls i).Pub = cmd.Pub ∧ (el S.ls i).MAC = cmd.MAC := by simpa [not_or] using c2
      rw [if_pos c3, show ({ el S.ls i with Until := aft S.now g.c.TTL } : QLease) = ⟨(el S.ls i).Host, (el S.ls i).Subnet, cmd.Pub, cmd.MAC, aft S.now g.c.TTL, (el S.ls i).Rev⟩ from by rw [← c3.1, ← c3.2]] at hcm
      simp only [hset]
      exact rm_ (_, X, E) hcm
  · have hno : ofH S.ls cmd.Host = none := by
      rcases hx with ⟨_, h⟩ | h
      · exact h
      · omega
    rw [hno] at hcm
    dsimp only at hcm
    refine ca_ (fun R' q1 q2 => rchoose_c g S.now S.rev X E S.ls R' gg cmd.Host cmd.Subnet hw.1 hw.2 (rq_ q2 r3) (rq_ q2 r2)) fun ⟨p, there⟩ hp => ?_
    dsimp only at hp ⊢
    refine ax_ fun b10 => ?_
    refine if_ (fun c2 => ?_) (fun c2 => ?_)
    · have hc : choose g.c g.rs S.ls cmd.Host cmd.Subnet = none := by
        rcases hp with ⟨q, h, e⟩ | ⟨h, _⟩
        · cases e; simp at c2
        · exact h
      rw [hc] at hcm
      exact rm_ ((S, zL, 4), X, E) hcm
    · have hc : choose g.c g.rs S.ls cmd.Host cmd.Subnet = some p := by
        rcases hp with ⟨q, h, e⟩ | ⟨_, h⟩
        · cases e; exact h
        · rw [h] at c2; simp at c2
      rw [hc] at hcm
      dsimp only at hcm
      refine hh_ [[0, 1, 2, 3, 4, 5, 6, 7, 8, 9, 10, 11, 12], [13], [14]] [[Bx b3 44 (cCmd cmd), Bx b10 25 (cPrefix p), g.bx S.now (S.rev + 1) X E]] ?_
      refine ax_ fun b12 => ?_
      refine ca_ (fun R' q1 q2 => rins_c g S.now (S.rev + 1) X E R' S.ls ⟨cmd.Host, p, cmd.Pub, cmd.MAC, aft S.now g.c.TTL, S.rev + 1⟩ hll) fun Z _ => ?_
      refine ca_ (fun R' q1 q2 => revent_c g S.now (S.rev + 1) Z E E0 es0 S.es R' 1 ⟨cmd.Host, p, cmd.Pub, cmd.MAC, aft S.now g.c.TTL, S.rev + 1⟩ (by omega)) fun Z2 _ => ?_
      exact rm_ (_, Z, Z2) hcm
end
end Go.Proofs.YtdallmabajeajaaGreatDoor.Fw
set_option linter.all false
set_option maxHeartbeats 4000000
set_option maxRecDepth 100000
namespace Go.Proofs.YtdallmabajeajaaGreatDoor.Fw
open Go
theorem mvt_ {n : Nat} {w0 : World} {R : Hh} {Ps : List HP} (Qs : List HP) {L : List (Nat × Value)} {F : GF} (k : Gl n w0 R L Qs F) (hP : Sub Qs Ps := by (repeat (first | exact Sub.n | (apply Sub.c; (first | exact r0 | exact r1 | exact r2 | exact r3 | exact r4 | exact r5 | exact r6 | exact r7 | exact r8 | exact r9 | exact r10 | exact r11 | exact r12 | exact r13 | exact r14 | exact r15 | exact r16 | exact r17 | exact r18 | exact r19))))) : Gl n w0 R L Ps F := fun a w hs m => k a w hs (m.sub hP)
theorem upd_el {ls : List QLease} {y : QLease} (i : Nat) (hil : i < ls.length) (a : Apart ls) (h : y.Host = (el ls i).Host) : el (upd ls y) (i : Int) = y := by
  rw [← set_upd a hil (by rw [h, elx hil]), elx (by simpa using hil)]
  simp
section
variable (g : RG) (gg : GoodC g.c g.rs) (S : LS) (li : LI g.c g.rs S) (hes : S.es.length ≤ S.rev) (X E E0 : SH) (es0 : List QEvent) (R : Hh)
include gg li hes
theorem rtick_c (n : Int) (n0 : 0 ≤ n) (n1 : n ≤ 9223372036854775807) :
    Ctr (τ := SH × SH) Tryz.prog 147 [.pointer (some (padd g.sp 0)), .int .i64 n] R (g.tP E0 es0 S X E) (fun _ => True) (fun _ => .tuple #[]) (fun x => g.tP E0 es0 (tickS S n) x.1 x.2) := by
  have hrv := li.rev
  have hnw := li.now
  unfold maxRev at hrv
  unfold never at hnw
  have hll := li.len gg.f
  refine in_ Tryz.func147 fun w0 => ?_
  refine cp_ (fun R' q1 q2 => rafter_c S.now n (by omega) (by omega) n0 n1 R') ?_
  refine lo_ (fun z : LS × SH × SH => []) (fun z => g.tP E0 es0 z.1 z.2.1 z.2.2) (fun z => z.1.now = aft S.now n ∧ Rise z.1.ls ∧ Apart z.1.ls ∧ S.rev ≤ z.1.rev ∧ z.1.rev + z.1.ls.length ≤ S.rev + S.ls.length ∧ z.1.es.length ≤ z.1.rev ∧ (dueS z.1 (aft S.now n)).foldl remS z.1 = tickS S n) (fun z => z.1.ls.length) (⟨aft S.now n, S.rev, S.ls, S.es⟩, X, E) ⟨rfl, li.rise, li.apart, Int.le_refl _, Int.le_refl _, hes, rfl⟩ fun ⟨T, X1, E1⟩ ⟨z1, z2, z3, z4, z5, z6, z7⟩ => ?_
  dsimp only at z1 z2 z3 z4 z5 z6 z7 ⊢
  have hTl : T.ls.length ≤ 64 := by omega
  have hrw : ∀ m : Int, 0 ≤ m → m < T.ls.length → T.ls.length = (del T.ls (el T.ls m).Host).length + 1 := fun m h0 h1 => by
    obtain ⟨i, rfl⟩ : ∃ i : Nat, m = i := ⟨m.toNat, by omega⟩
    have := (del_perm (S := T) z3 (show el T.ls (i : Int) ∈ T.ls by rw [elx (by omega)]; exact List.getElem_mem (by omega))).length_eq
    rw [List.length_cons] at this
    exact this
  refine lo_ (fun z : Int × Nat => [(4, .int .i64 z.1), (5, .int .i64 z.2)]) (fun _ => []) (fun z => z.2 ≤ T.ls.length ∧ FirstU (aft S.now n) T.ls z.2 z.1) (fun z => T.ls.length - z.2) (-1, 0) ⟨by dsimp only; omega, firstU_nil⟩ fun ⟨m, k⟩ ⟨y1, y2⟩ => ?_
  dsimp only at y1 y2 ⊢
  have hm : -1 ≤ m ∧ m < k := by rcases y2 with ⟨h, _⟩ | ⟨h, h2, _⟩ <;> omega
  refine if_ (fun c1 => ?_) (fun c1 => ?_)
  · have hkl : k < T.ls.length := by omega
    have hst := firstU_step hkl y2
    refine if_ (fun c2 => ?_) (fun c2 => ?_)
    · have c3 : (el T.ls k).Until ≤ T.now ∧ (m < 0 ∨ (el T.ls k).Until < (el T.ls m).Until) := c2
      rw [z1] at c3
      rw [if_pos c3] at hst
      exact ba_ ((k : Int), k + 1) ⟨by dsimp only; omega, hst⟩ (by dsimp only; omega)
    · have c3 : ¬ ((el T.ls k).Until ≤ T.now ∧ (m < 0 ∨ (el T.ls k).Until < (el T.ls m).Until)) := fun h => by
        have e : (g.st T.now T.rev X1 E1).now = T.now := rfl
        rw [e] at c2
        omega
      rw [z1] at c3
      rw [if_neg c3] at hst
      exact ba_ (m, k + 1) ⟨by dsimp only; omega, hst⟩ (by dsimp only; omega)
  · have hk : k = T.ls.length := by omega
    rw [hk] at y2
    refine if_ (fun c2 => ?_) (fun c2 => ?_)
    · have hT : T = tickS S n := by
        rcases y2 with ⟨_, h⟩ | ⟨h, _⟩
        · rw [List.take_length] at h
          rw [due_none h] at z7
          exact z7
        · omega
      rw [← hT]
      exact rt_ (X1, E1) trivial
    · obtain ⟨i, rfl⟩ : ∃ i : Nat, m = i := ⟨m.toNat, by omega⟩
      have hil : i < T.ls.length := by omega
      have hd := due_cons (t := remS T (el T.ls (i : Int))) z2 z3 y2 (by omega) rfl
      rw [hd, List.foldl_cons] at z7
      have hlen := hrw i (by omega) (by omega)
      refine ca_ (fun R' q1 q2 => rrem_c g T.now T.rev X1 E1 E0 es0 T.es R' T.ls i hil z3 hTl (by omega) (by omega)) fun Z _ => ?_
      refine ba_ (remS T (el T.ls (i : Int)), Z.1, Z.2) ⟨z1, rise_del z2, apart_del z3, ?_, ?_, ?_, z7⟩ ?_
      · show S.rev ≤ T.rev + 1; omega
      · show T.rev + 1 + ((del T.ls (el T.ls (i : Int)).Host).length : Int) ≤ _; omega
      · show (((T.es ++ [_]).length : Nat) : Int) ≤ T.rev + 1
        rw [List.length_append, List.length_cons, List.length_nil]; omega
      · show (del T.ls (el T.ls (i : Int)).Host).length < T.ls.length; omega
theorem rcmd_c (cmd : QCmd) (hw : 0 ≤ cmd.Subnet.Addr ∧ cmd.Subnet.Addr < 4294967296) (hN : cmd.N ≤ 9223372036854775807) :
    Ctr (τ := (LS × QLease × Int) × SH × SH) Tryz.prog 109 [.pointer (some (padd g.sp 0)), .agg ⟨cCmd cmd⟩] R (g.tP E0 es0 S X E) (fun x => cmdS g.c g.rs S cmd = x.1) (fun x => .tuple #[.agg ⟨cLease x.1.2.1⟩, .int .i64 x.1.2.2]) (fun x => g.tP E0 es0 x.1.1 x.2.1 x.2.2) := by
  have hrv := li.rev
  have hnw := li.now
  have htl := gg.f.ttl
  unfold maxRev at hrv
  unfold never at hnw
  have hll := li.len gg.f
  refine in_ Tryz.func109 fun w0 => ?_
  refine bo_' fun b3 => ?_
  refine ax_ fun b4 => ?_
  refine if_ (fun c1 => ?_) (fun c1 => ?_)
  · refine rm_ ((S, zL, 110), X, E) ?_
    unfold cmdS
    rw [if_pos (by omega)]
  · have k0 : ¬ (cmd.Kind < 1 ∨ 4 < cmd.Kind) := by omega
    refine if_ (fun c2 => ?_) (fun c2 => ?_)
    · refine if_ (fun c3 => ?_) (fun c3 => ?_)
      · refine rm_ ((S, zL, 1), X, E) ?_
        unfold cmdS
        rw [if_neg k0, if_pos c2, if_pos c3]
      · refine ca_ (fun R' q1 q2 => rtick_c g gg S li hes X E E0 es0 R' cmd.N (by omega) hN) fun Z _ => ?_
        refine rm_ ((tickS S cmd.N, zL, 0), Z.1, Z.2) ?_
        unfold cmdS
        rw [if_neg k0, if_pos c2, if_neg (by omega)]
    · refine if_ (fun c3 => ?_) (fun c3 => ?_)
      · refine rm_ ((S, zL, 1), X, E) ?_
        unfold cmdS
        rw [if_neg k0, if_neg c2, if_pos (by have c3 : cmd.Host < 0 ∨ g.c.Hosts ≤ cmd.Host := c3; exact c3)]
      · have hh : 0 ≤ cmd.Host ∧ cmd.Host < g.c.Hosts := by
          have e : (g.st S.now S.rev X E).c = g.c := rfl
          rw [e] at c3; omega
        have k1 : ¬ (cmd.Host < 0 ∨ g.c.Hosts ≤ cmd.Host) := by omega
        refine if_ (fun c4 => ?_) (fun c4 => ?_)
        · refine ca_ (fun R' q1 q2 => racq_c g gg S li hes X E E0 es0 R' cmd c4 hh.1 hh.2 hw) fun x hx => ?_
          exact rm_ x hx
        · refine ca_ (fun R' q1 q2 => rof_c g S.now S.rev X E S.ls R' cmd.Host (rq_ q2 r3)) fun x hx => ?_
          refine if_ (fun c5 => ?_) (fun c5 => ?_)
          · have hno : ofH S.ls cmd.Host = none := by
              rcases hx with ⟨_, h⟩ | h
              · exact h
              · omega
            refine rm_ ((S, zL, 111), X, E) ?_
            unfold cmdS
            rw [if_neg k0, if_neg c2, if_neg k1, hno]
            dsimp only
            rw [if_neg c4]
          · have hx2 : 0 ≤ x ∧ x < S.ls.length ∧ ofH S.ls cmd.Host = some (el S.ls x) := by
              rcases hx with ⟨h, _⟩ | h
              · omega
              · exact h
            obtain ⟨i, rfl⟩ : ∃ i : Nat, x = i := ⟨x.toNat, by omega⟩
            have hil : i < S.ls.length := by omega
            have hset : ∀ y : QLease, y.Host = (el S.ls i).Host → S.ls.set ((i : Int)).toNat y = upd S.ls y := fun y hy => by rw [Int.toNat_natCast]; exact set_upd li.apart hil (by rw [hy, elx hil])
            have hcm : cmdS g.c g.rs S cmd = if cmd.Kind = 2 then (if (el S.ls i).Subnet = cmd.Subnet then (⟨S.now, S.rev, upd S.ls { el S.ls i with Until := aft S.now g.c.TTL }, S.es⟩, { el S.ls i with Until := aft S.now g.c.TTL }, 0) else (S, zL, 111)) else (remS S (el S.ls i), el S.ls i, 0) := by
              unfold cmdS
              rw [if_neg k0, if_neg c2, if_neg k1, hx2.2.2]
              dsimp only
              rw [if_neg c4]
            refine if_ (fun c6 => ?_) (fun c6 => ?_)
            · rw [if_neg (by omega)] at hcm
              refine ca_ (fun R' q1 q2 => rrem_c g S.now S.rev X E E0 es0 S.es R' S.ls i hil li.apart hll (by omega) (by omega)) fun Z _ => ?_
              exact rm_ (_, Z.1, Z.2) hcm
            · rw [if_pos (by omega)] at hcm
              refine if_ (fun c7 => ?_) (fun c7 => ?_)
              · rw [if_neg c7] at hcm
                exact rm_ (_, X, E) hcm
              · rw [if_pos (by first | exact c7 | exact Classical.not_not.1 c7)] at hcm
                refine cq_ (fun R' q1 q2 => rafter_c S.now g.c.TTL (by omega) (by omega) (by omega) (by omega) R') ?_
                simp only [hset]
                refine mvt_ [Sv 12 39 X.v ((upd S.ls { el S.ls i with Until := aft S.now g.c.TTL }).map cLease), g.bx S.now S.rev X E, Bx b4 39 (cLease zL), Sv 3 58 g.c.Reserved.v (g.rs.map cReserve), Sw 14 72 E0.v (es0.map cEvent) E.v (S.es.map cEvent)] ?_
                have hul : (upd S.ls { el S.ls i with Until := aft S.now g.c.TTL }).length = S.ls.length := by simp [upd]
                have hue : el (upd S.ls { el S.ls i with Until := aft S.now g.c.TTL }) (i : Int) = { el S.ls i with Until := aft S.now g.c.TTL } := upd_el i hil li.apart rfl
                generalize hU : upd S.ls { el S.ls i with Until := aft S.now g.c.TTL } = U at hcm hul hue ⊢
                refine run_ ?_
                rw [← hue] at hcm
                exact rm_ (_, X, E) hcm
def RG.P (g : RG) (S : LS) (X E : SH) : List HP := [g.bx S.now S.rev X E, Sv 3 58 g.c.Reserved.v (g.rs.map cReserve), Sv 12 39 X.v (S.ls.map cLease), Sv 14 72 E.v (S.es.map cEvent)]
theorem rApply_c (cmd : QCmd) (hw : 0 ≤ cmd.Subnet.Addr ∧ cmd.Subnet.Addr < 4294967296) (hN : cmd.N ≤ 9223372036854775807) :
    Ctr (τ := (LS × QAnswer) × SH × SH) Tryz.prog 73 [.pointer (some (padd g.sp 0)), .agg ⟨cCmd cmd⟩] R (g.P S X E) (fun x => applyS g.c g.rs S cmd = x.1) (fun x => .agg ⟨cAnswer x.1.2⟩) (fun x => g.P x.1.1 x.2.1 x.2.2) := by
  have hrv := li.rev
  have hll := li.len gg.f
  refine in_ Tryz.func73 fun w0 => ?_
  refine bo_' fun b3 => ?_
  refine ax_ fun b4 => ?_
  refine ax_ fun b5 => ?_
  refine an_ (ys := S.ls) fun Y => ?_
  refine toSw_ (v := E.v) ?_
  refine run_ ?_
  refine ca_ (fun R' q1 q2 => rcmd_c g gg S li hes Y E E S.es R' cmd hw hN) fun ⟨⟨T, l, e⟩, X2, E2⟩ hx => ?_
  dsimp only at hx ⊢
  have hap : applyS g.c g.rs S cmd = if T.rev > maxRev then (S, ⟨4, zL, S.rev, S.now⟩) else (T, ⟨e, l, T.rev, T.now⟩) := by
    unfold applyS
    rw [hx]
  refine ax_ fun b6 => ?_
  refine if_ (fun c1 => ?_) (fun c1 => ?_)
  · rw [if_pos (show T.rev > maxRev from c1)] at hap
    refine swOld_ (v0 := E.v) ?_
    exact rm_ (_, X, E) hap
  · rw [if_neg (by show ¬ T.rev > maxRev; unfold maxRev; exact Int.not_lt.2 c1)] at hap
    refine swNew_ (v := E2.v) ?_
    exact rm_ (_, X2, E2) hap
end
end Go.Proofs.YtdallmabajeajaaGreatDoor.Fw
set_option linter.all false
set_option maxHeartbeats 4000000
set_option maxRecDepth 100000
namespace Go.Proofs.YtdallmabajeajaaGreatDoor.Fw
open Go
theorem win_in {α : Type} [Inhabited α] {G : List α} {a k m : Nat} (hk : k < G.length) (ha : a ≤ k) (hm : (((G.take k).drop a).take m).length < m) : ((G.take (k + 1)).drop a).take m = ((G.take k).drop a).take m ++ [el G k] := by
  have h1 : (G.take k).length = k := by rw [List.length_take]; omega
  have h2 : ((G.take k).drop a).length = k - a := by rw [List.length_drop, h1]
  rw [List.length_take, h2] at hm
  rw [List.take_succ_eq_append_getElem hk, ← elx hk, List.drop_append_of_le_length (by omega), List.take_of_length_le (l := (G.take k).drop a) (by omega), List.take_of_length_le (by rw [List.length_append, h2]; simp; omega)]
theorem win_out {α : Type} [Inhabited α] {G : List α} {a k m : Nat} (hk : k < G.length) (h : k < a ∨ m ≤ (((G.take k).drop a).take m).length) : ((G.take (k + 1)).drop a).take m = ((G.take k).drop a).take m := by
  have h1 : (G.take k).length = k := by rw [List.length_take]; omega
  have h2 : ((G.take k).drop a).length = k - a := by rw [List.length_drop, h1]
  rcases h with h | h
  · rw [List.drop_eq_nil_of_le (by rw [List.length_take]; omega), List.drop_eq_nil_of_le (by omega)]
  · rw [List.length_take, h2] at h
    by_cases ha : a ≤ k
    · rw [List.take_succ_eq_append_getElem hk, List.drop_append_of_le_length (by omega), List.take_append_of_le_length (by omega)]
    · rw [List.drop_eq_nil_of_le (by rw [List.length_take]; omega), List.drop_eq_nil_of_le (by omega)]
theorem log_lenS {c : QConfig} {rs : List QReserve} {S : LS} (i : LI c rs S) : (logS c S).length = (min c.Log S.rev).toNat := by
  have := i.log
  unfold logS
  rw [List.length_drop]
  omega
section
variable (g : RG) (gg : GoodC g.c g.rs) (S : LS) (li : LI g.c g.rs S) (hes : S.es.length ≤ S.rev) (X E : SH) (R : Hh)
include gg li hes
theorem rlog_c (hE : RdS R 14 E.v (S.es.map cEvent)) : Ctr (τ := Nat) Tryz.prog 110 [.pointer (some (padd g.sp 0))] R [g.bx S.now S.rev X E] (fun j => j ≤ S.es.length ∧ S.es.drop j = logS g.c S) (fun j => (subH3 14 E j S.es.length E.c).v) (fun _ => [g.bx S.now S.rev X E]) := by
  have hrv := li.rev
  have hlg := li.log
  have hlo := gg.f.log
  unfold maxRev at hrv
  have hq : 1 ≤ (g.st S.now S.rev X E).c.Log ∧ (g.st S.now S.rev X E).c.Log ≤ 256 := ⟨hlo.1, hlo.2.1⟩
  have hq2 : 0 ≤ (g.st S.now S.rev X E).rev ∧ (g.st S.now S.rev X E).rev ≤ 1099511627776 := hrv
  have hq3 : min (g.st S.now S.rev X E).c.Log (g.st S.now S.rev X E).rev ≤ S.es.length := hlg
  have e0 : (g.st S.now S.rev X E).c = g.c := rfl
  have e1 : (g.st S.now S.rev X E).rev = S.rev := rfl
  refine in_ Tryz.func110 fun w0 => ?_
  refine if_ (fun c1 => ?_) (fun c1 => ?_)
  · refine rt_ _ ⟨?_, ?_⟩
    · omega
    · unfold logS; congr 1; rw [e0, e1] at *; omega
  · refine rt_ _ ⟨?_, ?_⟩
    · omega
    · unfold logS; congr 1; rw [e0, e1] at *; omega
theorem rsnap_c : Ctr (τ := SH) Tryz.prog 74 [.pointer (some (padd g.sp 0))] R (g.P S X E) (fun _ => True) (fun Y => .agg ⟨cSnap ⟨S.rev, S.now, Y⟩⟩) (fun Y => Sv 12 39 Y.v (S.ls.map cLease) :: g.P S X E) := by
  have hll := li.len gg.f
  refine in_ Tryz.func74 fun w0 => ?_
  refine ax_ fun b2 => ?_
  refine hh_ [[0, 1, 2, 3, 4, 5, 6, 7], [8, 9, 10, 11], [12], [13], [14]] [[g.bx S.now S.rev X E], [g.bx S.now S.rev X E]] ?_
  refine an_ (ys := S.ls) fun Y => ?_
  exact rtC_ Y trivial
theorem rimage_c : Ctr (τ := SH × SH) Tryz.prog 77 [.pointer (some (padd g.sp 0))] R (g.P S X E) (fun _ => True) (fun Y => .agg ⟨cImage ⟨S.rev, S.now, Y.1, Y.2⟩⟩) (fun Y => Sv 12 39 Y.1.v (S.ls.map cLease) :: Sv 14 72 Y.2.v ((logS g.c S).map cEvent) :: g.P S X E) := by
  have hll := li.len gg.f
  have hlo := gg.f.log
  refine in_ Tryz.func77 fun w0 => ?_
  refine ax_ fun b2 => ?_
  refine ca_ (fun R' q1 q2 => rlog_c g gg S li hes X E R' (rq_ q2 r3)) fun j ⟨j1, j2⟩ => ?_
  refine hh_ [[0, 1, 2, 3, 4, 5, 6, 7, 13], [8, 9, 10, 11], [12], [14], [15], [16]] [[g.bx S.now S.rev X E], [g.bx S.now S.rev X E]] ?_
  refine an_ (ys := S.ls) fun Y => ?_
  have hll2 := log_lenS li
  rw [← j2] at hll2 ⊢
  refine an_ (ys := S.es.drop j) (Y := subH3 14 E j S.es.length E.c) (hu := rcw_ j r5 j1) (fun Z => ?_) (hlen := by omega)
  exact rtC_ (Y, Z) trivial
theorem rholder_c (a : Int) (a0 : 0 ≤ a) (a1 : a < 4294967296) : Ctr (τ := QLease × Int) Tryz.prog 76 [.pointer (some (padd g.sp 0)), .int .u32 a] R (g.P S X E) (fun x => x = match holderS S a with | some l => (l, 0) | none => (zL, 3)) (fun x => .tuple #[.agg ⟨cLease x.1⟩, .int .i64 x.2]) (fun _ => g.P S X E) := by
  have hll := li.len gg.f
  have hrng : ∀ l ∈ S.ls, 0 ≤ l.Subnet.Addr ∧ l.Subnet.Addr < 4294967296 := fun l hl => by
    have hb := (may_len gg.po (li.ok l hl).may).2
    have h1 := vld_top gg.f.net.1 gg.hr.n.1 gg.hr.n.2
    have h2 := hb.1.2
    have h3 := gg.hr.n
    omega
  refine in_ Tryz.func76 fun w0 => ?_
  refine ax_ fun b4 => ?_
  refine lo_ (fun k : Nat => [(6, .int .i64 k)]) (fun _ => []) (fun k => k ≤ S.ls.length ∧ ∀ y ∈ S.ls.take k, ¬ Cnt y.Subnet a) (fun k => S.ls.length - k) 0 ⟨by omega, by simp⟩ fun k ⟨z1, z2⟩ => ?_
  refine if_ (fun c1 => ?_) (fun c1 => ?_)
  · have hkl : k < S.ls.length := by omega
    have hm := hrng (el S.ls k) (by rw [elx hkl]; exact List.getElem_mem hkl)
    refine cp_ (fun R' q1 q2 => rcont_c (el S.ls k).Subnet a hm.1 hm.2 R') ?_
    refine if_ (fun c2 => ?_) (fun c2 => ?_)
    · have c3 : Cnt (el S.ls k).Subnet a := by simpa using c2
      have hf : holderS S a = some (el S.ls k) := by
        have e1 : S.ls = S.ls.take k ++ (el S.ls k :: S.ls.drop (k + 1)) := by
          rw [elx hkl, ← List.drop_eq_getElem_cons hkl, List.take_append_drop]
        unfold holderS
        conv => lhs; rw [e1]
        rw [List.find?_append, List.find?_eq_none.2 (fun y hy => by simpa using z2 y hy), List.find?_cons_of_pos (by simpa using c3)]
        rfl
      exact rm_ (el S.ls k, 0) (by rw [hf])
    · exact ba_ (k + 1) ⟨by omega, take_all hkl z2 (by simpa using c2)⟩ (by omega)
  · have hk : k = S.ls.length := by omega
    rw [hk, List.take_length] at z2
    exact rm_ (zL, 3) (by rw [holder_none z2])
theorem rwatch_c (from_ most : Int) (hE : RdS R 14 E.v (S.es.map cEvent)) : Ctr (τ := SH) Tryz.prog 75 [.pointer (some (padd g.sp 0)), .int .i64 from_, .int .i64 most] R [g.bx S.now S.rev X E] (fun _ => True) (fun Y => .tuple #[Y.v, .int .i64 (watchS g.c S from_ most).2]) (fun Y => [Sv 14 72 Y.v ((watchS g.c S from_ most).1.map cEvent), g.bx S.now S.rev X E]) := by
  have hrv := li.rev
  unfold maxRev at hrv
  have hlo := gg.f.log
  have hlen := log_lenS li
  have e1 : (g.st S.now S.rev X E).rev = S.rev := rfl
  have hq2 : 0 ≤ (g.st S.now S.rev X E).rev ∧ (g.st S.now S.rev X E).rev ≤ 1099511627776 := hrv
  refine in_ Tryz.func75 fun w0 => ?_
  refine if_ (fun c1 => ?_) (fun c1 => ?_)
  · have hW : watchS g.c S from_ most = ([], 1) := by unfold watchS; rw [if_pos (by omega)]
    rw [hW]
    refine nil_ cEvent 14 72 ?_
    exact rt_ nilH trivial
  · refine if_ (fun c2 => ?_) (fun c2 => ?_)
    · have hW : watchS g.c S from_ most = ([], 113) := by unfold watchS; rw [if_neg (by omega), if_pos (by rw [e1] at c2; omega)]
      rw [hW]
      refine nil_ cEvent 14 72 ?_
      exact rt_ nilH trivial
    · rw [e1] at c2
      refine ca_ (fun R' q1 q2 => rlog_c g gg S li hes X E R' (hE.le q1)) fun j ⟨j1, j2⟩ => ?_
      have hL : RdS R 14 (subH3 14 E j S.es.length E.c).v ((logS g.c S).map cEvent) := by rw [← j2]; exact Rqw hE j j1
      have hev : ∀ i : Nat, i < (logS g.c S).length → (el (logS g.c S) i).Rev = S.rev - (logS g.c S).length + 1 + i := fun i hi => by
        rw [elx hi]
        have hll : (logS g.c S).length = S.es.length - j := by rw [← j2, List.length_drop]
        have h1 := li.evs (j + i) (by omega)
        have h2 : (logS g.c S)[i] = S.es[j + i]'(by omega) := by simp only [← j2, List.getElem_drop]
        rw [h2, h1]; omega
      generalize hG : logS g.c S = G at hL hlen hev
      refine run_ ?_
      refine if_ (fun c3 => ?_) (fun c3 => ?_)
      · rw [e1] at c3
        have hW : watchS g.c S from_ most = ([], 112) := by unfold watchS; rw [hG, if_neg (by omega), if_neg (by omega), if_pos (by omega)]
        rw [hW]
        refine nil_ cEvent 14 72 ?_
        exact rt_ nilH trivial
      · rw [e1] at c3
        have hW : watchS g.c S from_ most = ((G.drop (G.length - (S.rev - from_)).toNat).take most.toNat, 0) := by unfold watchS; rw [hG, if_neg (by omega), if_neg (by omega), if_neg (by omega)]
        rw [hW]
        obtain ⟨a, ha⟩ : ∃ a : Nat, a = (G.length - (S.rev - from_)).toNat := ⟨_, rfl⟩
        rw [← ha]
        have hal : a ≤ G.length := by omega
        refine nil_ cEvent 14 72 ?_
        refine lo_ (fun z : SH × List QEvent × Nat => [(8, z.1.v), (10, .int .i64 z.2.2)]) (fun z => [Sv 14 72 z.1.v (z.2.1.map cEvent)]) (fun z => z.2.2 ≤ G.length ∧ z.2.1 = ((G.take z.2.2).drop a).take most.toNat) (fun z => G.length - z.2.2) (nilH, [], 0) ⟨by dsimp only; omega, by simp⟩ fun ⟨Y, O, k⟩ ⟨z1, z2⟩ => ?_
        dsimp only at z1 z2 ⊢
        have hol : O.length = min most.toNat (k - a) := by rw [z2, List.length_take, List.length_drop, List.length_take, Nat.min_eq_left z1]
        refine if_ (fun c4 => ?_) (fun c4 => ?_)
        · have hkl : k < G.length := by omega
          have hev1 := hev k hkl
          refine if_ (fun c5 => ?_) (fun c5 => ?_)
          · refine sl_ (e := el G k) fun V => ?_
            refine ap_ (ys := [el G k]) fun Z => ?_
            refine ba_ (Z, O ++ [el G k], k + 1) ⟨by dsimp only; omega, ?_⟩ (by dsimp only; omega)
            dsimp only
            rw [win_in hkl (by omega) (by rw [← z2]; omega), z2]
          · refine ba_ (Y, O, k + 1) ⟨by dsimp only; omega, ?_⟩ (by dsimp only; omega)
            dsimp only
            rw [win_out hkl (by rw [← z2]; omega), z2]
        · have hk : k = G.length := by omega
          rw [hk, List.take_length] at z2
          rw [← z2]
          exact rt_ Y trivial
end
end Go.Proofs.YtdallmabajeajaaGreatDoor.Fw
set_option linter.all false
set_option maxHeartbeats 4000000
namespace Go.Proofs.YtdallmabajeajaaGreatDoor.Fw
open Go
section
variable {P : Program} {ops : Array Oper}
theorem rg_effects {K : Act → World → Prop} {T : Nat → World → Prop} {D : List Nat} {a : Act} {w : World} (nd : D.Nodup) (lt : ∀ j ∈ D, j < ops.size) {c0 : Nat} (h0 : c0 ∈ Region.ready .any ops (doneL ops.size D))
    (h : ∀ c ∈ Region.ready .any ops (doneL ops.size D), ∃ o, ops[c]? = some o ∧ wpList P ops (Exit.then (fun a w => (∀ k ∈ D, rea ops c k = false → T k w) ∧ RH P ops K T (c :: D) a w) fun _ _ _ => False) [o] a w) : RH P ops K T D a w := by
  obtain ⟨hn0, hlt0, hl⟩ := ready_facts nd lt h0
  unfold RH
  have e2 : ops.size - D.length = (ops.size - (D.length + 1)) + 1 := by omega
  rw [e2]
  refine ⟨fun hx => (by rw [hx] at h0; cases h0), fun i hi => ?_⟩
  obtain ⟨o, ho, h⟩ := h i hi
  have h2 : wpOp P ops (Exit.then (fun a w => (∀ k ∈ D, rea ops i k = false → T k w) ∧ RH P ops K T (i :: D) a w) fun _ _ _ => False) i (fun a w => (∀ k ∈ D, rea ops i k = false → T k w) ∧ RH P ops K T (i :: D) a w) a w := by
    unfold wpOp
    rw [ho]
    simp only [wpList] at h ⊢
    split
    · rename_i hw
      rw [if_pos hw] at h
      rcases h with h | h
      · exact .inl h
      · exact .inr h
    · rename_i hw
      rw [if_neg hw] at h
      exact h
  refine wpOp_monoQ (fun e a w hx => hx.elim) (fun ⟨a, w, hx⟩ => hx.elim) (wpOp_mono (fun a w hx => ⟨.inr fun k hk hk2 => hx.1 k ?_ hk2, ?_⟩) h2)
  · have := hx.2
    unfold RH at this
    rw [List.length_cons, ← doneL_set] at this
    exact this
  · rw [doneL_get, Bool.and_eq_true] at hk
    exact kin_mem.1 hk.2
end
section
variable {P : Program} {ops : Array Oper} {n : Nat} {L L1 L2 : List (Nat × Value)} {w0 : World} {R : Hh} {Ps Q1 Q2 Ps1 Ps2 : List HP} {F1 F2 : GF} {o1 o2 : Oper} {K : Act → World → Prop} {D : List Nat} {c1 c2 : Nat} {pl pl1 pl2 pl0 dn : List PE}
theorem okP_step {c : Nat} {Qs : List HP} {pl' : List PE} (hk : okP ops pl0 D dn pl) (hm : c ∈ Region.ready .any ops (doneL ops.size D)) (hp : pl.Perm (([c], Qs) :: pl')) (hrb : disj [c] pl' = true) : okP ops pl0 (c :: D) (([c], Qs) :: dn) pl' := by
  obtain ⟨hn, hlt, hl⟩ := ready_facts hk.nd hk.lt hm
  have hin : ∀ e, e ∈ pl ↔ e = ([c], Qs) ∨ e ∈ pl' := fun e => by rw [hp.mem_iff, List.mem_cons]
  exact ⟨List.nodup_cons.2 ⟨hn, hk.nd⟩, fun j hj => by
      rcases List.mem_cons.1 hj with rfl | hj
      · exact hlt
      · exact hk.lt j hj, by rw [← doneL_set]; exact down_set hk.dw hm, fun e he => by
      rcases hk.sp e he with h1 | h1
      · exact .inl (by simp [h1])
      · rcases (hin e).1 h1 with rfl | h1
        · exact .inl (by simp)
        · exact .inr h1, fun e he => hk.sb e ((hin e).2 (.inr he)), fun e he u hk1 hm => by
      rcases List.mem_cons.1 hm with h1 | h1
      · exact disj_spec hrb e he u hk1 (by simp [h1])
      · exact hk.un e ((hin e).2 (.inr he)) u hk1 h1, fun e he u hk1 => by
      rcases List.mem_cons.1 he with rfl | he
      · have : u = c := by simpa using hk1
        rw [this]; simp
      · exact List.mem_cons_of_mem _ (hk.dd e he u hk1)⟩
theorem hw2_ (k1 : Gl n w0 R L1 Ps1 F1) (k2 : Gl n w0 R L2 Ps2 F2) (ho1 : ops[c1]? = some o1 := by rfl) (hp : (([c1], Q1) :: pl1).Perm (([c2], Q2) :: pl2) := by first | exact .swap _ _ _ | exact (List.perm_middle (l₁ := [_, _]))) (ho2 : ops[c2]? = some o2 := by rfl) (hra : ((Region.ready .any ops (doneL ops.size D)) == [c1, c2]) = true := by decide +kernel) (hd1 : disj [c1] pl1 = true := by kernel_rfl) (hd2 : disj [c2] pl2 = true := by kernel_rfl)
    (r1 : Av n w0 R L Ps (.li P ops (Exit.then (fun a w => HA ops w0 R c1 dn w ∧ RP P ops K w0 R pl0 (c1 :: D) (([c1], Q1) :: dn) pl1 a w) fun _ _ _ => False) [o1]) L1 Ps1 F1 := by (repeat (apply x_; exact A3_)); exact av_r)
    (r2 : Av n w0 R L Ps (.li P ops (Exit.then (fun a w => HA ops w0 R c2 dn w ∧ RP P ops K w0 R pl0 (c2 :: D) (([c2], Q2) :: dn) pl2 a w) fun _ _ _ => False) [o2]) L2 Ps2 F2 := by (repeat (apply x_; exact A3_)); exact av_r) :
    Gl n w0 R L Ps (.ex (fun _ => RP P ops K w0 R pl0 D dn (([c1], Q1) :: pl1)) .normal) := fun a w hs m hk => by
  have hr1 := eq_of_beq hra
  have hm1 : c1 ∈ Region.ready .any ops (doneL ops.size D) := by rw [hr1]; simp
  have hm2 : c2 ∈ Region.ready .any ops (doneL ops.size D) := by rw [hr1]; simp
  refine rg_effects hk.nd hk.lt hm1 fun c hc => ?_
  rw [hr1] at hc
  have hc : c = c1 ∨ c = c2 := by simpa using hc
  rcases hc with rfl | rfl
  · refine ⟨o1, ho1, wpList_monoQ (fun a w hx => ⟨fun k hkD hk2 e he hke => ?_, hx.2 (okP_step hk hm1 (.refl _) hd1)⟩) (r1.g k1 a w hs m)⟩
    rcases hk.sp e he with h1 | h1
    · exact hx.1 e h1 (List.any_eq_true.2 ⟨k, hke, by rw [hk2]; rfl⟩)
    · exact absurd hkD (hk.un e h1 k hke)
  · refine ⟨o2, ho2, wpList_monoQ (fun a w hx => ⟨fun k hkD hk2 e he hke => ?_, hx.2 (okP_step hk hm2 hp hd2)⟩) (r2.g k2 a w hs m)⟩
    rcases hk.sp e he with h1 | h1
    · exact hx.1 e h1 (List.any_eq_true.2 ⟨k, hke, by rw [hk2]; rfl⟩)
    · exact absurd hkD (hk.un e h1 k hke)
end
end Go.Proofs.YtdallmabajeajaaGreatDoor.Fw
set_option linter.all false
set_option maxHeartbeats 4000000
set_option maxRecDepth 100000
namespace Go.Proofs.YtdallmabajeajaaGreatDoor.Fw
open Go
theorem copiedL_c (c : QConfig) (rs : List QReserve) (hl : rs.length * 24 ≤ 140737488351232) (R : Hh) (hR : RdS R 3 c.Reserved.v (rs.map cReserve)) : Ctr (τ := SH) Tryz.prog 51 [.agg ⟨cConfig c⟩] R [] (fun _ => True) (fun X => .agg ⟨cConfig { c with Reserved := X }⟩) (fun X => [Sv 3 58 X.v (rs.map cReserve)]) := by
  refine in_ Tryz.func51 fun w0 => ?_
  refine bo_' fun b1 => ?_
  refine ax_ fun b0 => ?_
  refine an_ (ys := rs) fun Z => ?_
  exact rtC_ Z trivial
theorem rcopied_c (c : QConfig) (rs : List QReserve) (hl : rs.length ≤ 64) (R : Hh) (hR : RdS R 3 c.Reserved.v (rs.map cReserve)) : Ctr (τ := SH) Tryz.prog 72 [.agg ⟨cConfig c⟩] R [] (fun _ => True) (fun X => .agg ⟨cConfig { c with Reserved := X }⟩) (fun X => [Sv 3 58 X.v (rs.map cReserve)]) := by
  refine in_ Tryz.func72 fun w0 => ?_
  refine bo_' fun b1 => ?_
  refine ax_ fun b0 => ?_
  refine an_ (ys := rs) fun Z => ?_
  exact rtC_ Z trivial
theorem good_res {c : QConfig} {rs : List QReserve} (g : GoodC c rs) (Y : SH) : GoodC { c with Reserved := Y } rs :=
  good_of ⟨g.hr.n, g.hr.mn, g.hr.mx, g.hr.f⟩ g.rr (by
    have f2 : FieldsOK { c with Reserved := Y } := ⟨g.f.net, g.f.sub, g.f.num, g.f.ttl, g.f.log, g.f.cap, g.f.top, g.f.cls⟩
    have p2 : PoolOK { c with Reserved := Y } rs := ⟨g.po.row, g.po.out, g.po.host, g.po.rise, g.po.apart⟩
    unfold checkS
    rw [if_neg (not_not_intro f2), if_neg (not_not_intro p2)])
theorem check_res {c : QConfig} {rs : List QReserve} (Y : SH) : checkS { c with Reserved := Y } rs = checkS c rs := by
  have h1 : FieldsOK { c with Reserved := Y } ↔ FieldsOK c := ⟨fun f => ⟨f.net, f.sub, f.num, f.ttl, f.log, f.cap, f.top, f.cls⟩, fun f => ⟨f.net, f.sub, f.num, f.ttl, f.log, f.cap, f.top, f.cls⟩⟩
  have h2 : PoolOK { c with Reserved := Y } rs ↔ PoolOK c rs := ⟨fun p => ⟨p.row, p.out, p.host, p.rise, p.apart⟩, fun p => ⟨p.row, p.out, p.host, p.rise, p.apart⟩⟩
  unfold checkS
  rw [propext h1, propext h2]
theorem rnewNo_c (c : QConfig) (rs : List QReserve) (hr : CfgR c) (hrr : ∀ r ∈ rs, 0 ≤ r.Subnet.Addr ∧ r.Subnet.Addr < 4294967296) (R : Hh) (hR : RdS R 3 c.Reserved.v (rs.map cReserve)) (hx : checkS c rs ≠ 0) : Ctp Tryz.prog 46 [.agg ⟨cConfig c⟩] R [] (.tuple #[.pointer none, .int .i64 (checkS c rs)]) := by
  refine in_ Tryz.func46 fun w0 => ?_
  refine bo_' fun b1 => ?_
  refine cp_ (fun R' q1 q2 => rcheck_c c rs hr hrr R' (hR.le q1)) ?_
  refine if_ (fun c1 => ?_) (fun c1 => ?_)
  · exact re_ rfl
  · exact absurd c1 hx
theorem rnewYes_c (c : QConfig) (rs : List QReserve) (g : GoodC c rs) (R : Hh) (hR : RdS R 3 c.Reserved.v (rs.map cReserve)) :
    Ctr (τ := RG) Tryz.prog 46 [.agg ⟨cConfig c⟩] R [] (fun x => x.rs = rs ∧ x.c = { c with Reserved := x.c.Reserved }) (fun x => .tuple #[.pointer (some (padd x.sp 0)), .int .i64 0]) (fun x => x.P ⟨0, 0, [], []⟩ nilH nilH) := by
  refine in_ Tryz.func46 fun w0 => ?_
  refine bo_' fun b1 => ?_
  refine cp_ (v := .int .i64 0) (fun R' q1 q2 => ctpAs (rcheck_c c rs g.hr g.rr R' (hR.le q1)) (by rw [g.ok])) ?_
  refine ca_ (fun R' q1 q2 => rcopied_c c rs g.rl R' (hR.le q1)) fun Y _ => ?_
  refine nil_ cEvent 14 72 ?_
  refine nil_ cLease 12 39 ?_
  refine bx_ fun sp => ?_
  exact rt_ ⟨sp, { c with Reserved := Y }, rs⟩ ⟨rfl, rfl⟩
structure PrG where
  pb : Addr
  c : QConfig
  rs : List QReserve
  st : Option (SG × SV × RG × LS × SH × SH)
def PrG.P (x : PrG) : List HP := match x.st with
  | none => [Bx x.pb 94 (cweftlaw11_Pair ⟨x.c, none, none⟩)]
  | some (s, v, g, S, X, E) => Bx x.pb 94 (cweftlaw11_Pair ⟨x.c, some (padd s.sp 0), some (padd g.sp 0)⟩) :: (stP s v ++ g.P S X E)
structure Two (c : QConfig) (rs : List QReserve) (s : SG) (v : SV) (g : RG) (S : LS) : Prop where
  o : SOK s
  r : Rel s v S
  gg : GoodC g.c g.rs
  sr : s.rs = rs
  sc : s.c = { c with Reserved := s.c.Reserved }
  gr : g.rs = rs
  gc : g.c = { c with Reserved := g.c.Reserved }
  es : S.es.length ≤ S.rev
theorem Two.li {c : QConfig} {rs : List QReserve} {s : SG} {v : SV} {g : RG} {S : LS} (t : Two c rs s v g S) : LI g.c g.rs S := by
  have h := t.r.li
  rw [t.sr, t.sc] at h
  rw [t.gr, t.gc]
  exact ⟨h.now, h.rev, h.rise, h.apart, fun x hx => ⟨(h.ok x hx).host, (h.ok x hx).may, (h.ok x hx).rev, (h.ok x hx).till⟩, h.log, h.evs⟩
def PrG.ok (x : PrG) : Prop := match x.st with
  | none => checkS x.c x.rs ≠ 0
  | some (s, v, g, S, _, _) => Two x.c x.rs s v g S
structure NoK (c : QConfig) (rs : List QReserve) (k : Int) : Prop where
  e : checkS c rs = k
  n : checkS c rs ≠ 0
theorem made_c (c : QConfig) (rs : List QReserve) (hr : CfgR c) (hrr : ∀ r ∈ rs, 0 ≤ r.Subnet.Addr ∧ r.Subnet.Addr < 4294967296) (hl : rs.length * 24 ≤ 140737488351232) (X : SH) (R : Hh) (hC : ClsR R X) (hR : RdS R 3 c.Reserved.v (rs.map cReserve)) :
    Ctr (τ := PrG) Tryz.prog 67 [.agg ⟨cConfig c⟩] R [] (fun x => x.c = c ∧ x.rs = rs ∧ x.ok) (fun x => .tuple #[.pointer (some (padd x.pb 0)), .bool true]) (fun x => x.P) := by
  refine in_ Tryz.func67 fun w0 => ?_
  refine bo_' fun b1 => ?_
  refine ca_ (fun R' q1 q2 => copiedL_c c rs hl R' (hR.le q1)) fun Y _ => ?_
  have hrY : CfgR { c with Reserved := Y } := ⟨hr.n, hr.mn, hr.mx, hr.f⟩
  by_cases hx : checkS c rs = 0
  · have g := good_of hr hrr hx
    have gY := good_res g Y
    refine ca_ (fun R' q1 q2 => newYes_c _ rs gY.hr gY.rr X R' (hC.le q1) (rq_ q2 r0) gY.ok gY.f gY.po gY.rl) fun ⟨s, v⟩ ⟨o, r, e1, e2⟩ => ?_
    dsimp only at o r e1 e2 ⊢
    refine ca_ (fun R' q1 q2 => rnewYes_c c rs g R' (hR.le q1)) fun x ⟨e3, e4⟩ => ?_
    refine bx_ fun pb => ?_
    refine pnn_ ?_
    refine pnn_ ?_
    obtain ⟨sp, gc, gr⟩ := x
    dsimp only at e3 e4
    subst e3
    refine rt_ ⟨pb, c, gr, some (s, v, ⟨sp, gc, gr⟩, ⟨0, 0, [], []⟩, nilH, nilH)⟩ ⟨rfl, rfl, ?_⟩
    have gg : GoodC gc gr := by rw [e4]; exact good_res g _
    refine ⟨o, r, gg, e1, ?_, rfl, e4, Int.le_refl _⟩
    rw [e2]
  · obtain ⟨k, hk⟩ : ∃ k, NoK c rs k := ⟨_, rfl, hx⟩
    clear hx
    obtain ⟨pn, hpn⟩ : ∃ pn : Option Addr, pn = none := ⟨_, rfl⟩
    refine cp_ (v := .tuple #[.pointer pn, .int .i64 k]) (fun R' q1 q2 => ctpAs (newNo_c _ rs hrY hrr X R' (hC.le q1) (rq_ q2 r0) (by rw [check_res]; exact hk.n)) (by rw [check_res, hk.e, hpn])) ?_
    refine cp_ (v := .tuple #[.pointer pn, .int .i64 k]) (fun R' q1 q2 => ctpAs (rnewNo_c c rs hr hrr R' (hR.le q1) hk.n) (by rw [hk.e, hpn])) ?_ (r := by (iterate 11 (apply x_; exact A3_)); exact av_r)
    refine bui_ (cweftlaw11_Pair ⟨c, pn, pn⟩) ?_
    refine bx_ fun pb => ?_
    subst hpn
    simp only [beq_self_eq_true]
    refine run_ ?_
    refine pny_ ?_
    refine pny_ ?_
    exact rt_ ⟨pb, c, rs, none⟩ ⟨rfl, rfl, hk.n⟩
theorem slot_c (k : Int) (h0 : -9223372036854775808 ≤ k) (h1 : k ≤ 9223372036854775807) (R : Hh) : Ctr (τ := Nat) Tryz.prog 68 [.int .i64 k] R [] (fun i => i < 8) (fun i => .int .i64 i) (fun _ => []) := by
  refine in_ Tryz.func68 fun w0 => ?_
  refine if_ (fun c1 => ?_) (fun c1 => ?_)
  · obtain ⟨i, hi, hi2⟩ : ∃ i : Nat, (-1 - k) % 8 = i ∧ i < 8 := ⟨((-1 - k) % 8).toNat, by omega, by omega⟩
    rw [hi]
    exact rt_ i hi2
  · obtain ⟨i, hi, hi2⟩ : ∃ i : Nat, k % 8 = i ∧ i < 8 := ⟨(k % 8).toNat, by omega, by omega⟩
    rw [hi]
    exact rt_ i hi2
end Go.Proofs.YtdallmabajeajaaGreatDoor.Fw
