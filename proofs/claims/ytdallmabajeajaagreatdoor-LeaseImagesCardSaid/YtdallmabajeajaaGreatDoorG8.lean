/-
  Own work: walks and laws, joined by wip/tool/compact.py.
-/
import Derived.Test.YtdallmabajeajaaGreatDoorG7

set_option linter.all false
set_option linter.all false
set_option maxHeartbeats 4000000
set_option maxRecDepth 100000
namespace Go.Proofs.YtdallmabajeajaaGreatDoor.Fw
open Go
def two {α : Type} (a b : α) (i : Nat) : α := if i = 0 then a else b
theorem two_cells (c0 c1 : QConfig) {i : Nat} (hi : i < 2) : ((cConfig c0 ++ cConfig c1).drop (0 + i * 18)).take 18 = cConfig (two c0 c1 i) := by
  have : i = 0 ∨ i = 1 := by omega
  rcases this with rfl | rfl <;> rfl
structure ArgC (R : Hh) (c : QConfig) (rs : List QReserve) : Prop where
  hr : CfgR c
  rr : ∀ r ∈ rs, 0 ≤ r.Subnet.Addr ∧ r.Subnet.Addr < 4294967296
  hl : rs.length * 24 ≤ 140737488351232
  rd : RdS R 3 c.Reserved.v (rs.map cReserve)
def RowOK (l : List (Option PrG)) : Prop := ∀ x, some x ∈ l → x.ok
theorem rowOK_set {l : List (Option PrG)} {i : Nat} {x : PrG} (h : RowOK l) (hx : x.ok) : RowOK (l.set i (some x)) := fun y hy => by
  rcases List.mem_or_eq_of_mem_set hy with h1 | h1
  · exact h y h1
  · cases h1; exact hx
theorem play_c (c0 c1 : QConfig) (rs0 rs1 : List QReserve) (X : SH) (R : Hh) (hC : ClsR R X) (a0 : ArgC R c0 rs0) (a1 : ArgC R c1 rs1) (ov : SH) (os : List Qweftlaw11_Op) (hO : RdS R 17 ov.v (os.map cweftlaw11_Op)) (hoq : ∀ x ∈ os, Rweftlaw11_Op x) (lo hi : Int) (hhi : hi < 6) :
    Ctp Tryz.prog 36 [.agg ⟨cConfig c0 ++ cConfig c1⟩, ov.v, .int .i64 lo, .int .i64 hi] R [] (.bool true) := by
  have hbd := hO.bd
  have ha : ∀ i, i < 2 → ArgC R (two c0 c1 i) (two rs0 rs1 i) := fun i h => by
    have : i = 0 ∨ i = 1 := by omega
    rcases this with rfl | rfl
    · exact a0
    · exact a1
  refine in_ Tryz.func36 fun w0 => ?_
  refine bo_' fun b4 => ?_
  refine al_ fun b9 => ?_
  refine mvt_ [Bx b9 134 (cRow (List.replicate 8 none)), Bx b4 79 (cConfig c0 ++ cConfig c1)] ?_
  refine gp_ (As := flat (List.replicate 8 none)) ?_ (.refl _)
  refine lo_ (fun z : List (Option PrG) × Nat => [(10, .int .i64 z.2)]) (fun z => [Bx b9 134 (cRow z.1), Gp (flat z.1)]) (fun z => z.2 ≤ 2 ∧ z.1.length = 8 ∧ RowOK z.1) (fun z => 2 - z.2) (List.replicate 8 none, 0) ⟨by dsimp only; omega, rfl, fun x hx => by simp at hx⟩ fun ⟨l, i⟩ ⟨z1, z2, z3⟩ => ?_
  dsimp only at z1 z2 z3 ⊢
  refine if_ (fun k1 => ?_) (fun k1 => ?_)
  · have hi2 : i < 2 := by omega
    have hb2 : Nat.blt i 2 = true := by simpa [Nat.blt_eq] using hi2
    have hb8 : Nat.blt i 8 = true := by rw [Nat.blt_eq]; omega
    have g := ha i hi2
    refine ia_ ?_
    refine ldg_ ?_ (two_cells c0 c1 hi2) rfl
    refine ca_ (fun R' q1 q2 => made_c _ _ g.hr g.rr g.hl X R' (hC.le q1) (g.rd.le q1)) fun x ⟨e1, e2, e3⟩ => ?_
    refine gp_ (As := x.P) ?_ (.refl _)
    refine ia_ ?_
    have hlt : 0 + i * 1 < (cRow l).length := by unfold cRow; rw [List.length_map]; omega
    refine sta_ ?_
    have hget : l[i]? = some l[i] := List.getElem?_eq_getElem (by omega)
    refine put_ (x := x) (l := l) hget ?_
    simp only [Nat.zero_add, Nat.mul_one, row_set]
    exact ba_ (l.set i (some x), i + 1) ⟨by dsimp only; omega, by dsimp only; rw [List.length_set]; exact z2, rowOK_set z3 e3⟩ (by dsimp only; omega)
  · refine lo_ (fun z : List (Option PrG) × Nat => [(13, .int .i64 z.2)]) (fun z => [Bx b9 134 (cRow z.1), Gp (flat z.1)]) (fun z => z.2 ≤ os.length ∧ z.1.length = 8 ∧ RowOK z.1) (fun z => os.length - z.2) (l, 0) ⟨by dsimp only; omega, z2, z3⟩ fun ⟨l, j⟩ ⟨z1, z2, z3⟩ => ?_
    dsimp only at z1 z2 z3 ⊢
    refine if_ (fun k2 => ?_) (fun k2 => ?_)
    · have hjl : j < os.length := by omega
      have hop : Rweftlaw11_Op (el os j) := by rw [elx hjl]; exact hoq _ (List.getElem_mem hjl)
      refine ax_ fun b14 => ?_
      generalize el os (j : Int) = op at hop ⊢
      obtain ⟨kd, wh, cm, fr, mx, ad⟩ := op
      have hwh := i64_rng hop.2.1
      dsimp only at hwh ⊢
      refine ca_ (fun R' q1 q2 => slot_c wh hwh.1 hwh.2 R') (fun k hk => ?_) (r := by intro zx9; (iterate 4 (apply x_; exact A3_)); exact av_r)
      have hb8 : Nat.blt k 8 = true := by rw [Nat.blt_eq]; exact hk
      have hlt : 0 + k * 1 < (cRow l).length := by unfold cRow; rw [List.length_map]; omega
      obtain ⟨y, hy⟩ : ∃ y, l[k]? = some y := ⟨l[k], List.getElem?_eq_getElem (by omega)⟩
      refine jm_ (ι := List (Option PrG) × PrG) (fun z => []) (fun z => [Bx b9 134 (cRow z.1), Gp (flat z.1)]) [Bx b9 134 (cRow l), Gp (flat l)] (fun z => z.1.length = 8 ∧ RowOK z.1 ∧ z.1[k]? = some (some z.2)) ?_ fun ⟨l2, x⟩ ⟨y1, y2, y3⟩ => ?_
      · dsimp only
        have hb2 : Nat.blt (k % 2) 2 = true := by rw [Nat.blt_eq]; omega
        have hk2 : k % 2 < 2 := by omega
        have e2 : (k : Int) % 2 = ((k % 2 : Nat) : Int) := by omega
        have hoff : 0 + k * 1 = k := by omega
        by_cases hk7 : kd = 7
        rotate_left
        rcases y with _ | x
        rotate_left
        · have e : (kd == 7) = false := by simp [hk7]
          simp only [e]
          refine run_ ?_
          have hrow : (cRow l)[0 + k * 1]? = some (.pointer (some (padd x.pb 0))) := by rw [hoff]; exact row_get hy
          refine ia_ ?_
          refine lda_ ?_ hrow
          refine pnn_ ?_
          exact ma_ (l, x) ⟨z2, z3, hy⟩
        have e : (kd == 7) = true := by simp [hk7]
        simp only [e]
        refine run_ ?_
        rotate_left
        have e : (kd == 7) = false := by simp [hk7]
        simp only [e]
        refine run_ ?_
        have hrow : (cRow l)[0 + k * 1]? = some (.pointer none) := by rw [hoff]; exact row_none hy
        refine ia_ ?_
        refine lda_ ?_ hrow
        refine pny_ ?_
        all_goals
          have ga := ha (k % 2) hk2
          simp only [e2]
          refine ia_ ?_
          refine ldg_ ?_ (two_cells c0 c1 hk2) rfl
          refine ca_ (fun R' q1 q2 => made_c _ _ ga.hr ga.rr ga.hl X R' (hC.le q1) (ga.rd.le q1)) fun x ⟨e4, e5, e6⟩ => ?_
          refine gp_ (As := x.P) ?_ (.refl _)
          refine ia_ ?_
          refine sta_ ?_
          refine put_ (x := x) (l := l) hy ?_
          simp only [Nat.zero_add, Nat.mul_one, row_set]
          exact ma_ (l.set k (some x), x) ⟨by dsimp only; rw [List.length_set]; exact z2, rowOK_set z3 e6, get_set (by omega) _⟩
      · dsimp only at y1 y2 y3 ⊢
        have hlt2 : 0 + k * 1 < (cRow l2).length := by unfold cRow; rw [List.length_map]; omega
        have hrow : (cRow l2)[0 + k * 1]? = some (.pointer (some (padd x.pb 0))) := by rw [show 0 + k * 1 = k by omega]; exact row_get y3
        have hxo : x.ok := y2 x (List.mem_of_getElem? y3)
        obtain ⟨pb, c, rs, st⟩ := x
        refine take_ y3 ?_
        dsimp only at hrow
        rcases st with _ | ⟨s, v, g, S, X1, E1⟩
        · refine ia_ ?_
          refine lda_ ?_ hrow
          refine pny_ ?_
          refine gp_ (As := PrG.P ⟨pb, c, rs, none⟩) ?_ (.refl _)
          refine put_ (x := ⟨pb, c, rs, none⟩) (l := l2.set k none) (get_set (by omega) none) ?_
          rw [set_back y3]
          exact ba_ (l2, j + 1) ⟨by dsimp only; omega, y1, y2⟩ (by dsimp only; omega)
        · refine ia_ ?_
          refine lda_ ?_ hrow
          refine pnn_ ?_
          refine if_ (fun k3 => ?_) (fun k3 => ?_)
          · refine gp_ (As := PrG.P ⟨pb, c, rs, some (s, v, g, S, X1, E1)⟩) ?_ (.refl _)
            refine put_ (x := ⟨pb, c, rs, some (s, v, g, S, X1, E1)⟩) (l := l2.set k none) (get_set (by omega) none) ?_
            rw [set_back y3]
            exact ba_ (l2, j + 1) ⟨by dsimp only; omega, y1, y2⟩ (by dsimp only; omega)
          · have hkd : kd ≠ 6 := fun h => by
              subst h
              have h1 : ¬ ((6 : Int) ≤ hi) := by omega
              revert k3
              simp [h1]
            refine iaq_ ?_
            refine ldaq_ ?_ hrow
            refine ca_ (fun R' q1 q2 => plays_c pb c rs s v g S X1 E1 hxo ⟨kd, wh, cm, fr, mx, ad⟩ hop hkd R') fun ⟨v2, S2, X2, E2⟩ ht => ?_
            dsimp only at ht ⊢
            refine if_ (fun k4 => ?_) (fun k4 => ?_)
            · exfalso
              revert k4
              simp
            · refine gp_ (As := PrG.P ⟨pb, c, rs, some (s, v2, g, S2, X2, E2)⟩) ?_ (.refl _)
              refine put_ (x := ⟨pb, c, rs, some (s, v2, g, S2, X2, E2)⟩) (l := l2.set k none) (get_set (by omega) none) ?_
              rw [List.set_set]
              have hsame : cRow l2 = cRow (l2.set k (some ⟨pb, c, rs, some (s, v2, g, S2, X2, E2)⟩)) := (row_same (x' := ⟨pb, c, rs, some (s, v2, g, S2, X2, E2)⟩) y3 rfl).symm
              rw [hsame]
              exact ba_ (l2.set k (some ⟨pb, c, rs, some (s, v2, g, S2, X2, E2)⟩), j + 1) ⟨by dsimp only; omega, by dsimp only; rw [List.length_set]; exact y1, rowOK_set y2 ht⟩ (by dsimp only; omega)
    · exact re_ rfl
end Go.Proofs.YtdallmabajeajaaGreatDoor.Fw
