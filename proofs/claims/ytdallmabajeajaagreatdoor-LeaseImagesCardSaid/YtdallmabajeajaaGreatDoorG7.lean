/-
  Own work: walks and laws, joined by wip/tool/compact.py.
-/
import Derived.Test.YtdallmabajeajaaGreatDoorG6

set_option linter.all false
set_option linter.all false
set_option maxHeartbeats 4000000
set_option maxRecDepth 100000
namespace Go.Proofs.YtdallmabajeajaaGreatDoor.Fw
open Go
section
variable {n : Nat} {w0 : World} {R : Hh} {Ps Qs Ps1 : List HP} {L L1 : List (Nat × Value)} {ops : Array Oper} {Q : Exit → Act → World → Prop} {rest : List Oper} {d : Nat} {ty T E : TypeId} {pos : String} {aft : Array Edge} {x ix y : Operand} {p : Addr} {o i m k z : Nat} {K : IntKind} {ag : Bool} {cs vs : List Value} {v : Value} {F F1 : GF}
theorem ia_ (kk : Gl n w0 R L1 Ps1 F1) (hx : ev L x = some (.pointer (some (padd p o))) := by rfl) (hi : ev L ix = some (.int K (i : Int)) := by rfl) (hT : arI Tryz.prog T = some (m, E) := by exact art rfl) (hE : tyI Tryz.prog E = some (ag, k) := by exact tt rfl) (h1 : Nat.blt i m = true := by assumption) (hd : Nat.blt d n = true := by rfl)
    (r : Av n w0 R ((d, .pointer (some (padd p (o + i * k)))) :: L) Ps (.li Tryz.prog ops Q rest) L1 Ps1 F1 := by (repeat (apply x_; exact A3_)); exact av_r) :
    Gl n w0 R L Ps (.li Tryz.prog ops Q (⟨some d, .indexAddr T x ix, ty, pos, aft, none⟩ :: rest)) :=
  fun a w hs m => (p_ (C := Hp w0 R Ps) (ok_indexArr hx hi hT hE h1 rfl) hd).g _ _ _ _ hs m fun a hs => r.g kk a w hs m
theorem iaq_ (kk : Gl n w0 R L1 Ps1 F1) (hx : ev L x = some (.pointer (some (padd p o))) := by rfl) (hi : ev L ix = some (.int K (i : Int)) := by rfl) (hT : arI Tryz.prog T = some (m, E) := by exact art rfl) (hE : tyI Tryz.prog E = some (ag, k) := by exact tt rfl) (h1 : Nat.blt i m = true := by assumption) (hd : Nat.blt d n = true := by rfl)
    (r : Av n w0 R ((d, .pointer (some (padd p (o + i * k)))) :: L) Ps (.qu Tryz.prog ops (Hp w0 R Ps) F rest) L1 Ps1 F1 := by (repeat (apply x_; exact A3_)); exact av_r) :
    Gl n w0 R L Ps (.qu Tryz.prog ops (Hp w0 R Ps) F (⟨some d, .indexAddr T x ix, ty, pos, aft, none⟩ :: rest)) :=
  (v22_ (q_ (ok_indexArr hx hi hT hE h1 rfl) hd)).g (r.g kk)
theorem lda_ (kk : Gl n w0 R L1 Ps1 F1) (hv : cs[o]? = some v) (hx : ev L x = some (.pointer (some (padd p o))) := by rfl) (ht : tyI Tryz.prog T = some (false, z) := by exact tt rfl) (hP : Rem Ps (Bx p E cs) Qs := by first | exact r0 | exact r1 | exact r2 | exact r3 | exact r4 | exact r5 | exact r6 | exact r7 | exact r8 | exact r9 | exact r10 | exact r11 | exact r12 | exact r13 | exact r14 | exact r15 | exact r16 | exact r17 | exact r18 | exact r19) (hd : Nat.blt d n = true := by rfl)
    (r : Av n w0 R ((d, v) :: L) Ps (.li Tryz.prog ops Q rest) L1 Ps1 F1 := by (repeat (apply x_; exact A3_)); exact av_r) :
    Gl n w0 R L Ps (.li Tryz.prog ops Q (⟨some d, .load T x, ty, pos, aft, none⟩ :: rest)) :=
  fun a w hs m => (p_ (C := Hp w0 R Ps) (ok_load_sc hx ht (bx_at hP) hv) hd).g _ _ _ _ hs m fun a hs => r.g kk a w hs m
theorem ldaq_ (kk : Gl n w0 R L1 Ps1 F1) (hv : cs[o]? = some v) (hx : ev L x = some (.pointer (some (padd p o))) := by rfl) (ht : tyI Tryz.prog T = some (false, z) := by exact tt rfl) (hP : Rem Ps (Bx p E cs) Qs := by first | exact r0 | exact r1 | exact r2 | exact r3 | exact r4 | exact r5 | exact r6 | exact r7 | exact r8 | exact r9 | exact r10 | exact r11 | exact r12 | exact r13 | exact r14 | exact r15 | exact r16 | exact r17 | exact r18 | exact r19) (hd : Nat.blt d n = true := by rfl)
    (r : Av n w0 R ((d, v) :: L) Ps (.qu Tryz.prog ops (Hp w0 R Ps) F rest) L1 Ps1 F1 := by (repeat (apply x_; exact A3_)); exact av_r) :
    Gl n w0 R L Ps (.qu Tryz.prog ops (Hp w0 R Ps) F (⟨some d, .load T x, ty, pos, aft, none⟩ :: rest)) :=
  (v22_ (q_ (ok_load_sc hx ht (bx_at hP) hv) hd)).g (r.g kk)
theorem ldg_ (kk : Gl n w0 R L1 Ps1 F1) (hv : (cs.drop o).take z = vs) (hl : vs.length = z) (hx : ev L x = some (.pointer (some (padd p o))) := by rfl) (ht : tyI Tryz.prog T = some (true, z) := by exact tt rfl) (hP : Rem Ps (Bx p E cs) Qs := by first | exact r0 | exact r1 | exact r2 | exact r3 | exact r4 | exact r5 | exact r6 | exact r7 | exact r8 | exact r9 | exact r10 | exact r11 | exact r12 | exact r13 | exact r14 | exact r15 | exact r16 | exact r17 | exact r18 | exact r19) (hd : Nat.blt d n = true := by rfl)
    (r : Av n w0 R ((d, .agg ⟨vs⟩) :: L) Ps (.li Tryz.prog ops Q rest) L1 Ps1 F1 := by (repeat (apply x_; exact A3_)); exact av_r) :
    Gl n w0 R L Ps (.li Tryz.prog ops Q (⟨some d, .load T x, ty, pos, aft, none⟩ :: rest)) :=
  fun a w hs m => (p_ (C := Hp w0 R Ps) (ok_load_ag hx ht (bx_at hP) hv hl) hd).g _ _ _ _ hs m fun a hs => r.g kk a w hs m
theorem sta_ (kk : Gl n w0 R L1 Ps1 F1) (hx : ev L x = some (.pointer (some (padd p o))) := by rfl) (hy : ev L y = some v := by rfl) (ht : tyI Tryz.prog T = some (false, 1) := by exact tt rfl) (hP : Rem Ps (Bx p E cs) Qs := by first | exact r0 | exact r1 | exact r2 | exact r3 | exact r4 | exact r5 | exact r6 | exact r7 | exact r8 | exact r9 | exact r10 | exact r11 | exact r12 | exact r13 | exact r14 | exact r15 | exact r16 | exact r17 | exact r18 | exact r19) (ho : o < cs.length := by assumption) (hv : v.cells = ⟨[v]⟩ := by rfl) (h1 : one v = true := by rfl)
    (r : Av n w0 R L (Bx p E (cs.set o v) :: Qs) (.li Tryz.prog ops Q rest) L1 Ps1 F1 := by (repeat (apply x_; exact A3_)); exact av_r) :
    Gl n w0 R L Ps (.li Tryz.prog ops Q (⟨none, .store T x y, ty, pos, aft, none⟩ :: rest)) := fun a w hs m =>
  r_store hs (m.perm hP.perm) hx hy ht s0 hv rfl (Nat.ble_eq_true_of_le ho) (by simp [ones, h1]) rfl fun w m => r.g kk a w hs m
end
/-! ### rows of pairs -/
def slP (x : Option PrG) : List HP := match x with
  | some g => g.P
  | none => []
def flat (l : List (Option PrG)) : List HP := l.flatMap slP
def cPtr (x : Option PrG) : Value := .pointer (x.map fun g => padd g.pb 0)
def cRow (l : List (Option PrG)) : List Value := l.map cPtr
section
variable {n : Nat} {w0 : World} {R : Hh} {Ps Qs Ps1 : List HP} {L : List (Nat × Value)} {F : GF} {l : List (Option PrG)} {i : Nat} {x : PrG}
theorem splitX {α : Type} {l : List α} {i : Nat} {y : α} (h : l[i]? = some y) (z : α) : l = l.take i ++ y :: l.drop (i + 1) ∧ l.set i z = l.take i ++ z :: l.drop (i + 1) := by
  obtain ⟨hi, rfl⟩ := List.getElem?_eq_some_iff.1 h
  exact ⟨by rw [← List.drop_eq_getElem_cons hi, List.take_append_drop], by rw [List.set_eq_take_append_cons_drop, if_pos hi]⟩
theorem flat_app (a b : List (Option PrG)) : flat (a ++ b) = flat a ++ flat b := List.flatMap_append
theorem flat_cons (y : Option PrG) (b : List (Option PrG)) : flat (y :: b) = slP y ++ flat b := by simp [flat]
theorem Hp.dropL {w : World} {As : List HP} : ∀ {Bs : List HP}, Hp w0 R (Bs ++ As) w → Hp w0 R As w
  | [], m => m
  | _ :: Bs, m => Hp.dropL (Bs := Bs) m.drop
theorem put_ {y : Option PrG} (hi : l[i]? = some y) (kk : Gl n w0 R L (Gp (flat (l.set i (some x))) :: Qs) F) (h1 : Rem Ps (Gp x.P) Ps1 := by first | exact r0 | exact r1 | exact r2 | exact r3) (h2 : Rem Ps1 (Gp (flat l)) Qs := by first | exact r0 | exact r1 | exact r2 | exact r3 | exact r4 | exact r5 | exact r6 | exact r7) : Gl n w0 R L Ps F := fun a w hs m => by
  refine kk a w hs ?_
  have m1 := ((m.perm h1.perm).perm (h2.perm.cons _)).ungp
  obtain ⟨e1, e2⟩ := splitX hi (some x)
  rw [e2, flat_app, flat_cons]
  rw [show flat l = flat (l.take i) ++ (slP y ++ flat (l.drop (i + 1))) by have h := congrArg flat e1; rw [flat_app, flat_cons] at h; exact h] at m1
  have m2 := (m1.perm (List.perm_middle (l₁ := x.P))).ungp
  refine Hp.gp ?_
  have m3 : Hp w0 R (slP y ++ ((flat (l.take i) ++ (slP (some x) ++ flat (l.drop (i + 1)))) ++ Qs)) w := m2.perm (by
    show ((flat (l.take i) ++ (slP y ++ flat (l.drop (i + 1)))) ++ (x.P ++ Qs)).Perm (slP y ++ ((flat (l.take i) ++ (x.P ++ flat (l.drop (i + 1)))) ++ Qs))
    generalize flat (l.take i) = A
    generalize slP y = Y
    generalize flat (l.drop (i + 1)) = B
    generalize x.P = X
    simp only [List.append_assoc]
    refine (List.perm_append_comm_assoc A Y _).trans (List.Perm.append_left Y (List.Perm.append_left A ?_))
    exact List.perm_append_comm_assoc B X _)
  exact m3.dropL
theorem take_ (hi : l[i]? = some (some x)) (kk : Gl n w0 R L (x.P ++ (Gp (flat (l.set i none)) :: Qs)) F) (h2 : Rem Ps (Gp (flat l)) Qs := by first | exact r0 | exact r1 | exact r2 | exact r3 | exact r4 | exact r5 | exact r6 | exact r7) : Gl n w0 R L Ps F := fun a w hs m => by
  refine kk a w hs ?_
  have m1 := (m.perm h2.perm).ungp
  obtain ⟨e1, e2⟩ := splitX hi none
  rw [e2, flat_app, flat_cons]
  rw [show flat l = flat (l.take i) ++ (x.P ++ flat (l.drop (i + 1))) by have h := congrArg flat e1; rw [flat_app, flat_cons] at h; exact h] at m1
  have m2 : Hp w0 R ((flat (l.take i) ++ ([] ++ flat (l.drop (i + 1)))) ++ (x.P ++ Qs)) w := m1.perm (by
    generalize flat (l.take i) = A
    generalize flat (l.drop (i + 1)) = B
    generalize x.P = X
    simp only [List.append_assoc, List.nil_append]
    exact List.Perm.append_left A (List.perm_append_comm_assoc X B _))
  exact (m2.gp).perm (List.perm_middle (l₁ := x.P)).symm
theorem row_get (h : l[i]? = some (some x)) : (cRow l)[i]? = some (.pointer (some (padd x.pb 0))) := by
  unfold cRow
  rw [List.getElem?_map, h]; rfl
theorem row_none (h : l[i]? = some none) : (cRow l)[i]? = some (.pointer none) := by
  unfold cRow
  rw [List.getElem?_map, h]; rfl
theorem row_set : (cRow l).set i (.pointer (some (padd x.pb 0))) = cRow (l.set i (some x)) := by
  unfold cRow
  rw [List.map_set]; rfl
theorem row_same {x' : PrG} (h : l[i]? = some (some x)) (e : x'.pb = x.pb) : cRow (l.set i (some x')) = cRow l := by
  rw [← row_set, e]
  obtain ⟨hi, h2⟩ := List.getElem?_eq_some_iff.1 h
  apply List.ext_getElem (by simp)
  intro j h3 h4
  rw [List.getElem_set]
  split
  · rename_i e2
    subst e2
    have := row_get h
    rw [List.getElem?_eq_getElem h4] at this
    exact (Option.some.inj this).symm
  · rfl
theorem set_back {α : Type} {l : List α} {i : Nat} {y : α} (h : l[i]? = some y) (z : α) : (l.set i z).set i y = l := by
  rw [List.set_set]
  obtain ⟨hi, rfl⟩ := List.getElem?_eq_some_iff.1 h
  exact List.set_getElem_self hi
theorem get_set {α : Type} {l : List α} {i : Nat} (hi : i < l.length) (z : α) : (l.set i z)[i]? = some z := by
  rw [List.getElem?_set_self hi]
end
end Go.Proofs.YtdallmabajeajaaGreatDoor.Fw
