/-
  Plain laws: the plan is the document's.
-/
import Derived.Test.YtnbpodjbemfpbaaGreatPl
set_option linter.all false
namespace Go.Proofs.YtnbpodjbemfpbaaGreat.Fw
open Go
/-! keyed lists -/
structure KO (κ : Type) [DecidableEq κ] (lt : κ → κ → Bool) : Prop where
  irr : ∀ a, lt a a = false
  tr : ∀ a b c, lt a b = true → lt b c = true → lt a c = true
  tri : ∀ a b, lt a b = false → lt b a = false → a = b
section
variable {α κ : Type} [DecidableEq κ] {lt : κ → κ → Bool} (O : KO κ lt) (key : α → κ)
def Srt (lt : κ → κ → Bool) (key : α → κ) (l : List α) : Prop := l.Pairwise fun a b => lt (key a) (key b) = true
def put (lt : κ → κ → Bool) (key : α → κ) (x : α) : List α → List α
  | [] => [x]
  | e :: r => if lt (key x) (key e) then x :: e :: r else if key e = key x then x :: r else e :: put lt key x r
def lkp (key : α → κ) (q : κ) (l : List α) : Option α := l.find? fun e => decide (key e = q)
include O in
theorem lkp_none {q : κ} {l : List α} (h : ∀ e ∈ l, lt q (key e) = true) : lkp key q l = none := by
  simp only [lkp, List.find?_eq_none, decide_eq_true_eq]
  intro e he hk
  have := h e he
  rw [hk, O.irr] at this
  cases this
include O in
theorem srt_ext : ∀ {l m : List α}, Srt lt key l → Srt lt key m → (∀ q, lkp key q l = lkp key q m) → l = m
  | [], [], _, _, _ => rfl
  | [], b :: m, _, _, h => by have := h (key b); simp [lkp] at this
  | a :: l, [], _, _, h => by have := h (key a); simp [lkp] at this
  | a :: l, b :: m, hl, hm, h => by
    have hl' := List.pairwise_cons.1 hl
    have hm' := List.pairwise_cons.1 hm
    have hab : key a = key b := by
      apply O.tri
      · cases hc : lt (key a) (key b) with
        | false => rfl
        | true =>
          have h1 := h (key a)
          rw [lkp_none O key (q := key a) (l := b :: m)] at h1
          · simp [lkp] at h1
          · intro e he
            rcases List.mem_cons.1 he with rfl | he
            · exact hc
            · exact O.tr _ _ _ hc (hm'.1 e he)
      · cases hc : lt (key b) (key a) with
        | false => rfl
        | true =>
          have h1 := h (key b)
          rw [lkp_none O key (q := key b) (l := a :: l)] at h1
          · simp [lkp] at h1
          · intro e he
            rcases List.mem_cons.1 he with rfl | he
            · exact hc
            · exact O.tr _ _ _ hc (hl'.1 e he)
    have hab' : a = b := by
      have h1 := h (key a)
      simp only [lkp, List.find?_cons, hab, decide_true] at h1
      simpa using h1
    subst hab'
    congr 1
    refine srt_ext hl'.2 hm'.2 fun q => ?_
    by_cases hq : key a = q
    · subst hq
      rw [lkp_none O key hl'.1, lkp_none O key hm'.1]
    · have h1 := h q
      simpa [lkp, List.find?_cons, hq] using h1
theorem put_mem {x e : α} : ∀ {l : List α}, e ∈ put lt key x l → e = x ∨ e ∈ l
  | [], h => by simpa [put] using h
  | a :: l, h => by
    simp only [put] at h
    split at h
    · simpa using h
    · split at h
      · rcases List.mem_cons.1 h with h | h
        · exact .inl h
        · exact .inr (by simp [h])
      · rcases List.mem_cons.1 h with h | h
        · exact .inr (by simp [h])
        · rcases put_mem h with h | h
          · exact .inl h
          · exact .inr (by simp [h])
include O in
theorem put_srt {x : α} : ∀ {l : List α}, Srt lt key l → Srt lt key (put lt key x l)
  | [], _ => by simp [put, Srt]
  | a :: l, h => by
    have h' := List.pairwise_cons.1 h
    simp only [put]
    split
    · rename_i hc
      refine List.pairwise_cons.2 ⟨fun e he => ?_, h⟩
      rcases List.mem_cons.1 he with rfl | he
      · exact hc
      · exact O.tr _ _ _ hc (h'.1 e he)
    · rename_i hc
      split
      · rename_i hk
        exact List.pairwise_cons.2 ⟨fun e he => by rw [← hk]; exact h'.1 e he, h'.2⟩
      · rename_i hk
        refine List.pairwise_cons.2 ⟨fun e he => ?_, put_srt h'.2⟩
        rcases put_mem key he with rfl | he
        · cases hq : lt (key a) (key e) with
          | true => rfl
          | false => exact absurd (O.tri _ _ hq (by simpa using hc)) hk
        · exact h'.1 e he
include O in
theorem put_lkp {x : α} {q : κ} : ∀ {l : List α}, Srt lt key l → lkp key q (put lt key x l) = if key x = q then some x else lkp key q l
  | [], _ => by simp [put, lkp, List.find?_cons]; split <;> simp_all
  | a :: l, h => by
    have h' := List.pairwise_cons.1 h
    simp only [put]
    split
    · simp only [lkp, List.find?_cons]
      by_cases hq : key x = q <;> simp [hq]
    · rename_i hc
      split
      · rename_i hk
        simp only [lkp, List.find?_cons]
        by_cases hq : key x = q
        · simp [hq]
        · simp [hq, hk]
      · rename_i hk
        have ih := put_lkp (x := x) (q := q) h'.2
        simp only [lkp] at ih
        simp only [lkp, List.find?_cons, ih]
        by_cases hq : key x = q
        · subst hq
          simp [hk]
        · simp [hq]
include O in
include O in
include O in
/-! the program's set -/
theorem bsF_spec {f : α → Int} {l : List α} {p : Nat} (hp : p ≤ l.length) (h1 : ∀ k e, k < p → l[k]? = some e → f e < 0) (h2 : ∀ k e, p ≤ k → l[k]? = some e → ¬ f e < 0) : ∀ n i j, i ≤ p → p ≤ j → j ≤ l.length → j - i ≤ n → bsF f l n i j = p
  | 0, i, j, hi, hj, hl, hn => by simp only [bsF]; omega
  | n + 1, i, j, hi, hj, hl, hn => by
    simp only [bsF]
    by_cases h : i < j
    · rw [if_pos h]
      have hlt : (i + j) / 2 < l.length := by omega
      rw [List.getElem?_eq_getElem hlt]
      simp only
      by_cases hc : (i + j) / 2 < p
      · rw [if_pos (h1 _ _ hc (List.getElem?_eq_getElem hlt))]
        exact bsF_spec hp h1 h2 n _ j (by omega) hj hl (by omega)
      · rw [if_neg (h2 _ _ (by omega) (List.getElem?_eq_getElem hlt))]
        exact bsF_spec hp h1 h2 n i _ hi (by omega) (by omega) (by omega)
    · rw [if_neg h]; omega
include O in
end
/-! the keys -/
theorem fx_ne {k : IntKind} {a b : Fx k} (h1 : ¬ a.v < b.v) (h2 : ¬ b.v < a.v) : a = b := Fx.ext (by omega)
theorem koPrefix : KO TPrefix lowerM := by
  refine ⟨fun a => ?_, fun a b c h1 h2 => ?_, fun a b h1 h2 => ?_⟩
  · simp [lowerM]
  · simp only [lowerM, Bool.or_eq_true, Bool.and_eq_true, decide_eq_true_eq, beq_iff_eq] at h1 h2 ⊢
    omega
  · simp only [lowerM, Bool.or_eq_false_iff, Bool.and_eq_false_iff, decide_eq_false_iff_not, beq_eq_false_iff_ne] at h1 h2
    obtain ⟨a1, a2⟩ := a
    obtain ⟨b1, b2⟩ := b
    simp only at h1 h2
    have e1 : a1 = b1 := fx_ne h1.1 h2.1
    subst e1
    have e2 : a2 = b2 := fx_ne (by have := h1.2; simp at this; omega) (by have := h2.2; simp at this; omega)
    rw [e2]
theorem koAddr : KO (Fx .u32) fun a b => decide (a.v < b.v) := by
  refine ⟨fun a => by simp, fun a b c h1 h2 => ?_, fun a b h1 h2 => ?_⟩
  · simp only [decide_eq_true_eq] at *; omega
  · simp only [decide_eq_false_iff_not] at *; exact fx_ne h1 h2
theorem weight_inj {a b : TMAC} (h : weightM a = weightM b) : a = b := by
  obtain ⟨a0, a1, a2, a3, a4, a5⟩ := a
  obtain ⟨b0, b1, b2, b3, b4, b5⟩ := b
  unfold weightM at h
  simp only at h
  have := a0.u8; have := a1.u8; have := a2.u8; have := a3.u8; have := a4.u8; have := a5.u8
  have := b0.u8; have := b1.u8; have := b2.u8; have := b3.u8; have := b4.u8; have := b5.u8
  have e0 : a0 = b0 := Fx.ext (by omega)
  have e1 : a1 = b1 := Fx.ext (by omega)
  have e2 : a2 = b2 := Fx.ext (by omega)
  have e3 : a3 = b3 := Fx.ext (by omega)
  have e4 : a4 = b4 := Fx.ext (by omega)
  have e5 : a5 = b5 := Fx.ext (by omega)
  rw [e0, e1, e2, e3, e4, e5]
theorem koMAC : KO TMAC fun a b => decide (weightM a < weightM b) := by
  refine ⟨fun a => by simp, fun a b c h1 h2 => ?_, fun a b h1 h2 => ?_⟩
  · simp only [decide_eq_true_eq] at *; omega
  · simp only [decide_eq_false_iff_not] at *; exact weight_inj (by omega)
theorem cmpPrefix_lt (x y : TPrefix) : (cmpPrefix x y).v < 0 ↔ lowerM x y = true := by
  have h1 := cmpF_v x.Addr.v y.Addr.v
  have h2 := cmpF_v x.Len.v y.Len.v
  simp only [cmpPrefix, orM, lowerM, Bool.or_eq_true, Bool.and_eq_true, decide_eq_true_eq, beq_iff_eq]
  split
  · split
    · simp only; rw [h1] at *; rw [h2] at *; split at * <;> (try split at *) <;> omega
    · rw [h1] at *; rw [h2] at *; split at * <;> (try split at *) <;> (try split at *) <;> omega
  · rw [h1] at *; split at * <;> (try split at *) <;> omega
theorem cmpPrefix_eq (x y : TPrefix) : (cmpPrefix x y).v = 0 ↔ x = y := by
  have h1 := cmpF_v x.Addr.v y.Addr.v
  have h2 := cmpF_v x.Len.v y.Len.v
  constructor
  · intro h
    apply koPrefix.tri
    · cases hq : lowerM x y with
      | false => rfl
      | true => have := (cmpPrefix_lt x y).2 hq; omega
    · cases hq : lowerM y x with
      | false => rfl
      | true =>
        simp only [lowerM, Bool.or_eq_true, Bool.and_eq_true, decide_eq_true_eq, beq_iff_eq] at hq
        simp only [cmpPrefix, orM] at h
        split at h
        · split at h
          · rw [h1] at *; rw [h2] at *; split at * <;> (try split at *) <;> (try split at *) <;> omega
          · rw [h1] at *; rw [h2] at *; split at * <;> (try split at *) <;> (try split at *) <;> omega
        · rw [h1] at *; split at * <;> (try split at *) <;> omega
  · rintro rfl
    have e1 : (cmpF x.Addr.v x.Addr.v).v = 0 := by rw [cmpF_v]; simp
    have e2 : (cmpF x.Len.v x.Len.v).v = 0 := by rw [cmpF_v]; simp
    simp [cmpPrefix, orM, e1, e2]
theorem cmpF_lt (a b : Int) : (cmpF a b).v < 0 ↔ a < b := by rw [cmpF_v]; split <;> (try split) <;> omega
theorem cmpF_eq (a b : Int) : (cmpF a b).v = 0 ↔ a = b := by rw [cmpF_v]; split <;> (try split) <;> omega
end Go.Proofs.YtnbpodjbemfpbaaGreat.Fw
