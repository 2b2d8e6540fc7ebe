/-
  Plain laws of Diff: the program's is the document's.
-/
import Derived.Test.YtnbpodjbemfpbaaGreatPl4
set_option linter.all false
namespace Go.Proofs.YtnbpodjbemfpbaaGreat.Fw
open Go
/-! order -/
theorem allK_all {f : Nat → Bool} {n : Nat} : allK f n = true ↔ ∀ k, k < n → f k = true := by
  simp [allK, List.all_eq_true]
section
variable {α κ : Type} [DecidableEq κ] {lt : κ → κ → Bool} (O : KO κ lt) (key : α → κ)
include O in
theorem srt_adj {l : List α} : (∀ k x y, l[k]? = some x → l[k + 1]? = some y → lt (key x) (key y) = true) ↔ Srt lt key l := by
  induction l with
  | nil => simp [Srt]
  | cons a l ih =>
    constructor
    · intro h
      have h2 := ih.1 fun k x y hx hy => h (k + 1) x y (by simpa using hx) (by simpa using hy)
      refine List.pairwise_cons.2 ⟨fun e he => ?_, h2⟩
      cases l with
      | nil => cases he
      | cons b l =>
        have hab := h 0 a b rfl rfl
        rcases List.mem_cons.1 he with rfl | he
        · exact hab
        · exact O.tr _ _ _ hab ((List.pairwise_cons.1 h2).1 e he)
    · intro h k x y hx hy
      have h' := List.pairwise_cons.1 h
      cases k with
      | zero =>
        simp only [List.getElem?_cons_zero, Option.some.injEq] at hx
        subst hx
        exact h'.1 y (List.mem_of_getElem? (by simpa using hy))
      | succ k => exact ih.2 h'.2 k x y (by simpa using hx) (by simpa using hy)
include O in
include O in
include O in
include O in
include O in
include O in
end
theorem cR1 (e x : TRoute) : (cmpRoute e x).v < 0 ↔ lowerM e.Dst x.Dst = true := cmpPrefix_lt _ _
theorem cR0 (e x : TRoute) : (cmpRoute e x).v = 0 ↔ e.Dst = x.Dst := cmpPrefix_eq _ _
theorem cN1 (e x : TNeigh) : (cmpNeigh e x).v < 0 ↔ decide (e.IP.v < x.IP.v) = true := by simp only [cmpNeigh, cmpF_lt, decide_eq_true_eq]
theorem cN0 (e x : TNeigh) : (cmpNeigh e x).v = 0 ↔ e.IP = x.IP := by
  simp only [cmpNeigh, cmpF_eq]
  exact ⟨fun h => Fx.ext h, fun h => by rw [h]⟩
theorem cF1 (e x : TFdb) : (cmpFdb e x).v < 0 ↔ decide (weightM e.MAC < weightM x.MAC) = true := by simp only [cmpFdb, cmpBF, cmpMac_lt, decide_eq_true_eq]
theorem cF0 (e x : TFdb) : (cmpFdb e x).v = 0 ↔ e.MAC = x.MAC := by simp only [cmpFdb, cmpBF, cmpMac_eq]
abbrev kR : TRoute → TPrefix := fun r => r.Dst
abbrev kN : TNeigh → Fx .u32 := fun r => r.IP
abbrev kF : TFdb → TMAC := fun r => r.MAC
abbrev ltA : Fx .u32 → Fx .u32 → Bool := fun a b => decide (a.v < b.v)
abbrev ltW : TMAC → TMAC → Bool := fun a b => decide (weightM a < weightM b)
/-! the document's order -/
def ordAt (l : List TRoute) (i : Nat) : Bool := match l[i]? with
  | none => true
  | some e => validR e.Dst && (i == 0 || match l[i - 1]? with | some p => lowerM p.Dst e.Dst | none => true)
def ipAt (l : List TNeigh) (i : Nat) : Bool := i == 0 || match l[i - 1]?, l[i]? with
  | some x, some y => decide (x.IP.v < y.IP.v)
  | _, _ => true
def wtAt (l : List TFdb) (i : Nat) : Bool := i == 0 || match l[i - 1]?, l[i]? with
  | some x, some y => decide (weightM x.MAC < weightM y.MAC)
  | _, _ => true
def orderedM (r : List TRoute) (n : List TNeigh) (f : List TFdb) : Bool := allK (ordAt r) r.length && (allK (ipAt n) n.length && allK (wtAt f) f.length)
structure Ord (r : List TRoute) (n : List TNeigh) (f : List TFdb) : Prop where
  valid : ∀ e ∈ r, validM e.Dst = true
  routes : Srt lowerM kR r
  neighs : Srt ltA kN n
  fdbs : Srt ltW kF f
theorem adj_srt {α κ : Type} [DecidableEq κ] {lt : κ → κ → Bool} (O : KO κ lt) (key : α → κ) {l : List α} {f : Nat → Bool} (hf : ∀ k x y, l[k]? = some x → l[k + 1]? = some y → f (k + 1) = lt (key x) (key y)) (h0 : f 0 = true) : allK f l.length = true ↔ Srt lt key l := by
  rw [← srt_adj O key, allK_all]
  constructor
  · intro h k x y hx hy
    rw [← hf k x y hx hy]
    exact h _ (List.getElem?_eq_some_iff.1 hy).1
  · intro h k hk
    cases k with
    | zero => exact h0
    | succ k =>
      have h1 : l[k]? = some l[k] := List.getElem?_eq_getElem (by omega)
      have h2 : l[k + 1]? = some l[k + 1] := List.getElem?_eq_getElem hk
      rw [hf k _ _ h1 h2]
      exact h k _ _ h1 h2
theorem ordered_ord {r : List TRoute} {n : List TNeigh} {f : List TFdb} : orderedM r n f = true ↔ Ord r n f := by
  unfold orderedM
  simp only [Bool.and_eq_true]
  rw [adj_srt koAddr kN (f := ipAt n) (fun k x y hx hy => by simp [ipAt, hx, hy]) rfl, adj_srt koMAC kF (f := wtAt f) (fun k x y hx hy => by simp [wtAt, hx, hy]) rfl]
  have hr : allK (ordAt r) r.length = true ↔ (∀ e ∈ r, validM e.Dst = true) ∧ Srt lowerM kR r := by
    rw [← srt_adj koPrefix kR, allK_all]
    constructor
    · intro h
      refine ⟨fun e he => ?_, fun k x y hx hy => ?_⟩
      · obtain ⟨k, hk, rfl⟩ := List.getElem_of_mem he
        have := h k hk
        simp only [ordAt, List.getElem?_eq_getElem hk, Bool.and_eq_true] at this
        rw [valid_eq]
        exact this.1
      · have := h (k + 1) (List.getElem?_eq_some_iff.1 hy).1
        simp only [ordAt, hy, Nat.add_sub_cancel, hx, Bool.and_eq_true] at this
        simpa using this.2
    · rintro ⟨h1, h2⟩ k hk
      have e1 : r[k]? = some r[k] := List.getElem?_eq_getElem hk
      simp only [ordAt, e1, Bool.and_eq_true]
      refine ⟨by rw [← valid_eq]; exact h1 _ (List.getElem_mem hk), ?_⟩
      cases k with
      | zero => rfl
      | succ k =>
        have e2 : r[k]? = some r[k] := List.getElem?_eq_getElem (by omega)
        simp only [Nat.add_sub_cancel, e2]
        simpa using h2 k _ _ e2 e1
  rw [hr]
  exact ⟨fun ⟨⟨a, b⟩, c, d⟩ => ⟨a, b, c, d⟩, fun ⟨a, b, c, d⟩ => ⟨⟨a, b⟩, c, d⟩⟩
/-! the way -/
section
variable {r : TRoute} {n : List TNeigh} {f : List TFdb} {w : Tweftref16_Way} {k : Nat} {x : TNeigh} {y : TFdb}
end
theorem lkp_key {α κ : Type} [DecidableEq κ] {key : α → κ} {q : κ} {l : List α} {x : α} (h : lkp key q l = some x) : key x = q := by
  have := List.find?_some h
  simpa using this
section
variable {n : List TNeigh} {f : List TFdb} {r : TRoute} {k : Nat}
end
/-! the walks' words -/
section
variable {r1 r2 : List TRoute} {n1 n2 : List TNeigh} {f1 f2 : List TFdb} {k : Nat}
end
section
variable {α : Type} [DecidableEq α] {l : List α} {k : Nat} {e q : α}
theorem has_t (h : l[k]? = some e) (hq : decide (e = q) = true) : true = decide (q ∈ l) := by
  have := of_decide_eq_true hq
  subst this
  simp [List.mem_of_getElem? h]
theorem has_f (hk : l.length ≤ k) (hn : q ∉ l.take k) : false = decide (q ∈ l) := by
  rw [List.take_of_length_le hk] at hn
  simp [hn]
theorem has_next (hn : q ∉ l.take k) (h : l[k]? = some e) (hq : decide (e = q) = false) : q ∉ l.take (k + 1) := by
  rw [List.take_add_one, h]
  have := of_decide_eq_false hq
  simp [hn]
  exact fun h => this h.symm
end
section
variable {r : List TRoute} {n : List TNeigh} {f : List TFdb} {k : Nat} {e e' : TRoute} {x x' : TNeigh} {y y' : TFdb}
theorem ordAt_v (h : r[k]? = some e) (hv : (!validR e.Dst) = true) : ordAt r k = false := by
  simp only [ordAt, h]
  simp at hv
  simp [hv]
theorem ordAt_l (h : r[k]? = some e) (h' : r[((k : Int) - 1).toNat]? = some e') (hk : (0 : Int) < (k : Int)) (hl : (!lowerM e'.Dst e.Dst) = true) : ordAt r k = false := by
  rw [show ((k : Int) - 1).toNat = k - 1 by omega] at h'
  simp only [ordAt, h, h']
  simp at hl
  have : ¬ k = 0 := by omega
  simp [hl, this]
theorem ordAt_t0 (h : r[k]? = some e) (hv : (!validR e.Dst) = false) (hk : ¬ (0 : Int) < (k : Int)) : ordAt r k = true := by
  simp only [ordAt, h]
  simp at hv
  have : k = 0 := by omega
  simp [hv, this]
theorem ordAt_t1 (h : r[k]? = some e) (h' : r[((k : Int) - 1).toNat]? = some e') (hv : (!validR e.Dst) = false) (hk : (0 : Int) < (k : Int)) (hl : (!lowerM e'.Dst e.Dst) = false) : ordAt r k = true := by
  rw [show ((k : Int) - 1).toNat = k - 1 by omega] at h'
  simp only [ordAt, h, h']
  simp at hl hv
  simp [hl, hv]
theorem ipAt_eq (h : n[k]? = some x) (h' : n[((k : Int) - 1).toNat]? = some x') (hk : 1 ≤ k) : ipAt n k = decide (x'.IP.v < x.IP.v) := by
  rw [show ((k : Int) - 1).toNat = k - 1 by omega] at h'
  have : ¬ k = 0 := by omega
  simp [ipAt, h, h', this]
theorem wtAt_eq (h : f[k]? = some y) (h' : f[((k : Int) - 1).toNat]? = some y') (hk : 1 ≤ k) : wtAt f k = decide (weightM y'.MAC < weightM y.MAC) := by
  rw [show ((k : Int) - 1).toNat = k - 1 by omega] at h'
  have : ¬ k = 0 := by omega
  simp [wtAt, h, h', this]
theorem allK_le {g : Nat → Bool} {a b : Nat} (h : a ≤ b) (hb : allK g b = true) : allK g a = true := allK_all.2 fun k hk => allK_all.1 hb k (by omega)
theorem ordered_f0 (hk : k < r.length) (h : ordAt r k = false) : false = orderedM r n f := by
  simp [orderedM, allK_false hk h]
theorem ordered_f1 (hk : k < n.length) (h : ipAt n k = false) : false = orderedM r n f := by
  simp [orderedM, allK_false hk h]
theorem ordered_f2 (hk : k < f.length) (h : wtAt f k = false) : false = orderedM r n f := by
  simp [orderedM, allK_false hk h]
theorem ordered_t (h1 : allK (ordAt r) r.length = true) (h2 : allK (ipAt n) n.length = true) (h3 : allK (wtAt f) f.length = true) : true = orderedM r n f := by
  simp [orderedM, h1, h2, h3]
end
/-! marks behind lists -/
section
variable {α : Type} {mk : Fx .u32 → α} {l : List α} {k : Nat}
end
end Go.Proofs.YtnbpodjbemfpbaaGreat.Fw
