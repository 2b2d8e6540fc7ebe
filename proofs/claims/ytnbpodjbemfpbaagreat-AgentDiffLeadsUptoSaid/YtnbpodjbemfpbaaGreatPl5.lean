/-
  Plain laws of Diff: the program's is the document's.
-/
import Derived.Test.YtnbpodjbemfpbaaGreatPl4
set_option linter.all false
namespace Go.Proofs.YtnbpodjbemfpbaaGreat.Fw
open Go
/-! order -/
theorem allK_all {f : Nat → Bool} {n : Nat} : allK f n = true ↔ ∀ k, k < n → f k = true := by
  simp [allK, List.all_eq_true]
section
variable {α κ : Type} [DecidableEq κ] {lt : κ → κ → Bool} (O : KO κ lt) (key : α → κ)
include O in
theorem srt_adj {l : List α} : (∀ k x y, l[k]? = some x → l[k + 1]? = some y → lt (key x) (key y) = true) ↔ Srt lt key l := by
  induction l with
  | nil => simp [Srt]
  | cons a l ih =>
    constructor
    · intro h
      have h2 := ih.1 fun k x y hx hy => h (k + 1) x y (by simpa using hx) (by simpa using hy)
      refine List.pairwise_cons.2 ⟨fun e he => ?_, h2⟩
      cases l with
      | nil => cases he
      | cons b l =>
        have hab := h 0 a b rfl rfl
        rcases List.mem_cons.1 he with rfl | he
        · exact hab
        · exact O.tr _ _ _ hab ((List.pairwise_cons.1 h2).1 e he)
    · intro h k x y hx hy
      have h' := List.pairwise_cons.1 h
      cases k with
      | zero =>
        simp only [List.getElem?_cons_zero, Option.some.injEq] at hx
        subst hx
        exact h'.1 y (List.mem_of_getElem? (by simpa using hy))
      | succ k => exact ih.2 h'.2 k x y (by simpa using hx) (by simpa using hy)
include O in
theorem rises_srt {c : α → α → Fx .i64} (hc1 : ∀ e x, (c e x).v < 0 ↔ lt (key e) (key x) = true) {l : List α} : risesM c l = true ↔ Srt lt key l := by
  rw [← srt_adj O key]
  unfold risesM
  rw [allK_all]
  constructor
  · intro h k x y hx hy
    have := h (k + 1) (List.getElem?_eq_some_iff.1 hy).1
    simp only [riseAt, Nat.add_sub_cancel, hx, hy] at this
    simpa [hc1] using this
  · intro h k hk
    cases k with
    | zero => rfl
    | succ k =>
      have h1 : l[k]? = some l[k] := List.getElem?_eq_getElem (by omega)
      have h2 : l[k + 1]? = some l[k + 1] := List.getElem?_eq_getElem hk
      simp only [riseAt, Nat.add_sub_cancel, h1, h2]
      simpa [hc1] using h k _ _ h1 h2
include O in
theorem bs_lkp {c : α → α → Fx .i64} (hc1 : ∀ e x, (c e x).v < 0 ↔ lt (key e) (key x) = true) (hc0 : ∀ e x, (c e x).v = 0 ↔ key e = key x) {l : List α} {x : α} (h : Srt lt key l) : (if bsHit c l x then l[bsI (fun e => (c e x).v) l]? else none) = lkp key (key x) l := by
  obtain ⟨a, b, rfl, ha, hb⟩ : ∃ a b, l = a ++ b ∧ (∀ e ∈ a, lt (key e) (key x) = true) ∧ (∀ e ∈ b, lt (key e) (key x) = false) := by
    induction l with
    | nil => exact ⟨[], [], rfl, by simp, by simp⟩
    | cons e l ih =>
      have h' := List.pairwise_cons.1 h
      cases hq : lt (key e) (key x) with
      | true =>
        obtain ⟨a, b, rfl, ha, hb⟩ := ih h'.2
        exact ⟨e :: a, b, rfl, by simp only [List.mem_cons]; rintro y (rfl | hy); exact hq; exact ha y hy, hb⟩
      | false =>
        refine ⟨[], e :: l, rfl, by simp, ?_⟩
        simp only [List.mem_cons]
        rintro y (rfl | hy)
        · exact hq
        · cases hz : lt (key y) (key x) with
          | false => rfl
          | true =>
            have := O.tr _ _ _ (h'.1 y hy) hz
            rw [hq] at this
            cases this
  have hbs : bsI (fun e => (c e x).v) (a ++ b) = a.length := by
    unfold bsI
    refine bsF_spec (by simp) (fun k e hk he => ?_) (fun k e hk he => ?_) _ _ _ (by omega) (by simp) (by omega) (by omega)
    · rw [List.getElem?_append_left hk] at he
      exact (hc1 _ _).2 (ha e (List.mem_of_getElem? he))
    · rw [List.getElem?_append_right hk] at he
      rw [hc1, hb e (List.mem_of_getElem? he)]
      simp
  have hna : ∀ e ∈ a, key e ≠ key x := fun e he hk => by
    have := ha e he
    rw [hk, O.irr] at this
    cases this
  have hl : lkp key (key x) (a ++ b) = lkp key (key x) b := by
    simp only [lkp, List.find?_append]
    rw [List.find?_eq_none.2 (fun e he => by simpa using hna e he)]
    rfl
  rw [hl]
  unfold bsHit
  rw [hbs]
  have h0 : (a ++ b)[a.length]? = b[0]? := by rw [List.getElem?_append_right (Nat.le_refl _), Nat.sub_self]
  rw [h0]
  cases b with
  | nil => simp [lkp]
  | cons e b =>
    simp only [List.getElem?_cons_zero]
    by_cases hk : key e = key x
    · have : (c e x).v = 0 := (hc0 e x).2 hk
      simp [this, lkp, hk]
    · have h1 : ¬ (c e x).v = 0 := fun h => hk ((hc0 e x).1 h)
      have hx : lt (key x) (key e) = true := by
        cases hq : lt (key x) (key e) with
        | true => rfl
        | false => exact absurd (O.tri _ _ (hb e (by simp)) hq) hk
      have : lkp key (key x) (e :: b) = none := by
        refine lkp_none O key fun y hy => ?_
        rcases List.mem_cons.1 hy with rfl | hy
        · exact hx
        · have hs : Srt lt key (e :: b) := (List.pairwise_append.1 h).2.1
          exact O.tr _ _ _ hx ((List.pairwise_cons.1 hs).1 y hy)
      rw [this]
      simp [h1]
include O in
theorem hit_lkp {c : α → α → Fx .i64} (hc1 : ∀ e x, (c e x).v < 0 ↔ lt (key e) (key x) = true) (hc0 : ∀ e x, (c e x).v = 0 ↔ key e = key x) {l : List α} {x : α} (h : Srt lt key l) : bsHit c l x = (lkp key (key x) l).isSome := by
  rw [← bs_lkp O key hc1 hc0 h]
  cases hb : bsHit c l x with
  | false => rfl
  | true =>
    simp only [if_true]
    rw [List.getElem?_eq_getElem (bsHit_lt hb)]
    rfl
include O in
theorem get_lkp {c : α → α → Fx .i64} (hc1 : ∀ e x, (c e x).v < 0 ↔ lt (key e) (key x) = true) (hc0 : ∀ e x, (c e x).v = 0 ↔ key e = key x) {l : List α} {x z : α} (h : Srt lt key l) : getM c z l x = (lkp key (key x) l).getD z := by
  rw [← bs_lkp O key hc1 hc0 h]
  unfold getM
  cases hb : bsHit c l x <;> simp
include O in
theorem mem_lkp {l : List α} {x : α} (h : Srt lt key l) : x ∈ l ↔ lkp key (key x) l = some x := by
  constructor
  · intro hx
    induction l with
    | nil => cases hx
    | cons e l ih =>
      have h' := List.pairwise_cons.1 h
      rcases List.mem_cons.1 hx with rfl | hx
      · simp [lkp]
      · have hne : key e ≠ key x := fun hk => by
          have := h'.1 x hx
          rw [hk, O.irr] at this
          cases this
        simpa [lkp, hne] using ih h'.2 hx
  · intro h
    exact List.mem_of_find?_eq_some h
include O in
theorem lacks_mem [DecidableEq α] {c : α → α → Fx .i64} (hc1 : ∀ e x, (c e x).v < 0 ↔ lt (key e) (key x) = true) (hc0 : ∀ e x, (c e x).v = 0 ↔ key e = key x) {l : List α} {x z : α} (h : Srt lt key l) : lacksM c z l x = !decide (x ∈ l) := by
  unfold lacksM
  rw [hit_lkp O key hc1 hc0 h, get_lkp O key hc1 hc0 h]
  cases hl : lkp key (key x) l with
  | none =>
    have : x ∉ l := fun hx => by rw [(mem_lkp O key h).1 hx] at hl; cases hl
    simp [this]
  | some y =>
    by_cases hy : y = x
    · subst hy
      have : y ∈ l := (mem_lkp O key h).2 hl
      simp [this]
    · have : x ∉ l := fun hx => by
        rw [(mem_lkp O key h).1 hx] at hl
        simp only [Option.some.injEq] at hl
        exact hy hl.symm
      simp [this, hy]
end
theorem cR1 (e x : TRoute) : (cmpRoute e x).v < 0 ↔ lowerM e.Dst x.Dst = true := cmpPrefix_lt _ _
theorem cR0 (e x : TRoute) : (cmpRoute e x).v = 0 ↔ e.Dst = x.Dst := cmpPrefix_eq _ _
theorem cN1 (e x : TNeigh) : (cmpNeigh e x).v < 0 ↔ decide (e.IP.v < x.IP.v) = true := by simp only [cmpNeigh, cmpF_lt, decide_eq_true_eq]
theorem cN0 (e x : TNeigh) : (cmpNeigh e x).v = 0 ↔ e.IP = x.IP := by
  simp only [cmpNeigh, cmpF_eq]
  exact ⟨fun h => Fx.ext h, fun h => by rw [h]⟩
theorem cF1 (e x : TFdb) : (cmpFdb e x).v < 0 ↔ decide (weightM e.MAC < weightM x.MAC) = true := by simp only [cmpFdb, cmpBF, cmpMac_lt, decide_eq_true_eq]
theorem cF0 (e x : TFdb) : (cmpFdb e x).v = 0 ↔ e.MAC = x.MAC := by simp only [cmpFdb, cmpBF, cmpMac_eq]
abbrev kR : TRoute → TPrefix := fun r => r.Dst
abbrev kN : TNeigh → Fx .u32 := fun r => r.IP
abbrev kF : TFdb → TMAC := fun r => r.MAC
abbrev ltA : Fx .u32 → Fx .u32 → Bool := fun a b => decide (a.v < b.v)
abbrev ltW : TMAC → TMAC → Bool := fun a b => decide (weightM a < weightM b)
/-! the document's order -/
def ordAt (l : List TRoute) (i : Nat) : Bool := match l[i]? with
  | none => true
  | some e => validR e.Dst && (i == 0 || match l[i - 1]? with | some p => lowerM p.Dst e.Dst | none => true)
def ipAt (l : List TNeigh) (i : Nat) : Bool := i == 0 || match l[i - 1]?, l[i]? with
  | some x, some y => decide (x.IP.v < y.IP.v)
  | _, _ => true
def wtAt (l : List TFdb) (i : Nat) : Bool := i == 0 || match l[i - 1]?, l[i]? with
  | some x, some y => decide (weightM x.MAC < weightM y.MAC)
  | _, _ => true
def orderedM (r : List TRoute) (n : List TNeigh) (f : List TFdb) : Bool := allK (ordAt r) r.length && (allK (ipAt n) n.length && allK (wtAt f) f.length)
structure Ord (r : List TRoute) (n : List TNeigh) (f : List TFdb) : Prop where
  valid : ∀ e ∈ r, validM e.Dst = true
  routes : Srt lowerM kR r
  neighs : Srt ltA kN n
  fdbs : Srt ltW kF f
theorem inOrder_ord {r : List TRoute} {n : List TNeigh} {f : List TFdb} : inOrderM r n f = true ↔ Ord r n f := by
  unfold inOrderM
  simp only [Bool.and_eq_true]
  rw [rises_srt koPrefix kR cR1, rises_srt koAddr kN cN1, rises_srt koMAC kF cF1]
  constructor
  · rintro ⟨h1, ⟨h2, h3⟩, h4⟩
    refine ⟨fun e he => ?_, h2, h3, h4⟩
    obtain ⟨k, hk, rfl⟩ := List.getElem_of_mem he
    have := allK_all.1 h1 k hk
    simpa [validAt, List.getElem?_eq_getElem hk] using this
  · rintro ⟨h1, h2, h3, h4⟩
    refine ⟨allK_all.2 fun k hk => ?_, ⟨h2, h3⟩, h4⟩
    simpa [validAt, List.getElem?_eq_getElem hk] using h1 _ (List.getElem_mem hk)
theorem adj_srt {α κ : Type} [DecidableEq κ] {lt : κ → κ → Bool} (O : KO κ lt) (key : α → κ) {l : List α} {f : Nat → Bool} (hf : ∀ k x y, l[k]? = some x → l[k + 1]? = some y → f (k + 1) = lt (key x) (key y)) (h0 : f 0 = true) : allK f l.length = true ↔ Srt lt key l := by
  rw [← srt_adj O key, allK_all]
  constructor
  · intro h k x y hx hy
    rw [← hf k x y hx hy]
    exact h _ (List.getElem?_eq_some_iff.1 hy).1
  · intro h k hk
    cases k with
    | zero => exact h0
    | succ k =>
      have h1 : l[k]? = some l[k] := List.getElem?_eq_getElem (by omega)
      have h2 : l[k + 1]? = some l[k + 1] := List.getElem?_eq_getElem hk
      rw [hf k _ _ h1 h2]
      exact h k _ _ h1 h2
theorem ordered_ord {r : List TRoute} {n : List TNeigh} {f : List TFdb} : orderedM r n f = true ↔ Ord r n f := by
  unfold orderedM
  simp only [Bool.and_eq_true]
  rw [adj_srt koAddr kN (f := ipAt n) (fun k x y hx hy => by simp [ipAt, hx, hy]) rfl, adj_srt koMAC kF (f := wtAt f) (fun k x y hx hy => by simp [wtAt, hx, hy]) rfl]
  have hr : allK (ordAt r) r.length = true ↔ (∀ e ∈ r, validM e.Dst = true) ∧ Srt lowerM kR r := by
    rw [← srt_adj koPrefix kR, allK_all]
    constructor
    · intro h
      refine ⟨fun e he => ?_, fun k x y hx hy => ?_⟩
      · obtain ⟨k, hk, rfl⟩ := List.getElem_of_mem he
        have := h k hk
        simp only [ordAt, List.getElem?_eq_getElem hk, Bool.and_eq_true] at this
        rw [valid_eq]
        exact this.1
      · have := h (k + 1) (List.getElem?_eq_some_iff.1 hy).1
        simp only [ordAt, hy, Nat.add_sub_cancel, hx, Bool.and_eq_true] at this
        simpa using this.2
    · rintro ⟨h1, h2⟩ k hk
      have e1 : r[k]? = some r[k] := List.getElem?_eq_getElem hk
      simp only [ordAt, e1, Bool.and_eq_true]
      refine ⟨by rw [← valid_eq]; exact h1 _ (List.getElem_mem hk), ?_⟩
      cases k with
      | zero => rfl
      | succ k =>
        have e2 : r[k]? = some r[k] := List.getElem?_eq_getElem (by omega)
        simp only [Nat.add_sub_cancel, e2]
        simpa using h2 k _ _ e2 e1
  rw [hr]
  exact ⟨fun ⟨⟨a, b⟩, c, d⟩ => ⟨a, b, c, d⟩, fun ⟨a, b, c, d⟩ => ⟨⟨a, b⟩, c, d⟩⟩
theorem ordered_eq (r : List TRoute) (n : List TNeigh) (f : List TFdb) : inOrderM r n f = orderedM r n f := by
  rw [Bool.eq_iff_iff, inOrder_ord, ordered_ord]
/-! the way -/
def zWay : Tweftref16_Way := ⟨zNeigh, zFdb, ⟨0, rfl⟩⟩
def stepWN (r : TRoute) (w : Tweftref16_Way) (e : TNeigh) : Tweftref16_Way := if e.IP.v == r.Via.v then ⟨e, w.F, ⟨1, rfl⟩⟩ else w
def stepWF (w : Tweftref16_Way) (e : TFdb) : Tweftref16_Way := if e.MAC = w.N.MAC then ⟨w.N, e, ⟨2, rfl⟩⟩ else w
@[irreducible] def wayNK (r : TRoute) (n : List TNeigh) : Tweftref16_Way := n.foldl (stepWN r) zWay
@[irreducible] def wayFK (w : Tweftref16_Way) (f : List TFdb) : Tweftref16_Way := f.foldl stepWF w
def wayRM (n : List TNeigh) (f : List TFdb) (r : TRoute) : Tweftref16_Way := if (wayNK r n).Count.v == 0 then wayNK r n else wayFK (wayNK r n) f
section
variable {r : TRoute} {n : List TNeigh} {f : List TFdb} {w : Tweftref16_Way} {k : Nat} {x : TNeigh} {y : TFdb}
end
theorem srt_tail {α κ : Type} [DecidableEq κ] {lt : κ → κ → Bool} {key : α → κ} {a : α} {l : List α} (h : Srt lt key (a :: l)) : Srt lt key l := (List.pairwise_cons.1 h).2
theorem lkp_cons_ne {α κ : Type} [DecidableEq κ] {lt : κ → κ → Bool} (O : KO κ lt) {key : α → κ} {a : α} {l : List α} (h : Srt lt key (a :: l)) : lkp key (key a) l = none := lkp_none O key (List.pairwise_cons.1 h).1
theorem wayNK_lkp {r : TRoute} : ∀ {n : List TNeigh}, Srt ltA kN n → ∀ w0 : Tweftref16_Way, n.foldl (stepWN r) w0 = match lkp kN r.Via n with
    | none => w0
    | some x => ⟨x, w0.F, ⟨1, rfl⟩⟩
  | [], _, w0 => rfl
  | e :: n, h, w0 => by
    rw [List.foldl_cons, wayNK_lkp (srt_tail h)]
    by_cases hk : e.IP = r.Via
    · have h1 := lkp_cons_ne koAddr h
      simp only [kN] at h1
      rw [hk] at h1
      have h2 : lkp kN r.Via (e :: n) = some e := by simp [lkp, kN, hk]
      rw [h2]
      have h3 : lkp kN r.Via n = none := h1
      rw [h3]
      simp [stepWN, hk]
    · have h2 : lkp kN r.Via (e :: n) = lkp kN r.Via n := by simp [lkp, kN, hk]
      rw [h2]
      have h3 : ¬ e.IP.v = r.Via.v := fun h => hk (Fx.ext h)
      simp [stepWN, h3]
theorem wayFK_lkp : ∀ {f : List TFdb}, Srt ltW kF f → ∀ w0 : Tweftref16_Way, f.foldl stepWF w0 = match lkp kF w0.N.MAC f with
    | none => w0
    | some x => ⟨w0.N, x, ⟨2, rfl⟩⟩
  | [], _, w0 => rfl
  | e :: f, h, w0 => by
    rw [List.foldl_cons, wayFK_lkp (srt_tail h)]
    by_cases hk : e.MAC = w0.N.MAC
    · have h3 : lkp kF w0.N.MAC f = none := by
        have h1 := lkp_cons_ne koMAC h
        rw [show kF e = w0.N.MAC from hk] at h1
        exact h1
      have h2 : lkp kF w0.N.MAC (e :: f) = some e := by simp [lkp, kF, hk]
      rw [h2]
      simp [stepWF, hk, h3]
    · have h2 : lkp kF w0.N.MAC (e :: f) = lkp kF w0.N.MAC f := by simp [lkp, kF, hk]
      rw [h2]
      simp [stepWF, hk]
theorem wayRM_lkp {r : TRoute} {n : List TNeigh} {f : List TFdb} (hn : Srt ltA kN n) (hf : Srt ltW kF f) : wayRM n f r = match lkp kN r.Via n with
    | none => zWay
    | some x => match lkp kF x.MAC f with
      | none => ⟨x, zFdb, ⟨1, rfl⟩⟩
      | some y => ⟨x, y, ⟨2, rfl⟩⟩ := by
  unfold wayRM wayNK wayFK
  rw [wayNK_lkp hn]
  cases h : lkp kN r.Via n with
  | none => rfl
  | some x =>
    simp only
    rw [wayFK_lkp hf]
    rfl
theorem wayM_lkp {r : TRoute} {n : List TNeigh} {f : List TFdb} (hn : Srt ltA kN n) (hf : Srt ltW kF f) : wayM n f r = match lkp kN r.Via n with
    | none => ⟨false, false, zMAC, ⟨0, rfl⟩⟩
    | some x => match lkp kF x.MAC f with
      | none => ⟨true, false, x.MAC, ⟨0, rfl⟩⟩
      | some y => ⟨true, true, x.MAC, y.To⟩ := by
  unfold wayM
  rw [hit_lkp koAddr kN cN1 cN0 hn, get_lkp koAddr kN cN1 cN0 hn]
  simp only [kN]
  cases h : lkp kN r.Via n with
  | none => rfl
  | some x =>
    simp only [Option.isSome_some, if_true, Option.getD_some]
    rw [hit_lkp koMAC kF cF1 cF0 hf, get_lkp koMAC kF cF1 cF0 hf]
    simp only [kF]
    cases h : lkp kF x.MAC f with
    | none => rfl
    | some y => rfl
theorem lkp_key {α κ : Type} [DecidableEq κ] {key : α → κ} {q : κ} {l : List α} {x : α} (h : lkp key q l = some x) : key x = q := by
  have := List.find?_some h
  simpa using this
theorem way_iff {r : TRoute} {n1 n2 : List TNeigh} {f1 f2 : List TFdb} (hn1 : Srt ltA kN n1) (hf1 : Srt ltW kF f1) (hn2 : Srt ltA kN n2) (hf2 : Srt ltW kF f2) : wayM n1 f1 r = wayM n2 f2 r ↔ wayRM n1 f1 r = wayRM n2 f2 r := by
  rw [wayM_lkp hn1 hf1, wayM_lkp hn2 hf2, wayRM_lkp hn1 hf1, wayRM_lkp hn2 hf2]
  have ex : ∀ {x1 x2 : TNeigh}, kN x1 = r.Via → kN x2 = r.Via → x1.MAC = x2.MAC → x1 = x2 := by
    rintro ⟨a, b⟩ ⟨c, d⟩ h1 h2 h3
    simp only [kN] at h1 h2 h3
    rw [h1, h2, h3]
  have ey : ∀ {m : TMAC} {y1 y2 : TFdb}, kF y1 = m → kF y2 = m → y1.To = y2.To → y1 = y2 := by
    rintro m ⟨a, b⟩ ⟨c, d⟩ h1 h2 h3
    simp only [kF] at h1 h2 h3
    rw [h1, h2, h3]
  cases h1 : lkp kN r.Via n1 with
  | none =>
    cases h2 : lkp kN r.Via n2 with
    | none => simp
    | some x2 =>
      simp only
      cases h4 : lkp kF x2.MAC f2 with
      | none => simp [zWay]; (repeat intro) <;> (rename_i hq; exact absurd (congrArg Fx.v hq) (by decide))
      | some y2 => simp [zWay]; (repeat intro) <;> (rename_i hq; exact absurd (congrArg Fx.v hq) (by decide))
  | some x1 =>
    cases h2 : lkp kN r.Via n2 with
    | none =>
      simp only
      cases h3 : lkp kF x1.MAC f1 with
      | none => simp [zWay]; (repeat intro) <;> (rename_i hq; exact absurd (congrArg Fx.v hq) (by decide))
      | some y1 => simp [zWay]; (repeat intro) <;> (rename_i hq; exact absurd (congrArg Fx.v hq) (by decide))
    | some x2 =>
      simp only
      have e1 := lkp_key h1
      have e2 := lkp_key h2
      cases h3 : lkp kF x1.MAC f1 with
      | none =>
        cases h4 : lkp kF x2.MAC f2 with
        | none =>
          simp only [Tagent_way.mk.injEq, Tweftref16_Way.mk.injEq, true_and, and_true]
          exact ⟨fun h => ex e1 e2 h, fun h => by rw [h]⟩
        | some y2 => simp; (repeat intro) <;> (rename_i hq; exact absurd (congrArg Fx.v hq) (by decide))
      | some y1 =>
        cases h4 : lkp kF x2.MAC f2 with
        | none => simp; (repeat intro) <;> (rename_i hq; exact absurd (congrArg Fx.v hq) (by decide))
        | some y2 =>
          simp only [Tagent_way.mk.injEq, Tweftref16_Way.mk.injEq, true_and, and_true]
          have e3 := lkp_key h3
          have e4 := lkp_key h4
          constructor
          · rintro ⟨a, b⟩
            refine ⟨ex e1 e2 a, ey (m := x1.MAC) e3 (by rw [e4, a]) b⟩
          · rintro ⟨a, b⟩
            exact ⟨by rw [a], by rw [b]⟩
section
variable {n : List TNeigh} {f : List TFdb} {r : TRoute} {k : Nat}
end
def staysR (n1 : List TNeigh) (f1 : List TFdb) (r2 : List TRoute) (n2 : List TNeigh) (f2 : List TFdb) (r : TRoute) : Bool := decide (r ∈ r2) && (r.Local || decide (wayRM n1 f1 r = wayRM n2 f2 r))
theorem stays_eq {r1 r2 : List TRoute} {n1 n2 : List TNeigh} {f1 f2 : List TFdb} (h1 : Ord r1 n1 f1) (h2 : Ord r2 n2 f2) (r : TRoute) : staysM n1 f1 r2 n2 f2 r = staysR n1 f1 r2 n2 f2 r := by
  unfold staysM staysR
  have hw := way_iff (r := r) h1.neighs h1.fdbs h2.neighs h2.fdbs
  have e1 : decide (wayM n1 f1 r = wayM n2 f2 r) = decide (wayRM n1 f1 r = wayRM n2 f2 r) := by
    rw [Bool.eq_iff_iff]
    simpa using hw
  rw [e1]
  have e2 : (bsHit cmpRoute r2 r && decide (getM cmpRoute zRoute r2 r = r)) = decide (r ∈ r2) := by
    have := lacks_mem koPrefix kR cR1 cR0 (x := r) (z := zRoute) h2.routes
    unfold lacksM at this
    cases hb : bsHit cmpRoute r2 r with
    | false =>
      rw [hb] at this
      simp at this
      simp [this]
    | true =>
      rw [hb] at this
      simp at this
      by_cases hm : r ∈ r2
      · simp [hm] at this ⊢
        exact this
      · simp [hm] at this ⊢
        exact this
  rw [e2]
def diffRL (r1 : List TRoute) (n1 : List TNeigh) (f1 : List TFdb) (r2 : List TRoute) (n2 : List TNeigh) (f2 : List TFdb) : List TOp :=
  pickM (fun e => !staysR n1 f1 r2 n2 f2 e && (e.Local == true)) delR r1 ++ pickM (fun e => !staysR n1 f1 r2 n2 f2 e && (e.Local == false)) delR r1 ++ pickM (fun e => !decide (e ∈ n2)) delN n1 ++ pickM (fun e => !decide (e ∈ f2)) delF f1
    ++ pickM (fun e => !decide (e ∈ f1)) putF f2 ++ pickM (fun e => !decide (e ∈ n1)) putNe n2 ++ pickM (fun e => !decide (e ∈ r1) || !staysR n1 f1 r2 n2 f2 e) putR r2
def diffRBad (r1 : List TRoute) (n1 : List TNeigh) (f1 : List TFdb) (r2 : List TRoute) (n2 : List TNeigh) (f2 : List TFdb) : Bool := !orderedM r1 n1 f1 || !orderedM r2 n2 f2
def diffRM (r1 : List TRoute) (n1 : List TNeigh) (f1 : List TFdb) (r2 : List TRoute) (n2 : List TNeigh) (f2 : List TFdb) : List TOp := if diffRBad r1 n1 f1 r2 n2 f2 then [] else diffRL r1 n1 f1 r2 n2 f2
def diffRE (r1 : List TRoute) (n1 : List TNeigh) (f1 : List TFdb) (r2 : List TRoute) (n2 : List TNeigh) (f2 : List TFdb) : Int := if diffRBad r1 n1 f1 r2 n2 f2 then 161 else 0
theorem bad_eq (r1 : List TRoute) (n1 : List TNeigh) (f1 : List TFdb) (r2 : List TRoute) (n2 : List TNeigh) (f2 : List TFdb) : diffBad r1 n1 f1 r2 n2 f2 = diffRBad r1 n1 f1 r2 n2 f2 := by
  unfold diffBad diffRBad
  rw [ordered_eq, ordered_eq]
theorem diffE_eq (r1 : List TRoute) (n1 : List TNeigh) (f1 : List TFdb) (r2 : List TRoute) (n2 : List TNeigh) (f2 : List TFdb) : diffE r1 n1 f1 r2 n2 f2 = diffRE r1 n1 f1 r2 n2 f2 := by
  unfold diffE diffRE
  rw [bad_eq]
theorem diffM_eq (r1 : List TRoute) (n1 : List TNeigh) (f1 : List TFdb) (r2 : List TRoute) (n2 : List TNeigh) (f2 : List TFdb) : diffM r1 n1 f1 r2 n2 f2 = diffRM r1 n1 f1 r2 n2 f2 := by
  unfold diffM diffRM
  rw [bad_eq]
  cases hb : diffRBad r1 n1 f1 r2 n2 f2 with
  | true => rfl
  | false =>
    simp only [diffRBad, Bool.or_eq_false_iff, Bool.not_eq_false'] at hb
    have h1 := ordered_ord.1 hb.1
    have h2 := ordered_ord.1 hb.2
    simp only [Bool.false_eq_true, if_false]
    unfold diffL diffRL
    have s := stays_eq h1 h2
    have l1 := fun e => lacks_mem koAddr kN cN1 cN0 (x := e) (z := zNeigh) h1.neighs
    have l2 := fun e => lacks_mem koAddr kN cN1 cN0 (x := e) (z := zNeigh) h2.neighs
    have l3 := fun e => lacks_mem koMAC kF cF1 cF0 (x := e) (z := zFdb) h1.fdbs
    have l4 := fun e => lacks_mem koMAC kF cF1 cF0 (x := e) (z := zFdb) h2.fdbs
    have l5 := fun e => lacks_mem koPrefix kR cR1 cR0 (x := e) (z := zRoute) h1.routes
    simp only [s, l1, l2, l3, l4, l5, Bool.and_comm]
/-! the walks' words -/
section
variable {r1 r2 : List TRoute} {n1 n2 : List TNeigh} {f1 f2 : List TFdb} {k : Nat}
theorem diffM_bad (h : (!inOrderM r1 n1 f1 || !inOrderM r2 n2 f2) = true) : ([] : List TOp) = diffM r1 n1 f1 r2 n2 f2 := by
  unfold diffM diffBad; rw [h]; rfl
theorem diffE_bad (h : (!inOrderM r1 n1 f1 || !inOrderM r2 n2 f2) = true) : (161 : Int) = diffE r1 n1 f1 r2 n2 f2 := by
  unfold diffE diffBad; rw [h]; rfl
theorem diffE_ok (h : (!inOrderM r1 n1 f1 || !inOrderM r2 n2 f2) = false) : (0 : Int) = diffE r1 n1 f1 r2 n2 f2 := by
  unfold diffE diffBad; rw [h]; rfl
theorem diffM_ok (h : (!inOrderM r1 n1 f1 || !inOrderM r2 n2 f2) = false) (hk : r2.length ≤ k) :
    ([] : List TOp) ++ pickM (fun e => (e.Local == true) && !staysM n1 f1 r2 n2 f2 e) delR r1 ++ pickM (fun e => (e.Local == false) && !staysM n1 f1 r2 n2 f2 e) delR r1 ++ pickM (fun e => lacksM cmpNeigh zNeigh n2 e) delN n1 ++ pickM (fun e => lacksM cmpFdb zFdb f2 e) delF f1
    ++ pickM (fun e => lacksM cmpFdb zFdb f1 e) putF f2 ++ pickM (fun e => lacksM cmpNeigh zNeigh n1 e) putNe n2 ++ pickM (fun e => lacksM cmpRoute zRoute r1 e || !staysM n1 f1 r2 n2 f2 e) putR (r2.take k) = diffM r1 n1 f1 r2 n2 f2 := by
  unfold diffM diffBad; rw [h, List.take_of_length_le hk]; rfl
theorem diffRM_bad (h : (!orderedM r1 n1 f1 || !orderedM r2 n2 f2) = true) : ([] : List TOp) = diffRM r1 n1 f1 r2 n2 f2 := by
  unfold diffRM diffRBad; rw [h]; rfl
theorem diffRE_bad (h : (!orderedM r1 n1 f1 || !orderedM r2 n2 f2) = true) : (161 : Int) = diffRE r1 n1 f1 r2 n2 f2 := by
  unfold diffRE diffRBad; rw [h]; rfl
end
section
variable {α : Type} [DecidableEq α] {l : List α} {k : Nat} {e q : α}
end
section
variable {r : List TRoute} {n : List TNeigh} {f : List TFdb} {k : Nat} {e e' : TRoute} {x x' : TNeigh} {y y' : TFdb}
theorem ordAt_v (h : r[k]? = some e) (hv : (!validR e.Dst) = true) : ordAt r k = false := by
  simp only [ordAt, h]
  simp at hv
  simp [hv]
theorem ordAt_l (h : r[k]? = some e) (h' : r[((k : Int) - 1).toNat]? = some e') (hk : (0 : Int) < (k : Int)) (hl : (!lowerM e'.Dst e.Dst) = true) : ordAt r k = false := by
  rw [show ((k : Int) - 1).toNat = k - 1 by omega] at h'
  simp only [ordAt, h, h']
  simp at hl
  have : ¬ k = 0 := by omega
  simp [hl, this]
theorem ordAt_t0 (h : r[k]? = some e) (hv : (!validR e.Dst) = false) (hk : ¬ (0 : Int) < (k : Int)) : ordAt r k = true := by
  simp only [ordAt, h]
  simp at hv
  have : k = 0 := by omega
  simp [hv, this]
theorem ordAt_t1 (h : r[k]? = some e) (h' : r[((k : Int) - 1).toNat]? = some e') (hv : (!validR e.Dst) = false) (hk : (0 : Int) < (k : Int)) (hl : (!lowerM e'.Dst e.Dst) = false) : ordAt r k = true := by
  rw [show ((k : Int) - 1).toNat = k - 1 by omega] at h'
  simp only [ordAt, h, h']
  simp at hl hv
  simp [hl, hv]
theorem ipAt_eq (h : n[k]? = some x) (h' : n[((k : Int) - 1).toNat]? = some x') (hk : 1 ≤ k) : ipAt n k = decide (x'.IP.v < x.IP.v) := by
  rw [show ((k : Int) - 1).toNat = k - 1 by omega] at h'
  have : ¬ k = 0 := by omega
  simp [ipAt, h, h', this]
theorem wtAt_eq (h : f[k]? = some y) (h' : f[((k : Int) - 1).toNat]? = some y') (hk : 1 ≤ k) : wtAt f k = decide (weightM y'.MAC < weightM y.MAC) := by
  rw [show ((k : Int) - 1).toNat = k - 1 by omega] at h'
  have : ¬ k = 0 := by omega
  simp [wtAt, h, h', this]
theorem allK_le {g : Nat → Bool} {a b : Nat} (h : a ≤ b) (hb : allK g b = true) : allK g a = true := allK_all.2 fun k hk => allK_all.1 hb k (by omega)
theorem ordered_f0 (hk : k < r.length) (h : ordAt r k = false) : false = orderedM r n f := by
  simp [orderedM, allK_false hk h]
theorem ordered_f1 (hk : k < n.length) (h : ipAt n k = false) : false = orderedM r n f := by
  simp [orderedM, allK_false hk h]
theorem ordered_f2 (hk : k < f.length) (h : wtAt f k = false) : false = orderedM r n f := by
  simp [orderedM, allK_false hk h]
theorem ordered_t (h1 : allK (ordAt r) r.length = true) (h2 : allK (ipAt n) n.length = true) (h3 : allK (wtAt f) f.length = true) : true = orderedM r n f := by
  simp [orderedM, h1, h2, h3]
end
/-! marks behind lists -/
section
variable {α : Type} {mk : Fx .u32 → α} {l : List α} {k : Nat}
end
end Go.Proofs.YtnbpodjbemfpbaaGreat.Fw
