/-
  Plain laws of AgentDiffLeads: one change carried out, the others are left.
-/
import Derived.Test.YtnbpodjbemfpbaaGreatPl6
set_option linter.all false
namespace Go.Proofs.YtnbpodjbemfpbaaGreat.Fw
open Go
/-! a list behind a change -/
def insB {α : Type} (lw eq : α → Bool) (x : α) : List α → Bool → List α
  | [], p => if p then [x] else []
  | e :: l, p => (if p && lw e then [x] else []) ++ ((if eq e then [] else [e]) ++ insB lw eq x l (p && !lw e))
def rm {α κ : Type} [DecidableEq κ] (key : α → κ) (q : κ) (l : List α) : List α := l.filter fun e => !decide (key e = q)
theorem insB_false {α : Type} {lw eq : α → Bool} {x : α} : ∀ l : List α, insB lw eq x l false = l.filter fun e => !eq e
  | [] => rfl
  | e :: l => by
    simp only [insB, Bool.false_and, Bool.false_eq_true, if_false, List.nil_append, insB_false l, List.filter_cons]
    cases eq e <;> simp
section
variable {α κ : Type} [DecidableEq κ] {lt : κ → κ → Bool} (O : KO κ lt) (key : α → κ)
include O in
theorem insB_put {x : α} : ∀ {l : List α}, Srt lt key l → insB (fun e => lt (key x) (key e)) (fun e => decide (key e = key x)) x l true = put lt key x l
  | [], _ => rfl
  | e :: l, h => by
    have h' := List.pairwise_cons.1 h
    simp only [insB, put, Bool.true_and]
    cases hl : lt (key x) (key e) with
    | true =>
      have hne : key e ≠ key x := fun hk => by rw [hk, O.irr] at hl; cases hl
      have hf : (l.filter fun e => !decide (key e = key x)) = l := by
        rw [List.filter_eq_self]
        intro y hy
        have := O.tr _ _ _ hl (h'.1 y hy)
        have hne : key y ≠ key x := fun hk => by rw [hk, O.irr] at this; cases this
        simp [hne]
      simp [hne, insB_false, hf]
    | false =>
      by_cases hk : key e = key x
      · have hb : ∀ m : List α, (∀ y ∈ m, lt (key x) (key y) = true) → insB (fun e => lt (key x) (key e)) (fun e => decide (key e = key x)) x m true = x :: m := by
          intro m hm
          cases m with
          | nil => rfl
          | cons y m =>
            have hy := hm y (by simp)
            have hyne : key y ≠ key x := fun hk => by rw [hk, O.irr] at hy; cases hy
            have hf : (m.filter fun e => !decide (key e = key x)) = m := by
              rw [List.filter_eq_self]
              intro z hz
              have := hm z (by simp [hz])
              have hne : key z ≠ key x := fun hk => by rw [hk, O.irr] at this; cases this
              simp [hne]
            simp [insB, hy, hyne, insB_false, hf]
        have hbl := hb l (fun y hy => by rw [← hk]; exact h'.1 y hy)
        simp only [Bool.not_false, hbl]
        simp [hk]
      · simp [hk, insB_put h'.2]
theorem rm_mem {q : κ} {l : List α} {e : α} : e ∈ rm key q l ↔ e ∈ l ∧ key e ≠ q := by simp [rm]
theorem rm_srt {q : κ} {l : List α} (h : Srt lt key l) : Srt lt key (rm key q l) := List.Pairwise.filter _ h
theorem rm_len {q : κ} {l : List α} : (rm key q l).length ≤ l.length := List.length_filter_le _ _
theorem rm_lkp {q q' : κ} : ∀ {l : List α}, lkp key q' (rm key q l) = if q' = q then none else lkp key q' l
  | [] => by simp [rm, lkp]
  | e :: l => by
    have ih := rm_lkp (q := q) (q' := q') (l := l)
    unfold rm lkp at ih ⊢
    rw [List.filter_cons]
    by_cases hk : key e = q
    · simp only [hk, decide_true, Bool.not_true, Bool.false_eq_true, if_false, ih, List.find?_cons]
      by_cases hq : q' = q
      · simp [hq]
      · have : ¬ q = q' := fun h => hq h.symm
        simp [hq, this]
    · simp only [hk, decide_false, Bool.not_false, if_true, List.find?_cons, ih]
      by_cases hq : q' = q
      · subst hq; simp [hk]
      · simp [hq]
include O in
theorem same_key {l : List α} (h : Srt lt key l) {x y : α} (hx : x ∈ l) (hy : y ∈ l) (hk : key x = key y) : x = y := by
  have h1 := (mem_lkp O key h).1 hx
  have h2 := (mem_lkp O key h).1 hy
  rw [hk, h2] at h1
  exact (Option.some.inj h1).symm
include O in
theorem put_mem_iff {l : List α} (h : Srt lt key l) {x e : α} : e ∈ put lt key x l ↔ e = x ∨ (e ∈ l ∧ key e ≠ key x) := by
  rw [mem_lkp O key (put_srt O key (x := x) h), put_lkp O key h]
  by_cases hk : key x = key e
  · simp only [hk, if_true, Option.some.injEq]
    constructor
    · intro h; exact .inl h.symm
    · rintro (rfl | ⟨_, h⟩)
      · rfl
      · exact absurd rfl h
  · simp only [hk, if_false, ← mem_lkp O key h]
    constructor
    · intro h; exact .inr ⟨h, fun h => hk h.symm⟩
    · rintro (rfl | ⟨h, _⟩)
      · exact absurd rfl hk
      · exact h
include O in
theorem srt_sub_len : ∀ {m l : List α}, Srt lt key l → Srt lt key m → (∀ e ∈ l, e ∈ m) → l.length ≤ m.length
  | [], l, _, _, h => by
    cases l with
    | nil => simp
    | cons a l => cases h a (by simp)
  | b :: m, l, hl, hm, h => by
    have hm' := List.pairwise_cons.1 hm
    cases l with
    | nil => simp
    | cons a l =>
      have hl' := List.pairwise_cons.1 hl
      by_cases hab : a = b
      · subst hab
        have := srt_sub_len (m := m) (l := l) hl'.2 hm'.2 fun e he => by
          rcases List.mem_cons.1 (h e (by simp [he])) with rfl | hh
          · have := hl'.1 e he
            rw [O.irr] at this
            cases this
          · exact hh
        simp only [List.length_cons]; omega
      · have := srt_sub_len (m := m) (l := a :: l) hl hm'.2 fun e he => by
          rcases List.mem_cons.1 (h e he) with rfl | hh
          · rcases List.mem_cons.1 he with rfl | he'
            · exact absurd rfl hab
            · rcases List.mem_cons.1 (h a (by simp)) with rfl | ha
              · exact absurd rfl hab
              · have h1 := hl'.1 e he'
                have h2 := hm'.1 a ha
                have h3 := O.tr _ _ _ h1 h2
                rw [O.irr] at h3
                cases h3
          · exact hh
        simp only [List.length_cons] at this ⊢; omega
include O in
theorem srt_eq {l m : List α} (hl : Srt lt key l) (hm : Srt lt key m) (h1 : ∀ e ∈ l, e ∈ m) (h2 : ∀ e ∈ m, e ∈ l) : l = m := by
  refine srt_ext O key hl hm fun q => ?_
  cases hq : lkp key q l with
  | some x =>
    have hx := h1 x (List.mem_of_find?_eq_some hq)
    have hk : key x = q := lkp_key hq
    rw [← hk]
    exact ((mem_lkp O key hm).1 hx).symm
  | none =>
    cases hq2 : lkp key q m with
    | none => rfl
    | some x =>
      have hx := h2 x (List.mem_of_find?_eq_some hq2)
      have hk : key x = q := lkp_key hq2
      rw [← hk] at hq
      rw [(mem_lkp O key hl).1 hx] at hq
      cases hq
end
/-! picked lists -/
section
variable {α : Type} {p q : α → Bool} {g : α → TOp}
theorem pick_cons {a : α} {l : List α} : pickM p g (a :: l) = if p a then g a :: pickM p g l else pickM p g l := by
  unfold pickM
  rw [List.filterMap_cons]
  cases p a <;> rfl
theorem pick_congr : ∀ {l : List α}, (∀ e ∈ l, p e = q e) → pickM p g l = pickM q g l
  | [], _ => rfl
  | a :: l, h => by rw [pick_cons, pick_cons, h a (by simp), pick_congr fun e he => h e (by simp [he])]
theorem pick_nil : ∀ {l : List α}, pickM p g l = [] ↔ ∀ e ∈ l, p e = false
  | [] => by simp [pickM]
  | a :: l => by
    rw [pick_cons]
    cases ha : p a with
    | true => simp [ha]
    | false => simp [ha, pick_nil]
theorem pick_mem {o : TOp} {l : List α} : o ∈ pickM p g l ↔ ∃ e ∈ l, p e = true ∧ g e = o := by
  unfold pickM
  rw [List.mem_filterMap]
  constructor
  · rintro ⟨e, he, h⟩
    cases hp : p e with
    | true => rw [hp] at h; exact ⟨e, he, hp, by simpa using h⟩
    | false => rw [hp] at h; cases h
  · rintro ⟨e, he, hp, h⟩
    exact ⟨e, he, by rw [hp]; simpa using h⟩
theorem pick_put [DecidableEq α] {o : TOp} {rest : List TOp} : ∀ {m : List α}, m.Nodup → pickM p g m = o :: rest → ∃ x ∈ m, p x = true ∧ o = g x ∧ ∀ p' : α → Bool, (∀ e ∈ m, p' e = (p e && !decide (e = x))) → pickM p' g m = rest
  | [], _, h => by cases h
  | a :: m, hn, h => by
    rw [pick_cons] at h
    have hn' := List.nodup_cons.1 hn
    cases ha : p a with
    | true =>
      rw [ha] at h
      simp only [if_true, List.cons.injEq] at h
      refine ⟨a, by simp, ha, h.1.symm, fun p' hp' => ?_⟩
      rw [pick_cons, hp' a (by simp)]
      simp only [decide_true, Bool.not_true, Bool.and_false, Bool.false_eq_true, if_false]
      rw [← h.2]
      refine pick_congr fun e he => ?_
      rw [hp' e (by simp [he])]
      have : e ≠ a := fun h => hn'.1 (h ▸ he)
      simp [this]
    | false =>
      rw [ha] at h
      simp only [Bool.false_eq_true, if_false] at h
      obtain ⟨x, hx, h1, h2, h3⟩ := pick_put hn'.2 h
      refine ⟨x, by simp [hx], h1, h2, fun p' hp' => ?_⟩
      rw [pick_cons, hp' a (by simp), ha]
      simp only [Bool.false_and, Bool.false_eq_true, if_false]
      exact h3 p' fun e he => hp' e (by simp [he])
variable {κ : Type} [DecidableEq κ] {lt : κ → κ → Bool} (O : KO κ lt) (key : α → κ)
include O in
theorem pick_del {o : TOp} {rest : List TOp} : ∀ {l : List α}, Srt lt key l → pickM p g l = o :: rest → ∃ x ∈ l, p x = true ∧ o = g x ∧ pickM p g (rm key (key x) l) = rest
  | [], _, h => by cases h
  | a :: l, hs, h => by
    rw [pick_cons] at h
    have hs' := List.pairwise_cons.1 hs
    cases ha : p a with
    | true =>
      rw [ha] at h
      simp only [if_true, List.cons.injEq] at h
      refine ⟨a, by simp, ha, h.1.symm, ?_⟩
      have : rm key (key a) (a :: l) = l := by
        unfold rm
        rw [List.filter_cons]
        simp only [decide_true, Bool.not_true, Bool.false_eq_true, if_false]
        rw [List.filter_eq_self]
        intro y hy
        have h1 := hs'.1 y hy
        have hne : key y ≠ key a := fun hk => by rw [hk, O.irr] at h1; cases h1
        simp [hne]
      rw [this, h.2]
    | false =>
      rw [ha] at h
      simp only [Bool.false_eq_true, if_false] at h
      obtain ⟨x, hx, h1, h2, h3⟩ := pick_del hs'.2 h
      refine ⟨x, by simp [hx], h1, h2, ?_⟩
      have h4 := hs'.1 x hx
      have hne : key a ≠ key x := fun hk => by rw [hk, O.irr] at h4; cases h4
      have : rm key (key x) (a :: l) = a :: rm key (key x) l := by simp [rm, List.filter_cons, hne]
      rw [this, pick_cons, ha]
      simpa using h3
include O in
theorem pick_rm {l : List α} (hs : Srt lt key l) {x : α} (hx : x ∈ l) (hp : p x = false) : pickM p g (rm key (key x) l) = pickM p g l := by
  induction l with
  | nil => rfl
  | cons a l ih =>
    have hs' := List.pairwise_cons.1 hs
    by_cases hk : key a = key x
    · have hax : a = x := same_key O key hs (by simp) hx hk
      subst hax
      have : rm key (key a) (a :: l) = l := by
        unfold rm
        rw [List.filter_cons]
        simp only [decide_true, Bool.not_true, Bool.false_eq_true, if_false]
        rw [List.filter_eq_self]
        intro y hy
        have h1 := hs'.1 y hy
        have hne : key y ≠ key a := fun hk => by rw [hk, O.irr] at h1; cases h1
        simp [hne]
      rw [this, pick_cons, hp]
      rfl
    · have hx' : x ∈ l := by
        rcases List.mem_cons.1 hx with rfl | h
        · exact absurd rfl hk
        · exact h
      have : rm key (key x) (a :: l) = a :: rm key (key x) l := by simp [rm, List.filter_cons, hk]
      rw [this, pick_cons, pick_cons, ih hs'.2 hx']
end
/-! ways -/
def wayC (n : List TNeigh) (f : List TFdb) (r : TRoute) : Option (TNeigh × Option TFdb) := (lkp kN r.Via n).map fun x => (x, lkp kF x.MAC f)
theorem wayC_iff {r : TRoute} {n1 n2 : List TNeigh} {f1 f2 : List TFdb} (hn1 : Srt ltA kN n1) (hf1 : Srt ltW kF f1) (hn2 : Srt ltA kN n2) (hf2 : Srt ltW kF f2) : wayRM n1 f1 r = wayRM n2 f2 r ↔ wayC n1 f1 r = wayC n2 f2 r := by
  rw [wayRM_lkp hn1 hf1, wayRM_lkp hn2 hf2]
  have hb : ∀ {x : TNeigh} {n : List TNeigh}, lkp kN r.Via n = some x → kN x = r.Via := fun h => lkp_key h
  unfold wayC
  cases h1 : lkp kN r.Via n1 with
  | none =>
    cases h2 : lkp kN r.Via n2 with
    | none => simp
    | some x2 =>
      simp only [Option.map_none, Option.map_some, reduceCtorEq, iff_false]
      cases h4 : lkp kF x2.MAC f2 with
      | none => intro h; exact absurd (congrArg (fun w : Tweftref16_Way => w.Count.v) h) (by simp [zWay])
      | some y2 => intro h; exact absurd (congrArg (fun w : Tweftref16_Way => w.Count.v) h) (by simp [zWay])
  | some x1 =>
    cases h2 : lkp kN r.Via n2 with
    | none =>
      simp only [Option.map_none, Option.map_some, reduceCtorEq, iff_false]
      cases h3 : lkp kF x1.MAC f1 with
      | none => intro h; exact absurd (congrArg (fun w : Tweftref16_Way => w.Count.v) h) (by simp [zWay])
      | some y1 => intro h; exact absurd (congrArg (fun w : Tweftref16_Way => w.Count.v) h) (by simp [zWay])
    | some x2 =>
      simp only [Option.map_some, Option.some.injEq, Prod.mk.injEq]
      cases h3 : lkp kF x1.MAC f1 with
      | none =>
        cases h4 : lkp kF x2.MAC f2 with
        | none => simp
        | some y2 =>
          simp only [reduceCtorEq, and_false, iff_false]
          intro h; exact absurd (congrArg (fun w : Tweftref16_Way => w.Count.v) h) (by simp)
      | some y1 =>
        cases h4 : lkp kF x2.MAC f2 with
        | none =>
          simp only [reduceCtorEq, and_false, iff_false]
          intro h; exact absurd (congrArg (fun w : Tweftref16_Way => w.Count.v) h) (by simp)
        | some y2 => simp
def stT (t w : TB) (r : TRoute) : Bool := staysR t.N t.F w.R w.N w.F r
def OrdT (t : TB) : Prop := Ord t.R t.N t.F
theorem stT_iff {t w : TB} (ht : OrdT t) (hw : OrdT w) {r : TRoute} : stT t w r = true ↔ r ∈ w.R ∧ (r.Local = true ∨ wayC t.N t.F r = wayC w.N w.F r) := by
  unfold stT staysR
  simp only [Bool.and_eq_true, Bool.or_eq_true, decide_eq_true_eq]
  rw [wayC_iff ht.neighs ht.fdbs hw.neighs hw.fdbs]
def g1 (t w : TB) : List TOp := pickM (fun e => !stT t w e && (e.Local == true)) delR t.R
def g2 (t w : TB) : List TOp := pickM (fun e => !stT t w e && (e.Local == false)) delR t.R
def g3 (t w : TB) : List TOp := pickM (fun e => !decide (e ∈ w.N)) delN t.N
def g4 (t w : TB) : List TOp := pickM (fun e => !decide (e ∈ w.F)) delF t.F
def g5 (t w : TB) : List TOp := pickM (fun e => !decide (e ∈ t.F)) putF w.F
def g6 (t w : TB) : List TOp := pickM (fun e => !decide (e ∈ t.N)) putNe w.N
def g7 (t w : TB) : List TOp := pickM (fun e => !decide (e ∈ t.R) || !stT t w e) putR w.R
def dl (t w : TB) : List TOp := g1 t w ++ (g2 t w ++ (g3 t w ++ (g4 t w ++ (g5 t w ++ (g6 t w ++ g7 t w)))))
theorem dl_eq {t w : TB} (ht : OrdT t) (hw : OrdT w) : diffM t.R t.N t.F w.R w.N w.F = dl t w := by
  rw [diffM_eq]
  have h1 := ordered_ord.2 ht
  have h2 := ordered_ord.2 hw
  unfold diffRM diffRBad
  rw [h1, h2]
  simp only [Bool.not_true, Bool.or_false, Bool.false_eq_true, if_false]
  unfold diffRL dl g1 g2 g3 g4 g5 g6 g7 stT
  simp only [List.append_assoc]
theorem dlE {t w : TB} (ht : OrdT t) (hw : OrdT w) : diffE t.R t.N t.F w.R w.N w.F = 0 := by
  rw [diffE_eq]
  have h1 := ordered_ord.2 ht
  have h2 := ordered_ord.2 hw
  unfold diffRE diffRBad
  rw [h1, h2]
  rfl
def afterT (t : TB) (o : TOp) : TB :=
  if o.Kind.v == 1 || o.Kind.v == 2 then ⟨insB (fun e => lowerM o.Route.Dst e.Dst) (fun e => decide (e.Dst = o.Route.Dst)) o.Route t.R (o.Kind.v == 1), t.N, t.F⟩
  else if o.Kind.v == 3 || o.Kind.v == 4 then ⟨t.R, insB (fun e => decide (o.Neigh.IP.v < e.IP.v)) (fun e => e.IP.v == o.Neigh.IP.v) o.Neigh t.N (o.Kind.v == 3), t.F⟩
  else if o.Kind.v == 5 || o.Kind.v == 6 then ⟨t.R, t.N, insB (fun e => decide (weightM o.Fdb.MAC < weightM e.MAC)) (fun e => decide (e.MAC = o.Fdb.MAC)) o.Fdb t.F (o.Kind.v == 5)⟩
  else t
section
variable {t w : TB} {r : TRoute} {x : TNeigh} {y : TFdb}
theorem after_delR : afterT t (delR r) = ⟨rm kR r.Dst t.R, t.N, t.F⟩ := by
  show (⟨insB _ _ r t.R false, t.N, t.F⟩ : TB) = _
  rw [insB_false]; rfl
theorem after_putR (h : OrdT t) : afterT t (putR r) = ⟨put lowerM kR r t.R, t.N, t.F⟩ := by
  show (⟨insB (fun e => lowerM r.Dst e.Dst) (fun e => decide (e.Dst = r.Dst)) r t.R true, t.N, t.F⟩ : TB) = _
  rw [insB_put koPrefix kR h.routes]
theorem ip_eq (e : TNeigh) : (e.IP.v == x.IP.v) = decide (e.IP = x.IP) := by
  by_cases h : e.IP = x.IP
  · simp [h]
  · have : ¬ e.IP.v = x.IP.v := fun hv => h (Fx.ext hv)
    simp [h, this]
theorem after_delN : afterT t (delN x) = ⟨t.R, rm kN x.IP t.N, t.F⟩ := by
  show (⟨t.R, insB _ (fun e => e.IP.v == x.IP.v) x t.N false, t.F⟩ : TB) = _
  rw [insB_false]
  simp only [ip_eq]
  rfl
theorem after_putN (h : OrdT t) : afterT t (putNe x) = ⟨t.R, put ltA kN x t.N, t.F⟩ := by
  show (⟨t.R, insB (fun e => decide (x.IP.v < e.IP.v)) (fun e => e.IP.v == x.IP.v) x t.N true, t.F⟩ : TB) = _
  simp only [ip_eq]
  rw [show insB (fun e => decide (x.IP.v < e.IP.v)) (fun e => decide (e.IP = x.IP)) x t.N true = put ltA kN x t.N from insB_put koAddr kN h.neighs]
theorem after_delF : afterT t (delF y) = ⟨t.R, t.N, rm kF y.MAC t.F⟩ := by
  show (⟨t.R, t.N, insB _ _ y t.F false⟩ : TB) = _
  rw [insB_false]; rfl
theorem after_putF (h : OrdT t) : afterT t (putF y) = ⟨t.R, t.N, put ltW kF y t.F⟩ := by
  show (⟨t.R, t.N, insB (fun e => decide (weightM y.MAC < weightM e.MAC)) (fun e => decide (e.MAC = y.MAC)) y t.F true⟩ : TB) = _
  rw [show insB (fun e => decide (weightM y.MAC < weightM e.MAC)) (fun e => decide (e.MAC = y.MAC)) y t.F true = put ltW kF y t.F from insB_put koMAC kF h.fdbs]
end
def wholeT (t : TB) : Prop := ∀ e ∈ t.R, e.Local = true ∨ ∃ x y, wayC t.N t.F e = some (x, some y)
theorem wholeT_iff {t : TB} (ht : OrdT t) : wholeM t.R t.N t.F = true ↔ wholeT t := by
  unfold wholeM wholeT
  rw [List.all_eq_true]
  refine forall_congr' fun e => forall_congr' fun he => ?_
  unfold wholeE
  rw [Bool.or_eq_true, List.any_eq_true]
  refine or_congr Iff.rfl ?_
  unfold wholeN wayC
  constructor
  · rintro ⟨x, hx, h⟩
    simp only [Bool.and_eq_true, beq_iff_eq, List.any_eq_true, decide_eq_true_eq] at h
    obtain ⟨h1, y, hy, h2⟩ := h
    have h1' : x.IP = e.Via := Fx.ext h1
    have l1 := (mem_lkp koAddr kN ht.neighs).1 hx
    have l2 := (mem_lkp koMAC kF ht.fdbs).1 hy
    simp only [kN, kF] at l1 l2
    rw [h1'] at l1
    rw [h2] at l2
    exact ⟨x, y, by rw [l1]; simp [l2]⟩
  · rintro ⟨x, y, h⟩
    cases hl : lkp kN e.Via t.N with
    | none => rw [hl] at h; cases h
    | some z =>
      rw [hl] at h
      simp only [Option.map_some, Option.some.injEq, Prod.mk.injEq] at h
      obtain ⟨rfl, h2⟩ := h
      have k1 : kN z = e.Via := lkp_key hl
      have k2 : kF y = z.MAC := lkp_key h2
      refine ⟨z, List.mem_of_find?_eq_some hl, ?_⟩
      simp only [Bool.and_eq_true, beq_iff_eq, List.any_eq_true, decide_eq_true_eq]
      exact ⟨congrArg Fx.v k1, y, List.mem_of_find?_eq_some h2, k2⟩
end Go.Proofs.YtnbpodjbemfpbaaGreat.Fw
