/-
  The walker's own words: the state of a walk (slots, heap pieces) and one lemma for each kind of operation, over any program. By the session; nothing here is trusted.
-/
import Derived.Calls
import Derived.Tactics
import Derived.Deep.Quiet
import Derived.Below
set_option linter.unusedVariables false
set_option linter.all false
namespace Go.Proofs.YtnbpodjbemfpbaaGreat.Fw
open Go
/-! ### 1. Slots -/
def lk : List (Nat × Value) → Nat → Option Value
  | [], _ => none
  | (i, v) :: L, j => match Nat.beq i j with | true => some v | false => lk L j
theorem lk_hit (i : Nat) (v : Value) (L : List (Nat × Value)) : lk ((i, v) :: L) i = some v := by
  simp [lk]
theorem lk_miss {i j : Nat} (v : Value) (L : List (Nat × Value)) (h : i ≠ j) : lk ((i, v) :: L) j = lk L j := by
  have : Nat.beq i j = false := by
    cases hb : Nat.beq i j
    · rfl
    · exact absurd (Nat.eq_of_beq_eq_true hb) h
  simp [lk, this]
structure St (n : Nat) (L : List (Nat × Value)) (a : Act) : Prop where
  size : a.tmps.size = n
  nod : a.defers = []
  at_ : ∀ i v, lk L i = some v → a.tmps[i]? = some v
def ev (L : List (Nat × Value)) : Operand → Option Value
  | .tmp t => lk L t
  | .const v => some v
  | .global g => some (.pointer (some ⟨g, 0, none⟩))
  | .func f => some (.func (.func f) #[] #[])
def evs (L : List (Nat × Value)) : List Operand → Option (List Value)
  | [] => some []
  | o :: os => match ev L o, evs L os with
    | some v, some vs => some (v :: vs)
    | _, _ => none
def Evs (L : List (Nat × Value)) (a : Act) : Prop := ∀ x u, ev L x = some u → a.eval x = u
theorem St.evs {n : Nat} {L : List (Nat × Value)} {a : Act} (h : St n L a) : Evs L a := by
  intro x u hx
  cases x with
  | tmp t =>
    have := h.at_ t u hx
    simp [Act.eval, Array.getD_eq_getD_getElem?, this]
  | const v => simpa [ev, Act.eval] using hx
  | global g => simpa [ev, Act.eval] using hx
  | func f => simpa [ev, Act.eval] using hx
theorem St.put {n : Nat} {L : List (Nat × Value)} {a : Act} (h : St n L a) {d : Nat} {v : Value} (hd : Nat.blt d n = true) : St n ((d, v) :: L) (a.put (some d) v) := by
  have hlt : d < n := Nat.le_of_ble_eq_true hd
  refine ⟨by simp [Act.put, h.size], by simpa [Act.put] using h.nod, fun i u hu => ?_⟩
  by_cases e : d = i
  · subst e
    rw [lk_hit] at hu
    simp only [Option.some.injEq] at hu
    subst hu
    simp [Act.put, h.size, hlt]
  · rw [lk_miss _ _ e] at hu
    simp only [Act.put, Array.getElem?_setIfInBounds_ne e]
    exact h.at_ i u hu
theorem St.weak {n : Nat} {L L' : List (Nat × Value)} {a : Act} (h : St n L a) (hs : ∀ i v, lk L' i = some v → lk L i = some v) : St n L' a :=
  ⟨h.size, h.nod, fun i v hv => h.at_ i v (hs i v hv)⟩
def sub (L : List (Nat × Value)) : List (Nat × Value) → Prop
  | [] => True
  | (i, v) :: r => lk L i = some v ∧ sub L r
theorem sub_lk {L : List (Nat × Value)} : ∀ {L' : List (Nat × Value)}, sub L L' → ∀ i v, lk L' i = some v → lk L i = some v
  | [], _, i, v, h => by simp [lk] at h
  | (j, u) :: r, hs, i, v, h => by
    by_cases e : j = i
    · subst e
      rw [lk_hit] at h
      simp only [Option.some.injEq] at h
      subst h
      exact hs.1
    · rw [lk_miss _ _ e] at h
      exact sub_lk hs.2 i v h
theorem St.to {n : Nat} {L L' : List (Nat × Value)} {a : Act} (h : St n L a) (hs : sub L L') : St n L' a := h.weak (sub_lk hs)
/-! ### 2. The heap: pieces -/
abbrev Hh := Nat → Option Obj
abbrev HP := Hh → Prop
def hh (w : World) : Hh := fun i => w.heap[i]?
def hu (h g : Hh) : Hh := fun i => (h i).or (g i)
def hd (h g : Hh) : Prop := ∀ i, h i = none ∨ g i = none
def hone (b : Nat) (o : Obj) : Hh := fun i => if i = b then some o else none
def hle (h g : Hh) : Prop := ∀ i o, h i = some o → g i = some o
theorem hu_comm {h g : Hh} (d : hd h g) : hu h g = hu g h := by
  funext i
  rcases d i with e | e <;> simp [hu, e]
theorem hu_assoc (a b c : Hh) : hu (hu a b) c = hu a (hu b c) := by
  funext i
  simp only [hu]
  cases a i <;> simp
theorem hd_comm {h g : Hh} (d : hd h g) : hd g h := fun i => (d i).symm
theorem hd_hu_left {a b c : Hh} : hd (hu a b) c ↔ hd a c ∧ hd b c := by
  constructor
  · intro h
    refine ⟨fun i => ?_, fun i => ?_⟩
    · rcases h i with e | e
      · simp only [hu] at e; left; cases ha : a i <;> simp_all
      · exact .inr e
    · rcases h i with e | e
      · simp only [hu] at e; left; cases ha : a i <;> simp_all
      · exact .inr e
  · rintro ⟨h1, h2⟩ i
    rcases h1 i with e | e
    · rcases h2 i with f | f
      · left; simp [hu, e, f]
      · exact .inr f
    · exact .inr e
theorem hd_hu_right {a b c : Hh} : hd a (hu b c) ↔ hd a b ∧ hd a c :=
  ⟨fun h => let ⟨x, y⟩ := hd_hu_left.1 (hd_comm h); ⟨hd_comm x, hd_comm y⟩, fun ⟨x, y⟩ => hd_comm (hd_hu_left.2 ⟨hd_comm x, hd_comm y⟩)⟩
theorem hu_left {h g : Hh} {i : Nat} {o : Obj} (e : h i = some o) : hu h g i = some o := by simp [hu, e]
theorem hu_right {h g : Hh} (d : hd h g) {i : Nat} {o : Obj} (e : g i = some o) : hu h g i = some o := by
  rcases d i with f | f
  · simp [hu, e, f]
  · rw [e] at f; cases f
theorem hle_refl (h : Hh) : hle h h := fun _ _ e => e
theorem hle_trans {a b c : Hh} (h : hle a b) (k : hle b c) : hle a c := fun i o e => k i o (h i o e)
theorem hle_left (h g : Hh) : hle h (hu h g) := fun _ _ e => hu_left e
theorem hle_right {h g : Hh} (d : hd h g) : hle g (hu h g) := fun _ _ e => hu_right d e
def hnil : Hh := fun _ => none
theorem hu_nil (h : Hh) : hu hnil h = h := by funext i; simp [hu, hnil]
theorem hd_nil (h : Hh) : hd hnil h := fun _ => .inl rfl
def tru : HP := fun _ => True
def SepL : List HP → Hh → Prop
  | [], h => h = hnil
  | p :: ps, h => ∃ h1 h2, p h1 ∧ SepL ps h2 ∧ hd h1 h2 ∧ h = hu h1 h2
theorem SepL.swap {p q : HP} {ps : List HP} {h : Hh} (s : SepL (p :: q :: ps) h) : SepL (q :: p :: ps) h := by
  obtain ⟨h1, h2, a, ⟨h3, h4, b, c, d, rfl⟩, e, rfl⟩ := s
  have e' := hd_hu_right.1 e
  refine ⟨h3, hu h1 h4, b, ⟨h1, h4, a, c, e'.2, rfl⟩, hd_hu_right.2 ⟨hd_comm e'.1, d⟩, ?_⟩
  rw [← hu_assoc, ← hu_assoc, hu_comm e'.1]
theorem SepL.tail {p : HP} {ps qs : List HP} (f : ∀ h, SepL ps h → SepL qs h) {h : Hh} (s : SepL (p :: ps) h) : SepL (p :: qs) h := by
  obtain ⟨h1, h2, a, b, c, d⟩ := s
  exact ⟨h1, h2, a, f _ b, c, d⟩
theorem SepL.head {p q : HP} {ps : List HP} (f : ∀ h, p h → q h) {h : Hh} (s : SepL (p :: ps) h) : SepL (q :: ps) h := by
  obtain ⟨h1, h2, a, b, c, d⟩ := s
  exact ⟨h1, h2, f _ a, b, c, d⟩
theorem SepL.perm {ps qs : List HP} (hp : ps.Perm qs) : ∀ {h : Hh}, SepL ps h → SepL qs h := by
  induction hp with
  | nil => exact id
  | cons x _ ih => exact fun s => s.tail (fun _ => ih)
  | swap x y l => exact fun s => s.swap
  | trans _ _ ih1 ih2 => exact fun s => ih2 (ih1 s)
theorem SepL.append {ps qs : List HP} {h g : Hh} (s : SepL ps h) (t : SepL qs g) (d : hd h g) : SepL (ps ++ qs) (hu h g) := by
  induction ps generalizing h with
  | nil => obtain rfl := s; simpa [hu_nil] using t
  | cons p ps ih =>
    obtain ⟨h1, h2, a, b, c, rfl⟩ := s
    have d' := hd_hu_left.1 d
    exact ⟨h1, hu h2 g, a, ih b d'.2, hd_hu_right.2 ⟨c, d'.1⟩, by rw [hu_assoc]⟩
theorem SepL.unappend {ps qs : List HP} {h : Hh} (s : SepL (ps ++ qs) h) : ∃ a b, SepL ps a ∧ SepL qs b ∧ hd a b ∧ h = hu a b := by
  induction ps generalizing h with
  | nil => exact ⟨hnil, h, rfl, s, hd_nil _, (hu_nil _).symm⟩
  | cons p ps ih =>
    obtain ⟨h1, h2, a, b, c, rfl⟩ := s
    obtain ⟨x, y, hx, hy, e, rfl⟩ := ih b
    have c' := hd_hu_right.1 c
    exact ⟨hu h1 x, y, ⟨h1, x, a, hx, c'.1, rfl⟩, hy, hd_hu_left.2 ⟨c'.2, e⟩, by rw [hu_assoc]⟩
structure Hp (w0 : World) (R : Hh) (Ps : List HP) (w : World) : Prop where
  os : w.os = w0.os
  tape : w.tape = w0.tape
  output : w.output = w0.output
  size : w0.heap.size ≤ w.heap.size
  heap : ∃ h, SepL (tru :: Ps) h ∧ hd h R ∧ hh w = hu h R
variable {P : Program} {w0 w w' : World} {R : Hh} {Ps Qs : List HP}
theorem Hp.start (w : World) : Hp w (hh w) [] w :=
  ⟨rfl, rfl, rfl, Nat.le_refl _, hnil, ⟨hnil, hnil, trivial, rfl, hd_nil _, (hu_nil _).symm⟩, hd_nil _, (hu_nil _).symm⟩
theorem Hp.map (f : ∀ h, SepL Ps h → SepL Qs h) (m : Hp w0 R Ps w) : Hp w0 R Qs w :=
  let ⟨h, s, d, e⟩ := m.heap
  ⟨m.os, m.tape, m.output, m.size, h, s.tail f, d, e⟩
theorem Hp.perm (m : Hp w0 R Ps w) (hp : Ps.Perm Qs) : Hp w0 R Qs w := m.map fun _ => SepL.perm hp
theorem Hp.drop {p : HP} (m : Hp w0 R (p :: Ps) w) : Hp w0 R Ps w := by
  obtain ⟨h, ⟨h1, h2, _, ⟨h3, h4, _, c, d1, rfl⟩, d2, rfl⟩, d, e⟩ := m.heap
  have d2' := hd_hu_right.1 d2
  exact ⟨m.os, m.tape, m.output, m.size, _, ⟨hu h1 h3, h4, trivial, c, hd_hu_left.2 ⟨d2'.2, d1⟩, rfl⟩, by rw [hu_assoc]; exact d, by rw [hu_assoc h1]; exact e⟩
theorem Hp.frame (m : Hp w0 R Ps w) : hle R (hh w) := by
  obtain ⟨h, _, d, e⟩ := m.heap
  rw [e]
  exact hle_right d
/-! Places in a list of pieces -/
def Swp (Ps : List HP) (p q : HP) (Qs : List HP) : Prop := ∃ a b, Ps = a ++ p :: b ∧ Qs = a ++ q :: b
def Rem (Ps : List HP) (p : HP) (Qs : List HP) : Prop := ∃ a b, Ps = a ++ p :: b ∧ Qs = a ++ b
section
variable {x0 x1 x2 x3 x4 x5 x6 x7 x8 x9 x10 x11 p q : HP} {l : List HP}
theorem s0 : Swp (p :: l) p q (q :: l) := ⟨[], l, rfl, rfl⟩
theorem s1 : Swp (x0 :: p :: l) p q (x0 :: q :: l) := ⟨[x0], l, rfl, rfl⟩
theorem s2 : Swp (x0 :: x1 :: p :: l) p q (x0 :: x1 :: q :: l) := ⟨[x0, x1], l, rfl, rfl⟩
theorem s3 : Swp (x0 :: x1 :: x2 :: p :: l) p q (x0 :: x1 :: x2 :: q :: l) := ⟨[x0, x1, x2], l, rfl, rfl⟩
theorem s4 : Swp (x0 :: x1 :: x2 :: x3 :: p :: l) p q (x0 :: x1 :: x2 :: x3 :: q :: l) := ⟨[x0, x1, x2, x3], l, rfl, rfl⟩
theorem s5 : Swp (x0 :: x1 :: x2 :: x3 :: x4 :: p :: l) p q (x0 :: x1 :: x2 :: x3 :: x4 :: q :: l) := ⟨[x0, x1, x2, x3, x4], l, rfl, rfl⟩
theorem s6 : Swp (x0 :: x1 :: x2 :: x3 :: x4 :: x5 :: p :: l) p q (x0 :: x1 :: x2 :: x3 :: x4 :: x5 :: q :: l) := ⟨[x0, x1, x2, x3, x4, x5], l, rfl, rfl⟩
theorem s7 : Swp (x0 :: x1 :: x2 :: x3 :: x4 :: x5 :: x6 :: p :: l) p q (x0 :: x1 :: x2 :: x3 :: x4 :: x5 :: x6 :: q :: l) := ⟨[x0, x1, x2, x3, x4, x5, x6], l, rfl, rfl⟩
theorem s8 : Swp (x0 :: x1 :: x2 :: x3 :: x4 :: x5 :: x6 :: x7 :: p :: l) p q (x0 :: x1 :: x2 :: x3 :: x4 :: x5 :: x6 :: x7 :: q :: l) := ⟨[x0, x1, x2, x3, x4, x5, x6, x7], l, rfl, rfl⟩
theorem s10 : Swp (x0 :: x1 :: x2 :: x3 :: x4 :: x5 :: x6 :: x7 :: x8 :: x9 :: p :: l) p q (x0 :: x1 :: x2 :: x3 :: x4 :: x5 :: x6 :: x7 :: x8 :: x9 :: q :: l) := ⟨[x0, x1, x2, x3, x4, x5, x6, x7, x8, x9], l, rfl, rfl⟩
theorem s11 : Swp (x0 :: x1 :: x2 :: x3 :: x4 :: x5 :: x6 :: x7 :: x8 :: x9 :: x10 :: p :: l) p q (x0 :: x1 :: x2 :: x3 :: x4 :: x5 :: x6 :: x7 :: x8 :: x9 :: x10 :: q :: l) := ⟨[x0, x1, x2, x3, x4, x5, x6, x7, x8, x9, x10], l, rfl, rfl⟩
theorem r0 : Rem (p :: l) p l := ⟨[], l, rfl, rfl⟩
theorem r1 : Rem (x0 :: p :: l) p (x0 :: l) := ⟨[x0], l, rfl, rfl⟩
theorem r2 : Rem (x0 :: x1 :: p :: l) p (x0 :: x1 :: l) := ⟨[x0, x1], l, rfl, rfl⟩
theorem r3 : Rem (x0 :: x1 :: x2 :: p :: l) p (x0 :: x1 :: x2 :: l) := ⟨[x0, x1, x2], l, rfl, rfl⟩
theorem r4 : Rem (x0 :: x1 :: x2 :: x3 :: p :: l) p (x0 :: x1 :: x2 :: x3 :: l) := ⟨[x0, x1, x2, x3], l, rfl, rfl⟩
theorem r5 : Rem (x0 :: x1 :: x2 :: x3 :: x4 :: p :: l) p (x0 :: x1 :: x2 :: x3 :: x4 :: l) := ⟨[x0, x1, x2, x3, x4], l, rfl, rfl⟩
theorem r6 : Rem (x0 :: x1 :: x2 :: x3 :: x4 :: x5 :: p :: l) p (x0 :: x1 :: x2 :: x3 :: x4 :: x5 :: l) := ⟨[x0, x1, x2, x3, x4, x5], l, rfl, rfl⟩
theorem r7 : Rem (x0 :: x1 :: x2 :: x3 :: x4 :: x5 :: x6 :: p :: l) p (x0 :: x1 :: x2 :: x3 :: x4 :: x5 :: x6 :: l) := ⟨[x0, x1, x2, x3, x4, x5, x6], l, rfl, rfl⟩
theorem r8 : Rem (x0 :: x1 :: x2 :: x3 :: x4 :: x5 :: x6 :: x7 :: p :: l) p (x0 :: x1 :: x2 :: x3 :: x4 :: x5 :: x6 :: x7 :: l) := ⟨[x0, x1, x2, x3, x4, x5, x6, x7], l, rfl, rfl⟩
theorem r9 : Rem (x0 :: x1 :: x2 :: x3 :: x4 :: x5 :: x6 :: x7 :: x8 :: p :: l) p (x0 :: x1 :: x2 :: x3 :: x4 :: x5 :: x6 :: x7 :: x8 :: l) := ⟨[x0, x1, x2, x3, x4, x5, x6, x7, x8], l, rfl, rfl⟩
theorem r10 : Rem (x0 :: x1 :: x2 :: x3 :: x4 :: x5 :: x6 :: x7 :: x8 :: x9 :: p :: l) p (x0 :: x1 :: x2 :: x3 :: x4 :: x5 :: x6 :: x7 :: x8 :: x9 :: l) := ⟨[x0, x1, x2, x3, x4, x5, x6, x7, x8, x9], l, rfl, rfl⟩
theorem r11 : Rem (x0 :: x1 :: x2 :: x3 :: x4 :: x5 :: x6 :: x7 :: x8 :: x9 :: x10 :: p :: l) p (x0 :: x1 :: x2 :: x3 :: x4 :: x5 :: x6 :: x7 :: x8 :: x9 :: x10 :: l) := ⟨[x0, x1, x2, x3, x4, x5, x6, x7, x8, x9, x10], l, rfl, rfl⟩
end
theorem Rem.perm {p : HP} (h : Rem Ps p Qs) : Ps.Perm (p :: Qs) := by
  obtain ⟨a, b, rfl, rfl⟩ := h
  exact List.perm_middle
theorem Swp.rem {p q : HP} (h : Swp Ps p q Qs) : ∃ l, Ps.Perm (p :: l) ∧ (q :: l).Perm Qs := by
  obtain ⟨a, b, rfl, rfl⟩ := h
  exact ⟨a ++ b, List.perm_middle, List.perm_middle.symm⟩
theorem Hp.front {p : HP} (m : Hp w0 R Ps w) (h : Rem Ps p Qs) : Hp w0 R (p :: Qs) w := m.perm h.perm
theorem Hp.rem {p : HP} (m : Hp w0 R Ps w) (h : Rem Ps p Qs) : Hp w0 R Qs w := (m.front h).drop
inductive Sub : List HP → List HP → Prop
  | n {l : List HP} : Sub [] l
  | c {p : HP} {l l' r : List HP} : Rem l p l' → Sub r l' → Sub (p :: r) l
theorem Sub.perm {qs l : List HP} (h : Sub qs l) : ∃ r, l.Perm (qs ++ r) := by
  induction h with
  | @n l => exact ⟨l, .refl _⟩
  | c h _ ih =>
    obtain ⟨r, hr⟩ := ih
    exact ⟨r, h.perm.trans (hr.cons _)⟩
theorem Hp.dropAll {rs : List HP} : ∀ {qs : List HP}, Hp w0 R (qs ++ rs) w → Hp w0 R qs w := by
  induction rs with
  | nil => intro qs m; simpa using m
  | cons r rs ih =>
    intro qs m
    exact ih ((m.perm (Qs := r :: (qs ++ rs)) List.perm_middle).drop)
theorem Hp.sub {qs : List HP} (m : Hp w0 R Ps w) (h : Sub qs Ps) : Hp w0 R qs w := by
  obtain ⟨r, hr⟩ := h.perm
  exact (m.perm hr).dropAll
theorem Swp.out {p q : HP} (h : Swp Ps p q Qs) : ∃ l, Rem Ps p l := by
  obtain ⟨a, b, rfl, rfl⟩ := h
  exact ⟨a ++ b, a, b, rfl, rfl⟩
theorem Hp.swp {p q : HP} (m : Hp w0 R Ps w) (h : Swp Ps p q Qs) (f : ∀ h, p h → q h) : Hp w0 R Qs w := by
  obtain ⟨l, a, b⟩ := h.rem
  exact ((m.perm a).map fun _ => SepL.head f).perm b
theorem Hp.look {p : HP} (m : Hp w0 R Ps w) (h : Rem Ps p Qs) : ∃ g, p g ∧ hle g (hh w) := by
  obtain ⟨h, s, d, e⟩ := (m.perm h.perm).heap
  obtain ⟨h1, h2, _, ⟨h3, h4, hp, _, d1, rfl⟩, d2, rfl⟩ := s
  refine ⟨h3, hp, ?_⟩
  rw [e]
  exact hle_trans (hle_trans (hle_left _ _) (hle_right d2)) (hle_left _ _)
theorem Hp.exact {p : HP} (m : Hp w0 R (p :: Ps) w) : ∃ g, p g ∧ hle g (hh w) ∧ Hp w0 R ((fun h => h = g) :: Ps) w := by
  obtain ⟨h, s, d, e⟩ := m.heap
  obtain ⟨h1, h2, _, ⟨h3, h4, hp, t, d1, rfl⟩, d2, rfl⟩ := s
  refine ⟨h3, hp, ?_, ⟨m.os, m.tape, m.output, m.size, _, ⟨h1, _, trivial, ⟨h3, h4, rfl, t, d1, rfl⟩, d2, rfl⟩, d, e⟩⟩
  rw [e]
  exact hle_trans (hle_trans (hle_left _ _) (hle_right d2)) (hle_left _ _)
theorem SepL.look {p : HP} {h : Hh} (s : SepL Ps h) (r : Rem Ps p Qs) : ∃ g, p g ∧ hle g h := by
  obtain ⟨h1, h2, hp, _, d, rfl⟩ := s.perm r.perm
  exact ⟨h1, hp, hle_left _ _⟩
/-! ### 3. Calls and the heap -/
theorem Hp.after (m : Hp w0 R Ps w) (k : Hp w (hh w) Qs w') : Hp w0 R (Qs ++ Ps) w' := by
  obtain ⟨h, ⟨h1, h2, _, s, d1, rfl⟩, d, e⟩ := m.heap
  obtain ⟨g, ⟨g1, g2, _, t, c1, rfl⟩, c, f⟩ := k.heap
  rw [e] at c f
  have c' := hd_hu_right.1 c
  have c'' := hd_hu_right.1 c'.1
  have c3 := hd_hu_left.1 c''.1
  have c4 := hd_hu_left.1 c''.2
  refine ⟨k.os.trans m.os, k.tape.trans m.tape, k.output.trans m.output, Nat.le_trans m.size k.size, hu (hu g1 h1) (hu g2 h2), ?_, ?_, ?_⟩
  · refine ⟨hu g1 h1, hu g2 h2, trivial, t.append s c4.2, ?_, rfl⟩
    exact hd_hu_left.2 ⟨hd_hu_right.2 ⟨c1, c4.1⟩, hd_hu_right.2 ⟨hd_comm c3.2, d1⟩⟩
  · have := hd_hu_left.1 d
    have c5 := hd_hu_left.1 c'.2
    exact hd_hu_left.2 ⟨hd_hu_left.2 ⟨c5.1, this.1⟩, hd_hu_left.2 ⟨c5.2, this.2⟩⟩
  · rw [f]
    rw [← hu_assoc]
    congr 1
    funext i
    simp only [hu]
    have := c3.2 i
    cases x1 : g1 i <;> cases x2 : g2 i <;> cases x3 : h1 i <;> cases x4 : h2 i <;> simp_all
theorem Hp.split {Pc : List HP} (m : Hp w0 R (Pc ++ Ps) w) : ∃ R', hle R R' ∧ hle R' (hh w) ∧ (∃ y, SepL Ps y ∧ hle y R') ∧ Hp w R' Pc w ∧ ∀ (Qc : List HP) (w' : World), Hp w R' Qc w' → Hp w0 R (Qc ++ Ps) w' := by
  obtain ⟨h, ⟨h1, h2, _, s, d1, rfl⟩, d, e⟩ := m.heap
  obtain ⟨x, y, sx, sy, dxy, rfl⟩ := s.unappend
  have d1' := hd_hu_right.1 d1
  have d2 := hd_hu_left.1 d
  have d3 := hd_hu_left.1 d2.2
  -- the frame: h1, y, R
  have dA : hd (hu h1 y) R := hd_hu_left.2 ⟨d2.1, d3.2⟩
  have dB : hd x (hu (hu h1 y) R) := hd_hu_right.2 ⟨hd_hu_right.2 ⟨hd_comm d1'.1, dxy⟩, d3.1⟩
  have hw : hh w = hu x (hu (hu h1 y) R) := by
    rw [e, ← hu_assoc, ← hu_assoc, ← hu_assoc]
    congr 1
    rw [hu_comm d1'.1]
  refine ⟨hu (hu h1 y) R, hle_right dA, ?_, ⟨y, sy, hle_trans (hle_right d1'.2) (hle_left _ _)⟩, ⟨rfl, rfl, rfl, Nat.le_refl _, x, ⟨hnil, x, trivial, sx, hd_nil _, (hu_nil _).symm⟩, dB, hw⟩, ?_⟩
  · rw [hw]; exact hle_right dB
  · intro Qc w' k
    obtain ⟨g, ⟨g1, g2, _, t, c1, rfl⟩, c, f⟩ := k.heap
    have c' := hd_hu_right.1 c
    have c2 := hd_hu_left.1 c'.1
    have c3 := hd_hu_right.1 c2.1
    have c4 := hd_hu_right.1 c2.2
    refine ⟨k.os.trans m.os, k.tape.trans m.tape, k.output.trans m.output, Nat.le_trans m.size k.size, hu (hu g1 h1) (hu g2 y), ⟨hu g1 h1, hu g2 y, trivial, t.append sy c4.2, ?_, rfl⟩, ?_, ?_⟩
    · exact hd_hu_left.2 ⟨hd_hu_right.2 ⟨c1, c3.2⟩, hd_hu_right.2 ⟨hd_comm c4.1, d1'.2⟩⟩
    · have c5 := hd_hu_left.1 c'.2
      exact hd_hu_left.2 ⟨hd_hu_left.2 ⟨c5.1, d2.1⟩, hd_hu_left.2 ⟨c5.2, d3.2⟩⟩
    · rw [f, ← hu_assoc]
      congr 1
      funext i
      simp only [hu]
      have := c4.1 i
      cases x1 : g1 i <;> cases x2 : g2 i <;> cases x3 : h1 i <;> cases x4 : y i <;> simp_all
theorem Hp.alloc (m : Hp w0 R Ps w) (o : Obj) : Hp w0 R ((fun h => h = hone w.heap.size o) :: Ps) (w.alloc o) := by
  obtain ⟨h, ⟨h1, h2, _, s, d1, rfl⟩, d, e⟩ := m.heap
  have hfree : ∀ g, hle g (hh w) → g w.heap.size = none := by
    intro g hg
    cases hx : g w.heap.size with
    | none => rfl
    | some o' =>
      have := hg _ _ hx
      simp [hh] at this
  have l1 : hle h1 (hh w) := by rw [e]; exact hle_trans (hle_left _ _) (hle_left _ _)
  have l2 : hle h2 (hh w) := by rw [e]; exact hle_trans (hle_right d1) (hle_left _ _)
  have l3 : hle R (hh w) := by rw [e]; exact hle_right d
  have dn : ∀ g, hle g (hh w) → hd (hone w.heap.size o) g := by
    intro g hg i
    by_cases hi : i = w.heap.size
    · exact .inr (hi ▸ hfree g hg)
    · exact .inl (by simp [hone, hi])
  refine ⟨m.os, m.tape, m.output, by have := m.size; simp; omega, hu h1 (hu (hone w.heap.size o) h2), ?_, ?_, ?_⟩
  · exact ⟨h1, _, trivial, ⟨_, h2, rfl, s, dn h2 l2, rfl⟩, hd_hu_right.2 ⟨hd_comm (dn h1 l1), d1⟩, rfl⟩
  · have d' := hd_hu_left.1 d
    exact hd_hu_left.2 ⟨d'.1, hd_hu_left.2 ⟨dn R l3, d'.2⟩⟩
  · funext i
    have e' := congrFun e i
    have f1 := hfree h1 l1
    have f2 := hfree h2 l2
    have f3 := hfree R l3
    simp only [hh] at e' ⊢
    simp only [World.alloc, Array.getElem?_push]
    by_cases hi : i = w.heap.size
    · subst hi
      simp [hu, hone, f1]
    · rw [if_neg hi, e']
      simp [hu, hone, hi]
theorem Hp.block {b : Nat} {o o' : Obj} (m : Hp w0 R ((fun h => h = hone b o) :: Ps) w) (hw : w'.heap = w.heap.setIfInBounds b o') (hos : w'.os = w.os) (htape : w'.tape = w.tape) (hout : w'.output = w.output) :
    Hp w0 R ((fun h => h = hone b o') :: Ps) w' := by
  obtain ⟨h, ⟨h1, h2, _, ⟨h3, h4, rfl, s, d1, rfl⟩, d2, rfl⟩, d, e⟩ := m.heap
  have hdd : ∀ g, hd (hone b o) g → hd (hone b o') g := by
    intro g hg i
    rcases hg i with x | x
    · left
      by_cases hi : i = b
      · simp [hone, hi] at x
      · simp [hone, hi]
    · exact .inr x
  have d2' := hd_hu_right.1 d2
  have d' := hd_hu_left.1 d
  have d'' := hd_hu_left.1 d'.2
  refine ⟨hos.trans m.os, htape.trans m.tape, hout.trans m.output, by have := m.size; simp [hw]; omega, hu h1 (hu (hone b o') h4), ⟨h1, _, trivial, ⟨_, h4, rfl, s, hdd _ d1, rfl⟩, hd_hu_right.2 ⟨hd_comm (hdd _ (hd_comm d2'.1)), d2'.2⟩, rfl⟩,
    hd_hu_left.2 ⟨d'.1, hd_hu_left.2 ⟨hdd _ d''.1, d''.2⟩⟩, ?_⟩
  have hin : w.heap[b]? = some o := by
    have := congrFun e b
    simp only [hh] at this
    rw [this]
    have := d2'.1 b
    simp only [hone, if_true] at this
    rcases this with x | x
    · simp [hu, hone, x]
    · cases x
  have hlt : b < w.heap.size := (Array.getElem?_eq_some_iff.1 hin).1
  funext i
  have e' := congrFun e i
  simp only [hh] at e' ⊢
  rw [hw, Array.getElem?_setIfInBounds]
  by_cases hi : b = i
  · subst hi
    have := d2'.1 b
    simp only [hone, if_true] at this
    rcases this with x | x
    · simp [hu, hone, x, hlt]
    · cases x
  · rw [if_neg hi, e']
    have : ¬ i = b := fun h => hi h.symm
    simp [hu, hone, this]
theorem Hp.drew (m : Hp w0 R Ps w) : Hp w0 R Ps w.drew := ⟨m.os, m.tape, m.output, m.size, m.heap⟩
theorem Hp.drawn (m : Hp w0 R Ps w) (n : Nat) : Hp w0 R Ps { w with drawn := n } := ⟨m.os, m.tape, m.output, m.size, m.heap⟩
end Go.Proofs.YtnbpodjbemfpbaaGreat.Fw
