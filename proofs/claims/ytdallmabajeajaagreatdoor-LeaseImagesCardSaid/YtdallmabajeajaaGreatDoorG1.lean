/-
  Own work: walks and laws, joined by wip/tool/compact.py.
-/
import Derived.Calls
import Derived.Tactics
import Derived.Deep.Quiet
import Derived.Below
import Derived.WalkLawsBesides
import Derived.Deep.LoopGhost
import Derived.OrdersHeld
import Derived.Lib.Overlaps
import Derived.Laws.Externs
import Derived.KernelRfl
import Derived.LoopN
import Derived.Laws.MakeOwn
set_option linter.all false
set_option linter.unusedVariables false
set_option linter.all false
namespace Go.Proofs.YtdallmabajeajaaGreatDoor.Fw
open Go
/-! ### 1. Slots -/
def lk : List (Nat × Value) → Nat → Option Value
  | [], _ => none
  | (i, v) :: L, j => match Nat.beq i j with | true => some v | false => lk L j
theorem lk_hit (i : Nat) (v : Value) (L : List (Nat × Value)) : lk ((i, v) :: L) i = some v := by
  simp [lk]
theorem lk_miss {i j : Nat} (v : Value) (L : List (Nat × Value)) (h : i ≠ j) : lk ((i, v) :: L) j = lk L j := by
  have : Nat.beq i j = false := by
    cases hb : Nat.beq i j
    · rfl
    · exact absurd (Nat.eq_of_beq_eq_true hb) h
  simp [lk, this]
structure St (n : Nat) (L : List (Nat × Value)) (a : Act) : Prop where
  size : a.tmps.size = n
  nod : a.defers = []
  at_ : ∀ i v, lk L i = some v → a.tmps[i]? = some v
def ev (L : List (Nat × Value)) : Operand → Option Value
  | .tmp t => lk L t
  | .const v => some v
  | .global g => some (.pointer (some ⟨g, 0, none⟩))
  | .func f => some (.func (.func f) #[] #[])
def evs (L : List (Nat × Value)) : List Operand → Option (List Value)
  | [] => some []
  | o :: os => match ev L o, evs L os with
    | some v, some vs => some (v :: vs)
    | _, _ => none
def Evs (L : List (Nat × Value)) (a : Act) : Prop := ∀ x u, ev L x = some u → a.eval x = u
theorem St.evs {n : Nat} {L : List (Nat × Value)} {a : Act} (h : St n L a) : Evs L a := by
  intro x u hx
  cases x with
  | tmp t =>
    have := h.at_ t u hx
    simp [Act.eval, Array.getD_eq_getD_getElem?, this]
  | const v => simpa [ev, Act.eval] using hx
  | global g => simpa [ev, Act.eval] using hx
  | func f => simpa [ev, Act.eval] using hx
theorem St.put {n : Nat} {L : List (Nat × Value)} {a : Act} (h : St n L a) {d : Nat} {v : Value} (hd : Nat.blt d n = true) : St n ((d, v) :: L) (a.put (some d) v) := by
  have hlt : d < n := Nat.le_of_ble_eq_true hd
  refine ⟨by simp [Act.put, h.size], by simpa [Act.put] using h.nod, fun i u hu => ?_⟩
  by_cases e : d = i
  · subst e
    rw [lk_hit] at hu
    simp only [Option.some.injEq] at hu
    subst hu
    simp [Act.put, h.size, hlt]
  · rw [lk_miss _ _ e] at hu
    simp only [Act.put, Array.getElem?_setIfInBounds_ne e]
    exact h.at_ i u hu
theorem St.weak {n : Nat} {L L' : List (Nat × Value)} {a : Act} (h : St n L a) (hs : ∀ i v, lk L' i = some v → lk L i = some v) : St n L' a :=
  ⟨h.size, h.nod, fun i v hv => h.at_ i v (hs i v hv)⟩
def sub (L : List (Nat × Value)) : List (Nat × Value) → Prop
  | [] => True
  | (i, v) :: r => lk L i = some v ∧ sub L r
theorem sub_lk {L : List (Nat × Value)} : ∀ {L' : List (Nat × Value)}, sub L L' → ∀ i v, lk L' i = some v → lk L i = some v
  | [], _, i, v, h => by simp [lk] at h
  | (j, u) :: r, hs, i, v, h => by
    by_cases e : j = i
    · subst e
      rw [lk_hit] at h
      simp only [Option.some.injEq] at h
      subst h
      exact hs.1
    · rw [lk_miss _ _ e] at h
      exact sub_lk hs.2 i v h
theorem St.to {n : Nat} {L L' : List (Nat × Value)} {a : Act} (h : St n L a) (hs : sub L L') : St n L' a := h.weak (sub_lk hs)
/-! ### 2. The heap: pieces -/
abbrev Hh := Nat → Option Obj
abbrev HP := Hh → Prop
def hh (w : World) : Hh := fun i => w.heap[i]?
def hu (h g : Hh) : Hh := fun i => (h i).or (g i)
def hd (h g : Hh) : Prop := ∀ i, h i = none ∨ g i = none
def hone (b : Nat) (o : Obj) : Hh := fun i => if i = b then some o else none
def hle (h g : Hh) : Prop := ∀ i o, h i = some o → g i = some o
theorem hu_comm {h g : Hh} (d : hd h g) : hu h g = hu g h := by
  funext i
  rcases d i with e | e <;> simp [hu, e]
theorem hu_assoc (a b c : Hh) : hu (hu a b) c = hu a (hu b c) := by
  funext i
  simp only [hu]
  cases a i <;> simp
theorem hd_comm {h g : Hh} (d : hd h g) : hd g h := fun i => (d i).symm
theorem hd_hu_left {a b c : Hh} : hd (hu a b) c ↔ hd a c ∧ hd b c := by
  constructor
  · intro h
    refine ⟨fun i => ?_, fun i => ?_⟩
    · rcases h i with e | e
      · simp only [hu] at e; left; cases ha : a i <;> simp_all
      · exact .inr e
    · rcases h i with e | e
      · simp only [hu] at e; left; cases ha : a i <;> simp_all
      · exact .inr e
  · rintro ⟨h1, h2⟩ i
    rcases h1 i with e | e
    · rcases h2 i with f | f
      · left; simp [hu, e, f]
      · exact .inr f
    · exact .inr e
theorem hd_hu_right {a b c : Hh} : hd a (hu b c) ↔ hd a b ∧ hd a c :=
  ⟨fun h => let ⟨x, y⟩ := hd_hu_left.1 (hd_comm h); ⟨hd_comm x, hd_comm y⟩, fun ⟨x, y⟩ => hd_comm (hd_hu_left.2 ⟨hd_comm x, hd_comm y⟩)⟩
theorem hu_left {h g : Hh} {i : Nat} {o : Obj} (e : h i = some o) : hu h g i = some o := by simp [hu, e]
theorem hu_right {h g : Hh} (d : hd h g) {i : Nat} {o : Obj} (e : g i = some o) : hu h g i = some o := by
  rcases d i with f | f
  · simp [hu, e, f]
  · rw [e] at f; cases f
theorem hle_trans {a b c : Hh} (h : hle a b) (k : hle b c) : hle a c := fun i o e => k i o (h i o e)
theorem hle_left (h g : Hh) : hle h (hu h g) := fun _ _ e => hu_left e
theorem hle_right {h g : Hh} (d : hd h g) : hle g (hu h g) := fun _ _ e => hu_right d e
def hnil : Hh := fun _ => none
theorem hu_nil (h : Hh) : hu hnil h = h := by funext i; simp [hu, hnil]
theorem hd_nil (h : Hh) : hd hnil h := fun _ => .inl rfl
def tru : HP := fun _ => True
def SepL : List HP → Hh → Prop
  | [], h => h = hnil
  | p :: ps, h => ∃ h1 h2, p h1 ∧ SepL ps h2 ∧ hd h1 h2 ∧ h = hu h1 h2
theorem SepL.swap {p q : HP} {ps : List HP} {h : Hh} (s : SepL (p :: q :: ps) h) : SepL (q :: p :: ps) h := by
  obtain ⟨h1, h2, a, ⟨h3, h4, b, c, d, rfl⟩, e, rfl⟩ := s
  have e' := hd_hu_right.1 e
  refine ⟨h3, hu h1 h4, b, ⟨h1, h4, a, c, e'.2, rfl⟩, hd_hu_right.2 ⟨hd_comm e'.1, d⟩, ?_⟩
  rw [← hu_assoc, ← hu_assoc, hu_comm e'.1]
theorem SepL.tail {p : HP} {ps qs : List HP} (f : ∀ h, SepL ps h → SepL qs h) {h : Hh} (s : SepL (p :: ps) h) : SepL (p :: qs) h := by
  obtain ⟨h1, h2, a, b, c, d⟩ := s
  exact ⟨h1, h2, a, f _ b, c, d⟩
theorem SepL.head {p q : HP} {ps : List HP} (f : ∀ h, p h → q h) {h : Hh} (s : SepL (p :: ps) h) : SepL (q :: ps) h := by
  obtain ⟨h1, h2, a, b, c, d⟩ := s
  exact ⟨h1, h2, f _ a, b, c, d⟩
theorem SepL.perm {ps qs : List HP} (hp : ps.Perm qs) : ∀ {h : Hh}, SepL ps h → SepL qs h := by
  induction hp with
  | nil => exact id
  | cons x _ ih => exact fun s => s.tail (fun _ => ih)
  | swap x y l => exact fun s => s.swap
  | trans _ _ ih1 ih2 => exact fun s => ih2 (ih1 s)
theorem SepL.append {ps qs : List HP} {h g : Hh} (s : SepL ps h) (t : SepL qs g) (d : hd h g) : SepL (ps ++ qs) (hu h g) := by
  induction ps generalizing h with
  | nil => obtain rfl := s; simpa [hu_nil] using t
  | cons p ps ih =>
    obtain ⟨h1, h2, a, b, c, rfl⟩ := s
    have d' := hd_hu_left.1 d
    exact ⟨h1, hu h2 g, a, ih b d'.2, hd_hu_right.2 ⟨c, d'.1⟩, by rw [hu_assoc]⟩
theorem SepL.unappend {ps qs : List HP} {h : Hh} (s : SepL (ps ++ qs) h) : ∃ a b, SepL ps a ∧ SepL qs b ∧ hd a b ∧ h = hu a b := by
  induction ps generalizing h with
  | nil => exact ⟨hnil, h, rfl, s, hd_nil _, (hu_nil _).symm⟩
  | cons p ps ih =>
    obtain ⟨h1, h2, a, b, c, rfl⟩ := s
    obtain ⟨x, y, hx, hy, e, rfl⟩ := ih b
    have c' := hd_hu_right.1 c
    exact ⟨hu h1 x, y, ⟨h1, x, a, hx, c'.1, rfl⟩, hy, hd_hu_left.2 ⟨c'.2, e⟩, by rw [hu_assoc]⟩
structure Hp (w0 : World) (R : Hh) (Ps : List HP) (w : World) : Prop where
  os : w.os = w0.os
  tape : w.tape = w0.tape
  output : w.output = w0.output
  size : w0.heap.size ≤ w.heap.size ∧ w0.drawn ≤ w.drawn
  heap : ∃ h, SepL (tru :: Ps) h ∧ hd h R ∧ hh w = hu h R
variable {P : Program} {w0 w w' : World} {R : Hh} {Ps Qs : List HP}
theorem Hp.start (w : World) : Hp w (hh w) [] w :=
  ⟨rfl, rfl, rfl, ⟨Nat.le_refl _, Nat.le_refl _⟩, hnil, ⟨hnil, hnil, trivial, rfl, hd_nil _, (hu_nil _).symm⟩, hd_nil _, (hu_nil _).symm⟩
theorem Hp.map (f : ∀ h, SepL Ps h → SepL Qs h) (m : Hp w0 R Ps w) : Hp w0 R Qs w :=
  let ⟨h, s, d, e⟩ := m.heap
  ⟨m.os, m.tape, m.output, m.size, h, s.tail f, d, e⟩
theorem Hp.perm (m : Hp w0 R Ps w) (hp : Ps.Perm Qs) : Hp w0 R Qs w := m.map fun _ => SepL.perm hp
theorem Hp.drop {p : HP} (m : Hp w0 R (p :: Ps) w) : Hp w0 R Ps w := by
  obtain ⟨h, ⟨h1, h2, _, ⟨h3, h4, _, c, d1, rfl⟩, d2, rfl⟩, d, e⟩ := m.heap
  have d2' := hd_hu_right.1 d2
  exact ⟨m.os, m.tape, m.output, m.size, _, ⟨hu h1 h3, h4, trivial, c, hd_hu_left.2 ⟨d2'.2, d1⟩, rfl⟩, by rw [hu_assoc]; exact d, by rw [hu_assoc h1]; exact e⟩
theorem Hp.frame (m : Hp w0 R Ps w) : hle R (hh w) := by
  obtain ⟨h, _, d, e⟩ := m.heap
  rw [e]
  exact hle_right d
/-! Places in a list of pieces -/
def Swp (Ps : List HP) (p q : HP) (Qs : List HP) : Prop := ∃ a b, Ps = a ++ p :: b ∧ Qs = a ++ q :: b
def Rem (Ps : List HP) (p : HP) (Qs : List HP) : Prop := ∃ a b, Ps = a ++ p :: b ∧ Qs = a ++ b
section
variable {x0 x1 x2 x3 x4 x5 x6 x7 x8 x9 x10 x11 p q : HP} {l : List HP}
theorem s0 : Swp (p :: l) p q (q :: l) := ⟨[], l, rfl, rfl⟩
theorem s1 : Swp (x0 :: p :: l) p q (x0 :: q :: l) := ⟨[x0], l, rfl, rfl⟩
theorem s2 : Swp (x0 :: x1 :: p :: l) p q (x0 :: x1 :: q :: l) := ⟨[x0, x1], l, rfl, rfl⟩
theorem s3 : Swp (x0 :: x1 :: x2 :: p :: l) p q (x0 :: x1 :: x2 :: q :: l) := ⟨[x0, x1, x2], l, rfl, rfl⟩
theorem s4 : Swp (x0 :: x1 :: x2 :: x3 :: p :: l) p q (x0 :: x1 :: x2 :: x3 :: q :: l) := ⟨[x0, x1, x2, x3], l, rfl, rfl⟩
theorem s5 : Swp (x0 :: x1 :: x2 :: x3 :: x4 :: p :: l) p q (x0 :: x1 :: x2 :: x3 :: x4 :: q :: l) := ⟨[x0, x1, x2, x3, x4], l, rfl, rfl⟩
theorem s6 : Swp (x0 :: x1 :: x2 :: x3 :: x4 :: x5 :: p :: l) p q (x0 :: x1 :: x2 :: x3 :: x4 :: x5 :: q :: l) := ⟨[x0, x1, x2, x3, x4, x5], l, rfl, rfl⟩
theorem s7 : Swp (x0 :: x1 :: x2 :: x3 :: x4 :: x5 :: x6 :: p :: l) p q (x0 :: x1 :: x2 :: x3 :: x4 :: x5 :: x6 :: q :: l) := ⟨[x0, x1, x2, x3, x4, x5, x6], l, rfl, rfl⟩
theorem s8 : Swp (x0 :: x1 :: x2 :: x3 :: x4 :: x5 :: x6 :: x7 :: p :: l) p q (x0 :: x1 :: x2 :: x3 :: x4 :: x5 :: x6 :: x7 :: q :: l) := ⟨[x0, x1, x2, x3, x4, x5, x6, x7], l, rfl, rfl⟩
theorem s9 : Swp (x0 :: x1 :: x2 :: x3 :: x4 :: x5 :: x6 :: x7 :: x8 :: p :: l) p q (x0 :: x1 :: x2 :: x3 :: x4 :: x5 :: x6 :: x7 :: x8 :: q :: l) := ⟨[x0, x1, x2, x3, x4, x5, x6, x7, x8], l, rfl, rfl⟩
theorem s10 : Swp (x0 :: x1 :: x2 :: x3 :: x4 :: x5 :: x6 :: x7 :: x8 :: x9 :: p :: l) p q (x0 :: x1 :: x2 :: x3 :: x4 :: x5 :: x6 :: x7 :: x8 :: x9 :: q :: l) := ⟨[x0, x1, x2, x3, x4, x5, x6, x7, x8, x9], l, rfl, rfl⟩
theorem s11 : Swp (x0 :: x1 :: x2 :: x3 :: x4 :: x5 :: x6 :: x7 :: x8 :: x9 :: x10 :: p :: l) p q (x0 :: x1 :: x2 :: x3 :: x4 :: x5 :: x6 :: x7 :: x8 :: x9 :: x10 :: q :: l) := ⟨[x0, x1, x2, x3, x4, x5, x6, x7, x8, x9, x10], l, rfl, rfl⟩
theorem r0 : Rem (p :: l) p l := ⟨[], l, rfl, rfl⟩
theorem r1 : Rem (x0 :: p :: l) p (x0 :: l) := ⟨[x0], l, rfl, rfl⟩
theorem r2 : Rem (x0 :: x1 :: p :: l) p (x0 :: x1 :: l) := ⟨[x0, x1], l, rfl, rfl⟩
theorem r3 : Rem (x0 :: x1 :: x2 :: p :: l) p (x0 :: x1 :: x2 :: l) := ⟨[x0, x1, x2], l, rfl, rfl⟩
theorem r4 : Rem (x0 :: x1 :: x2 :: x3 :: p :: l) p (x0 :: x1 :: x2 :: x3 :: l) := ⟨[x0, x1, x2, x3], l, rfl, rfl⟩
theorem r5 : Rem (x0 :: x1 :: x2 :: x3 :: x4 :: p :: l) p (x0 :: x1 :: x2 :: x3 :: x4 :: l) := ⟨[x0, x1, x2, x3, x4], l, rfl, rfl⟩
theorem r6 : Rem (x0 :: x1 :: x2 :: x3 :: x4 :: x5 :: p :: l) p (x0 :: x1 :: x2 :: x3 :: x4 :: x5 :: l) := ⟨[x0, x1, x2, x3, x4, x5], l, rfl, rfl⟩
theorem r7 : Rem (x0 :: x1 :: x2 :: x3 :: x4 :: x5 :: x6 :: p :: l) p (x0 :: x1 :: x2 :: x3 :: x4 :: x5 :: x6 :: l) := ⟨[x0, x1, x2, x3, x4, x5, x6], l, rfl, rfl⟩
theorem r8 : Rem (x0 :: x1 :: x2 :: x3 :: x4 :: x5 :: x6 :: x7 :: p :: l) p (x0 :: x1 :: x2 :: x3 :: x4 :: x5 :: x6 :: x7 :: l) := ⟨[x0, x1, x2, x3, x4, x5, x6, x7], l, rfl, rfl⟩
theorem r9 : Rem (x0 :: x1 :: x2 :: x3 :: x4 :: x5 :: x6 :: x7 :: x8 :: p :: l) p (x0 :: x1 :: x2 :: x3 :: x4 :: x5 :: x6 :: x7 :: x8 :: l) := ⟨[x0, x1, x2, x3, x4, x5, x6, x7, x8], l, rfl, rfl⟩
theorem r10 : Rem (x0 :: x1 :: x2 :: x3 :: x4 :: x5 :: x6 :: x7 :: x8 :: x9 :: p :: l) p (x0 :: x1 :: x2 :: x3 :: x4 :: x5 :: x6 :: x7 :: x8 :: x9 :: l) := ⟨[x0, x1, x2, x3, x4, x5, x6, x7, x8, x9], l, rfl, rfl⟩
theorem r11 : Rem (x0 :: x1 :: x2 :: x3 :: x4 :: x5 :: x6 :: x7 :: x8 :: x9 :: x10 :: p :: l) p (x0 :: x1 :: x2 :: x3 :: x4 :: x5 :: x6 :: x7 :: x8 :: x9 :: x10 :: l) := ⟨[x0, x1, x2, x3, x4, x5, x6, x7, x8, x9, x10], l, rfl, rfl⟩
end
theorem Rem.perm {p : HP} (h : Rem Ps p Qs) : Ps.Perm (p :: Qs) := by
  obtain ⟨a, b, rfl, rfl⟩ := h
  exact List.perm_middle
theorem Swp.rem {p q : HP} (h : Swp Ps p q Qs) : ∃ l, Ps.Perm (p :: l) ∧ (q :: l).Perm Qs := by
  obtain ⟨a, b, rfl, rfl⟩ := h
  exact ⟨a ++ b, List.perm_middle, List.perm_middle.symm⟩
theorem Hp.front {p : HP} (m : Hp w0 R Ps w) (h : Rem Ps p Qs) : Hp w0 R (p :: Qs) w := m.perm h.perm
theorem Hp.rem {p : HP} (m : Hp w0 R Ps w) (h : Rem Ps p Qs) : Hp w0 R Qs w := (m.front h).drop
inductive Sub : List HP → List HP → Prop
  | n {l : List HP} : Sub [] l
  | c {p : HP} {l l' r : List HP} : Rem l p l' → Sub r l' → Sub (p :: r) l
theorem Sub.perm {qs l : List HP} (h : Sub qs l) : ∃ r, l.Perm (qs ++ r) := by
  induction h with
  | @n l => exact ⟨l, .refl _⟩
  | c h _ ih =>
    obtain ⟨r, hr⟩ := ih
    exact ⟨r, h.perm.trans (hr.cons _)⟩
theorem Hp.dropAll {rs : List HP} : ∀ {qs : List HP}, Hp w0 R (qs ++ rs) w → Hp w0 R qs w := by
  induction rs with
  | nil => intro qs m; simpa using m
  | cons r rs ih =>
    intro qs m
    exact ih ((m.perm (Qs := r :: (qs ++ rs)) List.perm_middle).drop)
theorem Hp.sub {qs : List HP} (m : Hp w0 R Ps w) (h : Sub qs Ps) : Hp w0 R qs w := by
  obtain ⟨r, hr⟩ := h.perm
  exact (m.perm hr).dropAll
theorem Swp.out {p q : HP} (h : Swp Ps p q Qs) : ∃ l, Rem Ps p l := by
  obtain ⟨a, b, rfl, rfl⟩ := h
  exact ⟨a ++ b, a, b, rfl, rfl⟩
theorem Hp.swp {p q : HP} (m : Hp w0 R Ps w) (h : Swp Ps p q Qs) (f : ∀ h, p h → q h) : Hp w0 R Qs w := by
  obtain ⟨l, a, b⟩ := h.rem
  exact ((m.perm a).map fun _ => SepL.head f).perm b
theorem Hp.look {p : HP} (m : Hp w0 R Ps w) (h : Rem Ps p Qs) : ∃ g, p g ∧ hle g (hh w) := by
  obtain ⟨h, s, d, e⟩ := (m.perm h.perm).heap
  obtain ⟨h1, h2, _, ⟨h3, h4, hp, _, d1, rfl⟩, d2, rfl⟩ := s
  refine ⟨h3, hp, ?_⟩
  rw [e]
  exact hle_trans (hle_trans (hle_left _ _) (hle_right d2)) (hle_left _ _)
theorem Hp.exact {p : HP} (m : Hp w0 R (p :: Ps) w) : ∃ g, p g ∧ hle g (hh w) ∧ Hp w0 R ((fun h => h = g) :: Ps) w := by
  obtain ⟨h, s, d, e⟩ := m.heap
  obtain ⟨h1, h2, _, ⟨h3, h4, hp, t, d1, rfl⟩, d2, rfl⟩ := s
  refine ⟨h3, hp, ?_, ⟨m.os, m.tape, m.output, m.size, _, ⟨h1, _, trivial, ⟨h3, h4, rfl, t, d1, rfl⟩, d2, rfl⟩, d, e⟩⟩
  rw [e]
  exact hle_trans (hle_trans (hle_left _ _) (hle_right d2)) (hle_left _ _)
theorem SepL.look {p : HP} {h : Hh} (s : SepL Ps h) (r : Rem Ps p Qs) : ∃ g, p g ∧ hle g h := by
  obtain ⟨h1, h2, hp, _, d, rfl⟩ := s.perm r.perm
  exact ⟨h1, hp, hle_left _ _⟩
/-! ### 3. Calls and the heap -/
theorem Hp.after (m : Hp w0 R Ps w) (k : Hp w (hh w) Qs w') : Hp w0 R (Qs ++ Ps) w' := by
  obtain ⟨h, ⟨h1, h2, _, s, d1, rfl⟩, d, e⟩ := m.heap
  obtain ⟨g, ⟨g1, g2, _, t, c1, rfl⟩, c, f⟩ := k.heap
  rw [e] at c f
  have c' := hd_hu_right.1 c
  have c'' := hd_hu_right.1 c'.1
  have c3 := hd_hu_left.1 c''.1
  have c4 := hd_hu_left.1 c''.2
  refine ⟨k.os.trans m.os, k.tape.trans m.tape, k.output.trans m.output, ⟨Nat.le_trans m.size.1 k.size.1, Nat.le_trans m.size.2 k.size.2⟩, hu (hu g1 h1) (hu g2 h2), ?_, ?_, ?_⟩
  · refine ⟨hu g1 h1, hu g2 h2, trivial, t.append s c4.2, ?_, rfl⟩
    exact hd_hu_left.2 ⟨hd_hu_right.2 ⟨c1, c4.1⟩, hd_hu_right.2 ⟨hd_comm c3.2, d1⟩⟩
  · have := hd_hu_left.1 d
    have c5 := hd_hu_left.1 c'.2
    exact hd_hu_left.2 ⟨hd_hu_left.2 ⟨c5.1, this.1⟩, hd_hu_left.2 ⟨c5.2, this.2⟩⟩
  · rw [f]
    rw [← hu_assoc]
    congr 1
    funext i
    simp only [hu]
    have := c3.2 i
    cases x1 : g1 i <;> cases x2 : g2 i <;> cases x3 : h1 i <;> cases x4 : h2 i <;> simp_all
theorem Hp.split {Pc : List HP} (m : Hp w0 R (Pc ++ Ps) w) : ∃ R', hle R R' ∧ hle R' (hh w) ∧ (∃ y, SepL Ps y ∧ hle y R') ∧ Hp w R' Pc w ∧ ∀ (Qc : List HP) (w' : World), Hp w R' Qc w' → Hp w0 R (Qc ++ Ps) w' := by
  obtain ⟨h, ⟨h1, h2, _, s, d1, rfl⟩, d, e⟩ := m.heap
  obtain ⟨x, y, sx, sy, dxy, rfl⟩ := s.unappend
  have d1' := hd_hu_right.1 d1
  have d2 := hd_hu_left.1 d
  have d3 := hd_hu_left.1 d2.2
  -- the frame: h1, y, R
  have dA : hd (hu h1 y) R := hd_hu_left.2 ⟨d2.1, d3.2⟩
  have dB : hd x (hu (hu h1 y) R) := hd_hu_right.2 ⟨hd_hu_right.2 ⟨hd_comm d1'.1, dxy⟩, d3.1⟩
  have hw : hh w = hu x (hu (hu h1 y) R) := by
    rw [e, ← hu_assoc, ← hu_assoc, ← hu_assoc]
    congr 1
    rw [hu_comm d1'.1]
  refine ⟨hu (hu h1 y) R, hle_right dA, ?_, ⟨y, sy, hle_trans (hle_right d1'.2) (hle_left _ _)⟩, ⟨rfl, rfl, rfl, ⟨Nat.le_refl _, Nat.le_refl _⟩, x, ⟨hnil, x, trivial, sx, hd_nil _, (hu_nil _).symm⟩, dB, hw⟩, ?_⟩
  · rw [hw]; exact hle_right dB
  · intro Qc w' k
    obtain ⟨g, ⟨g1, g2, _, t, c1, rfl⟩, c, f⟩ := k.heap
    have c' := hd_hu_right.1 c
    have c2 := hd_hu_left.1 c'.1
    have c3 := hd_hu_right.1 c2.1
    have c4 := hd_hu_right.1 c2.2
    refine ⟨k.os.trans m.os, k.tape.trans m.tape, k.output.trans m.output, ⟨Nat.le_trans m.size.1 k.size.1, Nat.le_trans m.size.2 k.size.2⟩, hu (hu g1 h1) (hu g2 y), ⟨hu g1 h1, hu g2 y, trivial, t.append sy c4.2, ?_, rfl⟩, ?_, ?_⟩
    · exact hd_hu_left.2 ⟨hd_hu_right.2 ⟨c1, c3.2⟩, hd_hu_right.2 ⟨hd_comm c4.1, d1'.2⟩⟩
    · have c5 := hd_hu_left.1 c'.2
      exact hd_hu_left.2 ⟨hd_hu_left.2 ⟨c5.1, d2.1⟩, hd_hu_left.2 ⟨c5.2, d3.2⟩⟩
    · rw [f, ← hu_assoc]
      congr 1
      funext i
      simp only [hu]
      have := c4.1 i
      cases x1 : g1 i <;> cases x2 : g2 i <;> cases x3 : h1 i <;> cases x4 : y i <;> simp_all
theorem Hp.alloc (m : Hp w0 R Ps w) (o : Obj) : Hp w0 R ((fun h => h = hone w.heap.size o) :: Ps) (w.alloc o) := by
  obtain ⟨h, ⟨h1, h2, _, s, d1, rfl⟩, d, e⟩ := m.heap
  have hfree : ∀ g, hle g (hh w) → g w.heap.size = none := by
    intro g hg
    cases hx : g w.heap.size with
    | none => rfl
    | some o' =>
      have := hg _ _ hx
      simp [hh] at this
  have l1 : hle h1 (hh w) := by rw [e]; exact hle_trans (hle_left _ _) (hle_left _ _)
  have l2 : hle h2 (hh w) := by rw [e]; exact hle_trans (hle_right d1) (hle_left _ _)
  have l3 : hle R (hh w) := by rw [e]; exact hle_right d
  have dn : ∀ g, hle g (hh w) → hd (hone w.heap.size o) g := by
    intro g hg i
    by_cases hi : i = w.heap.size
    · exact .inr (hi ▸ hfree g hg)
    · exact .inl (by simp [hone, hi])
  refine ⟨m.os, m.tape, m.output, ⟨by have := m.size.1; simp; omega, m.size.2⟩, hu h1 (hu (hone w.heap.size o) h2), ?_, ?_, ?_⟩
  · exact ⟨h1, _, trivial, ⟨_, h2, rfl, s, dn h2 l2, rfl⟩, hd_hu_right.2 ⟨hd_comm (dn h1 l1), d1⟩, rfl⟩
  · have d' := hd_hu_left.1 d
    exact hd_hu_left.2 ⟨d'.1, hd_hu_left.2 ⟨dn R l3, d'.2⟩⟩
  · funext i
    have e' := congrFun e i
    have f1 := hfree h1 l1
    have f2 := hfree h2 l2
    have f3 := hfree R l3
    simp only [hh] at e' ⊢
    simp only [World.alloc, Array.getElem?_push]
    by_cases hi : i = w.heap.size
    · subst hi
      simp [hu, hone, f1]
    · rw [if_neg hi, e']
      simp [hu, hone, hi]
theorem Hp.block {b : Nat} {o o' : Obj} (m : Hp w0 R ((fun h => h = hone b o) :: Ps) w) (hw : w'.heap = w.heap.setIfInBounds b o') (hos : w'.os = w.os) (htape : w'.tape = w.tape) (hout : w'.output = w.output ∧ w.drawn ≤ w'.drawn) :
    Hp w0 R ((fun h => h = hone b o') :: Ps) w' := by
  obtain ⟨h, ⟨h1, h2, _, ⟨h3, h4, rfl, s, d1, rfl⟩, d2, rfl⟩, d, e⟩ := m.heap
  have hdd : ∀ g, hd (hone b o) g → hd (hone b o') g := by
    intro g hg i
    rcases hg i with x | x
    · left
      by_cases hi : i = b
      · simp [hone, hi] at x
      · simp [hone, hi]
    · exact .inr x
  have d2' := hd_hu_right.1 d2
  have d' := hd_hu_left.1 d
  have d'' := hd_hu_left.1 d'.2
  refine ⟨hos.trans m.os, htape.trans m.tape, hout.1.trans m.output, ⟨by have := m.size.1; simp [hw]; omega, Nat.le_trans m.size.2 hout.2⟩, hu h1 (hu (hone b o') h4), ⟨h1, _, trivial, ⟨_, h4, rfl, s, hdd _ d1, rfl⟩, hd_hu_right.2 ⟨hd_comm (hdd _ (hd_comm d2'.1)), d2'.2⟩, rfl⟩,
    hd_hu_left.2 ⟨d'.1, hd_hu_left.2 ⟨hdd _ d''.1, d''.2⟩⟩, ?_⟩
  have hin : w.heap[b]? = some o := by
    have := congrFun e b
    simp only [hh] at this
    rw [this]
    have := d2'.1 b
    simp only [hone, if_true] at this
    rcases this with x | x
    · simp [hu, hone, x]
    · cases x
  have hlt : b < w.heap.size := (Array.getElem?_eq_some_iff.1 hin).1
  funext i
  have e' := congrFun e i
  simp only [hh] at e' ⊢
  rw [hw, Array.getElem?_setIfInBounds]
  by_cases hi : b = i
  · subst hi
    have := d2'.1 b
    simp only [hone, if_true] at this
    rcases this with x | x
    · simp [hu, hone, x, hlt]
    · cases x
  · rw [if_neg hi, e']
    have : ¬ i = b := fun h => hi h.symm
    simp [hu, hone, this]
theorem Hp.drew (m : Hp w0 R Ps w) : Hp w0 R Ps w.drew := ⟨m.os, m.tape, m.output, ⟨m.size.1, Nat.le_trans m.size.2 (Nat.le_succ _)⟩, m.heap⟩
theorem Hp.drawn (m : Hp w0 R Ps w) (n : Nat) (hn : w.drawn ≤ n := by first | exact Nat.le_succ _ | omega) : Hp w0 R Ps { w with drawn := n } := ⟨m.os, m.tape, m.output, ⟨m.size.1, Nat.le_trans m.size.2 hn⟩, m.heap⟩
end Go.Proofs.YtdallmabajeajaaGreatDoor.Fw
set_option linter.unusedVariables false
set_option linter.all false
namespace Go.Proofs.YtdallmabajeajaaGreatDoor.Fw
open Go
/-! ### 4. Types, «as» the tables have them -/
def aggD : TypeDesc → Bool
  | .struct _ | .array _ _ => true
  | _ => false
def tyI (P : Program) (T : TypeId) : Option (Bool × Nat) :=
  match P.underlying T, P.info? T with
  | some d, some i => some (aggD d, i.size)
  | _, _ => none
def fdI (P : Program) (T : TypeId) (i : Nat) : Option (Nat × TypeId) :=
  match P.underlying T with
  | some (.struct fs) => (fs[i]?).map fun f => (f.offset, f.type)
  | _ => none
def slI (P : Program) (T : TypeId) : Option TypeId :=
  match P.underlying T with
  | some (.slice e) => some e
  | _ => none
def arI (P : Program) (T : TypeId) : Option (Nat × TypeId) :=
  match P.underlying T with
  | some (.array n e) => some (n, e)
  | _ => none
def inI (P : Program) (T : TypeId) : Option IntKind :=
  match P.underlying T with
  | some (.int k) => some k
  | _ => none
section
variable {P : Program} {w : World} {T : TypeId} {ag : Bool} {n : Nat}
theorem tyI_spec (h : tyI P T = some (ag, n)) : ∃ d i, P.underlying T = some d ∧ P.info? T = some i ∧ aggD d = ag ∧ i.size = n := by
  unfold tyI at h
  split at h
  · rename_i d i h1 h2
    simp only [Option.some.injEq, Prod.mk.injEq] at h
    exact ⟨d, i, h1, h2, h.1, h.2⟩
  · cases h
theorem fdI_spec {i o : Nat} {U : TypeId} (h : fdI P T i = some (o, U)) : ∃ fs f, P.underlying T = some (.struct fs) ∧ fs[i]? = some f ∧ f.offset = o ∧ f.type = U := by
  unfold fdI at h
  split at h
  · rename_i fs h1
    cases hf : fs[i]? with
    | none => simp [hf] at h
    | some f =>
      simp only [hf, Option.map_some, Option.some.injEq, Prod.mk.injEq] at h
      exact ⟨fs, f, h1, hf, h.1, h.2⟩
  · cases h
theorem slI_spec {E : TypeId} (h : slI P T = some E) : P.underlying T = some (.slice E) := by
  unfold slI at h
  split at h
  · rename_i h1
    simp only [Option.some.injEq] at h
    rw [h1, h]
  · cases h
theorem arI_spec {E : TypeId} (h : arI P T = some (n, E)) : P.underlying T = some (.array n E) := by
  unfold arI at h
  split at h
  · rename_i h1
    simp only [Option.some.injEq, Prod.mk.injEq] at h
    rw [h1, h.1, h.2]
  · cases h
theorem inI_spec {k : IntKind} (h : inI P T = some k) : P.underlying T = some (.int k) := by
  unfold inI at h
  split at h
  · rename_i h1
    simp only [Option.some.injEq] at h
    rw [h1, h]
  · cases h
theorem run_isAgg' (h : tyI P T = some (ag, n)) (w : World) : (isAgg T).run P w = .ok ag w := by
  obtain ⟨d, i, h1, h2, h3, h4⟩ := tyI_spec h
  cases d <;> simp [isAgg, go_sem, run_underlying h1] <;> simp_all [aggD]
theorem run_sizeOf' (h : tyI P T = some (ag, n)) (w : World) : (sizeOf T).run P w = .ok n w := by
  obtain ⟨d, i, h1, h2, h3, h4⟩ := tyI_spec h
  simp [sizeOf, typeInfo, go_sem, h2, h4]
end
/-! ### 5. Addresses and cells -/
def padd (p : Addr) (o : Nat) : Addr := ⟨p.block, p.off + o, none⟩
theorem padd_add (p : Addr) (o n : Nat) : (padd p o).add n = padd p (o + n) := by
  unfold Addr.add padd
  by_cases h : n = 0
  · simp [h]
  · simp [h, Nat.add_assoc]
theorem padd_padd (p : Addr) (o n : Nat) : padd (padd p o) n = padd p (o + n) := by simp [padd, Nat.add_assoc]
def CellsAt (h : Hh) (p : Addr) (cs : List Value) : Prop := ∃ arr T fz, h p.block = some (.cells arr T fz) ∧ (arr.toList.drop p.off).take cs.length = cs
theorem CellsAt.le {h g : Hh} {p : Addr} {cs : List Value} (c : CellsAt h p cs) (l : hle h g) : CellsAt g p cs :=
  let ⟨arr, T, fz, a, b⟩ := c
  ⟨arr, T, fz, l _ _ a, b⟩
theorem CellsAt.cell {w : World} {p : Addr} {cs : List Value} (c : CellsAt (hh w) p cs) {o : Nat} {v : Value} (h : cs[o]? = some v) : w.cell? (padd p o) = some v := by
  obtain ⟨arr, T, fz, a, b⟩ := c
  have hlt : o < cs.length := (List.getElem?_eq_some_iff.1 h).1
  have : (arr.toList.drop p.off)[o]? = some v := by
    rw [← b, List.getElem?_take_of_lt hlt] at h
    exact h
  rw [List.getElem?_drop] at this
  simp only [hh] at a
  simp only [World.cell?, padd, a]
  simpa using this
def CAt (C : World → Prop) (p : Addr) (cs : List Value) : Prop := ∀ w, C w → CellsAt (hh w) p cs
theorem run_loadCellsFrom {P : Program} {w : World} {a : Addr} : ∀ (n i : Nat) (vs : List Value) (acc : Array Value), vs.length = n → (∀ j v, vs[j]? = some v → w.cell? (a.add (i + j)) = some v) →
    (loadCellsFrom a i n acc).run P w = .ok (acc ++ vs.toArray) w
  | 0, i, vs, acc, hl, _ => by
    have : vs = [] := List.eq_nil_of_length_eq_zero hl
    subst this
    simp [loadCellsFrom, go_sem]
  | n + 1, i, vs, acc, hl, h => by
    match vs, hl with
    | v :: vs, hl =>
      have h0 := h 0 v rfl
      simp only [Nat.add_zero] at h0
      have ih := run_loadCellsFrom (P := P) (w := w) (a := a) n (i + 1) vs (acc.push v) (by simpa using hl) (fun j u hj => by
        have := h (j + 1) u (by simpa using hj)
        rw [show i + (j + 1) = i + 1 + j from by omega] at this
        exact this)
      simp only [loadCellsFrom, load, bind, Sem.bind, Sem.run, h0]
      rw [ih]
      simp
theorem run_loadVar_ag {P : Program} {w : World} {T : TypeId} {n : Nat} (ht : tyI P T = some (true, n)) {p : Addr} {o : Nat} {cs vs : List Value} (c : CellsAt (hh w) p cs) (hv : (cs.drop o).take n = vs) (hl : vs.length = n) :
    (loadVar T (padd p o)).run P w = .ok (.agg ⟨vs⟩) w := by
  have hL := run_loadCellsFrom (P := P) (w := w) (a := padd p o) n 0 vs #[] hl (fun j v hj => by
    rw [padd_add]
    refine c.cell ?_
    have hlt : j < vs.length := (List.getElem?_eq_some_iff.1 hj).1
    rw [← hv, List.getElem?_take_of_lt (by omega), List.getElem?_drop] at hj
    simpa using hj)
  unfold loadVar
  simp only [bind, Sem.run_bind', Result.andThen, run_isAgg' ht, if_true, run_sizeOf' ht, loadCells]
  rw [hL]
  simp [pure]
theorem run_loadVar_sc {P : Program} {w : World} {T : TypeId} {n : Nat} (ht : tyI P T = some (false, n)) {p : Addr} {o : Nat} {cs : List Value} {v : Value} (c : CellsAt (hh w) p cs) (hv : cs[o]? = some v) :
    (loadVar T (padd p o)).run P w = .ok v w := by
  unfold loadVar
  simp [bind, Sem.run_bind', Result.andThen, run_isAgg' ht, load, Sem.run, c.cell hv]
/-! ### 6. Operations that leave the world alone -/
def Ok (P : Program) (C : World → Prop) (L : List (Nat × Value)) (o : Oper) (v : Value) : Prop :=
  ∀ a : Operand → Value, (∀ x u, ev L x = some u → a x = u) → ∀ w, C w → (execOp a o).run P w = .ok (.value v) w
def bAnd (k : IntKind) (m n : Int) : Int := k.wrap (BitVec.ofInt k.bits m &&& BitVec.ofInt k.bits n).toNat
def bOr (k : IntKind) (m n : Int) : Int := k.wrap (BitVec.ofInt k.bits m ||| BitVec.ofInt k.bits n).toNat
def bXor (k : IntKind) (m n : Int) : Int := k.wrap (BitVec.ofInt k.bits m ^^^ BitVec.ofInt k.bits n).toNat
def bAndNot (k : IntKind) (m n : Int) : Int := k.wrap (BitVec.ofInt k.bits m &&& ~~~BitVec.ofInt k.bits n).toNat
def ib : BinOp → IntKind → Int → Int → Option Value
  | .add, k, m, n => some (.int k (k.wrap (m + n)))
  | .sub, k, m, n => some (.int k (k.wrap (m - n)))
  | .mul, k, m, n => some (.int k (k.wrap (m * n)))
  | .and, k, m, n => some (.int k (bAnd k m n))
  | .or, k, m, n => some (.int k (bOr k m n))
  | .xor, k, m, n => some (.int k (bXor k m n))
  | .andNot, k, m, n => some (.int k (bAndNot k m n))
  | .eql, _, m, n => some (.bool (m == n))
  | .neq, _, m, n => some (.bool (m != n))
  | .lss, _, m, n => some (.bool (decide (m < n)))
  | .leq, _, m, n => some (.bool (decide (m ≤ n)))
  | .gtr, _, m, n => some (.bool (decide (m > n)))
  | .geq, _, m, n => some (.bool (decide (m ≥ n)))
  | _, _, _, _ => none
section
variable {P : Program} {C : World → Prop} {L : List (Nat × Value)} {d : Option Tmp} {ty : TypeId} {pos : String} {aft : Array Edge} {g : Option (Nat × Bool)}
theorem ok_move {x : Operand} {v : Value} (hx : ev L x = some v) : Ok P C L ⟨d, .move x, ty, pos, aft, g⟩ v := fun a ha w _ => by
  simp [execOp, ha x v hx, pure, Sem.run]
theorem ok_assign {x : Operand} {v : Value} (hx : ev L x = some v) : Ok P C L ⟨d, .assign x, ty, pos, aft, g⟩ v := fun a ha w _ => by
  simp [execOp, ha x v hx, pure, Sem.run]
theorem run_eqGuard_int (op : BinOp) (T : TypeId) (x y : Operand) (k k' : IntKind) (m n : Int) (w : World) : (eqGuard op T x y (.int k m) (.int k' n)).run P w = .ok () w := by
  unfold eqGuard
  cases op <;> simp [go_sem]
theorem run_ib {op : BinOp} {T : TypeId} {k : IntKind} {m n : Int} {v : Value} (hv : ib op k m n = some v) (w : World) : (binOp op T (.int k m) (.int k n)).run P w = .ok v w := by
  cases op <;> simp only [ib, Option.some.injEq, reduceCtorEq] at hv <;> subst hv <;>
    simp [binOp, Op.intArith, Op.intBits, Op.intCmp, pure, Sem.run, bAnd, bOr, bXor, bAndNot]
theorem ok_bin {op : BinOp} {T T' : TypeId} {x y : Operand} {k : IntKind} {m n : Int} {v : Value} (hx : ev L x = some (.int k m)) (hy : ev L y = some (.int k n)) (hv : ib op k m n = some v) :
    Ok P C L ⟨d, .binOp op T x y T', ty, pos, aft, g⟩ v := fun a ha w _ => by
  have h1 := run_eqGuard_int (P := P) op T x y k k m n w
  have h2 := run_ib (P := P) (T := T) hv w
  simp [execOp, ha x _ hx, ha y _ hy, bind, Sem.run_bind', h1, h2, pure, Sem.run, Result.andThen]
theorem ok_add {T T' : TypeId} {x y : Operand} {k : IntKind} {m n r : Int} (hx : ev L x = some (.int k m)) (hy : ev L y = some (.int k n)) (hr : k.wrap (m + n) = r) :
    Ok P C L ⟨d, .binOp .add T x y T', ty, pos, aft, g⟩ (.int k r) := ok_bin hx hy (by rw [← hr]; rfl)
theorem ok_sub {T T' : TypeId} {x y : Operand} {k : IntKind} {m n r : Int} (hx : ev L x = some (.int k m)) (hy : ev L y = some (.int k n)) (hr : k.wrap (m - n) = r) :
    Ok P C L ⟨d, .binOp .sub T x y T', ty, pos, aft, g⟩ (.int k r) := ok_bin hx hy (by rw [← hr]; rfl)
theorem ok_quo {T T' : TypeId} {x y : Operand} {k : IntKind} {m n r : Int} (hx : ev L x = some (.int k m)) (hy : ev L y = some (.int k n)) (hn : n ≠ 0) (hr : k.wrap (m.tdiv n) = r) :
    Ok P C L ⟨d, .binOp .quo T x y T', ty, pos, aft, g⟩ (.int k r) := fun a ha w _ => by
  have h1 := run_eqGuard_int (P := P) .quo T x y k k m n w
  subst hr
  simp [execOp, ha x _ hx, ha y _ hy, bind, Sem.run_bind', h1, binOp, Op.intDiv, hn, pure, Sem.run, Result.andThen]
theorem ok_rem {T T' : TypeId} {x y : Operand} {k : IntKind} {m n r : Int} (hx : ev L x = some (.int k m)) (hy : ev L y = some (.int k n)) (hn : n ≠ 0) (hr : m.tmod n = r) :
    Ok P C L ⟨d, .binOp .rem T x y T', ty, pos, aft, g⟩ (.int k r) := fun a ha w _ => by
  have h1 := run_eqGuard_int (P := P) .rem T x y k k m n w
  subst hr
  simp [execOp, ha x _ hx, ha y _ hy, bind, Sem.run_bind', h1, binOp, Op.intDiv, hn, pure, Sem.run, Result.andThen]
theorem ok_shl {T T' : TypeId} {x y : Operand} {k k' : IntKind} {m n r : Int} (hx : ev L x = some (.int k m)) (hy : ev L y = some (.int k' n)) (hn : 0 ≤ n) (hr : k.wrap (m * 2 ^ (min n.toNat k.bits)) = r) :
    Ok P C L ⟨d, .binOp .shl T x y T', ty, pos, aft, g⟩ (.int k r) := fun a ha w _ => by
  have h1 := run_eqGuard_int (P := P) .shl T x y k k' m n w
  have hn' : ¬ n < 0 := by omega
  subst hr
  simp [execOp, ha x _ hx, ha y _ hy, bind, Sem.run_bind', h1, binOp, Op.shift, hn', pure, Sem.run, Result.andThen]
theorem ok_shr {T T' : TypeId} {x y : Operand} {k k' : IntKind} {m n r : Int} (hx : ev L x = some (.int k m)) (hy : ev L y = some (.int k' n)) (hn : 0 ≤ n) (hr : m.fdiv (2 ^ (min n.toNat k.bits)) = r) :
    Ok P C L ⟨d, .binOp .shr T x y T', ty, pos, aft, g⟩ (.int k r) := fun a ha w _ => by
  have h1 := run_eqGuard_int (P := P) .shr T x y k k' m n w
  have hn' : ¬ n < 0 := by omega
  subst hr
  simp [execOp, ha x _ hx, ha y _ hy, bind, Sem.run_bind', h1, binOp, Op.shift, hn', pure, Sem.run, Result.andThen]
theorem ok_not {T : TypeId} {x : Operand} {b : Bool} (hx : ev L x = some (.bool b)) : Ok P C L ⟨d, .unOp .not T x, ty, pos, aft, g⟩ (.bool (!b)) := fun a ha w _ => by
  simp [execOp, ha x _ hx, Op.unary, bind, Sem.run_bind', pure, Sem.run, Result.andThen]
theorem ok_neg {T : TypeId} {x : Operand} {k : IntKind} {n r : Int} (hx : ev L x = some (.int k n)) (hr : k.wrap (0 - n) = r) : Ok P C L ⟨d, .unOp .neg T x, ty, pos, aft, g⟩ (.int k r) := fun a ha w _ => by
  subst hr
  simp [execOp, ha x _ hx, Op.unary, Op.intArith, bind, Sem.run_bind', pure, Sem.run, Result.andThen]
theorem ok_conv {src dst : TypeId} {x : Operand} {k k' : IntKind} {n r : Int} (hx : ev L x = some (.int k n)) (hs : inI P src = some k) (ht : inI P dst = some k') (hr : k'.wrap n = r) :
    Ok P C L ⟨d, .convert src dst x, ty, pos, aft, g⟩ (.int k' r) := fun a ha w _ => by
  subst hr
  have h1 := inI_spec hs
  have h2 := inI_spec ht
  simp [execOp, ha x _ hx, convert, Conv.intToInt, bind, Sem.run_bind', run_underlying h1, run_underlying h2, pure, Sem.run, Result.andThen]
theorem ok_pick {c x y : Operand} {b : Bool} {v u r : Value} (hc : ev L c = some (.bool b)) (hx : ev L x = some v) (hy : ev L y = some u) (hr : (bif b then v else u) = r) :
    Ok P C L ⟨d, .pick c x y, ty, pos, aft, g⟩ r := fun a ha w _ => by
  subst hr
  cases b <;> simp [execOp, ha c _ hc, ha x _ hx, ha y _ hy, asBool, bind, Sem.run_bind', pure, Sem.run, Result.andThen]
theorem ok_extract {x : Operand} {l : List Value} {i : Nat} {v : Value} (hx : ev L x = some (.tuple ⟨l⟩)) (hv : l[i]? = some v) : Ok P C L ⟨d, .extract x i, ty, pos, aft, g⟩ v := fun a ha w _ => by
  simp [execOp, ha x _ hx, Instr.extract, hv, bind, Sem.run_bind', pure, Sem.run, Result.andThen]
theorem ok_field_ag {T U : TypeId} {x : Operand} {i o n : Nat} {cs vs : List Value} (hx : ev L x = some (.agg ⟨cs⟩)) (hf : fdI P T i = some (o, U)) (ht : tyI P U = some (true, n)) (hv : (cs.drop o).take n = vs) :
    Ok P C L ⟨d, .field T x i, ty, pos, aft, g⟩ (.agg ⟨vs⟩) := fun a ha w _ => by
  obtain ⟨fs, f, h1, h2, rfl, rfl⟩ := fdI_spec hf
  simp [execOp, ha x _ hx, Instr.field, part, asAgg, bind, Sem.run_bind', run_underlying h1, h2, run_isAgg' ht, run_sizeOf' ht, pure, Sem.run, Result.andThen, hv]
theorem ok_field_sc {T U : TypeId} {x : Operand} {i o n : Nat} {cs : List Value} {v : Value} (hx : ev L x = some (.agg ⟨cs⟩)) (hf : fdI P T i = some (o, U)) (ht : tyI P U = some (false, n)) (hv : cs[o]? = some v) :
    Ok P C L ⟨d, .field T x i, ty, pos, aft, g⟩ v := fun a ha w _ => by
  obtain ⟨fs, f, h1, h2, rfl, rfl⟩ := fdI_spec hf
  simp [execOp, ha x _ hx, Instr.field, part, asAgg, bind, Sem.run_bind', run_underlying h1, h2, run_isAgg' ht, pure, Sem.run, Result.andThen, hv]
theorem ok_fieldAddr {T U : TypeId} {x : Operand} {i o o' r n : Nat} {ag : Bool} {p : Addr} (hx : ev L x = some (.pointer (some (padd p o)))) (hf : fdI P T i = some (o', U)) (ht : tyI P U = some (ag, n + 1)) (hr : o + o' = r) :
    Ok P C L ⟨d, .fieldAddr T x i, ty, pos, aft, g⟩ (.pointer (some (padd p r))) := fun a ha w _ => by
  obtain ⟨fs, f, h1, h2, rfl, rfl⟩ := fdI_spec hf
  subst hr
  simp [execOp, ha x _ hx, Instr.fieldAt, Instr.sureAddr, fieldPlace, bind, Sem.run_bind', run_underlying h1, h2, run_sizeOf' ht, pure, Sem.run, Result.andThen, padd_add]
theorem ok_load_ag {T : TypeId} {x : Operand} {p : Addr} {o n : Nat} {cs vs : List Value} (hx : ev L x = some (.pointer (some (padd p o)))) (ht : tyI P T = some (true, n)) (hc : CAt C p cs) (hv : (cs.drop o).take n = vs) (hl : vs.length = n) :
    Ok P C L ⟨d, .load T x, ty, pos, aft, g⟩ (.agg ⟨vs⟩) := fun a ha w hw => by
  simp [execOp, ha x _ hx, Instr.loadAt, Instr.sureAddr, bind, Sem.run_bind', pure, Sem.run, Result.andThen, run_loadVar_ag ht (hc w hw) hv hl]
theorem ok_load_sc {T : TypeId} {x : Operand} {p : Addr} {o n : Nat} {cs : List Value} {v : Value} (hx : ev L x = some (.pointer (some (padd p o)))) (ht : tyI P T = some (false, n)) (hc : CAt C p cs) (hv : cs[o]? = some v) :
    Ok P C L ⟨d, .load T x, ty, pos, aft, g⟩ v := fun a ha w hw => by
  simp [execOp, ha x _ hx, Instr.loadAt, Instr.sureAddr, bind, Sem.run_bind', pure, Sem.run, Result.andThen, run_loadVar_sc ht (hc w hw) hv]
theorem ok_nilCheck {x : Operand} {p : Addr} (hx : ev L x = some (.pointer (some p))) : Ok P C L ⟨d, .nilCheck x, ty, pos, aft, g⟩ (.pointer (some p)) := fun a ha w _ => by
  simp [execOp, ha x _ hx, pure, Sem.run]
end
end Go.Proofs.YtdallmabajeajaaGreatDoor.Fw
set_option linter.unusedVariables false
set_option linter.all false
namespace Go.Proofs.YtdallmabajeajaaGreatDoor.Fw
open Go
/-! ### 7. Pieces -/
def Bx (p : Addr) (E : TypeId) (cs : List Value) : HP := fun h => p.off = 0 ∧ h = hone p.block (.cells ⟨cs⟩ E (0, 0))
def RdS (h : Hh) (k : Nat) (v : Value) (ds : List (List Value)) : Prop :=
  (∀ d ∈ ds, d.length = k) ∧ ds.length ≤ 140737488355328 ∧ ∃ a cap, v = .slice a ds.length cap ∧ ds.length ≤ cap ∧
    (ds ≠ [] → ∃ b off arr T fz, a = some ⟨b, off, none⟩ ∧ h b = some (.cells arr T fz) ∧ (arr.toList.drop off).take (ds.length * k) = ds.flatten)
theorem RdS.le {h g : Hh} {k : Nat} {v : Value} {ds : List (List Value)} (r : RdS h k v ds) (l : hle h g) : RdS g k v ds := by
  obtain ⟨h1, hb, a, cap, h2, h3, h4⟩ := r
  refine ⟨h1, hb, a, cap, h2, h3, fun hn => ?_⟩
  obtain ⟨b, off, arr, T, fz, e1, e2, e3⟩ := h4 hn
  exact ⟨b, off, arr, T, fz, e1, l _ _ e2, e3⟩
theorem RdS.nil (h : Hh) (k : Nat) : RdS h k (.slice none 0 0) [] := ⟨by simp, by simp, none, 0, rfl, Nat.le_refl _, fun h => absurd rfl h⟩
def Sv (k : Nat) (E : TypeId) (v : Value) (ds : List (List Value)) : HP := fun h =>
  ((∀ d ∈ ds, d.length = k) ∧ ds.length ≤ 140737488355328) ∧
  ((v = .slice none 0 0 ∧ ds = [] ∧ h = hnil) ∨
   ∃ (b off cap : Nat) (cs : List Value), v = .slice (some ⟨b, off, none⟩) ds.length cap ∧ ds.length ≤ cap ∧ off + cap * k ≤ cs.length ∧ (cs.drop off).take (ds.length * k) = ds.flatten ∧ h = hone b (.cells ⟨cs⟩ E (0, 0)))
theorem Sv.reads {k : Nat} {E : TypeId} {v : Value} {ds : List (List Value)} {h : Hh} (s : Sv k E v ds h) : RdS h k v ds := by
  obtain ⟨h1, h2 | ⟨b, off, cap, cs, h2, h3, h4, h5, h6⟩⟩ := s
  · obtain ⟨rfl, rfl, rfl⟩ := h2
    exact RdS.nil _ _
  · refine ⟨h1.1, h1.2, _, cap, h2, h3, fun _ => ⟨b, off, ⟨cs⟩, E, (0, 0), rfl, ?_, h5⟩⟩
    rw [h6]; simp [hone]
section
variable {P : Program} {w0 w w' : World} {R : Hh} {Ps Qs : List HP}
theorem Hp.rd (m : Hp w0 R Ps w) {k : Nat} {v : Value} {ds : List (List Value)} (r : RdS R k v ds) : RdS (hh w) k v ds := r.le m.frame
theorem Hp.rdv (m : Hp w0 R Ps w) {k : Nat} {E : TypeId} {v : Value} {ds : List (List Value)} (h : Rem Ps (Sv k E v ds) Qs) : RdS (hh w) k v ds :=
  let ⟨_, s, l⟩ := m.look h
  s.reads.le l
theorem bx_at {p : Addr} {E : TypeId} {cs : List Value} (h : Rem Ps (Bx p E cs) Qs) : CAt (Hp w0 R Ps) p cs := fun w m => by
  obtain ⟨g, ⟨h1, h2⟩, l⟩ := m.look h
  refine ⟨⟨cs⟩, E, (0, 0), l _ _ (by rw [h2]; simp [hone]), ?_⟩
  simp [h1]
theorem fr_at {p : Addr} {cs : List Value} (c : CellsAt R p cs) : CAt (Hp w0 R Ps) p cs := fun w m => c.le m.frame
end
def RC (C : World → Prop) (k : Nat) (v : Value) (ds : List (List Value)) : Prop := ∀ w, C w → RdS (hh w) k v ds
theorem rc_own {w0 : World} {R : Hh} {Ps Qs : List HP} {k : Nat} {E : TypeId} {v : Value} {ds : List (List Value)} (h : Rem Ps (Sv k E v ds) Qs) : RC (Hp w0 R Ps) k v ds := fun _ m => m.rdv h
theorem rc_fr {w0 : World} {R : Hh} {Ps : List HP} {k : Nat} {v : Value} {ds : List (List Value)} (h : RdS R k v ds) : RC (Hp w0 R Ps) k v ds := fun _ m => m.rd h
def Elem (k : Nat) (v : Value) (i : Nat) (p : Addr) : Prop := ∃ a n c, v = .slice (some a) n c ∧ p = padd a (i * k)
theorem flat_cells {k : Nat} : ∀ {ds : List (List Value)} {i : Nat} {d : List Value}, (∀ d ∈ ds, d.length = k) → ds[i]? = some d → (ds.flatten.drop (i * k)).take k = d
  | [], i, d, _, h => by simp at h
  | e :: ds, 0, d, hk, h => by
    simp only [List.getElem?_cons_zero, Option.some.injEq] at h
    subst h
    have := hk e (by simp)
    simp [← this]
  | e :: ds, i + 1, d, hk, h => by
    simp only [List.getElem?_cons_succ] at h
    have he := hk e (by simp)
    have ih := flat_cells (k := k) (fun d hd => hk d (by simp [hd])) h
    rw [List.flatten_cons, show (i + 1) * k = e.length + i * k from by rw [he]; rw [Nat.add_mul]; omega, ← List.drop_drop, List.drop_left]
    exact ih
theorem flat_len {k : Nat} : ∀ {ds : List (List Value)}, (∀ d ∈ ds, d.length = k) → ds.flatten.length = ds.length * k
  | [], _ => by simp
  | d :: ds, h => by
    rw [List.flatten_cons, List.length_append, h d (by simp), flat_len (fun x hx => h x (by simp [hx])), List.length_cons, Nat.add_mul]
    omega
theorem RdS.bd {α : Type} {c : α → List Value} {h : Hh} {k : Nat} {v : Value} {xs : List α} (r : RdS h k v (xs.map c)) : xs.length ≤ 140737488355328 := by simpa using r.2.1
theorem RdS.elem {h : Hh} {k : Nat} {v : Value} {ds : List (List Value)} (r : RdS h k v ds) {i : Nat} {d : List Value} (hd : ds[i]? = some d) : ∃ a n c, v = .slice (some a) n c ∧ a.spot = none ∧ CellsAt h (padd a (i * k)) d := by
  obtain ⟨h1, hb, a, cap, h2, h3, h4⟩ := r
  have hi : i < ds.length := (List.getElem?_eq_some_iff.1 hd).1
  obtain ⟨b, off, arr, T, fz, rfl, e2, e3⟩ := h4 (by intro e; subst e; simp at hi)
  refine ⟨_, _, _, h2, rfl, arr, T, fz, e2, ?_⟩
  have hdl : d.length = k := h1 d (List.mem_of_getElem? hd)
  have := flat_cells h1 hd
  rw [← e3, List.drop_take, List.drop_drop, List.take_take] at this
  simp only [padd, hdl]
  rw [← this]
  have : k ≤ ds.length * k - i * k := by
    rw [← Nat.sub_mul]
    have : 1 ≤ ds.length - i := by omega
    calc k = 1 * k := by omega
      _ ≤ _ := Nat.mul_le_mul_right k this
  rw [Nat.min_eq_left this]
section
variable {P : Program} {C : World → Prop} {L : List (Nat × Value)} {d : Option Tmp} {ty : TypeId} {pos : String} {aft : Array Edge} {g : Option (Nat × Bool)}
theorem run_mk_elem {P : Program} {w : World} {T E : TypeId} {ag : Bool} {k : Nat} (hT : slI P T = some E) (hE : tyI P E = some (ag, k)) {a : Addr} {n c : Nat} {K : IntKind} {i : Int} (h0 : 0 ≤ i) (h1 : i < n) :
    (Instr.indexAt T (.slice (some a) n c) (.int K i)).run P w = .ok (.pointer (some (a.add (i.toNat * k)))) w := by
  have e1 := slI_spec hT
  simp [Instr.indexAt, asIntOf, bind, Sem.run_bind', pure, Sem.run, Result.andThen, run_underlying e1, h0, h1, run_sizeOf' hE]
theorem ok_elem {w : World} (m : C w) {T E : TypeId} {ag : Bool} {k : Nat} {x ix : Operand} {v : Value} {K : IntKind} {i : Int} {ds : List (List Value)} {e : List Value} (hx : ev L x = some v) (hi : ev L ix = some (.int K i)) (hT : slI P T = some E) (hE : tyI P E = some (ag, k))
    (hr : RC C k v ds) (h0 : 0 ≤ i) (he : ds[i.toNat]? = some e) :
    ∃ p, Elem k v i.toNat p ∧ CAt C p e ∧ Ok P C L ⟨d, .indexAddr T x ix, ty, pos, aft, g⟩ (.pointer (some (padd p 0))) := by
  obtain ⟨a, n, c, rfl, hs, _⟩ := (hr w m).elem he
  have hn : n = ds.length := by
    obtain ⟨_, _, a', cap, h2, _⟩ := hr w m
    simp only [Value.slice.injEq] at h2
    exact h2.2.1
  have hlt : i.toNat < ds.length := (List.getElem?_eq_some_iff.1 he).1
  refine ⟨padd a (i.toNat * k), ⟨a, n, c, rfl, rfl⟩, fun w' m' => ?_, fun ρ ha w' hw' => ?_⟩
  · obtain ⟨a', n', c', e1, _, e2⟩ := (hr w' m').elem he
    simp only [Value.slice.injEq, Option.some.injEq] at e1
    rw [e1.1]
    exact e2
  · have := run_mk_elem (P := P) (w := w') (a := a) (n := n) (c := c) (K := K) (i := i) hT hE h0 (by omega)
    have e2 : a.add (i.toNat * k) = padd (padd a (i.toNat * k)) 0 := by
      rw [padd_padd]
      unfold Addr.add padd
      by_cases hz : i.toNat * k = 0
      · cases a; simp_all
      · simp [hz]
    simp [execOp, ha x _ hx, ha ix _ hi, bind, Sem.run_bind', this, pure, Sem.run, Result.andThen, e2]
end
/-! ### 8. The steps of a walk: regions in the order of the text -/
section
variable {P : Program} {ops : Array Oper} {Q : Exit → Act → World → Prop} {rest : List Oper} {n : Nat} {L : List (Nat × Value)} {a : Act} {w : World} {C : World → Prop}
theorem step_val {o : Oper} {d : Nat} {v : Value} {w' : World} (hg : o.guard = none) (hdst : o.dst = some d) (hs : St n L a) (hd : Nat.blt d n = true) (hr : (execOp a.eval o).run P w = .ok (.value v) w')
    (k : ∀ a', St n ((d, v) :: L) a' → wpList P ops Q rest a' w') : wpList P ops Q (o :: rest) a w := by
  refine wpList_plain hg fun K hK => ?_
  unfold Oper.wp
  rw [hr]
  simp only [Oper.upon, hdst]
  exact hK _ _ (k _ (hs.put hd))
theorem step_skip {o : Oper} {w' : World} (hg : o.guard = none) (hdst : o.dst = none) (hs : St n L a) (hr : (execOp a.eval o).run P w = .ok .skip w')
    (k : wpList P ops Q rest a w') : wpList P ops Q (o :: rest) a w := by
  refine wpList_plain hg fun K hK => ?_
  unfold Oper.wp
  rw [hr]
  simp only [Oper.upon, hdst]
  exact hK _ _ k
theorem r_ok {d : Nat} {op : Op} {ty : TypeId} {pos : String} {aft : Array Edge} {v : Value} (hs : St n L a) (m : C w) (h : Ok P C L ⟨some d, op, ty, pos, aft, none⟩ v) (hd : Nat.blt d n = true)
    (k : ∀ a', St n ((d, v) :: L) a' → wpList P ops Q rest a' w) : wpList P ops Q (⟨some d, op, ty, pos, aft, none⟩ :: rest) a w :=
  step_val rfl rfl hs hd (h _ hs.evs w m) k
end
-- in a region that draws its order
section
variable {P : Program} {ops : Array Oper} {Q : Act → Prop} {rest : List Oper} {n : Nat} {L : List (Nat × Value)} {a : Act} {C : World → Prop}
theorem q_ok {d : Nat} {op : Op} {ty : TypeId} {pos : String} {aft : Array Edge} {v : Value} (hs : St n L a) (h : Ok P C L ⟨some d, op, ty, pos, aft, none⟩ v) (hd : Nat.blt d n = true)
    (k : ∀ a', St n ((d, v) :: L) a' → wpQuiet P ops C Q rest a') : wpQuiet P ops C Q (⟨some d, op, ty, pos, aft, none⟩ :: rest) a := by
  refine wpQuiet_step fun K hK => ?_
  simp only [Region.wanted, if_true]
  refine ⟨v, fun w hw => ?_, hK _ (k _ (hs.put hd))⟩
  unfold Oper.quietAt
  rw [h _ hs.evs w hw]
  exact ⟨rfl, rfl⟩
end
/-! ### 9. Calls -/
def callable (P : Program) (f : FuncId) : Bool := match P.funcs[f]? with
  | some fn => !(fn.name == "runtime.NumGoroutine") && fn.body.isSome
  | none => false
theorem run_callFunc {P : Program} {f : FuncId} (h : callable P f = true) (args : Array Value) (w : World) : (callFunc f args).run P w = .ok (.enter f args) w := by
  unfold callable at h
  split at h
  · rename_i fn hf
    simp only [Bool.and_eq_true, Bool.not_eq_true'] at h
    have hb : fn.body.isNone = false := by
      cases hb : fn.body with
      | none => simp [hb] at h
      | some c => rfl
    simp only [callFunc, program, bind, Sem.bind, Sem.run, hf, h.1, Bool.false_eq_true, if_false, hb, pure]
  · cases h
theorem run_call {P : Program} {L : List (Nat × Value)} {ρ : Operand → Value} (ha : ∀ x u, ev L x = some u → ρ x = u) {d : Option Tmp} {c : Operand} {xs : List Operand} {tys : Array TypeId} {ty : TypeId} {pos : String} {aft : Array Edge} {g : Option (Nat × Bool)} {f : FuncId} {first cap vs : List Value}
    (hc : ev L c = some (.func (.func f) ⟨first⟩ ⟨cap⟩)) (hx : evs L xs = some vs) (hf : callable P f = true) (w : World) :
    (execOp ρ ⟨d, .call ⟨.value c, ⟨xs⟩, tys⟩, ty, pos, aft, g⟩).run P w = .ok (.enter f ⟨first ++ vs ++ cap⟩) w := by
  have hm : ∀ (os : List Operand) (us : List Value), evs L os = some us → os.map ρ = us := by
    intro os
    induction os with
    | nil => intro us h; simpa [evs] using h
    | cons o os ih =>
      intro us h
      simp only [evs] at h
      cases h1 : ev L o with
      | none => simp [h1] at h
      | some v =>
        cases h2 : evs L os with
        | none => simp [h1, h2] at h
        | some us' =>
          simp only [h1, h2, Option.some.injEq] at h
          subst h
          simp [ha o v h1, ih us' h2]
  have hm' := hm xs vs hx
  have h2 := run_callFunc (P := P) hf (⟨first ++ vs ++ cap⟩) w
  simp [execOp, resolve, Deferred.ofValue, ha c _ hc, invoke, bind, Sem.run_bind', pure, Sem.run, Result.andThen, hm', List.append_toArray]
  simpa using h2
section
variable {P : Program} {ops : Array Oper} {Q : Exit → Act → World → Prop} {rest : List Oper} {n : Nat} {L : List (Nat × Value)} {a : Act} {w : World}
theorem r_call {d : Nat} {c : Operand} {xs : List Operand} {tys : Array TypeId} {ty : TypeId} {pos : String} {aft : Array Edge} {f : FuncId} {first cap vs us : List Value} {Rc : Value → World → Prop}
    (hs : St n L a) (hc : ev L c = some (.func (.func f) ⟨first⟩ ⟨cap⟩)) (hx : evs L xs = some vs) (hf : callable P f = true) (hu : first ++ vs ++ cap = us) (h : Calls P f ⟨us⟩ w fun e w' => ∃ v, e = .returned v ∧ Rc v w') (hd : Nat.blt d n = true)
    (k : ∀ v w', Rc v w' → ∀ a', St n ((d, v) :: L) a' → wpList P ops Q rest a' w') : wpList P ops Q (⟨some d, .call ⟨.value c, ⟨xs⟩, tys⟩, ty, pos, aft, none⟩ :: rest) a w := by
  subst hu
  refine wpList_plain rfl fun K hK => ?_
  unfold Oper.wp
  rw [run_call hs.evs hc hx hf w]
  simp only [Oper.upon]
  refine h.mono fun e w' he => ?_
  obtain ⟨v, rfl, hR⟩ := he
  exact hK _ _ (k v w' hR _ (hs.put hd))
end
section
variable {P : Program} {ops : Array Oper} {Q : Act → Prop} {rest : List Oper} {n : Nat} {L : List (Nat × Value)} {a : Act} {C : World → Prop}
theorem q_call {d : Nat} {c : Operand} {xs : List Operand} {tys : Array TypeId} {ty : TypeId} {pos : String} {aft : Array Edge} {f : FuncId} {first cap vs us : List Value} {v : Value}
    (hs : St n L a) (hc : ev L c = some (.func (.func f) ⟨first⟩ ⟨cap⟩)) (hx : evs L xs = some vs) (hf : callable P f = true) (hu : first ++ vs ++ cap = us) (h : ∀ w, C w → Calls P f ⟨us⟩ w fun e w' => e = .returned v ∧ C w') (hd : Nat.blt d n = true)
    (k : ∀ a', St n ((d, v) :: L) a' → wpQuiet P ops C Q rest a') : wpQuiet P ops C Q (⟨some d, .call ⟨.value c, ⟨xs⟩, tys⟩, ty, pos, aft, none⟩ :: rest) a := by
  subst hu
  refine wpQuiet_step fun K hK => ?_
  simp only [Region.wanted, if_true]
  refine ⟨v, fun w hw => ?_, hK _ (k _ (hs.put hd))⟩
  unfold Oper.quietAt
  rw [run_call hs.evs hc hx hf w]
  exact ⟨rfl, h w hw⟩
end
end Go.Proofs.YtdallmabajeajaaGreatDoor.Fw
set_option linter.unusedVariables false
set_option linter.all false
namespace Go.Proofs.YtdallmabajeajaaGreatDoor.Fw
open Go
/-! ### 10. New variables -/
def zeI (P : Program) (T : TypeId) : Option (List Value) := ((P.info? T).bind fun i => i.zero).map fun v => v.cells.toList
theorem zeI_spec {P : Program} {T : TypeId} {zs : List Value} (h : zeI P T = some zs) (w : World) : ∃ z, (zeroValue T).run P w = .ok z w ∧ z.cells = ⟨zs⟩ := by
  unfold zeI at h
  cases hi : P.info? T with
  | none => simp [hi] at h
  | some i =>
    cases hz : i.zero with
    | none => simp [hi, hz] at h
    | some z =>
      simp only [hi, hz, Option.bind_some, Option.map_some, Option.some.injEq] at h
      refine ⟨z, by simp [zeroValue, typeInfo, program, bind, Sem.bind, Sem.run, hi, hz, pure], ?_⟩
      rw [← h]
theorem alloc_run {P : Program} {w : World} (o : Obj) : (newObj o).run P w = .ok w.heap.size (w.alloc o) := rfl
theorem Hp.newBx {w0 w : World} {R : Hh} {Ps : List HP} (m : Hp w0 R Ps w) (E : TypeId) (cs : List Value) : Hp w0 R (Bx ⟨w.heap.size, 0, none⟩ E cs :: Ps) (w.alloc (.cells ⟨cs⟩ E)) :=
  (m.alloc _).swp s0 fun h e => ⟨rfl, e⟩
section
variable {P : Program} {ops : Array Oper} {Q : Exit → Act → World → Prop} {rest : List Oper} {n : Nat} {L : List (Nat × Value)} {a : Act} {w w0 : World} {R : Hh} {Ps Qs : List HP}
  {d : Nat} {ty : TypeId} {pos : String} {aft : Array Edge}
theorem r_box {E : TypeId} {x : Operand} {v : Value} {cs : List Value} (hs : St n L a) (m : Hp w0 R Ps w) (hx : ev L x = some v) (hc : v.cells = ⟨cs⟩) (hd : Nat.blt d n = true)
    (k : ∀ p w', Hp w0 R (Bx p E cs :: Ps) w' → ∀ a', St n ((d, .pointer (some (padd p 0))) :: L) a' → wpList P ops Q rest a' w') : wpList P ops Q (⟨some d, .box E x, ty, pos, aft, none⟩ :: rest) a w := by
  refine step_val rfl rfl hs hd (v := .pointer (some ⟨w.heap.size, 0, none⟩)) (w' := w.alloc (.cells ⟨cs⟩ E)) ?_ (k ⟨w.heap.size, 0, none⟩ _ (m.newBx E cs))
  simp [execOp, hs.evs x _ hx, Instr.box, newVar, newRow, bind, Sem.run_bind', alloc_run, pure, Sem.run, Result.andThen, hc]
theorem r_alloc {E : TypeId} {cs : List Value} (hs : St n L a) (m : Hp w0 R Ps w) (hz : zeI P E = some cs) (hd : Nat.blt d n = true)
    (k : ∀ p w', Hp w0 R (Bx p E cs :: Ps) w' → ∀ a', St n ((d, .pointer (some (padd p 0))) :: L) a' → wpList P ops Q rest a' w') : wpList P ops Q (⟨some d, .alloc E, ty, pos, aft, none⟩ :: rest) a w := by
  obtain ⟨z, h1, h2⟩ := zeI_spec hz w
  refine step_val rfl rfl hs hd (v := .pointer (some ⟨w.heap.size, 0, none⟩)) (w' := w.alloc (.cells ⟨cs⟩ E)) ?_ (k ⟨w.heap.size, 0, none⟩ _ (m.newBx E cs))
  simp [execOp, Instr.alloc, newVar, newRow, bind, Sem.run_bind', alloc_run, h1, pure, Sem.run, Result.andThen, h2]
end
/-! ### 11. Stores -/
def putAt (cs : List Value) (o : Nat) (vs : List Value) : List Value := match vs with
  | [] => cs
  | v :: r => putAt (cs.set o v) (o + 1) r
theorem putAt_length : ∀ (vs cs : List Value) (o : Nat), (putAt cs o vs).length = cs.length
  | [], _, _ => rfl
  | v :: r, cs, o => by simp [putAt, putAt_length r]
def one : Value → Bool
  | .agg _ | .tuple _ => false
  | _ => true
def ones (vs : List Value) : Bool := vs.all one
theorem run_store1 {P : Program} {w : World} {b off : Nat} {arr : Array Value} {T : TypeId} (hb : w.heap[b]? = some (.cells arr T (0, 0))) (ho : off < arr.size) {v : Value} (h1 : one v = true) :
    (store ⟨b, off, none⟩ v).run P w = .ok () (w.setCell ⟨b, off, none⟩ v) := by
  have hc : w.cell? ⟨b, off, none⟩ = some arr[off] := by
    simp [World.cell?, hb, ho]
  have hf : w.frozen? ⟨b, off, none⟩ = false := by
    simp [World.frozen?, hb]
  cases v <;> first
    | (simp [one] at h1; done)
    | simp [store, Sem.run, hc, hf]
theorem setCell_heap {w : World} {b off : Nat} {arr : Array Value} {T : TypeId} (hb : w.heap[b]? = some (.cells arr T (0, 0))) (v : Value) :
    (w.setCell ⟨b, off, none⟩ v).heap = w.heap.setIfInBounds b (.cells (arr.setIfInBounds off v) T (0, 0)) := by
  apply Array.ext_getElem?
  intro i
  simp only [World.setCell, Array.getElem?_modify, Array.getElem?_setIfInBounds]
  by_cases h : b = i
  · subst h
    have hlt : b < w.heap.size := (Array.getElem?_eq_some_iff.1 hb).1
    simp only [if_true, hb, Option.map_some, hlt]
    simp
  · simp [h]
theorem run_storeCells {P : Program} : ∀ (vs : List Value) (w : World) (b off i : Nat) (cs : List Value) (T : TypeId), w.heap[b]? = some (.cells ⟨cs⟩ T (0, 0)) → off + i + vs.length ≤ cs.length → ones vs = true →
    ∃ w', (storeCells ⟨b, off, none⟩ vs i).run P w = .ok () w' ∧ w'.heap = w.heap.setIfInBounds b (.cells ⟨putAt cs (off + i) vs⟩ T (0, 0)) ∧ w'.os = w.os ∧ w'.tape = w.tape ∧ w'.output = w.output ∧ w.drawn ≤ w'.drawn
  | [], w, b, off, i, cs, T, hb, _, _ => by
    refine ⟨w, by simp [storeCells, pure, Sem.run], ?_, rfl, rfl, rfl, Nat.le_refl _⟩
    apply Array.ext_getElem?
    intro j
    rw [Array.getElem?_setIfInBounds]
    by_cases h : b = j
    · subst h
      have hlt : b < w.heap.size := (Array.getElem?_eq_some_iff.1 hb).1
      simp only [if_true, hlt, hb, putAt]
    · simp [h]
  | v :: r, w, b, off, i, cs, T, hb, hl, ho => by
    simp only [ones, List.all_cons, Bool.and_eq_true] at ho
    simp only [List.length_cons] at hl
    have e : (⟨b, off, none⟩ : Addr).add i = ⟨b, off + i, none⟩ := by
      unfold Addr.add
      by_cases h : i = 0
      · simp [h]
      · simp [h]
    have h1 := run_store1 (P := P) (off := off + i) hb (by simp; omega) ho.1
    have hh := setCell_heap (off := off + i) hb v
    have hb' : (w.setCell ⟨b, off + i, none⟩ v).heap[b]? = some (.cells ⟨cs.set (off + i) v⟩ T (0, 0)) := by
      rw [hh, Array.getElem?_setIfInBounds_self_of_lt]
      · simp
      · exact (Array.getElem?_eq_some_iff.1 hb).1
    obtain ⟨w', k1, k2, k3, k4, k5⟩ := run_storeCells r (w.setCell ⟨b, off + i, none⟩ v) b off (i + 1) (cs.set (off + i) v) T hb' (by simp; omega) ho.2
    refine ⟨w', ?_, ?_, k3, k4, k5⟩
    · simp only [storeCells, bind, Sem.run_bind', e, h1, Result.andThen]
      exact k1
    · rw [k2, hh]
      apply Array.ext_getElem?
      intro j
      simp only [Array.getElem?_setIfInBounds, Array.size_setIfInBounds]
      by_cases h : b = j
      · simp [h, putAt, Nat.add_assoc]
      · simp [h]
theorem run_storeVar {P : Program} {w : World} {T : TypeId} {ag : Bool} {n : Nat} (ht : tyI P T = some (ag, n)) {b off : Nat} {cs vs : List Value} {E : TypeId} {v : Value} (hb : w.heap[b]? = some (.cells ⟨cs⟩ E (0, 0))) (hv : v.cells = ⟨vs⟩) (hn : vs.length = n) (hl : off + n ≤ cs.length) (ho : ones vs = true) :
    ∃ w', (storeVar T ⟨b, off, none⟩ v).run P w = .ok () w' ∧ w'.heap = w.heap.setIfInBounds b (.cells ⟨putAt cs off vs⟩ E (0, 0)) ∧ w'.os = w.os ∧ w'.tape = w.tape ∧ w'.output = w.output ∧ w.drawn ≤ w'.drawn := by
  obtain ⟨w', h1, h2, h3, h4, h5⟩ := run_storeCells (P := P) vs w b off 0 cs E hb (by omega) ho
  refine ⟨w', ?_, by simpa using h2, h3, h4, h5⟩
  simp [storeVar, bind, Sem.run_bind', run_sizeOf' ht, Result.andThen, hv, hn, h1]
section
variable {P : Program} {ops : Array Oper} {Q : Exit → Act → World → Prop} {rest : List Oper} {n : Nat} {L : List (Nat × Value)} {a : Act} {w w0 : World} {R : Hh} {Ps Qs : List HP}
  {d : Nat} {ty : TypeId} {pos : String} {aft : Array Edge}
theorem r_store {T E : TypeId} {ag : Bool} {x y : Operand} {p : Addr} {o s : Nat} {cs vs cs' : List Value} {v : Value} (hs : St n L a) (m : Hp w0 R Ps w) (hx : ev L x = some (.pointer (some (padd p o)))) (hy : ev L y = some v) (ht : tyI P T = some (ag, s)) (hP : Swp Ps (Bx p E cs) (Bx p E cs') Qs)
    (hv : v.cells = ⟨vs⟩) (hn : vs.length = s) (hl : Nat.ble (o + s) cs.length = true) (ho : ones vs = true) (hc : putAt cs o vs = cs')
    (k : ∀ w', Hp w0 R Qs w' → wpList P ops Q rest a w') : wpList P ops Q (⟨none, .store T x y, ty, pos, aft, none⟩ :: rest) a w := by
  subst hc
  obtain ⟨l, p1, p2⟩ := hP.rem
  have m1 := m.perm p1
  obtain ⟨lo, hlo⟩ := hP.out
  obtain ⟨g, ⟨g1, g2⟩, gl⟩ := m.look hlo
  have hb : w.heap[p.block]? = some (.cells ⟨cs⟩ E (0, 0)) := gl _ _ (by rw [g2]; simp [hone])
  obtain ⟨w', h1, h2, h3, h4, h5⟩ := run_storeVar (P := P) ht (off := p.off + o) hb hv hn (by have := Nat.le_of_ble_eq_true hl; omega) ho
  refine step_skip rfl rfl hs (w' := w') ?_ (k w' ?_)
  · simp [execOp, hs.evs x _ hx, hs.evs y _ hy, Instr.storeAt, Instr.sureAddr, bind, Sem.run_bind', pure, Sem.run, Result.andThen, padd, h1]
  · have m2 : Hp w0 R ((fun h => h = hone p.block (.cells ⟨cs⟩ E (0, 0))) :: l) w := m1.swp s0 fun h e => e.2
    have m3 := m2.block h2 h3 h4 h5
    refine (m3.swp s0 (q := Bx p E (putAt cs o vs)) fun h e => ⟨g1, ?_⟩).perm p2
    rw [e, g1, Nat.zero_add]
end
/-! ### 12. Aggregates -/
def stI (P : Program) (T : TypeId) : Option (List (Nat × Nat)) :=
  match P.underlying T with
  | some (.struct fs) => fs.toList.mapM fun f => match tyI P f.type with
    | some (_, n) => some (f.offset, n)
    | none => none
  | _ => none
def partsOf (L : List (Nat × Value)) : List (Nat × Operand) → Option (List (Nat × Value))
  | [] => some []
  | (i, x) :: r => match ev L x, partsOf L r with
    | some v, some vs => some ((i, v) :: vs)
    | _, _ => none
def fillL (fs : List (Nat × Nat)) : List Value → List (Nat × Value) → Option (List Value)
  | cs, [] => some cs
  | cs, (i, v) :: r => match fs[i]? with
    | some (o, n) => match Nat.beq v.cells.toList.length n, Nat.ble (o + n) cs.length with
      | true, true => fillL fs (putAt cs o v.cells.toList) r
      | _, _ => none
    | none => none
theorem foldl_put (vs : List Value) : ∀ (cs : Array Value) (o k : Nat), ((vs.zipIdx k).foldl (fun (cs : Array Value) (x : Value × Nat) => cs.setIfInBounds (o + x.2) x.1) cs) = ⟨putAt cs.toList (o + k) vs⟩ := by
  induction vs with
  | nil => intro cs o k; simp [putAt]
  | cons v r ih =>
    intro cs o k
    simp only [List.zipIdx_cons, List.foldl_cons]
    rw [ih]
    simp [putAt, Nat.add_assoc]
theorem fill_eq {fs : List (Nat × Nat)} {place : Nat → Option (Nat × Nat)} (hp : ∀ i, place i = fs[i]?) : ∀ (ps : List (Nat × Value)) (cs : List Value) (out : List Value), fillL fs cs ps = some out → Instr.fill place ⟨cs⟩ ps = some ⟨out⟩
  | [], cs, out, h => by simp [fillL] at h; simp [Instr.fill, h]
  | (i, v) :: r, cs, out, h => by
    simp only [fillL] at h
    cases hf : fs[i]? with
    | none => simp [hf] at h
    | some on =>
      obtain ⟨o, n⟩ := on
      simp only [hf] at h
      cases h1 : Nat.beq v.cells.toList.length n with
      | false => simp only [h1] at h; cases h
      | true =>
        cases h2 : Nat.ble (o + n) cs.length with
        | false => simp only [h1, h2] at h; cases h
        | true =>
          simp only [h1, h2] at h
          have e1 := Nat.eq_of_beq_eq_true h1
          have e2 := Nat.le_of_ble_eq_true h2
          simp only [Instr.fill, hp, hf]
          have e1' : v.cells.size = n := by simpa using e1
          have hcond : ((v.cells.size != n) || decide (o + v.cells.size > (⟨cs⟩ : Array Value).size)) = false := by
            simp [e1']
            omega
          rw [if_neg (by simp [e1']; omega)]
          have := foldl_put v.cells.toList ⟨cs⟩ o 0
          have ih := fill_eq hp r (putAt cs o v.cells.toList) out h
          simp only [Nat.add_zero] at this
          rw [← ih]
          congr 1
          rw [← Array.foldl_toList, Array.toList_zipIdx]
          exact this
theorem stI_spec {P : Program} {T : TypeId} {fs : List (Nat × Nat)} (h : stI P T = some fs) : ∃ fds, P.underlying T = some (.struct fds) ∧ fds.toList.mapM (fun f => match tyI P f.type with
    | some (_, n) => some (f.offset, n)
    | none => none) = some fs := by
  unfold stI at h
  split at h
  · rename_i fds h1
    exact ⟨fds, h1, h⟩
  · cases h
theorem mapM_places {P : Program} {w : World} : ∀ (l : List Field) (fs : List (Nat × Nat)), l.mapM (fun f => match tyI P f.type with
    | some (_, n) => some (f.offset, n)
    | none => none) = some fs → (l.mapM fun f => do pure (f.offset, ← sizeOf f.type) : Sem (List (Nat × Nat))).run P w = .ok fs w
  | [], fs, h => by
    simp at h
    subst h
    simp [pure, Sem.run]
  | f :: l, fs, h => by
    simp only [List.mapM_cons] at h
    cases ht : tyI P f.type with
    | none => simp [ht] at h
    | some an =>
      obtain ⟨ag, k⟩ := an
      simp only [ht, Option.bind_eq_bind, Option.bind_some] at h
      cases hr : l.mapM (fun f => match tyI P f.type with
          | some (_, n) => some (f.offset, n)
          | none => none) with
      | none => simp [hr] at h
      | some rs =>
        simp only [hr, Option.bind_some, Option.pure_def, Option.some.injEq] at h
        subst h
        have ih := mapM_places (P := P) (w := w) l rs hr
        simp only [List.mapM_cons, bind, Sem.run_bind', run_sizeOf' ht, Result.andThen, pure, Sem.run]
        simp only [bind, pure] at ih
        rw [ih]
theorem parts_map {L : List (Nat × Value)} {ρ : Operand → Value} (ha : ∀ x u, ev L x = some u → ρ x = u) : ∀ (ps : List (Nat × Operand)) (vs : List (Nat × Value)), partsOf L ps = some vs → ps.map (fun x => (x.1, ρ x.2)) = vs
  | [], vs, h => by simpa [partsOf] using h
  | (i, x) :: r, vs, h => by
    simp only [partsOf] at h
    cases h1 : ev L x with
    | none => simp [h1] at h
    | some v =>
      cases h2 : partsOf L r with
      | none => simp [h1, h2] at h
      | some us =>
        simp only [h1, h2, Option.some.injEq] at h
        subst h
        simp [ha x v h1, parts_map ha r us h2]
section
variable {P : Program} {C : World → Prop} {L : List (Nat × Value)} {d : Option Tmp} {ty : TypeId} {pos : String} {aft : Array Edge} {g : Option (Nat × Bool)}
theorem ok_build {T : TypeId} {ps : List (Nat × Operand)} {fs : List (Nat × Nat)} {zs cs : List Value} {vs : List (Nat × Value)} (hf : stI P T = some fs) (hz : zeI P T = some zs) (hx : partsOf L ps = some vs) (hc : fillL fs zs vs = some cs) :
    Ok P C L ⟨d, .build T ⟨ps⟩, ty, pos, aft, g⟩ (.agg ⟨cs⟩) := fun ρ ha w _ => by
  obtain ⟨z, h1, h2⟩ := zeI_spec hz w
  obtain ⟨fds, h3, h4⟩ := stI_spec hf
  have h5 := mapM_places (P := P) (w := w) fds.toList fs h4
  have h6 := fill_eq (fs := fs) (place := fun i => (⟨fs⟩ : Array (Nat × Nat))[i]?) (fun i => by simp) vs zs cs hc
  have h7 := parts_map ha ps vs hx
  have h8 : (fds.mapM fun f => do pure (f.offset, ← sizeOf f.type) : Sem (Array (Nat × Nat))).run P w = .ok ⟨fs⟩ w := by
    rw [Array.mapM_eq_mapM_toList]
    have e : ∀ m : Sem (List (Nat × Nat)), (List.toArray <$> m) = m.bind (fun l => Sem.pure l.toArray) := fun _ => rfl
    rw [e, Sem.run_bind', h5]
    rfl
  simp [execOp, Instr.build, bind, Sem.run_bind', h1, Result.andThen, run_underlying h3, h8, h2, h7, pure, Sem.run]
  have h9 : Sem.run P (Array.mapM (fun f => (sizeOf f.type).bind fun x => Sem.pure (f.offset, x)) fds) w = Result.ok (⟨fs⟩ : Array (Nat × Nat)) w := h8
  rw [h9]
  simp only [h6, Sem.run]
end
end Go.Proofs.YtdallmabajeajaaGreatDoor.Fw
set_option linter.unusedVariables false
set_option linter.all false
namespace Go.Proofs.YtdallmabajeajaaGreatDoor.Fw
open Go
/-! ### 13. append -/
theorem putAt_eq : ∀ (vs cs : List Value) (o : Nat), o + vs.length ≤ cs.length → putAt cs o vs = cs.take o ++ vs ++ cs.drop (o + vs.length)
  | [], cs, o, _ => by simp [putAt]
  | v :: r, cs, o, h => by
    simp only [List.length_cons] at h
    rw [putAt, putAt_eq r (cs.set o v) (o + 1) (by simp; omega)]
    have e1 : (cs.set o v).take (o + 1) = cs.take o ++ [v] := by
      rw [List.take_succ_eq_append_getElem (by simp; omega)]
      simp [List.take_set_of_le]
    have e2 : (cs.set o v).drop (o + 1 + r.length) = cs.drop (o + (v :: r).length) := by
      rw [List.drop_set_of_lt (by omega)]
      congr 1
      simp only [List.length_cons]; omega
    rw [e1, e2]
    simp
def byI (P : Program) (T : TypeId) : Option Nat := (P.info? T).map fun i => i.bytes
def notInt (P : Program) (T : TypeId) : Bool := match P.underlying T with
  | some (.int _) => false
  | some _ => true
  | none => false
theorem notInt_spec {P : Program} {T : TypeId} (h : notInt P T = true) : ∃ d, P.underlying T = some d ∧ ∀ k, d ≠ .int k := by
  unfold notInt at h
  split at h
  · cases h
  · rename_i d hn hd
    exact ⟨d, hd, fun k e => hn k e⟩
  · cases h
theorem growBy_le (need : Nat) : ∀ (r c : Nat), c ≤ need + need / 4 + 192 → Builtin.growBy need r c ≤ need + need / 4 + 192
  | 0, c, h => by simpa [Builtin.growBy] using h
  | r + 1, c, h => by
    simp only [Builtin.growBy]
    split
    · exact h
    · exact growBy_le need r _ (by omega)
theorem next_le {need cap : Nat} (h : cap < need) : Builtin.nextslicecap need cap ≤ 2 * need + 192 := by
  unfold Builtin.nextslicecap
  split
  · omega
  · split
    · omega
    · have := growBy_le need 4 cap (by omega)
      omega
theorem run_firstCells {P : Program} {w : World} {k : Nat} {v : Value} {ds : List (List Value)} (r : RdS (hh w) k v ds) : (Builtin.firstCells k ds.length v).run P w = .ok ⟨ds.flatten⟩ w := by
  obtain ⟨h1, _, a, cap, rfl, h3, h4⟩ := r
  by_cases hn : ds = []
  · subst hn
    cases a <;> simp [Builtin.firstCells, loadCells, loadCellsFrom, pure, Sem.run]
  · obtain ⟨b, off, arr, T, fz, rfl, e2, e3⟩ := h4 hn
    simp only [Builtin.firstCells, loadCells]
    have := run_loadCellsFrom (P := P) (w := w) (a := ⟨b, off, none⟩) (ds.length * k) 0 ds.flatten #[] (flat_len h1) (fun j u hj => by
      have hlt : j < ds.length * k := by have := (List.getElem?_eq_some_iff.1 hj).1; rw [flat_len h1] at this; exact this
      have e : (⟨b, off, none⟩ : Addr).add (0 + j) = ⟨b, off + j, none⟩ := by
        unfold Addr.add
        by_cases h : j = 0
        · subst h; simp
        · simp [h]
      rw [e, ← e3, List.getElem?_take_of_lt hlt, List.getElem?_drop] at *
      simp only [hh] at e2
      simp only [World.cell?, e2]
      simpa using hj)
    rw [this]
    simp
theorem run_askRoom {P : Program} {w : World} (n : Nat) : (askRoom n).run P w = .ok () w := by
  unfold askRoom
  split <;> simp [mark, pure, Sem.run]
theorem run_append_fit {P : Program} {w : World} {T T2 E ty : TypeId} {k n m cap : Nat} {base : Option Addr} {u : Value} {ag : Bool} {D2 : TypeDesc} {es : Array Value}
    (hT : P.underlying T = some (.slice E)) (hD2 : P.underlying T2 = some D2) (hD2n : ∀ k, D2 ≠ .int k) (hE : tyI P E = some (ag, k)) (hlu : (Builtin.lenOf u).run P w = .ok m w) (hfu : (Builtin.firstCells k m u).run P w = .ok es w)
    (hc : n + m ≤ cap) : (Builtin.append_ #[T, T2] ty #[.slice base n cap, u]).run P w = (match base with
      | some a => (storeCells (a.add (n * k)) es.toList).bind fun _ => Sem.pure (Value.slice base (n + m) cap)
      | none => Sem.pure (Value.slice base (n + m) cap)).run P w := by
  cases base <;> simp [Builtin.append_, bind, Sem.run_bind', run_underlying hT, run_underlying hD2, Result.andThen, run_sizeOf' hE, pure, Sem.run, hlu, hc, hfu]
theorem run_append_grow {P : Program} {w : World} {T T2 E ty : TypeId} {k n m cap : Nat} {base : Option Addr} {u z : Value} {ag : Bool} {D2 : TypeDesc} {i : TypeInfo} {ds es : Array Value}
    (hT : P.underlying T = some (.slice E)) (hD2 : P.underlying T2 = some D2) (hD2n : ∀ k, D2 ≠ .int k) (hE : tyI P E = some (ag, k)) (hi : P.info? E = some i) (hz : i.zero = some z) (hlu : (Builtin.lenOf u).run P w = .ok m w)
    (hfu : (Builtin.firstCells k m u).run P w.drew = .ok es w.drew) (hfv : (Builtin.firstCells k n (.slice base n cap)).run P w.drew = .ok ds w.drew)
    (hc : ¬ n + m ≤ cap) (hlen : n + m ≤ 140737488355328 ∧ (2 * (n + m) + 192) * i.bytes ≤ 281474976710656) : ∃ c, n + m ≤ c ∧ (Builtin.append_ #[T, T2] ty #[.slice base n cap, u]).run P w =
      .ok (.slice (some ⟨w.heap.size, 0, none⟩) (n + m) c) (w.drew.alloc (.cells (ds ++ es ++ Builtin.zeroCells z.cells (c - (n + m))) E)) := by
  have hnext := next_le (need := n + m) (cap := cap) (by omega)
  have h1 : ¬ 281474976710656 < Builtin.nextslicecap (n + m) cap * i.bytes := by
    have : Builtin.nextslicecap (n + m) cap * i.bytes ≤ (2 * (n + m) + 192) * i.bytes := Nat.mul_le_mul hnext (Nat.le_refl _)
    omega
  have h2 : ¬ ((9223372036854775807 : Int) < (n : Int) + (m : Int)) := by omega
  have hno : ∀ c w', (askRoom c).run P w' = .ok () w' := fun c w' => run_askRoom c
  refine ⟨(Question.appendCap (n + m) cap E).cut (w.tape w.drawn (Question.appendCap (n + m) cap E)), by simp [Question.cut], ?_⟩
  have hty : (typeInfo E).run P w = .ok i w := by simp [typeInfo, program, bind, Sem.bind, Sem.run, hi, pure]
  have hty2 : (typeInfo E).run P w.drew = .ok i w.drew := by simp [typeInfo, program, bind, Sem.bind, Sem.run, hi, pure]
  have hze : (zeroValue E).run P w.drew = .ok z w.drew := by simp [zeroValue, typeInfo, program, bind, Sem.bind, Sem.run, hi, hz, pure]
  have hrow : ∀ w' (cs : Array Value), (newRow E cs).run P w' = .ok ⟨w'.heap.size, 0, none⟩ (w'.alloc (.cells cs E)) := fun w' cs => rfl
  simp [Builtin.append_, bind, Sem.run_bind', run_underlying hT, run_underlying hD2, Result.andThen, run_sizeOf' hE, pure, Sem.run, hlu, hc, hfu, hty, hty2, h1, h2, hno, hfv, hze, hrow, Question.forced]
section
variable {P : Program} {w0 w : World} {R : Hh} {Ps Qs : List HP}
theorem Sv.shape {k : Nat} {E : TypeId} {v : Value} {ds : List (List Value)} {h : Hh} (s : Sv k E v ds h) : ∃ base cap, v = .slice base ds.length cap ∧ ds.length ≤ cap := by
  obtain ⟨_, ⟨rfl, rfl, _⟩ | ⟨b, off, cap, cs, e, h, _⟩⟩ := s
  · exact ⟨none, 0, rfl, Nat.le_refl _⟩
  · exact ⟨_, cap, e, h⟩
theorem Hp.append (m : Hp w0 R Ps w) {T T2 E : TypeId} {ag : Bool} {k bytes : Nat} {v u : Value} {ds es : List (List Value)} {ty : TypeId} {zs : List Value}
    (hT : slI P T = some E) (hT2 : notInt P T2 = true) (hE : tyI P E = some (ag, k)) (hz : zeI P E = some zs) (hzl : zs.length = k) (hb : byI P E = some bytes) (hbb : Nat.ble bytes 4096 = true)
    (hP : Rem Ps (Sv k E v ds) Qs) (hu : RdS (hh w) k u es) (ho : ∀ e ∈ es, ones e = true) (hlen : ds.length + es.length ≤ 140737488355328 ∧ (2 * (ds.length + es.length) + 192) * bytes ≤ 281474976710656) :
    ∃ v' w', (Builtin.append_ #[T, T2] ty #[v, u]).run P w = .ok v' w' ∧ Hp w0 R (Sv k E v' (ds ++ es) :: Qs) w' := by
  obtain ⟨i, hi, z, hz1, hz2, hbi⟩ : ∃ i, P.info? E = some i ∧ ∃ z, i.zero = some z ∧ z.cells = ⟨zs⟩ ∧ i.bytes = bytes := by
    unfold byI at hb
    unfold zeI at hz
    cases hi : P.info? E with
    | none => simp [hi] at hb
    | some i =>
      cases hz1 : i.zero with
      | none => simp [hi, hz1] at hz
      | some z =>
        simp only [hi, hz1, Option.bind_some, Option.map_some, Option.some.injEq] at hz
        exact ⟨i, rfl, z, hz1, by rw [← hz], by simpa [hi] using hb⟩
  obtain ⟨D2, hD2, hD2n⟩ := notInt_spec hT2
  obtain ⟨g, hg, gl, m1⟩ := (m.front hP).exact
  have hrd := hg.reads
  have hrv := hrd.le gl
  have hlu : (Builtin.lenOf u).run P w = .ok es.length w := by
    obtain ⟨_, _, a, cap, rfl, _⟩ := hu
    simp [Builtin.lenOf, pure, Sem.run]
  have hesl : es.flatten.length = es.length * k := flat_len hu.1
  have hdsl : ds.flatten.length = ds.length * k := flat_len hrd.1
  have hall' : ∀ d ∈ ds ++ es, d.length = k := by
    intro d hd
    rcases List.mem_append.1 hd with h | h
    · exact hrd.1 d h
    · exact hu.1 d h
  have hall : (∀ d ∈ ds ++ es, d.length = k) ∧ (ds ++ es).length ≤ 140737488355328 := ⟨hall', by simp; omega⟩
  have hones : ones es.flatten = true := by
    simp only [ones, List.all_eq_true, List.mem_flatten]
    rintro x ⟨e, he, hx⟩
    have := ho e he
    simp only [ones, List.all_eq_true] at this
    exact this x hx
  obtain ⟨base, cap, rfl, hcap⟩ := hg.shape
  by_cases hc : ds.length + es.length ≤ cap
  · -- there is room
    rw [run_append_fit (P := P) (w := w) (T := T) (T2 := T2) (ty := ty) (n := ds.length) (cap := cap) (base := base) (slI_spec hT) hD2 hD2n hE hlu (run_firstCells hu) hc]
    obtain ⟨h1, ⟨h2, rfl, rfl⟩ | ⟨b, off, cap', cs, e, h3, h4, h5, rfl⟩⟩ := hg
    · simp only [Value.slice.injEq] at h2
      obtain ⟨rfl, _, rfl⟩ := h2
      have : es = [] := by simpa using hc
      subst this
      exact ⟨_, w, rfl, m1.swp s0 fun h hs => ⟨⟨by simp, by simp⟩, .inl ⟨by simp, rfl, hs⟩⟩⟩
    · simp only [Value.slice.injEq] at e
      obtain ⟨rfl, _, rfl⟩ := e
      have hadd : (⟨b, off, none⟩ : Addr).add (ds.length * k) = ⟨b, off + ds.length * k, none⟩ := by
        unfold Addr.add
        by_cases h : ds.length * k = 0
        · simp [h]
        · simp [h]
      have hbk : w.heap[b]? = some (.cells ⟨cs⟩ E (0, 0)) := gl _ _ (by simp [hone])
      have hmul := Nat.mul_le_mul_right k hc
      rw [Nat.add_mul] at hmul
      have hfit : off + ds.length * k + es.flatten.length ≤ cs.length := by
        rw [hesl]
        omega
      obtain ⟨w', k1, k2, k3, k4, k5⟩ := run_storeCells (P := P) es.flatten w b (off + ds.length * k) 0 cs E hbk (by omega) hones
      refine ⟨.slice (some ⟨b, off, none⟩) (ds.length + es.length) cap, w', ?_, ?_⟩
      · simp only [hadd, Sem.run_bind', k1, Result.andThen, Sem.run]
      · have m3 := m1.block k2 k3 k4 k5
        refine m3.swp s0 fun h hs => ⟨hall, .inr ⟨b, off, cap, putAt cs (off + ds.length * k) es.flatten, by simp, by simpa using hc, by rw [putAt_length]; exact h4, ?_, by simpa using hs⟩⟩
        rw [putAt_eq _ _ _ hfit, List.length_append, Nat.add_mul, List.flatten_append, ← h5, ← hesl]
        have e1 : (cs.take (off + ds.length * k)).drop off = (cs.drop off).take (ds.length * k) := by
          rw [List.drop_take]; congr 1; omega
        rw [List.append_assoc, List.drop_append_of_le_length (by simp; omega), e1, ← List.append_assoc, List.take_append_of_le_length (by simp; omega), List.take_of_length_le (by simp; omega)]
  · -- a new array
    have gl' : hle g (hh w.drew) := gl
    have hfv := run_firstCells (P := P) (w := w.drew) (hrd.le gl')
    have hfu := run_firstCells (P := P) (w := w.drew) (k := k) (v := u) (ds := es) hu
    obtain ⟨c, hc1, hrun⟩ := run_append_grow (P := P) (w := w) (T := T) (T2 := T2) (ty := ty) (n := ds.length) (cap := cap) (base := base) (slI_spec hT) hD2 hD2n hE hi hz1 hlu hfu hfv hc (by rw [hbi]; exact hlen)
    refine ⟨_, _, hrun, ?_⟩
    have m2 := (m1.drop.drew).alloc (.cells ((⟨ds.flatten⟩ : Array Value) ++ ⟨es.flatten⟩ ++ Builtin.zeroCells z.cells (c - (ds.length + es.length))) E)
    refine m2.swp s0 fun h hs => ⟨hall, .inr ⟨w.heap.size, 0, c, ds.flatten ++ es.flatten ++ (Builtin.zeroCells z.cells (c - (ds.length + es.length))).toList, by simp, by simpa using hc1, ?_, ?_, ?_⟩⟩
    · have : (Builtin.zeroCells z.cells (c - (ds.length + es.length))).size = (c - (ds.length + es.length)) * k := by
        simp [Builtin.zeroCells, hz2, hzl]
      simp only [List.length_append, Array.length_toList, this, hdsl, hesl, Nat.zero_add]
      rw [← Nat.add_mul, ← Nat.add_mul]
      exact Nat.mul_le_mul_right k (by omega)
    · rw [List.drop_zero, List.length_append, List.flatten_append, List.take_append_of_le_length (by rw [List.length_append, hdsl, hesl, Nat.add_mul]; exact Nat.le_refl _), List.take_of_length_le (by rw [List.length_append, hdsl, hesl, Nat.add_mul]; exact Nat.le_refl _)]
    · rw [hs]
      have : (⟨ds.flatten⟩ : Array Value) ++ ⟨es.flatten⟩ ++ Builtin.zeroCells z.cells (c - (ds.length + es.length)) = ⟨ds.flatten ++ es.flatten ++ (Builtin.zeroCells z.cells (c - (ds.length + es.length))).toList⟩ := by
        apply Array.ext'
        simp
      rw [this]
      rfl
end
end Go.Proofs.YtdallmabajeajaaGreatDoor.Fw
set_option linter.unusedVariables false
set_option linter.all false
namespace Go.Proofs.YtdallmabajeajaaGreatDoor.Fw
open Go
theorem Hp.nilSv {w0 w : World} {R : Hh} {Ps : List HP} (m : Hp w0 R Ps w) (k : Nat) (E : TypeId) : Hp w0 R (Sv k E (.slice none 0 0) [] :: Ps) w := by
  refine m.map fun h s => ⟨hnil, h, ⟨⟨by simp, by simp⟩, .inl ⟨rfl, rfl, rfl⟩⟩, s, hd_nil _, (hu_nil _).symm⟩
section
variable {P : Program} {ops : Array Oper} {Q : Exit → Act → World → Prop} {rest : List Oper} {n : Nat} {L : List (Nat × Value)} {a : Act} {w w0 : World} {R : Hh} {Ps Qs : List HP}
  {d : Nat} {ty : TypeId} {pos : String} {aft : Array Edge}
theorem r_append {T T2 E : TypeId} {ag : Bool} {k bytes : Nat} {x y : Operand} {v u : Value} {ds es : List (List Value)} {zs : List Value} (hs : St n L a) (m : Hp w0 R Ps w) (hx : ev L x = some v) (hy : ev L y = some u)
    (hT : slI P T = some E) (hT2 : notInt P T2 = true) (hE : tyI P E = some (ag, k)) (hz : zeI P E = some zs) (hzl : zs.length = k) (hb : byI P E = some bytes) (hbb : Nat.ble bytes 4096 = true)
    (hP : Rem Ps (Sv k E v ds) Qs) (hu : RdS (hh w) k u es) (ho : ∀ e ∈ es, ones e = true) (hlen : ds.length + es.length ≤ 140737488355328 ∧ (2 * (ds.length + es.length) + 192) * bytes ≤ 281474976710656) (hd : Nat.blt d n = true)
    (kk : ∀ v' w', Hp w0 R (Sv k E v' (ds ++ es) :: Qs) w' → ∀ a', St n ((d, v') :: L) a' → wpList P ops Q rest a' w') :
    wpList P ops Q (⟨some d, .call ⟨.builtin .append, #[x, y], #[T, T2]⟩, ty, pos, aft, none⟩ :: rest) a w := by
  obtain ⟨v', w', h1, h2⟩ := m.append (ty := ty) hT hT2 hE hz hzl hb hbb hP hu ho hlen
  refine step_val rfl rfl hs hd (v := v') (w' := w') ?_ (kk v' w' h2)
  simp [execOp, resolve, invoke, builtin, hs.evs x _ hx, hs.evs y _ hy, bind, Sem.run_bind', h1, pure, Sem.run, Result.andThen]
def fromI : Nat → List (Nat × Value) → Bool
  | _, [] => true
  | i, (j, _) :: r => match Nat.beq i j with | true => fromI (i + 1) r | false => false
theorem fill_from {k : Nat} : ∀ (vs : List (Nat × Value)) (pre post : List Value) (i : Nat), fromI i vs = true → (∀ x ∈ vs, x.2.cells.toList.length = k) → pre.length = i * k → post.length = vs.length * k →
    Instr.fill (fun i => some (i * k, k)) ⟨pre ++ post⟩ vs = some ⟨pre ++ (vs.map fun x => x.2.cells.toList).flatten⟩
  | [], pre, post, i, _, _, _, hq => by
    have : post = [] := List.eq_nil_of_length_eq_zero (by simpa using hq)
    simp [Instr.fill, this]
  | (j, v) :: r, pre, post, i, hf, hc, hp, hq => by
    simp only [fromI] at hf
    cases hj : Nat.beq i j with
    | false => rw [hj] at hf; cases hf
    | true =>
      rw [hj] at hf
      have e := Nat.eq_of_beq_eq_true hj
      subst e
      have hv : v.cells.toList.length = k := hc (i, v) (by simp)
      have hv' : v.cells.size = k := by simpa using hv
      simp only [List.length_cons, Nat.add_mul, Nat.one_mul] at hq
      simp only [Instr.fill]
      rw [if_neg (by simp [hv']; omega)]
      have e3 : v.cells.zipIdx.foldl (fun (cs : Array Value) (x : Value × Nat) => cs.setIfInBounds (i * k + x.2) x.1) ⟨pre ++ post⟩ = ⟨pre ++ v.cells.toList ++ post.drop k⟩ := by
        rw [← Array.foldl_toList, Array.toList_zipIdx]
        have := foldl_put v.cells.toList ⟨pre ++ post⟩ (i * k) 0
        rw [this, Nat.add_zero, putAt_eq _ _ _ (by simp [hv]; omega)]
        congr 1
        rw [← hp, List.take_left]
        congr 1
        rw [hv, ← List.drop_drop, List.drop_left]
      have ih := fill_from (k := k) r (pre ++ v.cells.toList) (post.drop k) (i + 1) hf (fun x hx => hc x (by simp [hx])) (by simp [hv', hp, Nat.add_mul]) (by simp; omega)
      simp only [e3]
      rw [ih]
      simp
theorem r_buildSlice {T E : TypeId} {ag : Bool} {k len : Nat} {ps : List (Nat × Operand)} {vs : List (Nat × Value)} {ds : List (List Value)} {zs : List Value} (hs : St n L a) (m : Hp w0 R Ps w) (hT : slI P T = some E) (hE : tyI P E = some (ag, k)) (hz : zeI P E = some zs) (hzl : zs.length = k)
    (hx : partsOf L ps = some vs) (hf : fromI 0 vs = true) (hl : vs.length = len) (hd' : vs.map (fun x => x.2.cells.toList) = ds) (hk : ∀ d ∈ ds, d.length = k) (hsz : Nat.ble (len * k) 16777216 = true) (hsl : Nat.ble len 16777216 = true) (hd : Nat.blt d n = true)
    (kk : ∀ v' w', Hp w0 R (Sv k E v' ds :: Ps) w' → ∀ a', St n ((d, v') :: L) a' → wpList P ops Q rest a' w') :
    wpList P ops Q (⟨some d, .buildSlice T len ⟨ps⟩, ty, pos, aft, none⟩ :: rest) a w := by
  subst hd'
  obtain ⟨z, h1, h2⟩ := zeI_spec hz w
  have h7 := parts_map hs.evs ps vs hx
  have hck : ∀ x ∈ vs, x.2.cells.toList.length = k := fun x hx => hk _ (List.mem_map.2 ⟨x, hx, rfl⟩)
  have hsz' : ¬ len * k > 2 ^ 24 := by have := Nat.le_of_ble_eq_true hsz; omega
  let zero : Array Value := if len * k = 0 then #[] else z.cells
  have hzero : (if len * k = 0 then pure #[] else do pure (← zeroValue E).cells : Sem (Array Value)).run P w = .ok zero w := by
    by_cases h : len * k = 0
    · simp [h, zero, pure, Sem.run]
    · simp [h, zero, bind, Sem.run_bind', h1, pure, Sem.run, Result.andThen]
  have hfill := fill_from (k := k) vs [] ((Array.range (len * k)).map fun i => zero[i % zero.size]!).toList 0 hf hck (by simp) (by simp [hl])
  simp only [List.nil_append] at hfill
  refine step_val rfl rfl hs hd (v := .slice (some ⟨w.heap.size, 0, none⟩) len len) (w' := w.alloc (.cells ⟨(vs.map fun x => x.2.cells.toList).flatten⟩ E)) ?_ (kk _ _ ?_)
  · have hrow : ∀ w' (cs : Array Value), (newRow E cs).run P w' = .ok ⟨w'.heap.size, 0, none⟩ (w'.alloc (.cells cs E)) := fun w' cs => rfl
    have hfill' : Instr.fill (fun i => some (i * k, k)) (Array.map (fun x => zero[x % zero.size]!) (Array.range (len * k))) vs = some ⟨(vs.map fun x => x.2.cells.toList).flatten⟩ := hfill
    have hrun : (Instr.buildSlice T len ((⟨ps⟩ : Array (Nat × Operand)).map fun (i, x) => (i, a.eval x))).run P w = .ok (.slice (some ⟨w.heap.size, 0, none⟩) len len) (w.alloc (.cells ⟨(vs.map fun x => x.2.cells.toList).flatten⟩ E)) := by
      unfold Instr.buildSlice
      rw [Sem.run_bind, run_underlying (slI_spec hT)]
      simp only [Result.andThen]
      rw [Sem.run_bind, run_sizeOf' hE]
      simp only [Result.andThen, if_neg hsz']
      have h7' : (((⟨ps⟩ : Array (Nat × Operand)).map fun (i, x) => (i, a.eval x)).toList) = vs := by simpa using h7
      have hrow : ∀ w' (cs : Array Value), (newRow E cs).run P w' = .ok ⟨w'.heap.size, 0, none⟩ (w'.alloc (.cells cs E)) := fun w' cs => rfl
      simp only [pure, bind, Sem.bind, Sem.run]
      by_cases h : len * k = 0
      · have hz0 : zero = #[] := by simp [zero, h]
        rw [hz0] at hfill'
        simp only [if_pos h, h7', hfill', Sem.run_bind', hrow, Result.andThen, Sem.run]
      · have hz0 : zero = z.cells := by simp [zero, h]
        rw [hz0] at hfill'
        simp only [if_neg h, Sem.run_bind', h1, Result.andThen, h7', hfill', hrow, Sem.run]
    simp only [execOp, bind, Sem.run_bind', hrun, Result.andThen, pure, Sem.run]
  · have hln : len ≤ 140737488355328 := by have := Nat.le_of_ble_eq_true hsl; omega
    refine (m.alloc _).swp s0 fun h hh => ⟨⟨hk, by simpa [hl] using hln⟩, .inr ⟨w.heap.size, 0, len, _, by simp [hl], by simp [hl], ?_, ?_, hh⟩⟩
    · rw [flat_len hk]; simp [hl]
    · rw [List.drop_zero, List.take_of_length_le (by rw [flat_len hk]; exact Nat.le_refl _)]
end
/-! ### 14. Slices of slices -/
def subS (k : Nat) (v : Value) (lo hi : Nat) : Value := match v with
  | .slice a _ c => .slice (if c = lo then a else a.map (·.add (lo * k))) (hi - lo) (c - lo)
  | _ => v
theorem add_flat {b off n : Nat} : (⟨b, off, none⟩ : Addr).add n = ⟨b, off + n, none⟩ := by
  unfold Addr.add
  by_cases h : n = 0
  · simp [h]
  · simp [h]
theorem RdS.subS {h : Hh} {k : Nat} {v : Value} {ds : List (List Value)} (r : RdS h k v ds) {lo hi : Nat} (h1 : lo ≤ hi) (h2 : hi ≤ ds.length) : RdS h k (subS k v lo hi) ((ds.take hi).drop lo) := by
  obtain ⟨hk, hb, a, cap, rfl, hc, hr⟩ := r
  refine ⟨fun d hd => hk d (List.mem_of_mem_take (List.mem_of_mem_drop hd)), by simp; omega, if cap = lo then a else a.map (·.add (lo * k)), cap - lo, ?_, ?_, fun hn => ?_⟩
  · simp only [Fw.subS]
    congr 1
    simp; omega
  · simp; omega
  · have hlt : lo < hi := by
      rcases Nat.lt_or_ge lo hi with h | h
      · exact h
      · exact absurd (List.eq_nil_of_length_eq_zero (by simp; omega)) hn
    obtain ⟨b, off, arr, T, fz, rfl, e2, e3⟩ := hr (by intro e; subst e; simp at h2; omega)
    refine ⟨b, off + lo * k, arr, T, fz, ?_, e2, ?_⟩
    · rw [if_neg (by omega)]
      simp [add_flat]
    · have hfl : ((ds.take hi).drop lo).flatten = (ds.flatten.drop (lo * k)).take ((hi - lo) * k) := by
        have hkt : ∀ d ∈ ds.take hi, d.length = k := fun d hd => hk d (List.mem_of_mem_take hd)
        have s1 : ds = (ds.take hi).take lo ++ ((ds.take hi).drop lo ++ ds.drop hi) := by
          rw [← List.append_assoc, List.take_append_drop, List.take_append_drop]
        have l1 : ((ds.take hi).take lo).flatten.length = lo * k := by
          rw [flat_len (fun d hd => hkt d (List.mem_of_mem_take hd))]
          congr 1; simp; omega
        have l2 : ((ds.take hi).drop lo).flatten.length = (hi - lo) * k := by
          rw [flat_len (fun d hd => hkt d (List.mem_of_mem_drop hd))]
          congr 1; simp; omega
        conv => rhs; rw [s1]
        rw [List.flatten_append, ← l1, List.drop_left, List.flatten_append, ← l2, List.take_left]
      have hlen : ((ds.take hi).drop lo).length = hi - lo := by simp; omega
      rw [hfl, hlen, ← e3, List.drop_take, List.drop_drop, List.take_take]
      have h3 : (hi - lo) * k ≤ ds.length * k - lo * k := by
        rw [← Nat.sub_mul]
        exact Nat.mul_le_mul_right k (by omega)
      rw [Nat.min_eq_left h3]
section
variable {P : Program} {C : World → Prop} {L : List (Nat × Value)} {d : Option Tmp} {ty : TypeId} {pos : String} {aft : Array Edge} {g : Option (Nat × Bool)}
def bnd (L : List (Nat × Value)) (x : Option Operand) (dflt r : Nat) : Prop := match x with
  | some o => ∃ K, ev L o = some (.int K (r : Int))
  | none => r = dflt
end
end Go.Proofs.YtdallmabajeajaaGreatDoor.Fw
set_option linter.unusedVariables false
set_option linter.all false
namespace Go.Proofs.YtdallmabajeajaaGreatDoor.Fw
open Go
/-! ### 15. Statements -/
section
variable {P : Program} {Q : Exit → Act → World → Prop} {a : Act} {w : World} {x y : Code}
theorem n_then {K : Act → World → Prop} (h : K a w) : Exit.then K Q .normal a w := h
theorem c_seq (h : x.wp P (Exit.then (y.wp P Q) Q) a w) : (Code.seq x y).wp P Q a w := wp_seq h
theorem c_reg {id : Nat} {l : List Oper} (h : wpList P l.toArray (Exit.then (y.wp P Q) Q) l a w) : (Code.seq (.region id l.toArray false) y).wp P Q a w := wp_seq (wp_region_lit h)
theorem c_last {id : Nat} {l : List Oper} (h : wpList P l.toArray Q l a w) : (Code.region id l.toArray false).wp P Q a w := wp_region_lit h
theorem c_draw {w0 : World} {R : Hh} {Ps : List HP} {id : Nat} {l : List Oper} (m : Hp w0 R Ps w) (hm : P.follows .mixedOrders = true) (hB : Region.lexB .any l.toArray = true)
    (h : wpQuiet P l.toArray (Hp w0 R Ps) (fun a' => ∀ w', Hp w0 R Ps w' → y.wp P Q a' w') l a) : (Code.seq (.region id l.toArray true) y).wp P Q a w :=
  wp_seq (wp_region_quiet (C := Hp w0 R Ps) hm hB (m.drawn _) h)
theorem c_drawLast {w0 : World} {R : Hh} {Ps : List HP} {id : Nat} {l : List Oper} (m : Hp w0 R Ps w) (hm : P.follows .mixedOrders = true) (hB : Region.lexB .any l.toArray = true)
    (h : wpQuiet P l.toArray (Hp w0 R Ps) (fun a' => ∀ w', Hp w0 R Ps w' → Q .normal a' w') l a) : (Code.region id l.toArray true).wp P Q a w :=
  wp_region_quiet (C := Hp w0 R Ps) hm hB (m.drawn _) h
theorem c_cond {n : Nat} {L : List (Nat × Value)} {c : Operand} {b : Bool} (hs : St n L a) (hc : ev L c = some (.bool b)) (ht : b = true → x.wp P Q a w) (hf : b = false → y.wp P Q a w) : (Code.cond c x y).wp P Q a w :=
  wp_cond_split (hs.evs c _ hc) ht hf
theorem c_true {n : Nat} {L : List (Nat × Value)} {c : Operand} {b : Bool} (hs : St n L a) (hc : ev L c = some (.bool b)) (hb : b = true) (h : x.wp P Q a w) : (Code.cond c x y).wp P Q a w := by
  subst hb; exact wp_cond_true (hs.evs c _ hc) h
theorem c_false {n : Nat} {L : List (Nat × Value)} {c : Operand} {b : Bool} (hs : St n L a) (hc : ev L c = some (.bool b)) (hb : b = false) (h : y.wp P Q a w) : (Code.cond c x y).wp P Q a w := by
  subst hb; exact wp_cond_false (hs.evs c _ hc) h
theorem ex_hit {id : Nat} (h : Q .normal a w) : Exit.inBlock id Q (.exit id) a w := by simp only [Exit.inBlock, if_true]; exact h
theorem ex_miss {id id' : Nat} (hne : Nat.beq id' id = false) (h : Q (.exit id') a w) : Exit.inBlock id Q (.exit id') a w := by
  have : ¬ id' = id := fun e => by rw [e, Nat.beq_refl] at hne; cases hne
  simp only [Exit.inBlock, this, if_false]; exact h
abbrev Next (I : Nat → Act → World → Prop) (n : Nat) (a : Act) (w : World) : Prop := ∃ n', n' < n ∧ I n' a w
end
/-! ### 16. A function's begin and end -/
def num : Nat → List Value → List (Nat × Value)
  | _, [] => []
  | i, v :: r => (i, v) :: num (i + 1) r
theorem lk_num : ∀ (vs : List Value) (i j : Nat) (v : Value), lk (num i vs) j = some v → i ≤ j ∧ vs[j - i]? = some v
  | [], _, _, _, h => by simp [num, lk] at h
  | u :: r, i, j, v, h => by
    simp only [num] at h
    by_cases e : i = j
    · subst e
      rw [lk_hit] at h
      simp only [Option.some.injEq] at h
      simp [h]
    · rw [lk_miss _ _ e] at h
      have := lk_num r (i + 1) j v h
      refine ⟨by omega, ?_⟩
      rw [show j - i = (j - (i + 1)) + 1 from by omega, List.getElem?_cons_succ]
      exact this.2
theorem enter {P : Program} {f : FuncId} {fn : Func} {c : Code} {args : List Value} {w : World} {Rr : Ending → World → Prop} {n : Nat} (hf : P.funcs[f]? = some fn) (hb : fn.body = some c) (hn : fn.ntmps = n) (ha : Nat.ble args.length n = true)
    (h : ∀ a, St n (num 0 args) a → c.wp P (bodyPost P fn Rr) a w) : Calls P f ⟨args⟩ w Rr := by
  refine calls_of_wp hf hb (h _ ?_)
  have hle := Nat.le_of_ble_eq_true ha
  refine ⟨by simp [hn]; omega, rfl, fun i v hv => ?_⟩
  obtain ⟨_, h2⟩ := lk_num args 0 i v hv
  simp only [Nat.sub_zero] at h2
  have hlt := (List.getElem?_eq_some_iff.1 h2).1
  rw [Array.getElem?_append_left (by simpa using hlt)]
  simpa using h2
def ResV (P : Program) (L : List (Nat × Value)) (w : World) : ResultVar → Value → Prop
  | .tmp t, v => lk L t = some v
  | .cell t T, v => ∃ p, lk L t = some (.pointer (some p)) ∧ (loadVar T p).run P w = .ok v w
def ResVs (P : Program) (L : List (Nat × Value)) (w : World) : List ResultVar → List Value → Prop
  | [], [] => True
  | r :: rs, v :: vs => ResV P L w r v ∧ ResVs P L w rs vs
  | _, _ => False
def pack : List Value → Value
  | [v] => v
  | vs => .tuple ⟨vs⟩
theorem resv_cell {P : Program} {w0 w : World} {R : Hh} {Ps Qs : List HP} {L : List (Nat × Value)} {t : Tmp} {T E : TypeId} {p : Addr} {n : Nat} {cs : List Value} (m : Hp w0 R Ps w) (hx : lk L t = some (.pointer (some (padd p 0)))) (ht : tyI P T = some (true, n)) (hP : Rem Ps (Bx p E cs) Qs) (hl : cs.length = n) :
    ResV P L w (.cell t T) (.agg ⟨cs⟩) :=
  ⟨_, hx, run_loadVar_ag ht (bx_at hP w m) (by rw [List.drop_zero, List.take_of_length_le (by omega)]) hl⟩
theorem resv_cell1 {P : Program} {w0 w : World} {R : Hh} {Ps Qs : List HP} {L : List (Nat × Value)} {t : Tmp} {T E : TypeId} {p : Addr} {n : Nat} {v : Value} (m : Hp w0 R Ps w) (hx : lk L t = some (.pointer (some (padd p 0)))) (ht : tyI P T = some (false, n)) (hP : Rem Ps (Bx p E [v]) Qs) :
    ResV P L w (.cell t T) v :=
  ⟨_, hx, run_loadVar_sc ht (bx_at hP w m) rfl⟩
def resSem (a : Act) : ResultVar → Sem Value
  | .tmp t => pure (a.tmps.getD t undef)
  | .cell x t => do loadVar t (← asAddr (a.tmps.getD x undef))
theorem run_results {P : Program} {n : Nat} {L : List (Nat × Value)} {a : Act} {w : World} (hs : St n L a) : ∀ (rs : List ResultVar) (vs : List Value), ResVs P L w rs vs →
    (rs.mapM (resSem a)).run P w = .ok vs w
  | [], [], _ => by simp [pure, Sem.run]
  | r :: rs, v :: vs, ⟨h1, h2⟩ => by
    have ih := run_results hs rs vs h2
    have h0 : (resSem a r).run P w = .ok v w := by
      cases r with
      | tmp t =>
        have := hs.at_ t v h1
        simp [resSem, pure, Sem.run, Array.getD_eq_getD_getElem?, this]
      | cell x t =>
        obtain ⟨p, h3, h4⟩ := h1
        have := hs.at_ x _ h3
        simp [resSem, bind, Sem.run_bind', asAddr, Array.getD_eq_getD_getElem?, this, pure, Sem.run, Result.andThen, h4]
    rw [List.mapM_cons, Sem.run_bind, h0]
    simp only [Result.andThen]
    rw [Sem.run_bind, ih]
    simp [Result.andThen, pure, Sem.run]
  | [], _ :: _, h => h.elim
  | _ :: _, [], h => h.elim
theorem results_run {P : Program} {fn : Func} {n : Nat} {L : List (Nat × Value)} {a : Act} {w : World} (hs : St n L a) {rs : List ResultVar} {vs : List Value} (hr : fn.results = ⟨rs⟩) (h : ResVs P L w rs vs) : (results fn a.tmps).run P w = .ok (pack vs) w := by
  have h1 := run_results hs rs vs h
  have e : results fn a.tmps = (do
      let vs ← fn.results.mapM (resSem a)
      pure (if h : vs.size = 1 then vs[0] else .tuple vs)) := by
    unfold results
    congr 1
  rw [e, hr, Array.mapM_eq_mapM_toList, Sem.run_bind]
  have e2 : ∀ m : Sem (List Value), (List.toArray <$> m) = m.bind (fun l => Sem.pure l.toArray) := fun _ => rfl
  rw [e2, Sem.run_bind', h1]
  simp only [Result.andThen, Sem.run, pure]
  match vs with
  | [] => simp [pack]
  | [v] => simp [pack]
  | v :: u :: r => simp [pack]
theorem leave {P : Program} {fn : Func} {n : Nat} {L : List (Nat × Value)} {a : Act} {w : World} {Rr : Ending → World → Prop} (hs : St n L a) {rs : List ResultVar} {vs : List Value} (hr : fn.results = ⟨rs⟩) (h : ResVs P L w rs vs) (hR : Rr (.returned (pack vs)) w) : bodyPost P fn Rr .ret a w :=
  ⟨hs.nod, _, results_run hs hr h, hR⟩
theorem leaveN {P : Program} {fn : Func} {n : Nat} {L : List (Nat × Value)} {a : Act} {w : World} {Rr : Ending → World → Prop} (hs : St n L a) {rs : List ResultVar} {vs : List Value} (hr : fn.results = ⟨rs⟩) (h : ResVs P L w rs vs) (hR : Rr (.returned (pack vs)) w) : bodyPost P fn Rr .normal a w :=
  ⟨hs.nod, _, results_run hs hr h, hR⟩
theorem Hp.below {w w' : World} {Ps : List HP} (m : Hp w (hh w) Ps w') : Go.RowKit.Below w.heap.size w w' := by
  refine ⟨m.os, m.tape, m.output, m.size.1, fun k hk => ?_⟩
  have h1 : hh w k = some (w.heap[k]) := by simp [hh, hk]
  have := m.frame _ _ h1
  simp only [hh] at this h1
  rw [this, h1]
end Go.Proofs.YtdallmabajeajaaGreatDoor.Fw
set_option linter.unusedVariables false
set_option linter.all false
namespace Go.Proofs.YtdallmabajeajaaGreatDoor.Fw
open Go
/-! ### 17. Numbers of a fixed width -/
structure Fx (k : IntKind) where
  v : Int
  h : k.wrap v = v
theorem Fx.ext {k : IntKind} {x y : Fx k} (h : x.v = y.v) : x = y := by
  cases x; cases y; simp_all
instance (k : IntKind) : DecidableEq (Fx k) := fun x y =>
  if h : x.v = y.v then .isTrue (Fx.ext h) else .isFalse fun e => h (by rw [e])
theorem wrap_wrap (k : IntKind) (n : Int) : k.wrap (k.wrap n) = k.wrap n := by
  cases k <;> simp only [IntKind.wrap, IntKind.bits, IntKind.signed] <;> simp <;> omega
def Fx.of (k : IntKind) (n : Int) : Fx k := ⟨k.wrap n, wrap_wrap k n⟩
theorem wrap_i64 {n : Int} (h1 : -9223372036854775808 ≤ n) (h2 : n ≤ 9223372036854775807) : IntKind.i64.wrap n = n := by
  simp only [IntKind.wrap, IntKind.bits, IntKind.signed]; simp; omega
theorem Fx.i64 (x : Fx .i64) : -9223372036854775808 ≤ x.v ∧ x.v ≤ 9223372036854775807 := by
  have := x.h
  simp only [IntKind.wrap, IntKind.bits, IntKind.signed] at this
  simp at this
  omega
theorem Fx.u32 (x : Fx .u32) : 0 ≤ x.v ∧ x.v ≤ 4294967295 := by
  have := x.h
  simp only [IntKind.wrap, IntKind.bits, IntKind.signed] at this
  simp at this
  omega
theorem Fx.u8 (x : Fx .u8) : 0 ≤ x.v ∧ x.v ≤ 255 := by
  have := x.h
  simp only [IntKind.wrap, IntKind.bits, IntKind.signed] at this
  simp at this
  omega
theorem Fx.u64 (x : Fx .u64) : 0 ≤ x.v ∧ x.v ≤ 18446744073709551615 := by
  have := x.h
  simp only [IntKind.wrap, IntKind.bits, IntKind.signed] at this
  simp at this
  omega
/-! ### 18. Calls that leave the heap «as» it was -/
section
variable {P : Program} {ops : Array Oper} {Q : Exit → Act → World → Prop} {rest : List Oper} {n : Nat} {L : List (Nat × Value)} {a : Act} {w w0 : World} {R : Hh} {Ps Qs : List HP}
end
section
variable {P : Program} {ops : Array Oper} {Q : Act → Prop} {rest : List Oper} {n : Nat} {L : List (Nat × Value)} {a : Act} {w0 : World} {R : Hh} {Ps Qs : List HP}
end
theorem get_of_lt {α : Type} {l : List α} {i : Nat} (h : i < l.length) : ∃ x, l[i]? = some x := ⟨l[i], List.getElem?_eq_getElem h⟩
theorem get_map {α β : Type} (f : α → β) {l : List α} {i : Nat} {x : α} (h : l[i]? = some x) : (l.map f)[i]? = some (f x) := by simp [h]
/-! ### 18b. Slices of typed elements -/
structure SH where
  a : Option Addr
  n : Nat
  c : Nat
def SH.v (x : SH) : Value := .slice x.a x.n x.c
def nilH : SH := ⟨none, 0, 0⟩
def subH (k : Nat) (x : SH) (lo hi : Nat) : SH := ⟨if x.c = lo then x.a else x.a.map (·.add (lo * k)), hi - lo, x.c - lo⟩
theorem subH_v (k : Nat) (x : SH) (lo hi : Nat) : (subH k x lo hi).v = subS k x.v lo hi := rfl
theorem Sv.sh {k : Nat} {E : TypeId} {v : Value} {ds : List (List Value)} {h : Hh} (s : Sv k E v ds h) : ∃ x : SH, v = x.v := by
  obtain ⟨base, cap, rfl, _⟩ := s.shape
  exact ⟨⟨base, _, cap⟩, rfl⟩
theorem Hp.sh {w0 w : World} {R : Hh} {Ps : List HP} {k : Nat} {E : TypeId} {v : Value} {ds : List (List Value)} (m : Hp w0 R (Sv k E v ds :: Ps) w) : ∃ x : SH, v = x.v := by
  obtain ⟨g, hg, _⟩ := m.look r0
  exact hg.sh
theorem Hp.nilSvM {α : Type} (c : α → List Value) {w0 w : World} {R : Hh} {Ps : List HP} (m : Hp w0 R Ps w) (k : Nat) (E : TypeId) : Hp w0 R (Sv k E nilH.v (([] : List α).map c) :: Ps) w := m.nilSv k E
theorem RdS.len {h : Hh} {k : Nat} {x : SH} {ds : List (List Value)} (r : RdS h k x.v ds) : x.n = ds.length := by
  obtain ⟨_, _, a, c, e, _⟩ := r
  simp only [SH.v, Value.slice.injEq] at e
  exact e.2.1
section
variable {P : Program} {ops : Array Oper} {Q : Exit → Act → World → Prop} {rest : List Oper} {n : Nat} {L : List (Nat × Value)} {a : Act} {w w0 : World} {R : Hh} {Ps Qs : List HP}
  {d : Nat} {ty : TypeId} {pos : String} {aft : Array Edge}
theorem r_appendM {α : Type} {c : α → List Value} {xs ys : List α} {T T2 E : TypeId} {ag : Bool} {k bytes : Nat} {x y : Operand} {v u : Value} {zs : List Value} (hs : St n L a) (m : Hp w0 R Ps w) (hx : ev L x = some v) (hy : ev L y = some u)
    (hT : slI P T = some E) (hT2 : notInt P T2 = true) (hE : tyI P E = some (ag, k)) (hz : zeI P E = some zs) (hzl : zs.length = k) (hb : byI P E = some bytes) (hbb : Nat.ble bytes 4096 = true)
    (hP : Rem Ps (Sv k E v (xs.map c)) Qs) (hu : RdS (hh w) k u (ys.map c)) (ho : ∀ z, ones (c z) = true) (hlen : xs.length + ys.length ≤ 140737488355328 ∧ (2 * (xs.length + ys.length) + 192) * bytes ≤ 281474976710656) (hd : Nat.blt d n = true)
    (kk : ∀ (v' : SH) w', Hp w0 R (Sv k E v'.v ((xs ++ ys).map c) :: Qs) w' → ∀ a', St n ((d, v'.v) :: L) a' → wpList P ops Q rest a' w') :
    wpList P ops Q (⟨some d, .call ⟨.builtin .append, #[x, y], #[T, T2]⟩, ty, pos, aft, none⟩ :: rest) a w :=
  r_append hs m hx hy hT hT2 hE hz hzl hb hbb hP hu (by intro e he; obtain ⟨z, _, rfl⟩ := List.mem_map.1 he; exact ho z) (by simpa using hlen) hd (fun v' w' m' => by
    obtain ⟨x, rfl⟩ := m'.sh
    exact kk x w' (by rw [List.map_append]; exact m'))
theorem r_buildM {α : Type} {c : α → List Value} {ys : List α} {T E : TypeId} {ag : Bool} {k len : Nat} {ps : List (Nat × Operand)} {vs : List (Nat × Value)} {zs : List Value} (hs : St n L a) (m : Hp w0 R Ps w) (hT : slI P T = some E) (hE : tyI P E = some (ag, k)) (hz : zeI P E = some zs) (hzl : zs.length = k)
    (hx : partsOf L ps = some vs) (hf : fromI 0 vs = true) (hl : vs.length = len) (hd' : vs.map (fun x => x.2.cells.toList) = ys.map c) (hk : ∀ z, (c z).length = k) (hsz : Nat.ble (len * k) 16777216 = true) (hsl : Nat.ble len 16777216 = true) (hd : Nat.blt d n = true)
    (kk : ∀ (v' : SH) w', Hp w0 R (Sv k E v'.v (ys.map c) :: Ps) w' → ∀ a', St n ((d, v'.v) :: L) a' → wpList P ops Q rest a' w') :
    wpList P ops Q (⟨some d, .buildSlice T len ⟨ps⟩, ty, pos, aft, none⟩ :: rest) a w :=
  r_buildSlice hs m hT hE hz hzl hx hf hl hd' (by intro e he; obtain ⟨z, _, rfl⟩ := List.mem_map.1 he; exact hk z) hsz hsl hd (fun v' w' m' => by
    obtain ⟨x, rfl⟩ := m'.sh
    exact kk x w' m')
end
section
variable {P : Program} {n : Nat} {L : List (Nat × Value)} {a : Act} {w w0 : World} {R : Hh} {Ps Qs : List HP} {G : Prop}
end
/-! ### 18c. Regions that draw their order and make or write memory -/
section
variable {P : Program} {ops : Array Oper} {Q : Exit → Act → World → Prop} {n : Nat} {L : List (Nat × Value)} {a : Act} {w w0 : World} {R : Hh} {Ps Qs : List HP} {S : World → Prop} {y : Code}
end
/-! ### 19. Guarded operations; a cut in a list of operations -/
inductive Spl {α : Type} : List α → List α → List α → Prop
  | n {l : List α} : Spl [] l l
  | c {x : α} {l1 l2 l : List α} : Spl l1 l2 l → Spl (x :: l1) l2 (x :: l)
theorem Spl.eq {α : Type} {l1 l2 l : List α} (h : Spl l1 l2 l) : l = l1 ++ l2 := by
  induction h with
  | n => rfl
  | c _ ih => rw [ih]; rfl
section
variable {P : Program} {ops : Array Oper} {Q : Exit → Act → World → Prop} {rest : List Oper} {n : Nat} {L : List (Nat × Value)} {a : Act} {w w0 : World} {C : World → Prop}
theorem wpList_cut (M : Act → World → Prop) : ∀ (l1 l2 : List Oper) (a : Act) (w : World), wpList P ops (Exit.then M Q) l1 a w → (∀ a w, M a w → wpList P ops Q l2 a w) → wpList P ops Q (l1 ++ l2) a w
  | [], l2, a, w, h, k => k a w h
  | o :: l1, l2, a, w, h, k => by
    simp only [List.cons_append]
    unfold wpList at h ⊢
    have hmono : ∀ a w, wpList P ops (Exit.then M Q) l1 a w → wpList P ops Q (l1 ++ l2) a w := fun a w h => wpList_cut M l1 l2 a w h k
    by_cases hw : Region.wanted o (yielded ops a.tmps) = true
    · rw [if_pos hw] at h ⊢
      rcases h with h | ⟨h1, h2⟩
      · refine .inl ?_
        have h3 : o.wp P a w (wpList P ops (Exit.then M Q) l1) Q := by
          unfold Oper.wp Oper.upon at h ⊢
          exact h
        exact Oper.wp_mono hmono h3
      · exact .inr ⟨h1, h2⟩
    · rw [if_neg hw] at h ⊢
      exact hmono _ _ h
theorem l_cut {l1 l2 l : List Oper} (hp : Spl l1 l2 l) (M : Act → World → Prop) (h : wpList P ops (Exit.then M Q) l1 a w) (k : ∀ a w, M a w → wpList P ops Q l2 a w) : wpList P ops Q l a w := by
  rw [hp.eq]; exact wpList_cut M l1 l2 a w h k
theorem g_out {d : Nat} {op : Op} {ty : TypeId} {pos : String} {aft : Array Edge} {j : Nat} {want b : Bool} {t : Nat} (hs : St n L a) (hj : (ops[j]?).bind (·.dst) = some t) (ht : lk L t = some (.bool b)) (hb : b = !want) (hd : Nat.blt d n = true)
    (k : ∀ a', St n ((d, undef) :: L) a' → wpList P ops Q rest a' w) : wpList P ops Q (⟨some d, op, ty, pos, aft, some (j, want)⟩ :: rest) a w := by
  refine wpList_step fun K hK => ?_
  have hy : Region.wanted ⟨some d, op, ty, pos, aft, some (j, want)⟩ (yielded ops a.tmps) = false := by
    simp only [Region.wanted, yielded, hj, Option.bind_some, hs.at_ t _ ht, hb]
    cases want <;> simp
  rw [if_neg (by rw [hy]; simp)]
  exact hK _ _ (k _ (hs.put hd))
theorem g_outU {d : Nat} {op : Op} {ty : TypeId} {pos : String} {aft : Array Edge} {j : Nat} {want : Bool} {t : Nat} (hs : St n L a) (hj : (ops[j]?).bind (·.dst) = some t) (ht : lk L t = some undef) (hd : Nat.blt d n = true)
    (k : ∀ a', St n ((d, undef) :: L) a' → wpList P ops Q rest a' w) : wpList P ops Q (⟨some d, op, ty, pos, aft, some (j, want)⟩ :: rest) a w := by
  refine wpList_step fun K hK => ?_
  have hy : Region.wanted ⟨some d, op, ty, pos, aft, some (j, want)⟩ (yielded ops a.tmps) = false := by
    simp [Region.wanted, yielded, hj, Option.bind_some, hs.at_ t _ ht, undef]
  rw [if_neg (by rw [hy]; simp)]
  exact hK _ _ (k _ (hs.put hd))
theorem r_okg {d : Nat} {op : Op} {ty : TypeId} {pos : String} {aft : Array Edge} {v : Value} {j : Nat} {want b : Bool} {t : Nat} (hs : St n L a) (hj : (ops[j]?).bind (·.dst) = some t) (ht : lk L t = some (.bool b)) (hb : b = want) (m : C w)
    (h : Ok P C L ⟨some d, op, ty, pos, aft, some (j, want)⟩ v) (hd : Nat.blt d n = true)
    (k : ∀ a', St n ((d, v) :: L) a' → wpList P ops Q rest a' w) : wpList P ops Q (⟨some d, op, ty, pos, aft, some (j, want)⟩ :: rest) a w := by
  refine wpList_step fun K hK => ?_
  have hy : Region.wanted ⟨some d, op, ty, pos, aft, some (j, want)⟩ (yielded ops a.tmps) = true := by
    simp only [Region.wanted, yielded, hj, Option.bind_some, hs.at_ t _ ht, hb]
    simp
  rw [if_pos hy]
  unfold Oper.wp
  rw [h _ hs.evs w m]
  exact hK _ _ (k _ (hs.put hd))
end
section
variable {P : Program} {ops : Array Oper} {Q : Act → Prop} {rest : List Oper} {n : Nat} {L : List (Nat × Value)} {a : Act} {C : World → Prop}
theorem wpQuiet_cut (M : Act → Prop) : ∀ (l1 l2 : List Oper) (a : Act), wpQuiet P ops C M l1 a → (∀ a, M a → wpQuiet P ops C Q l2 a) → wpQuiet P ops C Q (l1 ++ l2) a
  | [], l2, a, h, k => k a h
  | o :: l1, l2, a, h, k => by
    simp only [List.cons_append]
    unfold wpQuiet at h ⊢
    have hmono : ∀ a, wpQuiet P ops C M l1 a → wpQuiet P ops C Q (l1 ++ l2) a := fun a h => wpQuiet_cut M l1 l2 a h k
    by_cases hw : Region.wanted o (yielded ops a.tmps) = true
    · rw [if_pos hw] at h ⊢
      exact Oper.quiet_mono hmono h
    · rw [if_neg hw] at h ⊢
      exact hmono _ h
theorem q_cut {l1 l2 l : List Oper} (hp : Spl l1 l2 l) (M : Act → Prop) (h : wpQuiet P ops C M l1 a) (k : ∀ a, M a → wpQuiet P ops C Q l2 a) : wpQuiet P ops C Q l a := by
  rw [hp.eq]; exact wpQuiet_cut M l1 l2 a h k
theorem q_out {d : Nat} {op : Op} {ty : TypeId} {pos : String} {aft : Array Edge} {j : Nat} {want b : Bool} {t : Nat} (hs : St n L a) (hj : (ops[j]?).bind (·.dst) = some t) (ht : lk L t = some (.bool b)) (hb : b = !want) (hd : Nat.blt d n = true)
    (k : ∀ a', St n ((d, undef) :: L) a' → wpQuiet P ops C Q rest a') : wpQuiet P ops C Q (⟨some d, op, ty, pos, aft, some (j, want)⟩ :: rest) a := by
  refine wpQuiet_step fun K hK => ?_
  have hy : Region.wanted ⟨some d, op, ty, pos, aft, some (j, want)⟩ (yielded ops a.tmps) = false := by
    simp only [Region.wanted, yielded, hj, Option.bind_some, hs.at_ t _ ht, hb]
    cases want <;> simp
  rw [if_neg (by rw [hy]; simp)]
  exact hK _ (k _ (hs.put hd))
theorem q_outU {d : Nat} {op : Op} {ty : TypeId} {pos : String} {aft : Array Edge} {j : Nat} {want : Bool} {t : Nat} (hs : St n L a) (hj : (ops[j]?).bind (·.dst) = some t) (ht : lk L t = some undef) (hd : Nat.blt d n = true)
    (k : ∀ a', St n ((d, undef) :: L) a' → wpQuiet P ops C Q rest a') : wpQuiet P ops C Q (⟨some d, op, ty, pos, aft, some (j, want)⟩ :: rest) a := by
  refine wpQuiet_step fun K hK => ?_
  have hy : Region.wanted ⟨some d, op, ty, pos, aft, some (j, want)⟩ (yielded ops a.tmps) = false := by
    simp [Region.wanted, yielded, hj, Option.bind_some, hs.at_ t _ ht, undef]
  rw [if_neg (by rw [hy]; simp)]
  exact hK _ (k _ (hs.put hd))
theorem q_okg {d : Nat} {op : Op} {ty : TypeId} {pos : String} {aft : Array Edge} {v : Value} {j : Nat} {want b : Bool} {t : Nat} (hs : St n L a) (hj : (ops[j]?).bind (·.dst) = some t) (ht : lk L t = some (.bool b)) (hb : b = want)
    (h : Ok P C L ⟨some d, op, ty, pos, aft, some (j, want)⟩ v) (hd : Nat.blt d n = true)
    (k : ∀ a', St n ((d, v) :: L) a' → wpQuiet P ops C Q rest a') : wpQuiet P ops C Q (⟨some d, op, ty, pos, aft, some (j, want)⟩ :: rest) a := by
  refine wpQuiet_step fun K hK => ?_
  have hy : Region.wanted ⟨some d, op, ty, pos, aft, some (j, want)⟩ (yielded ops a.tmps) = true := by
    simp only [Region.wanted, yielded, hj, Option.bind_some, hs.at_ t _ ht, hb]
    simp
  rw [if_pos hy]
  refine ⟨v, fun w hw => ?_, hK _ (k _ (hs.put hd))⟩
  unfold Oper.quietAt
  rw [h _ hs.evs w hw]
  exact ⟨rfl, rfl⟩
end
end Go.Proofs.YtdallmabajeajaaGreatDoor.Fw
set_option linter.unusedVariables false
set_option linter.all false
namespace Go.Proofs.YtdallmabajeajaaGreatDoor.Fw
open Go
inductive LK where
  | i (k : IntKind)
  | b
  | s
  deriving DecidableEq
def LK.fits : LK → Value → Bool
  | .i k, .int k' _ => k == k'
  | .b, .bool _ => true
  | .s, .string _ => true
  | _, _ => false
def fitAll : List LK → List Value → Bool
  | [], [] => true
  | k :: ks, v :: vs => k.fits v && fitAll ks vs
  | _, _ => false
def eq1 : Value → Value → Bool
  | .int _ a, .int _ b => a == b
  | .bool a, .bool b => a == b
  | .string a, .string b => a == b
  | _, _ => false
def eqAll : List Value → List Value → Bool
  | x :: xs, y :: ys => eq1 x y && eqAll xs ys
  | [], [] => true
  | _, _ => false
def goF (P : Program) (lv : TypeId → Option (List LK)) : List Field → Nat → Option (List LK)
  | [], _ => some []
  | f :: fs, o => match lv f.type, tyI P f.type, goF P lv fs (o + ((lv f.type).getD []).length) with
    | some ks, some (_, m), some rs => if f.name == "_" || f.offset != o || ks.length != m then none else some (ks ++ rs)
    | _, _, _ => none
def leafs (P : Program) : Nat → TypeId → Option (List LK)
  | 0, _ => none
  | d + 1, T => match P.underlying T with
    | some (.int k) => some [.i k]
    | some .bool => some [.b]
    | some .string => some [.s]
    | some (.struct fs) => if P.stoodInHeld T then none else goF P (leafs P d) fs.toList 0
    | some (.array n e) => match leafs P d e, tyI P e with
      | some ks, some (_, m) => if ks.length == m then some (List.replicate n ks).flatten else none
      | _, _ => none
    | _ => none
theorem fitAll_length : ∀ {ks : List LK} {vs : List Value}, fitAll ks vs = true → vs.length = ks.length
  | [], [], _ => rfl
  | k :: ks, v :: vs, h => by
    simp only [fitAll, Bool.and_eq_true] at h
    simp [fitAll_length h.2]
  | [], _ :: _, h => by simp [fitAll] at h
  | _ :: _, [], h => by simp [fitAll] at h
theorem fitAll_append : ∀ {ks rs : List LK} {vs : List Value}, fitAll (ks ++ rs) vs = true → fitAll ks (vs.take ks.length) = true ∧ fitAll rs (vs.drop ks.length) = true
  | [], rs, vs, h => by simpa [fitAll] using h
  | k :: ks, rs, [], h => by simp [fitAll] at h
  | k :: ks, rs, v :: vs, h => by
    simp only [List.cons_append, fitAll, Bool.and_eq_true] at h
    have := fitAll_append h.2
    simp [fitAll, h.1, this]
theorem eqAll_take : ∀ (n : Nat) {xs ys : List Value}, xs.length = ys.length → eqAll xs ys = (eqAll (xs.take n) (ys.take n) && eqAll (xs.drop n) (ys.drop n))
  | 0, xs, ys, h => by simp [eqAll]
  | n + 1, [], [], h => by simp [eqAll]
  | n + 1, x :: xs, y :: ys, h => by
    simp only [List.take_succ_cons, List.drop_succ_cons, eqAll]
    rw [eqAll_take n (by simpa using h)]
    cases eq1 x y <;> simp
def aggOf (P : Program) (T : TypeId) (vs : List Value) (v : Value) : Prop := match tyI P T with
  | some (true, _) => v = .agg ⟨vs⟩
  | some (false, _) => vs = [v]
  | none => False
theorem run_part {P : Program} {T : TypeId} {ag : Bool} {m o : Nat} (ht : tyI P T = some (ag, m)) {cs : List Value} (hl : o + m ≤ cs.length) (h1 : ag = false → m = 1) (w : World) : ∃ v, (part T ⟨cs⟩ o).run P w = .ok v w ∧ aggOf P T ((cs.drop o).take m) v := by
  cases ag with
  | true =>
    refine ⟨.agg ⟨(cs.drop o).take m⟩, ?_, by simp [aggOf, ht]⟩
    have e : (⟨cs⟩ : Array Value).extract o (o + m) = ⟨(cs.drop o).take m⟩ := by
      apply Array.ext'
      simp [List.extract_eq_take_drop]
    simp [part, bind, Sem.run_bind', run_isAgg' ht, run_sizeOf' ht, pure, Sem.run, Result.andThen]
  | false =>
    have hm := h1 rfl
    subst hm
    have hlt : o < cs.length := by omega
    refine ⟨cs[o], ?_, ?_⟩
    · simp [part, bind, Sem.run_bind', run_isAgg' ht, pure, Sem.run, Result.andThen, hlt]
    · simp only [aggOf, ht]
      rw [List.drop_eq_getElem_cons hlt, List.take_succ_cons, List.take_zero]
theorem leafs_scalar {P : Program} {d : Nat} {T : TypeId} {ks : List LK} {m : Nat} (h : leafs P d T = some ks) (ht : tyI P T = some (false, m)) : ks.length = 1 := by
  obtain ⟨D, i, h1, h2, h3, h4⟩ := tyI_spec ht
  cases d with
  | zero => simp [leafs] at h
  | succ d =>
    unfold leafs at h
    rw [h1] at h
    cases D <;> simp_all [aggD] <;> (subst h; rfl)
theorem run_equalIn {P : Program} (w : World) : ∀ (d : Nat) (T : TypeId) (ks : List LK), leafs P d T = some ks → ∀ (xs ys : List Value) (x y : Value), fitAll ks xs = true → fitAll ks ys = true → aggOf P T xs x → aggOf P T ys y → ∀ e, (Op.equalIn (d + e) T x y).run P w = .ok (eqAll xs ys) w := by
  intro d
  induction d with
  | zero => intro T ks h; simp [leafs] at h
  | succ d ih =>
    intro T ks h xs ys x y hx hy ax ay e
    rw [show d + 1 + e = (d + e) + 1 from by omega]
    unfold leafs at h
    cases hu : P.underlying T with
    | none => rw [hu] at h; cases h
    | some D =>
      rw [hu] at h
      have haggF : ∀ vs v, aggOf P T vs v → aggD D = false → vs = [v] := by
        intro vs v hv hD
        unfold aggOf at hv
        cases ht : tyI P T with
        | none => simp [ht] at hv
        | some am =>
          obtain ⟨ag, m⟩ := am
          obtain ⟨D', i, h1, h2, h3, h4⟩ := tyI_spec ht
          rw [hu] at h1
          simp only [Option.some.injEq] at h1
          subst h1
          rw [hD] at h3
          subst h3
          simpa [ht] using hv
      have haggT : ∀ vs v, aggOf P T vs v → aggD D = true → v = .agg ⟨vs⟩ := by
        intro vs v hv hD
        unfold aggOf at hv
        cases ht : tyI P T with
        | none => simp [ht] at hv
        | some am =>
          obtain ⟨ag, m⟩ := am
          obtain ⟨D', i, h1, h2, h3, h4⟩ := tyI_spec ht
          rw [hu] at h1
          simp only [Option.some.injEq] at h1
          subst h1
          rw [hD] at h3
          subst h3
          simpa [ht] using hv
      cases D with
      | int k =>
        simp only [Option.some.injEq] at h
        subst h
        obtain rfl := haggF _ _ ax rfl
        obtain rfl := haggF _ _ ay rfl
        cases x <;> simp [fitAll, LK.fits] at hx
        cases y <;> simp [fitAll, LK.fits] at hy
        subst hx; subst hy
        simp [Op.equalIn, bind, Sem.run_bind', run_underlying hu, Result.andThen, eqAll, eq1, pure, Sem.run]
      | bool =>
        simp only [Option.some.injEq] at h
        subst h
        obtain rfl := haggF _ _ ax rfl
        obtain rfl := haggF _ _ ay rfl
        cases x <;> simp [fitAll, LK.fits] at hx
        cases y <;> simp [fitAll, LK.fits] at hy
        simp [Op.equalIn, bind, Sem.run_bind', run_underlying hu, Result.andThen, eqAll, eq1, pure, Sem.run]
      | string =>
        simp only [Option.some.injEq] at h
        subst h
        obtain rfl := haggF _ _ ax rfl
        obtain rfl := haggF _ _ ay rfl
        cases x <;> simp [fitAll, LK.fits] at hx
        cases y <;> simp [fitAll, LK.fits] at hy
        simp [Op.equalIn, bind, Sem.run_bind', run_underlying hu, Result.andThen, eqAll, eq1, pure, Sem.run]
      | struct fs =>
        simp only at h
        by_cases hst : P.stoodInHeld T = true
        · simp [hst] at h
        · simp only [hst, if_false, Bool.false_eq_true] at h
          obtain rfl := haggT _ _ ax rfl
          obtain rfl := haggT _ _ ay rfl
          -- the fields, from one on
          have key : ∀ (l : List Field) (o : Nat) (rs : List LK), goF P (leafs P d) l o = some rs → ∀ (pre pre' us vs : List Value), pre.length = o → pre'.length = o → fitAll rs us = true → fitAll rs vs = true →
              (forIn (m := Sem) l ((none, ()) : Option Bool × Unit) (fun f r =>
                if f.name ≠ "_" then do
                  if !(← Op.equalIn (d + e) f.type (← part f.type ⟨pre ++ us⟩ f.offset) (← part f.type ⟨pre' ++ vs⟩ f.offset)) then pure (ForInStep.done (some false, ())) else pure (ForInStep.yield (none, ()))
                else pure (ForInStep.yield (none, ())))).run P w = .ok (if eqAll us vs then (none, ()) else (some false, ())) w := by
            intro l
            induction l with
            | nil =>
              intro o rs hrs pre pre' us vs _ _ hu1 hv1
              simp only [goF, Option.some.injEq] at hrs
              subst hrs
              have e1 : us = [] := List.eq_nil_of_length_eq_zero (by simpa using fitAll_length hu1)
              have e2 : vs = [] := List.eq_nil_of_length_eq_zero (by simpa using fitAll_length hv1)
              subst e1; subst e2
              simp [eqAll, pure, Sem.run]
            | cons f l ihl =>
              intro o rs hrs pre pre' us vs hp hp' hu1 hv1
              simp only [goF] at hrs
              cases hk : leafs P d f.type with
              | none => simp [hk] at hrs
              | some kf =>
                cases ht : tyI P f.type with
                | none => simp [hk, ht] at hrs
                | some am =>
                  obtain ⟨ag, m⟩ := am
                  cases hg : goF P (leafs P d) l (o + kf.length) with
                  | none => simp [hk, ht, hg] at hrs
                  | some rr =>
                    simp only [hk, ht, Option.getD_some, hg] at hrs
                    by_cases hc : (f.name == "_" || f.offset != o || kf.length != m) = true
                    · rw [if_pos hc] at hrs; cases hrs
                    · rw [if_neg hc] at hrs
                      simp only [Option.some.injEq] at hrs
                      subst hrs
                      simp only [Bool.or_eq_true, bne_iff_ne, beq_iff_eq, not_or, ne_eq, Decidable.not_not] at hc
                      obtain ⟨⟨hn, ho⟩, hm⟩ := hc
                      have fu := fitAll_append hu1
                      have fv := fitAll_append hv1
                      have lu := fitAll_length hu1
                      have lv := fitAll_length hv1
                      simp only [List.length_append] at lu lv
                      have h1m : ag = false → m = 1 := fun e => by subst e; rw [← hm]; exact leafs_scalar hk ht
                      obtain ⟨a1, r1, g1⟩ := run_part ht (o := f.offset) (cs := pre ++ us) (by simp; omega) h1m w
                      obtain ⟨a2, r2, g2⟩ := run_part ht (o := f.offset) (cs := pre' ++ vs) (by simp; omega) h1m w
                      rw [ho, ← hp, List.drop_left, ← hm] at g1
                      rw [ho, ← hp', List.drop_left, ← hm] at g2
                      have re := ih f.type kf hk _ _ a1 a2 fu.1 fv.1 g1 g2 e
                      have rest := ihl (o + kf.length) rr hg (pre ++ us.take kf.length) (pre' ++ vs.take kf.length) (us.drop kf.length) (vs.drop kf.length) (by simp; omega) (by simp; omega) fu.2 fv.2
                      simp only [List.append_assoc, List.take_append_drop] at rest
                      rw [List.forIn_cons, if_pos hn, Sem.run_bind, Sem.run_bind, r1]
                      simp only [Result.andThen]
                      rw [Sem.run_bind, r2]
                      simp only [Result.andThen]
                      rw [Sem.run_bind, re]
                      simp only [Result.andThen]
                      rw [eqAll_take kf.length (by omega : us.length = vs.length)]
                      cases hb : eqAll (us.take kf.length) (vs.take kf.length) with
                      | false => simp [pure, Sem.run]
                      | true =>
                        simp only [Bool.not_true, Bool.false_eq_true, if_false, pure, Sem.run, Bool.true_and]
                        exact rest
          have := key fs.toList 0 ks h [] [] xs ys rfl rfl hx hy
          simp only [List.nil_append] at this
          unfold Op.equalIn
          rw [Sem.run_bind, run_underlying hu]
          simp only [Result.andThen]
          rw [Sem.run_bind, show (program).run P w = .ok P w from rfl]
          simp only [Result.andThen, hst, Bool.false_eq_true, if_false]
          rw [← Array.forIn_toList, Sem.run_bind, this]
          simp only [Result.andThen]
          cases eqAll xs ys <;> simp [pure, Sem.run]
      | array n el =>
        simp only at h
        cases hk : leafs P d el with
        | none => simp [hk] at h
        | some kf =>
          cases ht : tyI P el with
          | none => simp [hk, ht] at h
          | some am =>
            obtain ⟨ag, m⟩ := am
            simp only [hk, ht] at h
            by_cases hm : (kf.length == m) = true
            · rw [if_pos hm] at h
              simp only [Option.some.injEq] at h
              subst h
              have hm' : kf.length = m := by simpa using hm
              obtain rfl := haggT _ _ ax rfl
              obtain rfl := haggT _ _ ay rfl
              have h1m : ag = false → m = 1 := fun e => by subst e; rw [← hm']; exact leafs_scalar hk ht
              have key : ∀ (c i : Nat), ∀ (pre pre' us vs : List Value), pre.length = i * m → pre'.length = i * m → fitAll (List.replicate c kf).flatten us = true → fitAll (List.replicate c kf).flatten vs = true →
                  (forIn (m := Sem) (List.range' i c) ((none, ()) : Option Bool × Unit) (fun j r => do
                      if !(← Op.equalIn (d + e) el (← part el ⟨pre ++ us⟩ (j * m)) (← part el ⟨pre' ++ vs⟩ (j * m))) then pure (ForInStep.done (some false, ())) else pure (ForInStep.yield (none, ())))).run P w = .ok (if eqAll us vs then (none, ()) else (some false, ())) w := by
                intro c
                induction c with
                | zero =>
                  intro i pre pre' us vs _ _ hu1 hv1
                  have e1 : us = [] := List.eq_nil_of_length_eq_zero (by simpa using fitAll_length hu1)
                  have e2 : vs = [] := List.eq_nil_of_length_eq_zero (by simpa using fitAll_length hv1)
                  subst e1; subst e2
                  simp [eqAll, pure, Sem.run]
                | succ c ihc =>
                  intro i pre pre' us vs hp hp' hu1 hv1
                  rw [List.replicate_succ, List.flatten_cons] at hu1 hv1
                  have fu := fitAll_append hu1
                  have fv := fitAll_append hv1
                  have lu := fitAll_length hu1
                  have lv := fitAll_length hv1
                  rw [List.length_append] at lu lv
                  obtain ⟨a1, r1, g1⟩ := run_part ht (o := i * m) (cs := pre ++ us) (by rw [List.length_append]; omega) h1m w
                  obtain ⟨a2, r2, g2⟩ := run_part ht (o := i * m) (cs := pre' ++ vs) (by rw [List.length_append]; omega) h1m w
                  rw [← hp, List.drop_left, ← hm'] at g1
                  rw [← hp', List.drop_left, ← hm'] at g2
                  have re := ih el kf hk _ _ a1 a2 fu.1 fv.1 g1 g2 e
                  have rest := ihc (i + 1) (pre ++ us.take kf.length) (pre' ++ vs.take kf.length) (us.drop kf.length) (vs.drop kf.length) (by rw [List.length_append, List.length_take, Nat.add_mul]; omega) (by rw [List.length_append, List.length_take, Nat.add_mul]; omega) fu.2 fv.2
                  simp only [List.append_assoc, List.take_append_drop] at rest
                  rw [List.range'_succ, List.forIn_cons, Sem.run_bind, Sem.run_bind, r1]
                  simp only [Result.andThen]
                  rw [Sem.run_bind, r2]
                  simp only [Result.andThen]
                  rw [Sem.run_bind, re]
                  simp only [Result.andThen]
                  rw [eqAll_take kf.length (by omega : us.length = vs.length)]
                  cases hb : eqAll (us.take kf.length) (vs.take kf.length) with
                  | false => simp [pure, Sem.run]
                  | true =>
                    simp only [Bool.not_true, Bool.false_eq_true, if_false, pure, Sem.run, Bool.true_and]
                    exact rest
              have := key n 0 [] [] xs ys (by simp) (by simp) hx hy
              simp only [List.nil_append] at this
              unfold Op.equalIn
              rw [Sem.run_bind, run_underlying hu]
              simp only [Result.andThen]
              rw [Sem.run_bind, run_sizeOf' ht]
              simp only [Result.andThen, Std.Legacy.Range.forIn_eq_forIn_range', Std.Legacy.Range.size, Nat.sub_zero, Nat.add_sub_cancel, Nat.div_one]
              rw [Sem.run_bind, this]
              simp only [Result.andThen]
              cases eqAll xs ys <;> simp [pure, Sem.run]
            · rw [if_neg hm] at h; cases h
      | _ => simp at h
/-! the operation -/
theorem ba_eq (s t : ByteArray) : (s == t) = true ↔ s = t := by
  constructor
  · intro h
    have : s.data == t.data := h
    cases s; cases t
    simp_all
  · intro h; subst h
    show (s.data == s.data) = true
    simp
theorem eqAll_self_iff : ∀ {ks : List LK} {xs ys : List Value}, fitAll ks xs = true → fitAll ks ys = true → (eqAll xs ys = true ↔ xs = ys)
  | [], [], [], _, _ => by simp [eqAll]
  | k :: ks, x :: xs, y :: ys, hx, hy => by
    simp only [fitAll, Bool.and_eq_true] at hx hy
    have ih := eqAll_self_iff hx.2 hy.2
    simp only [eqAll, Bool.and_eq_true, ih, List.cons.injEq]
    have : eq1 x y = true ↔ x = y := by
      have h1 := hx.1
      have h2 := hy.1
      cases k with
      | i kk =>
        cases x <;> simp only [LK.fits, Bool.false_eq_true] at h1
        cases y <;> simp only [LK.fits, Bool.false_eq_true] at h2
        have e1 := eq_of_beq h1
        have e2 := eq_of_beq h2
        subst e1; subst e2
        simp [eq1]
      | b =>
        cases x <;> simp only [LK.fits, Bool.false_eq_true] at h1
        cases y <;> simp only [LK.fits, Bool.false_eq_true] at h2
        simp [eq1]
      | s =>
        cases x <;> simp only [LK.fits, Bool.false_eq_true] at h1
        cases y <;> simp only [LK.fits, Bool.false_eq_true] at h2
        simp only [eq1, ba_eq, Value.string.injEq]
    rw [this]
  | [], [], _ :: _, _, h => by simp [fitAll] at h
  | [], _ :: _, _, h, _ => by simp [fitAll] at h
  | _ :: _, [], _, h, _ => by simp [fitAll] at h
  | _ :: _, _ :: _, [], _, h => by simp [fitAll] at h
structure EqT (P : Program) (T : TypeId) (ks : List LK) : Prop where
  lf : leafs P 100 T = some ks
  ag : (tyI P T).map (·.1) = some true
  gd : P.eqGuardType P.depth T = false
section
variable {P : Program} {C : World → Prop} {L : List (Nat × Value)} {d : Option Tmp} {ty : TypeId} {pos : String} {aft : Array Edge} {g : Option (Nat × Bool)}
theorem run_equal {T : TypeId} {ks : List LK} (h : EqT P T ks) {xs ys : List Value} (hx : fitAll ks xs = true) (hy : fitAll ks ys = true) (w : World) : (Op.equal T (.agg ⟨xs⟩) (.agg ⟨ys⟩)).run P w = .ok (eqAll xs ys) w := by
  have hag : ∀ vs, aggOf P T vs (.agg ⟨vs⟩) := by
    intro vs
    have := h.ag
    unfold aggOf
    cases ht : tyI P T with
    | none => simp [ht] at this
    | some am =>
      obtain ⟨a, m⟩ := am
      simp only [ht, Option.map_some, Option.some.injEq] at this
      subst this
      rfl
  exact run_equalIn w 100 T ks h.lf xs ys _ _ hx hy (hag xs) (hag ys) 9900
theorem run_guard {T : TypeId} {ks : List LK} (h : EqT P T ks) (op : BinOp) (x y : Operand) (xs ys : List Value) (w : World) : (eqGuard op T x y (.agg ⟨xs⟩) (.agg ⟨ys⟩)).run P w = .ok () w := by
  unfold eqGuard
  have := h.gd
  cases op <;> simp [program, bind, Sem.bind, Sem.run, pure, this]
theorem ok_eqv {T T' : TypeId} {ks : List LK} {x y : Operand} {xs ys : List Value} {b : Bool} (hx : ev L x = some (.agg ⟨xs⟩)) (hy : ev L y = some (.agg ⟨ys⟩)) (h : EqT P T ks) (h1 : fitAll ks xs = true) (h2 : fitAll ks ys = true) (hb : b = true ↔ xs = ys) :
    Ok P C L ⟨d, .binOp .eql T x y T', ty, pos, aft, g⟩ (.bool b) := fun ρ ha w _ => by
  have e : eqAll xs ys = b := by
    rw [Bool.eq_iff_iff, eqAll_self_iff h1 h2, hb]
  have r1 := run_guard h .eql x y xs ys w
  have r2 := run_equal h h1 h2 w
  simp [execOp, ha x _ hx, ha y _ hy, bind, Sem.run_bind', r1, binOp, r2, e, pure, Sem.run, Result.andThen]
theorem ok_nev {T T' : TypeId} {ks : List LK} {x y : Operand} {xs ys : List Value} {b : Bool} (hx : ev L x = some (.agg ⟨xs⟩)) (hy : ev L y = some (.agg ⟨ys⟩)) (h : EqT P T ks) (h1 : fitAll ks xs = true) (h2 : fitAll ks ys = true) (hb : b = true ↔ xs = ys) :
    Ok P C L ⟨d, .binOp .neq T x y T', ty, pos, aft, g⟩ (.bool (!b)) := fun ρ ha w _ => by
  have e : eqAll xs ys = b := by
    rw [Bool.eq_iff_iff, eqAll_self_iff h1 h2, hb]
  have r1 := run_guard h .neq x y xs ys w
  have r2 := run_equal h h1 h2 w
  simp [execOp, ha x _ hx, ha y _ hy, bind, Sem.run_bind', r1, binOp, r2, e, pure, Sem.run, Result.andThen]
theorem run_equalB {T : TypeId} (h : P.underlying T = some .bool) (a b : Bool) (w : World) : (Op.equal T (.bool a) (.bool b)).run P w = .ok (a == b) w := by
  show (Op.equalIn (9999 + 1) T (.bool a) (.bool b)).run P w = _
  unfold Op.equalIn
  rw [Sem.run_bind, run_underlying h]
  rfl
theorem ok_eqB {T T' : TypeId} {x y : Operand} {a b : Bool} (hx : ev L x = some (.bool a)) (hy : ev L y = some (.bool b)) (h : P.underlying T = some .bool) : Ok P C L ⟨d, .binOp .eql T x y T', ty, pos, aft, g⟩ (.bool (a == b)) := fun ρ ha w _ => by
  have r2 := run_equalB h a b w
  simp [execOp, ha x _ hx, ha y _ hy, bind, Sem.run_bind', eqGuard, binOp, r2, pure, Sem.run, Result.andThen]
theorem ok_neB {T T' : TypeId} {x y : Operand} {a b : Bool} (hx : ev L x = some (.bool a)) (hy : ev L y = some (.bool b)) (h : P.underlying T = some .bool) : Ok P C L ⟨d, .binOp .neq T x y T', ty, pos, aft, g⟩ (.bool (a != b)) := fun ρ ha w _ => by
  have r2 := run_equalB h a b w
  simp [execOp, ha x _ hx, ha y _ hy, bind, Sem.run_bind', eqGuard, binOp, r2, pure, Sem.run, Result.andThen, bne]
end
end Go.Proofs.YtdallmabajeajaaGreatDoor.Fw
set_option linter.unusedVariables false
set_option linter.all false
namespace Go.Proofs.YtdallmabajeajaaGreatDoor.Fw
open Go
/-! ### 20. The header turned -/
def upH (x : SH) (n : Nat) : SH := ⟨x.a, n, x.c⟩
theorem upH_c (x : SH) (n : Nat) : (upH x n).c = x.c := rfl
theorem Sv.un {k : Nat} {E : TypeId} {x : SH} {ds : List (List Value)} {h : Hh} (s : Sv k E x.v ds h) : ((∀ d ∈ ds, d.length = k) ∧ ds.length ≤ 140737488355328) ∧ x.n = ds.length ∧
    ((x = nilH ∧ ds = [] ∧ h = hnil) ∨ ∃ b off cs, x.a = some ⟨b, off, none⟩ ∧ ds.length ≤ x.c ∧ off + x.c * k ≤ cs.length ∧ (cs.drop off).take (ds.length * k) = ds.flatten ∧ h = hone b (.cells ⟨cs⟩ E (0, 0))) := by
  obtain ⟨h1, ⟨e, rfl, rfl⟩ | ⟨b, off, cap, cs, e, h3, h4, h5, h6⟩⟩ := s
  · obtain ⟨xa, xn, xc⟩ := x
    simp only [SH.v, Value.slice.injEq] at e
    obtain ⟨rfl, rfl, rfl⟩ := e
    exact ⟨h1, rfl, .inl ⟨rfl, rfl, rfl⟩⟩
  · obtain ⟨xa, xn, xc⟩ := x
    simp only [SH.v, Value.slice.injEq] at e
    obtain ⟨rfl, rfl, rfl⟩ := e
    exact ⟨h1, rfl, .inr ⟨b, off, cs, rfl, h3, h4, h5, h6⟩⟩
theorem Sv.mk' {k : Nat} {E : TypeId} {x : SH} {ds : List (List Value)} {h : Hh} {b off : Nat} {cs : List Value} (h1 : (∀ d ∈ ds, d.length = k) ∧ ds.length ≤ 140737488355328) (hn : x.n = ds.length) (ha : x.a = some ⟨b, off, none⟩) (h2 : ds.length ≤ x.c) (h3 : off + x.c * k ≤ cs.length)
    (h4 : (cs.drop off).take (ds.length * k) = ds.flatten) (h5 : h = hone b (.cells ⟨cs⟩ E (0, 0))) : Sv k E x.v ds h :=
  ⟨h1, .inr ⟨b, off, x.c, cs, by simp [SH.v, ha, hn], h2, h3, h4, h5⟩⟩
theorem flat_take {k : Nat} {ds : List (List Value)} (hk : ∀ d ∈ ds, d.length = k) {i : Nat} (hi : i ≤ ds.length) : (ds.take i).flatten = ds.flatten.take (i * k) := by
  conv => rhs; rw [← List.take_append_drop i ds, List.flatten_append]
  have l1 : (ds.take i).flatten.length = i * k := by
    rw [flat_len (fun d hd => hk d (List.mem_of_mem_take hd))]; congr 1; simp; omega
  rw [← l1, List.take_left]
theorem flat_drop {k : Nat} {ds : List (List Value)} (hk : ∀ d ∈ ds, d.length = k) {i : Nat} (hi : i ≤ ds.length) : (ds.drop i).flatten = ds.flatten.drop (i * k) := by
  conv => rhs; rw [← List.take_append_drop i ds, List.flatten_append]
  have l1 : (ds.take i).flatten.length = i * k := by
    rw [flat_len (fun d hd => hk d (List.mem_of_mem_take hd))]; congr 1; simp; omega
  rw [← l1, List.drop_left]
section
variable {P : Program} {w0 w : World} {R : Hh} {Ps Qs : List HP} {k : Nat} {E : TypeId} {x : SH} {ds es : List (List Value)}
theorem Hp.shrink (m : Hp w0 R Ps w) {hi : Nat} (hP : Swp Ps (Sv k E x.v ds) (Sv k E (upH x hi).v (ds.take hi)) Qs) (hh' : hi ≤ ds.length) : Hp w0 R Qs w := m.swp hP fun h s => by
  obtain ⟨h1, hn, ⟨rfl, rfl, rfl⟩ | ⟨b, off, cs, ha, h2, h3, h4, h5⟩⟩ := s.un
  · simp only [List.length_nil, Nat.le_zero] at hh'
    subst hh'
    exact ⟨by simpa using h1, .inl ⟨rfl, rfl, rfl⟩⟩
  · refine Sv.mk' (off := off) (cs := cs) (b := b) ⟨fun d hd => h1.1 d (List.mem_of_mem_take hd), by simp; omega⟩ (by simp [upH]; omega) ha (by simp [upH]; omega) h3 ?_ h5
    rw [flat_take h1.1 hh', ← h4, List.take_take]
    congr 1
    rw [List.length_take, Nat.min_eq_left hh', Nat.min_eq_left (Nat.mul_le_mul_right k hh')]
theorem Hp.putOwn (m : Hp w0 R (Sv k E x.v ds :: Ps) w) {ad : Addr} (ha : x.a = some ad) {lo : Nat} (hes : ∀ e ∈ es, e.length = k) (ho : ∀ e ∈ es, ones e = true) (hlo : lo ≤ ds.length) (hhi : lo + es.length ≤ x.c) (hb : lo + es.length ≤ 140737488355328) :
    ∃ w', (storeCells (ad.add (lo * k)) es.flatten).run P w = .ok () w' ∧ Hp w0 R (Sv k E (upH x (max ds.length (lo + es.length))).v (ds.take lo ++ es ++ ds.drop (lo + es.length)) :: Ps) w' := by
  obtain ⟨g, hg, gl, m1⟩ := m.exact
  obtain ⟨h1, hn, ⟨rfl, _, _⟩ | ⟨b, off, cs, ha', h2, h3, h4, rfl⟩⟩ := hg.un
  · cases ha
  rw [ha] at ha'
  simp only [Option.some.injEq] at ha'
  subst ha'
  have hbk : w.heap[b]? = some (.cells ⟨cs⟩ E (0, 0)) := gl _ _ (by simp [hone])
  have hesl : es.flatten.length = es.length * k := flat_len hes
  have hdsl : ds.flatten.length = ds.length * k := flat_len h1.1
  have hones : ones es.flatten = true := by
    simp only [ones, List.all_eq_true, List.mem_flatten]
    rintro x ⟨e, he, hx⟩
    have := ho e he
    simp only [ones, List.all_eq_true] at this
    exact this x hx
  have hmul := Nat.mul_le_mul_right k hhi
  rw [Nat.add_mul] at hmul
  have hfit : off + lo * k + es.flatten.length ≤ cs.length := by rw [hesl]; omega
  obtain ⟨w', k1, k2, k3, k4, k5⟩ := run_storeCells (P := P) es.flatten w b (off + lo * k) 0 cs E hbk (by omega) hones
  refine ⟨w', by rw [add_flat]; exact k1, ?_⟩
  have m3 := m1.block k2 k3 k4 k5
  have hlen : (ds.take lo ++ es ++ ds.drop (lo + es.length)).length = max ds.length (lo + es.length) := by
    simp; omega
  have hall : ∀ d ∈ ds.take lo ++ es ++ ds.drop (lo + es.length), d.length = k := by
    intro d hd
    simp only [List.mem_append] at hd
    rcases hd with (hd | hd) | hd
    · exact h1.1 d (List.mem_of_mem_take hd)
    · exact hes d hd
    · exact h1.1 d (List.mem_of_mem_drop hd)
  refine m3.swp s0 fun h hs => Sv.mk' (off := off) (cs := putAt cs (off + lo * k) es.flatten) (b := b) ⟨hall, by rw [hlen]; have := h1.2; omega⟩ (by rw [hlen]; rfl) ha (by rw [hlen]; simp only [upH_c]; omega) (by rw [putAt_length]; exact h3) ?_ (by simpa using hs)
  rw [putAt_eq _ _ _ hfit, hlen]
  have e1 : (cs.take (off + lo * k)).drop off = (ds.take lo).flatten := by
    rw [List.drop_take, flat_take h1.1 hlo, ← h4, List.take_take, Nat.min_eq_left (Nat.mul_le_mul_right k hlo)]
    congr 1; omega
  have e0 : off ≤ (cs.take (off + lo * k)).length := by simp; omega
  rw [List.append_assoc, List.drop_append_of_le_length e0, e1, List.flatten_append, List.flatten_append, ← List.append_assoc]
  have l1 : ((ds.take lo).flatten ++ es.flatten).length = (lo + es.length) * k := by
    rw [List.length_append, flat_len (fun d hd => h1.1 d (List.mem_of_mem_take hd)), hesl, Nat.add_mul, List.length_take, Nat.min_eq_left hlo]
  have hN : (lo + es.length) * k ≤ max ds.length (lo + es.length) * k := Nat.mul_le_mul_right k (by omega)
  rw [List.take_append, l1, List.take_of_length_le (by rw [l1]; exact hN)]
  congr 1
  rw [hesl, ← Nat.sub_mul]
  by_cases hc : lo + es.length ≤ ds.length
  · rw [flat_drop h1.1 hc, ← h4, List.drop_take, List.drop_drop, Nat.max_eq_left hc, Nat.sub_mul]
    congr 2
    rw [Nat.add_mul]; omega
  · rw [Nat.max_eq_right (by omega), List.drop_eq_nil_of_le («as» := ds) (i := lo + es.length) (by omega), Nat.sub_self]
    simp
end
/-! ### 21. Copies, clears, appends that fit -/
theorem run_firstCellsN {P : Program} {w : World} {k n : Nat} {v : Value} {es : List (List Value)} (r : ∃ a lu c, v = .slice a lu c ∧ RdS (hh w) k (.slice a es.length c) es) (hn : n = es.length) : (Builtin.firstCells k n v).run P w = .ok ⟨es.flatten⟩ w := by
  obtain ⟨a, lu, c, rfl, r⟩ := r
  subst hn
  have := run_firstCells (P := P) r
  cases a <;> simpa [Builtin.firstCells] using this
section
variable {P : Program} {ops : Array Oper} {Q : Exit → Act → World → Prop} {rest : List Oper} {n : Nat} {L : List (Nat × Value)} {a : Act} {w w0 : World} {R : Hh} {Ps Qs : List HP}
  {d : Nat} {ty : TypeId} {pos : String} {aft : Array Edge} {k : Nat} {E : TypeId} {x : SH} {ds es : List (List Value)}
theorem Hp.copyInto (m : Hp w0 R (Sv k E x.v ds :: Ps) w) {T T2 : TypeId} {ag : Bool} {v u : Value} {lo dl : Nat} (hT : slI P T = some E) (hE : tyI P E = some (ag, k)) (hv : v = .slice (x.a.map (·.add (lo * k))) dl (x.c - lo))
    (hu : ∃ a lu c, u = .slice a lu c ∧ es.length = min lu dl ∧ RdS (hh w) k (.slice a es.length c) es) (ho : ∀ e ∈ es, ones e = true) (hlo : lo ≤ ds.length) (hhi : lo + es.length ≤ x.c) (hb : lo + es.length ≤ 140737488355328) :
    ∃ w', (Builtin.copy_ #[T, T2] ty #[v, u]).run P w = .ok (.int .i64 es.length) w' ∧ Hp w0 R (Sv k E (upH x (max ds.length (lo + es.length))).v (ds.take lo ++ es ++ ds.drop (lo + es.length)) :: Ps) w' := by
  obtain ⟨ua, lu, uc, rfl, hl, hr⟩ := hu
  subst hv
  have hfc := run_firstCellsN (P := P) (w := w) (k := k) (n := min lu dl) (v := .slice ua lu uc) ⟨ua, lu, uc, rfl, hr⟩ hl.symm
  have hlen : (Builtin.lenOf (.slice ua lu uc)).run P w = .ok lu w := by simp [Builtin.lenOf, pure, Sem.run]
  cases hxa : x.a with
  | none =>
    obtain ⟨g, hg, gl, m1⟩ := m.exact
    obtain ⟨h1, hn, ⟨rfl, rfl, rfl⟩ | ⟨b, off, cs, ha', h2, h3, h4, rfl⟩⟩ := hg.un
    · simp only [List.length_nil, Nat.le_zero] at hlo
      subst hlo
      have he : es = [] := List.eq_nil_of_length_eq_zero (by have : nilH.c = 0 := rfl; omega)
      subst he
      have hz : min lu dl = 0 := by simpa using hl.symm
      have hz' : Nat.min lu dl = 0 := hz
      refine ⟨w, ?_, by simpa [upH, nilH] using m⟩
      rw [hz] at hfc
      simp [Builtin.copy_, bind, Sem.run_bind', run_underlying (slI_spec hT), Result.andThen, pure, Sem.run, hlen, run_sizeOf' hE, hfc, hz', goInt]
    · rw [hxa] at ha'; cases ha'
  | some ad =>
    obtain ⟨w', k1, k2⟩ := m.putOwn (P := P) hxa (fun e he => hr.1 e he) ho hlo hhi hb
    refine ⟨w', ?_, k2⟩
    have hl' : Nat.min lu dl = es.length := hl.symm
    rw [← hl] at hfc
    simp [Builtin.copy_, bind, Sem.run_bind', run_underlying (slI_spec hT), Result.andThen, pure, Sem.run, hlen, run_sizeOf' hE, hl', hfc, goInt, k1]
theorem r_copy {T T2 : TypeId} {ag : Bool} {o1 o2 : Operand} {v u : Value} {lo dl : Nat} (hs : St n L a) (m : Hp w0 R Ps w) (hx : ev L o1 = some v) (hy : ev L o2 = some u) (hT : slI P T = some E) (hE : tyI P E = some (ag, k)) (hP : Rem Ps (Sv k E x.v ds) Qs)
    (hv : v = .slice (x.a.map (·.add (lo * k))) dl (x.c - lo)) (hu : ∃ a lu c, u = .slice a lu c ∧ es.length = min lu dl ∧ RdS (hh w) k (.slice a es.length c) es) (ho : ∀ e ∈ es, ones e = true) (hlo : lo ≤ ds.length) (hhi : lo + es.length ≤ x.c) (hb : lo + es.length ≤ 140737488355328) (hd : Nat.blt d n = true)
    (kk : ∀ w', Hp w0 R (Sv k E (upH x (max ds.length (lo + es.length))).v (ds.take lo ++ es ++ ds.drop (lo + es.length)) :: Qs) w' → ∀ a', St n ((d, .int .i64 es.length) :: L) a' → wpList P ops Q rest a' w') :
    wpList P ops Q (⟨some d, .call ⟨.builtin .copy, #[o1, o2], #[T, T2]⟩, ty, pos, aft, none⟩ :: rest) a w := by
  obtain ⟨w', h1, h2⟩ := (m.front hP).copyInto (P := P) (T := T) (T2 := T2) (ty := ty) hT hE hv hu ho hlo hhi hb
  refine step_val rfl rfl hs hd (v := .int .i64 es.length) (w' := w') ?_ (kk w' h2)
  simp [execOp, resolve, invoke, builtin, hs.evs o1 _ hx, hs.evs o2 _ hy, bind, Sem.run_bind', h1, pure, Sem.run, Result.andThen]
theorem r_appendFit {T T2 : TypeId} {ag : Bool} {o1 o2 : Operand} {u : Value} (hs : St n L a) (m : Hp w0 R Ps w) (hx : ev L o1 = some x.v) (hy : ev L o2 = some u) (hT : slI P T = some E) (hT2 : notInt P T2 = true) (hE : tyI P E = some (ag, k)) (hP : Rem Ps (Sv k E x.v ds) Qs)
    (hu : RdS (hh w) k u es) (ho : ∀ e ∈ es, ones e = true) (hlen : ds.length + es.length ≤ x.c) (hb : ds.length + es.length ≤ 140737488355328) (hd : Nat.blt d n = true)
    (kk : ∀ w', Hp w0 R (Sv k E (upH x (ds.length + es.length)).v (ds ++ es) :: Qs) w' → ∀ a', St n ((d, (upH x (ds.length + es.length)).v) :: L) a' → wpList P ops Q rest a' w') :
    wpList P ops Q (⟨some d, .call ⟨.builtin .append, #[o1, o2], #[T, T2]⟩, ty, pos, aft, none⟩ :: rest) a w := by
  obtain ⟨D2, hD2, hD2n⟩ := notInt_spec hT2
  have hlu : (Builtin.lenOf u).run P w = .ok es.length w := by
    obtain ⟨_, _, a, cap, rfl, _⟩ := hu
    simp [Builtin.lenOf, pure, Sem.run]
  have m1 := m.front hP
  have hn : x.n = ds.length := by
    obtain ⟨g, hg, gl⟩ := m1.look r0
    exact hg.un.2.1
  have hrun := run_append_fit (P := P) (w := w) (T := T) (T2 := T2) (ty := ty) (n := x.n) (cap := x.c) (base := x.a) (slI_spec hT) hD2 hD2n hE hlu (run_firstCells hu) (by omega)
  cases hxa : x.a with
  | none =>
    rw [hxa] at hrun
    obtain ⟨g, hg, gl, m2⟩ := m1.exact
    obtain ⟨h1, _, ⟨rfl, rfl, rfl⟩ | ⟨b, off, cs, ha', _, _, _, rfl⟩⟩ := hg.un
    · have he : es = [] := List.eq_nil_of_length_eq_zero (by have : nilH.c = 0 := rfl; simp only [List.length_nil] at hlen; omega)
      subst he
      refine step_val rfl rfl hs hd (w' := w) ?_ (kk w (by simpa [upH, nilH] using m1))
      simp [execOp, resolve, invoke, builtin, hs.evs o1 _ hx, hs.evs o2 _ hy, bind, Sem.run_bind', pure, Sem.run, Result.andThen, SH.v, nilH, upH] at hrun ⊢
      simp [hrun]
    · rw [hxa] at ha'; cases ha'
  | some ad =>
    rw [hxa] at hrun
    obtain ⟨w', k1, k2⟩ := m1.putOwn (P := P) hxa (fun e he => hu.1 e he) ho (Nat.le_refl _) hlen hb
    have e1 : max ds.length (ds.length + es.length) = ds.length + es.length := by omega
    rw [e1, List.take_of_length_le (Nat.le_refl _), List.drop_eq_nil_of_le (by omega), List.append_nil] at k2
    refine step_val rfl rfl hs hd (w' := w') ?_ (kk w' k2)
    rw [← hn] at k1
    simp only [Sem.run_bind', k1, Result.andThen, Sem.run] at hrun
    simp [execOp, resolve, invoke, builtin, hs.evs o1 _ hx, hs.evs o2 _ hy, bind, Sem.run_bind', pure, Sem.run, Result.andThen, SH.v, hxa, upH, hn] at hrun ⊢
    simp [hrun]
theorem step_val0 {o : Oper} {v : Value} {w' : World} (hg : o.guard = none) (hdst : o.dst = none) (hs : St n L a) (hr : (execOp a.eval o).run P w = .ok (.value v) w')
    (k : wpList P ops Q rest a w') : wpList P ops Q (o :: rest) a w := by
  refine wpList_plain hg fun K hK => ?_
  unfold Oper.wp
  rw [hr]
  simp only [Oper.upon, hdst]
  exact hK _ _ k
end
end Go.Proofs.YtdallmabajeajaaGreatDoor.Fw
set_option linter.unusedVariables false
set_option linter.all false
namespace Go.Proofs.YtdallmabajeajaaGreatDoor.Fw
open Go
/-! ### 22. Windows -/
def subH3 (k : Nat) (x : SH) (lo hi mx : Nat) : SH := ⟨if mx = lo then x.a else x.a.map (·.add (lo * k)), hi - lo, mx - lo⟩
theorem subH_eq3 (k : Nat) (x : SH) (lo hi : Nat) : subH k x lo hi = subH3 k x lo hi x.c := rfl
theorem add_zero' (a : Addr) : a.add 0 = a := rfl
theorem subH_0 (k : Nat) (x : SH) (hi : Nat) : subH k x 0 hi = upH x hi := by
  obtain ⟨a, n, c⟩ := x
  cases a <;> simp [subH, upH, add_zero']
theorem subH_lt {k : Nat} {x : SH} {lo hi : Nat} (h : lo < x.c) : (subH k x lo hi).v = .slice (x.a.map (·.add (lo * k))) (hi - lo) (x.c - lo) := by
  simp [subH, SH.v, show ¬ x.c = lo by omega]
theorem slice_bound {P : Program} (K : IntKind) (r y : Nat) (code : BoundsCode) (u : World) (h : r ≤ y) : (Instr.sliceBound (.int K (r : Int)) y code).run P u = .ok r u := by
  have : ((0 : Int) ≤ (r : Int) ∧ (r : Int) ≤ (y : Int)) := by omega
  simp [Instr.sliceBound, asIntOf, bind, Sem.run_bind', pure, Sem.run, Result.andThen, h]
section
variable {P : Program} {C : World → Prop} {L : List (Nat × Value)} {d : Option Tmp} {ty : TypeId} {pos : String} {aft : Array Edge} {g : Option (Nat × Bool)}
theorem ok_sliceH {T E : TypeId} {ag : Bool} {k : Nat} {o : Operand} {lo hi mx : Option Operand} {x : SH} {i j c : Nat} (hx : ev L o = some x.v) (hT : slI P T = some E) (hE : tyI P E = some (ag, k))
    (hlo : bnd L lo 0 i) (hhi : bnd L hi x.n j) (hmx : bnd L mx x.c c) (hm : hi = none → mx = none) (h1 : i ≤ j) (h2 : j ≤ c) (h3 : c ≤ x.c) : Ok P C L ⟨d, .slice T o lo hi mx, ty, pos, aft, g⟩ (subH3 k x i j c).v := fun ρ ha w' hw' => by
  have hT' := slI_spec hT
  have hfin : ∀ u : World, (Instr.sliceBounds true x.n x.c (lo.map ρ) (hi.map ρ) (mx.map ρ)).run P u = .ok (i, j, c) u := by
    intro u
    cases mx with
    | none =>
      simp only [bnd] at hmx
      subst hmx
      cases hi with
      | none =>
        simp only [bnd] at hhi
        subst hhi
        cases lo with
        | none =>
          simp only [bnd] at hlo
          subst hlo
          simp [Instr.sliceBounds, bind, Sem.run_bind', pure, Sem.run, Result.andThen]
        | some o1 =>
          obtain ⟨K, hK⟩ := hlo
          simp [Instr.sliceBounds, bind, Sem.run_bind', pure, Sem.run, Result.andThen, ha o1 _ hK, slice_bound K i x.n _ u h1]
      | some o2 =>
        obtain ⟨K', hK'⟩ := hhi
        cases lo with
        | none =>
          simp only [bnd] at hlo
          subst hlo
          simp [Instr.sliceBounds, bind, Sem.run_bind', pure, Sem.run, Result.andThen, ha o2 _ hK', slice_bound K' j x.c _ u h2]
        | some o1 =>
          obtain ⟨K, hK⟩ := hlo
          simp [Instr.sliceBounds, bind, Sem.run_bind', pure, Sem.run, Result.andThen, ha o1 _ hK, slice_bound K i j _ u h1, ha o2 _ hK', slice_bound K' j x.c _ u h2]
    | some o3 =>
      obtain ⟨K3, hK3⟩ := hmx
      cases hi with
      | none => cases hm rfl
      | some o2 =>
        obtain ⟨K', hK'⟩ := hhi
        cases lo with
        | none =>
          simp only [bnd] at hlo
          subst hlo
          simp [Instr.sliceBounds, bind, Sem.run_bind', pure, Sem.run, Result.andThen, ha o2 _ hK', slice_bound K' j c _ u h2, ha o3 _ hK3, slice_bound K3 c x.c _ u h3]
        | some o1 =>
          obtain ⟨K, hK⟩ := hlo
          simp [Instr.sliceBounds, bind, Sem.run_bind', pure, Sem.run, Result.andThen, ha o1 _ hK, slice_bound K i j _ u h1, ha o2 _ hK', slice_bound K' j c _ u h2, ha o3 _ hK3, slice_bound K3 c x.c _ u h3]
  have hsl : (Instr.sliceAt T x.v (lo.map ρ) (hi.map ρ) (mx.map ρ)).run P w' = .ok (subH3 k x i j c).v w' := by
    simp only [SH.v, Instr.sliceAt, Instr.slice, bind, Sem.run_bind', run_underlying hT', Result.andThen, hfin, run_sizeOf' hE, pure, Sem.run, subH3]
  simp only [execOp, ha o _ hx, bind, Sem.run_bind', Result.andThen, pure, Sem.run, hsl]
theorem ok_lenH {T E : TypeId} {o : Operand} {x : SH} (hx : ev L o = some x.v) (hT : slI P T = some E) : Ok P C L ⟨d, .call ⟨.builtin .len, #[o], #[T]⟩, ty, pos, aft, g⟩ (.int .i64 (x.n : Int)) := fun ρ ha w' hw' => by
  simp [execOp, resolve, invoke, builtin, Builtin.len_, ha o _ hx, bind, Sem.run_bind', run_underlying (slI_spec hT), pure, Sem.run, Result.andThen, goInt, SH.v]
end
theorem Hp.ncap {w0 w : World} {R : Hh} {Ps Qs : List HP} {k : Nat} {E : TypeId} {x : SH} {ds : List (List Value)} (m : Hp w0 R Ps w) (h : Rem Ps (Sv k E x.v ds) Qs) : x.n = ds.length ∧ x.n ≤ x.c := by
  obtain ⟨g, hg, gl⟩ := m.look h
  obtain ⟨_, hn, ⟨rfl, _, _⟩ | ⟨_, _, _, _, h2, _⟩⟩ := hg.un
  · exact ⟨hn, Nat.le_refl _⟩
  · exact ⟨hn, by omega⟩
theorem RdS.ncap {h : Hh} {k : Nat} {x : SH} {ds : List (List Value)} (r : RdS h k x.v ds) : x.n = ds.length ∧ x.n ≤ x.c := by
  obtain ⟨_, _, a, c, e, h2, _⟩ := r
  simp only [SH.v, Value.slice.injEq] at e
  exact ⟨e.2.1, by rw [e.2.1, e.2.2]; exact h2⟩
/-! ### 23. Entries of the model's for Go's library -/
def entry (P : Program) (f : FuncId) (e : Array Value → Sem Value) : Prop := ∃ fn, P.funcs[f]? = some fn ∧ (fn.name == "runtime.NumGoroutine") = false ∧ fn.body.isNone = true ∧ Extern.findNext fn = none ∧ Extern.find fn = some e
section
variable {P : Program} {C : World → Prop} {L : List (Nat × Value)} {d : Option Tmp} {ty : TypeId} {pos : String} {aft : Array Edge} {g : Option (Nat × Bool)}
end
end Go.Proofs.YtdallmabajeajaaGreatDoor.Fw
set_option linter.unusedVariables false
set_option linter.all false
namespace Go.Proofs.YtdallmabajeajaaGreatDoor.Fw
open Go
section
variable {P : Program} {ops : Array Oper} {Q : Exit → Act → World → Prop} {rest : List Oper} {n : Nat} {L : List (Nat × Value)} {a : Act} {w w0 : World} {R : Hh} {Ps Qs : List HP}
  {d : Nat} {ty : TypeId} {pos : String} {aft : Array Edge} {k : Nat} {E : TypeId} {x : SH} {ds es : List (List Value)}
end
/-! ### 24. Stores into elements of a slice of the walk's own -/
theorem flat_set {k : Nat} : ∀ {ds : List (List Value)} {i : Nat} {d d' : List Value}, (∀ d ∈ ds, d.length = k) → ds[i]? = some d → d'.length = k → (ds.set i d').flatten = ds.flatten.take (i * k) ++ d' ++ ds.flatten.drop ((i + 1) * k)
  | [], i, d, d', _, h, _ => by simp at h
  | e :: ds, 0, d, d', hk, h, hl => by
    have := hk e (by simp)
    simp [← this]
  | e :: ds, i + 1, d, d', hk, h, hl => by
    simp only [List.getElem?_cons_succ] at h
    have he := hk e (by simp)
    have ih := flat_set (k := k) (fun d hd => hk d (by simp [hd])) h hl
    have e1 : (i + 1) * k = e.length + i * k := by rw [he, Nat.add_mul]; omega
    have e2 : (i + 1 + 1) * k = e.length + (i + 1) * k := by rw [he, Nat.add_mul]; omega
    have k1 : (e ++ ds.flatten).take ((i + 1) * k) = e ++ ds.flatten.take (i * k) := by rw [e1, List.take_length_add_append]
    have k2 : (e ++ ds.flatten).drop ((i + 1 + 1) * k) = ds.flatten.drop ((i + 1) * k) := by rw [e2, List.drop_length_add_append]
    rw [List.set_cons_succ, List.flatten_cons, ih, List.flatten_cons, k1, k2]
    simp only [List.append_assoc]
section
variable {P : Program} {ops : Array Oper} {Q : Exit → Act → World → Prop} {rest : List Oper} {n : Nat} {L : List (Nat × Value)} {a : Act} {w w0 : World} {R : Hh} {Ps Qs : List HP}
  {d : Nat} {ty : TypeId} {pos : String} {aft : Array Edge} {k : Nat} {E : TypeId}
theorem Hp.setEl {x : SH} {ds : List (List Value)} (m : Hp w0 R (Sv k E x.v ds :: Ps) w) {i : Nat} {p : Addr} {o sz : Nat} {T : TypeId} {ag : Bool} {e e' vs : List Value} {v : Value} (hp : Elem k x.v i p) (he : ds[i]? = some e) (ht : tyI P T = some (ag, sz)) (hv : v.cells = ⟨vs⟩) (hn : vs.length = sz) (hl : o + sz ≤ k) (ho : ones vs = true) (hc : putAt e o vs = e') :
    ∃ w', (storeVar T (padd p o) v).run P w = .ok () w' ∧ Hp w0 R (Sv k E x.v (ds.set i e') :: Ps) w' := by
  obtain ⟨g, hg, gl, m1⟩ := m.exact
  obtain ⟨h1, hxn, ⟨rfl, rfl, _⟩ | ⟨b, off, cs, ha, h2, h3, h4, rfl⟩⟩ := hg.un
  · simp at he
  obtain ⟨a', n', c', e1, rfl⟩ := hp
  simp only [SH.v, Value.slice.injEq] at e1
  rw [ha] at e1
  simp only [Option.some.injEq] at e1
  obtain ⟨rfl, _, _⟩ := e1
  have hlt : i < ds.length := (List.getElem?_eq_some_iff.1 he).1
  have hel : e.length = k := h1.1 e (List.mem_of_getElem? he)
  have hbk : w.heap[b]? = some (.cells ⟨cs⟩ E (0, 0)) := gl _ _ (by simp [hone])
  have hmul : (i + 1) * k ≤ x.c * k := Nat.mul_le_mul_right k (by omega)
  rw [Nat.add_mul] at hmul
  have hpo : padd (padd ⟨b, off, none⟩ (i * k)) o = ⟨b, off + i * k + o, none⟩ := by simp [padd]
  obtain ⟨w', k1, k2, k3, k4, k5⟩ := run_storeVar (P := P) (w := w) ht (b := b) (off := off + i * k + o) (cs := cs) hbk hv hn (by omega) ho
  refine ⟨w', by rw [hpo]; exact k1, ?_⟩
  have m3 := m1.block k2 k3 k4 k5
  have hel' : e'.length = k := by rw [← hc, putAt_length, hel]
  refine m3.swp s0 fun h hs => Sv.mk' (off := off) (cs := putAt cs (off + i * k + o) vs) (b := b) ⟨fun d hd => ?_, by simpa using h1.2⟩ (by simpa using hxn) ha (by simpa using h2) (by rw [putAt_length]; exact h3) ?_ (by simpa using hs)
  · rcases List.mem_or_eq_of_mem_set hd with hd | hd
    · exact h1.1 d hd
    · rw [hd]; exact hel'
  · have hfc := flat_cells h1.1 he
    have hmul2 : (i + 1) * k ≤ ds.length * k := Nat.mul_le_mul_right k (by omega)
    rw [Nat.add_mul] at hmul2
    rw [flat_set h1.1 he hel', ← h4, ← hc, List.length_set]
    rw [← h4] at hfc
    have D : ∀ D : List Value, ds.length * k ≤ D.length → (putAt D (i * k + o) vs).take (ds.length * k) = (D.take (ds.length * k)).take (i * k) ++ putAt (((D.take (ds.length * k)).drop (i * k)).take k) o vs ++ (D.take (ds.length * k)).drop ((i + 1) * k) := by
      intro D hD
      have eD : D.take (ds.length * k) = (D.take (ds.length * k)).take (i * k) ++ ((D.take (ds.length * k)).drop (i * k)).take k ++ (D.take (ds.length * k)).drop ((i + 1) * k) := by
        rw [Nat.add_mul, Nat.one_mul, ← List.drop_drop, List.append_assoc, List.take_append_drop, List.take_append_drop]
      have l1 : ((D.take (ds.length * k)).take (i * k)).length = i * k := by simp; omega
      have l2 : (((D.take (ds.length * k)).drop (i * k)).take k).length = k := by simp; omega
      rw [putAt_eq _ _ _ (by omega), putAt_eq _ _ _ (by omega)]
      generalize hA : (D.take (ds.length * k)).take (i * k) = A at *
      generalize hB : ((D.take (ds.length * k)).drop (i * k)).take k = B at *
      generalize hC : (D.take (ds.length * k)).drop ((i + 1) * k) = C at *
      have eD2 : D = A ++ B ++ C ++ D.drop (ds.length * k) := by rw [← eD, List.take_append_drop]
      have lC : (A ++ B ++ C).length = ds.length * k := by rw [← eD]; simp; omega
      rw [eD2]
      have t1 : (A ++ B ++ C ++ D.drop (ds.length * k)).take (i * k + o) = A ++ B.take o := by
        rw [List.append_assoc, List.append_assoc, ← l1, List.take_length_add_append, List.take_append_of_le_length (by omega)]
      have t2 : (A ++ B ++ C ++ D.drop (ds.length * k)).drop (i * k + o + vs.length) = B.drop (o + vs.length) ++ C ++ D.drop (ds.length * k) := by
        rw [List.append_assoc, List.append_assoc, ← l1, Nat.add_assoc, List.drop_length_add_append, List.drop_append_of_le_length (by omega), List.append_assoc]
      rw [t1, t2]
      have l3 : (A ++ B.take o ++ vs ++ (B.drop (o + vs.length) ++ C)).length = ds.length * k := by
        rw [← lC]; simp; omega
      rw [← List.append_assoc (A ++ B.take o ++ vs), ← l3, List.take_left]
      simp [List.append_assoc]
    have hd2 : (putAt cs (off + i * k + o) vs).drop off = putAt (cs.drop off) (i * k + o) vs := by
      have l0 : ds.length * k ≤ x.c * k := Nat.mul_le_mul_right k h2
      rw [putAt_eq _ _ _ (by omega), putAt_eq _ _ _ (by simp; omega), List.append_assoc, List.drop_append_of_le_length (by simp; omega), List.drop_take, List.drop_drop, List.append_assoc]
      congr 2
      · omega
      · congr 1; omega
    rw [hd2, D _ (by simp; have := Nat.mul_le_mul_right k h2; omega), hfc]
theorem r_storeEl {α : Type} {c : α → List Value} {x : SH} {xs : List α} {i : Nat} {p : Addr} {o sz : Nat} {T : TypeId} {ag : Bool} {e e' : α} {vs : List Value} {v : Value} {o1 o2 : Operand} (hs : St n L a) (m : Hp w0 R Ps w) (hx : ev L o1 = some (.pointer (some (padd p o)))) (hy : ev L o2 = some v) (hP : Rem Ps (Sv k E x.v (xs.map c)) Qs)
    (hp : Elem k x.v i p) (he : xs[i]? = some e) (ht : tyI P T = some (ag, sz)) (hv : v.cells = ⟨vs⟩) (hn : vs.length = sz) (hl : Nat.ble (o + sz) k = true) (ho : ones vs = true) (hc : putAt (c e) o vs = c e')
    (kk : ∀ w', Hp w0 R (Sv k E x.v ((xs.set i e').map c) :: Qs) w' → wpList P ops Q rest a w') : wpList P ops Q (⟨none, .store T o1 o2, ty, pos, aft, none⟩ :: rest) a w := by
  obtain ⟨w', h1, h2⟩ := (m.front hP).setEl (P := P) (T := T) hp (get_map c he) ht hv hn (Nat.le_of_ble_eq_true hl) ho hc
  refine step_skip rfl rfl hs (w' := w') ?_ (kk w' (by rw [List.map_set]; exact h2))
  simp [execOp, hs.evs o1 _ hx, hs.evs o2 _ hy, Instr.storeAt, Instr.sureAddr, bind, Sem.run_bind', pure, Sem.run, Result.andThen, h1]
end
end Go.Proofs.YtdallmabajeajaaGreatDoor.Fw
set_option linter.unusedVariables false
set_option linter.all false
namespace Go.Proofs.YtdallmabajeajaaGreatDoor.Fw
open Go
section
variable {P : Program} {C : World → Prop} {L : List (Nat × Value)} {d : Option Tmp} {ty : TypeId} {pos : String} {aft : Array Edge} {g : Option (Nat × Bool)}
def ptI (P : Program) (T : TypeId) : Option TypeId := match P.underlying T with
  | some (.pointer e) => some e
  | _ => none
theorem ptI_spec {T E : TypeId} (h : ptI P T = some E) : P.underlying T = some (.pointer E) := by
  unfold ptI at h
  split at h
  · rename_i h1
    simp only [Option.some.injEq] at h
    rw [h1, h]
  · cases h
theorem run_nilS {T E : TypeId} (h : slI P T = some E) (x : SH) (w : World) : (Op.equal T x.v (.slice none 0 0)).run P w = .ok x.a.isNone w := by
  show (Op.equalIn (9999 + 1) T x.v (.slice none 0 0)).run P w = _
  obtain ⟨xa, n, c⟩ := x
  unfold Op.equalIn
  rw [Sem.run_bind, run_underlying (slI_spec h)]
  cases xa <;> rfl
theorem ok_isNilS {T T' E : TypeId} {x y : Operand} {v : SH} (hx : ev L x = some v.v) (hy : ev L y = some (.slice none 0 0)) (h : slI P T = some E) : Ok P C L ⟨d, .binOp .eql T x y T', ty, pos, aft, g⟩ (.bool v.a.isNone) := fun ρ ha w _ => by
  have r2 := run_nilS h v w
  simp only [SH.v] at r2 hx
  simp [execOp, ha x _ hx, ha y _ hy, bind, Sem.run_bind', eqGuard, binOp, r2, pure, Sem.run, Result.andThen]
theorem ok_notNilS {T T' E : TypeId} {x y : Operand} {v : SH} (hx : ev L x = some v.v) (hy : ev L y = some (.slice none 0 0)) (h : slI P T = some E) : Ok P C L ⟨d, .binOp .neq T x y T', ty, pos, aft, g⟩ (.bool (!v.a.isNone)) := fun ρ ha w _ => by
  have r2 := run_nilS h v w
  simp only [SH.v] at r2 hx
  simp [execOp, ha x _ hx, ha y _ hy, bind, Sem.run_bind', eqGuard, binOp, r2, pure, Sem.run, Result.andThen]
theorem run_nilP {T E : TypeId} (h : ptI P T = some E) (p : Addr) (w : World) : (Op.equal T (.pointer (some p)) (.pointer none)).run P w = .ok false w := by
  show (Op.equalIn (9999 + 1) T (.pointer (some p)) (.pointer none)).run P w = _
  unfold Op.equalIn
  rw [Sem.run_bind, run_underlying (ptI_spec h)]
  rfl
theorem ok_isNilP {T T' E : TypeId} {x y : Operand} {p : Addr} (hx : ev L x = some (.pointer (some p))) (hy : ev L y = some (.pointer none)) (h : ptI P T = some E) : Ok P C L ⟨d, .binOp .eql T x y T', ty, pos, aft, g⟩ (.bool false) := fun ρ ha w _ => by
  have r2 := run_nilP h p w
  simp [execOp, ha x _ hx, ha y _ hy, bind, Sem.run_bind', eqGuard, binOp, r2, pure, Sem.run, Result.andThen]
end
end Go.Proofs.YtdallmabajeajaaGreatDoor.Fw
set_option linter.unusedVariables false
set_option linter.all false
namespace Go.Proofs.YtdallmabajeajaaGreatDoor.Fw
open Go
theorem sub3_0 (k : Nat) (x : SH) (hi : Nat) : subH3 k x 0 hi x.c = upH x hi := by rw [← subH_eq3, subH_0]
theorem RdS.ncapM {α : Type} {c : α → List Value} {h : Hh} {k : Nat} {x : SH} {xs : List α} (r : RdS h k x.v (xs.map c)) : x.n = xs.length ∧ x.n ≤ x.c := by
  have := r.ncap
  simpa using this
theorem Hp.ncapM {α : Type} {c : α → List Value} {w0 w : World} {R : Hh} {Ps Qs : List HP} {k : Nat} {E : TypeId} {x : SH} {xs : List α} (m : Hp w0 R Ps w) (h : Rem Ps (Sv k E x.v (xs.map c)) Qs) : x.n = xs.length ∧ x.n ≤ x.c := by
  have := m.ncap h
  simpa using this
theorem RdS.cut {h : Hh} {k : Nat} {a : Option Addr} {n c c' : Nat} {ds : List (List Value)} (r : RdS h k (.slice a n c) ds) (hc : ds.length ≤ c') : RdS h k (.slice a n c') ds := by
  obtain ⟨h1, h2, a', cap, e, h3, h4⟩ := r
  simp only [Value.slice.injEq] at e
  obtain ⟨rfl, rfl, rfl⟩ := e
  exact ⟨h1, h2, _, c', rfl, hc, h4⟩
theorem RdS.win {α : Type} {c : α → List Value} {h : Hh} {k : Nat} {x : SH} {xs ys : List α} (r : RdS h k x.v (xs.map c)) {lo hi mx : Nat} (h1 : lo ≤ hi) (h2 : hi ≤ xs.length) (h3 : hi ≤ mx) (h4 : mx ≤ x.c) (hy : (xs.take hi).drop lo = ys) : RdS h k (subH3 k x lo hi mx).v (ys.map c) := by
  subst hy
  have h5 := r.subS (lo := lo) (hi := hi) h1 (by simpa using h2)
  rw [← subH_v, ← List.map_take, ← List.map_drop] at h5
  have hl : ((xs.take hi).drop lo).length = hi - lo := by simp; omega
  by_cases hlo : lo = hi
  · have hnil : (xs.take hi).drop lo = [] := List.eq_nil_of_length_eq_zero (by omega)
    rw [hnil]
    refine ⟨by simp, by simp, _, _, by simp only [subH3, SH.v, List.map_nil, List.length_nil]; rw [show hi - lo = 0 by omega], by simp, fun h => absurd rfl h⟩
  · have e1 : (subH3 k x lo hi mx).v = .slice (x.a.map (·.add (lo * k))) (hi - lo) (mx - lo) := by
      simp [subH3, SH.v, show ¬ mx = lo by omega]
    rw [e1]
    rw [subH_lt (by omega)] at h5
    exact h5.cut (by simp; omega)
section
variable {P : Program} {ops : Array Oper} {Q : Exit → Act → World → Prop} {rest : List Oper} {n : Nat} {L : List (Nat × Value)} {a : Act} {w w0 : World} {R : Hh} {Ps Qs : List HP}
  {d : Nat} {ty : TypeId} {pos : String} {aft : Array Edge} {k : Nat} {E : TypeId} {x : SH} {α : Type} {c : α → List Value} {xs es zs : List α}
theorem r_copyM {T T2 : TypeId} {ag : Bool} {o1 o2 : Operand} {v u : Value} {lo dl N : Nat} (hs : St n L a) (m : Hp w0 R Ps w) (hx : ev L o1 = some v) (hy : ev L o2 = some u) (hT : slI P T = some E) (hE : tyI P E = some (ag, k)) (hP : Rem Ps (Sv k E x.v (xs.map c)) Qs)
    (hv : v = .slice (x.a.map (·.add (lo * k))) dl (x.c - lo)) (hu : ∃ a lu cc, u = .slice a lu cc ∧ es.length = min lu dl ∧ RdS (hh w) k (.slice a es.length cc) (es.map c)) (ho : ∀ z, ones (c z) = true) (hlo : lo ≤ xs.length) (hhi : lo + es.length ≤ x.c) (hb : lo + es.length ≤ 140737488355328)
    (hz : xs.take lo ++ es ++ xs.drop (lo + es.length) = zs) (hN : max xs.length (lo + es.length) = N) (hd : Nat.blt d n = true)
    (kk : ∀ w', Hp w0 R (Sv k E (upH x N).v (zs.map c) :: Qs) w' → ∀ a', St n ((d, .int .i64 (es.length : Int)) :: L) a' → wpList P ops Q rest a' w') :
    wpList P ops Q (⟨some d, .call ⟨.builtin .copy, #[o1, o2], #[T, T2]⟩, ty, pos, aft, none⟩ :: rest) a w := by
  subst hz hN
  obtain ⟨ua, lu, uc, e1, e2, e3⟩ := hu
  refine r_copy (es := es.map c) hs m hx hy hT hE hP hv ⟨ua, lu, uc, e1, by simpa using e2, by simpa using e3⟩ (by intro e he; obtain ⟨z, _, rfl⟩ := List.mem_map.1 he; exact ho z) (by simpa using hlo) (by simpa using hhi) (by simpa using hb) hd ?_
  intro w' m' a' hs'
  simp only [List.length_map] at m' hs'
  refine kk w' ?_ a' hs'
  rw [List.map_append, List.map_append, List.map_take, List.map_drop]
  exact m'
theorem r_appendFitM {T T2 : TypeId} {ag : Bool} {o1 o2 : Operand} {u : Value} (hs : St n L a) (m : Hp w0 R Ps w) (hx : ev L o1 = some x.v) (hy : ev L o2 = some u) (hT : slI P T = some E) (hT2 : notInt P T2 = true) (hE : tyI P E = some (ag, k)) (hP : Rem Ps (Sv k E x.v (xs.map c)) Qs)
    (hu : RdS (hh w) k u (es.map c)) (ho : ∀ z, ones (c z) = true) (hlen : xs.length + es.length ≤ x.c) (hb : xs.length + es.length ≤ 140737488355328) (hd : Nat.blt d n = true)
    (kk : ∀ w', Hp w0 R (Sv k E (upH x (xs.length + es.length)).v ((xs ++ es).map c) :: Qs) w' → ∀ a', St n ((d, (upH x (xs.length + es.length)).v) :: L) a' → wpList P ops Q rest a' w') :
    wpList P ops Q (⟨some d, .call ⟨.builtin .append, #[o1, o2], #[T, T2]⟩, ty, pos, aft, none⟩ :: rest) a w := by
  refine r_appendFit (es := es.map c) hs m hx hy hT hT2 hE hP hu (by intro e he; obtain ⟨z, _, rfl⟩ := List.mem_map.1 he; exact ho z) (by simpa using hlen) (by simpa using hb) hd ?_
  intro w' m' a' hs'
  simp only [List.length_map] at m' hs'
  exact kk w' (by rw [List.map_append]; exact m') a' hs'
theorem Hp.shrinkM (m : Hp w0 R Ps w) {hi : Nat} (hP : Swp Ps (Sv k E x.v (xs.map c)) (Sv k E (upH x hi).v ((xs.take hi).map c)) Qs) (h : hi ≤ xs.length) : Hp w0 R Qs w := by
  rw [List.map_take] at hP
  exact m.shrink hP (by simpa using h)
end
theorem RdS.isnil {α : Type} {c : α → List Value} {h : Hh} {k : Nat} {x : SH} {xs : List α} (r : RdS h k x.v (xs.map c)) (hn : x.a.isNone = true) : xs = [] := by
  obtain ⟨_, _, a, cap, e, _, h4⟩ := r
  simp only [SH.v, Value.slice.injEq] at e
  cases xs with
  | nil => rfl
  | cons y ys =>
    obtain ⟨b, off, arr, T, fz, e1, _⟩ := h4 (by simp)
    rw [e.1, e1] at hn
    cases hn
end Go.Proofs.YtdallmabajeajaaGreatDoor.Fw
set_option linter.unusedVariables false
set_option linter.all false
namespace Go.Proofs.YtdallmabajeajaaGreatDoor.Fw
open Go
section
variable {P : Program} {ops : Array Oper} {Q : Exit → Act → World → Prop} {rest : List Oper} {n : Nat} {L : List (Nat × Value)} {a : Act} {w : World}
theorem g_strip {d : Option Tmp} {op : Op} {ty : TypeId} {pos : String} {aft : Array Edge} {j : Nat} {want b : Bool} {t : Nat} (hs : St n L a) (hj : (ops[j]?).bind (·.dst) = some t) (ht : lk L t = some (.bool b)) (hb : b = want)
    (h : wpList P ops Q (⟨d, op, ty, pos, aft, none⟩ :: rest) a w) : wpList P ops Q (⟨d, op, ty, pos, aft, some (j, want)⟩ :: rest) a w := by
  have hy : Region.wanted ⟨d, op, ty, pos, aft, some (j, want)⟩ (yielded ops a.tmps) = true := by
    simp only [Region.wanted, yielded, hj, Option.bind_some, hs.at_ t _ ht, hb]
    simp
  have hn : Region.wanted ⟨d, op, ty, pos, aft, none⟩ (yielded ops a.tmps) = true := by simp [Region.wanted]
  unfold wpList at h ⊢
  rw [if_pos hn] at h
  rw [if_pos hy]
  rcases h with h | h
  · refine .inl ?_
    unfold Oper.wp Oper.upon at h ⊢
    exact h
  · exact .inr h
end
section
variable {P : Program} {C : World → Prop} {L : List (Nat × Value)} {d : Option Tmp} {ty : TypeId} {pos : String} {aft : Array Edge} {g : Option (Nat × Bool)}
theorem ok_indexArr {T E : TypeId} {ag : Bool} {x ix : Operand} {K : IntKind} {i n k o r : Nat} {p : Addr} (hx : ev L x = some (.pointer (some (padd p o)))) (hi : ev L ix = some (.int K (i : Int))) (hT : arI P T = some (n, E)) (hE : tyI P E = some (ag, k)) (h1 : Nat.blt i n = true) (hr : o + i * k = r) :
    Ok P C L ⟨d, .indexAddr T x ix, ty, pos, aft, g⟩ (.pointer (some (padd p r))) := fun ρ ha w _ => by
  subst hr
  have h1' : i < n := Nat.le_of_ble_eq_true h1
  have hlt : (i : Int) < (n : Int) := by omega
  simp [execOp, ha x _ hx, ha ix _ hi, Instr.indexAt, Instr.sureAddr, asIntOf, bind, Sem.run_bind', run_underlying (arI_spec hT), h1', run_sizeOf' hE, pure, Sem.run, Result.andThen, padd_add]
end
end Go.Proofs.YtdallmabajeajaaGreatDoor.Fw
set_option linter.all false
namespace Go.Proofs.YtdallmabajeajaaGreatDoor.Fw
open Go
section
variable {P : Program} {C : World → Prop} {L : List (Nat × Value)} {d : Option Tmp} {ty : TypeId} {pos : String} {aft : Array Edge} {g : Option (Nat × Bool)}
theorem ok_makeFunc {f : Fn} {xs ys : List Operand} {us vs : List Value} (hx : evs L xs = some us) (hy : evs L ys = some vs) : Ok P C L ⟨d, .makeFunc f ⟨xs⟩ ⟨ys⟩, ty, pos, aft, g⟩ (.func f ⟨us⟩ ⟨vs⟩) := fun ρ ha w _ => by
  have hm : ∀ (os : List Operand) (us : List Value), evs L os = some us → os.map ρ = us := by
    intro os
    induction os with
    | nil => intro us h; simpa [evs] using h
    | cons o os ih =>
      intro us h
      simp only [evs] at h
      cases h1 : ev L o with
      | none => simp [h1] at h
      | some v =>
        cases h2 : evs L os with
        | none => simp [h1, h2] at h
        | some us' =>
          simp only [h1, h2, Option.some.injEq] at h
          subst h
          simp [ha o v h1, ih us' h2]
  simp [execOp, Instr.makeFunc, hm xs us hx, hm ys vs hy, bind, Sem.run_bind', pure, Sem.run, Result.andThen]
end
section
variable {x0 x1 x2 x3 x4 x5 x6 x7 x8 x9 x10 x11 x12 x13 x14 x15 x16 x17 x18 x19 x20 x21 x22 x23 x24 x25 x26 x27 x28 x29 p q : HP} {l : List HP}
theorem s12 : Swp (x0 :: x1 :: x2 :: x3 :: x4 :: x5 :: x6 :: x7 :: x8 :: x9 :: x10 :: x11 :: p :: l) p q (x0 :: x1 :: x2 :: x3 :: x4 :: x5 :: x6 :: x7 :: x8 :: x9 :: x10 :: x11 :: q :: l) := ⟨[x0, x1, x2, x3, x4, x5, x6, x7, x8, x9, x10, x11], l, rfl, rfl⟩
theorem r12 : Rem (x0 :: x1 :: x2 :: x3 :: x4 :: x5 :: x6 :: x7 :: x8 :: x9 :: x10 :: x11 :: p :: l) p (x0 :: x1 :: x2 :: x3 :: x4 :: x5 :: x6 :: x7 :: x8 :: x9 :: x10 :: x11 :: l) := ⟨[x0, x1, x2, x3, x4, x5, x6, x7, x8, x9, x10, x11], l, rfl, rfl⟩
theorem s13 : Swp (x0 :: x1 :: x2 :: x3 :: x4 :: x5 :: x6 :: x7 :: x8 :: x9 :: x10 :: x11 :: x12 :: p :: l) p q (x0 :: x1 :: x2 :: x3 :: x4 :: x5 :: x6 :: x7 :: x8 :: x9 :: x10 :: x11 :: x12 :: q :: l) := ⟨[x0, x1, x2, x3, x4, x5, x6, x7, x8, x9, x10, x11, x12], l, rfl, rfl⟩
theorem r13 : Rem (x0 :: x1 :: x2 :: x3 :: x4 :: x5 :: x6 :: x7 :: x8 :: x9 :: x10 :: x11 :: x12 :: p :: l) p (x0 :: x1 :: x2 :: x3 :: x4 :: x5 :: x6 :: x7 :: x8 :: x9 :: x10 :: x11 :: x12 :: l) := ⟨[x0, x1, x2, x3, x4, x5, x6, x7, x8, x9, x10, x11, x12], l, rfl, rfl⟩
theorem s14 : Swp (x0 :: x1 :: x2 :: x3 :: x4 :: x5 :: x6 :: x7 :: x8 :: x9 :: x10 :: x11 :: x12 :: x13 :: p :: l) p q (x0 :: x1 :: x2 :: x3 :: x4 :: x5 :: x6 :: x7 :: x8 :: x9 :: x10 :: x11 :: x12 :: x13 :: q :: l) := ⟨[x0, x1, x2, x3, x4, x5, x6, x7, x8, x9, x10, x11, x12, x13], l, rfl, rfl⟩
theorem r14 : Rem (x0 :: x1 :: x2 :: x3 :: x4 :: x5 :: x6 :: x7 :: x8 :: x9 :: x10 :: x11 :: x12 :: x13 :: p :: l) p (x0 :: x1 :: x2 :: x3 :: x4 :: x5 :: x6 :: x7 :: x8 :: x9 :: x10 :: x11 :: x12 :: x13 :: l) := ⟨[x0, x1, x2, x3, x4, x5, x6, x7, x8, x9, x10, x11, x12, x13], l, rfl, rfl⟩
theorem s15 : Swp (x0 :: x1 :: x2 :: x3 :: x4 :: x5 :: x6 :: x7 :: x8 :: x9 :: x10 :: x11 :: x12 :: x13 :: x14 :: p :: l) p q (x0 :: x1 :: x2 :: x3 :: x4 :: x5 :: x6 :: x7 :: x8 :: x9 :: x10 :: x11 :: x12 :: x13 :: x14 :: q :: l) := ⟨[x0, x1, x2, x3, x4, x5, x6, x7, x8, x9, x10, x11, x12, x13, x14], l, rfl, rfl⟩
theorem r15 : Rem (x0 :: x1 :: x2 :: x3 :: x4 :: x5 :: x6 :: x7 :: x8 :: x9 :: x10 :: x11 :: x12 :: x13 :: x14 :: p :: l) p (x0 :: x1 :: x2 :: x3 :: x4 :: x5 :: x6 :: x7 :: x8 :: x9 :: x10 :: x11 :: x12 :: x13 :: x14 :: l) := ⟨[x0, x1, x2, x3, x4, x5, x6, x7, x8, x9, x10, x11, x12, x13, x14], l, rfl, rfl⟩
theorem s16 : Swp (x0 :: x1 :: x2 :: x3 :: x4 :: x5 :: x6 :: x7 :: x8 :: x9 :: x10 :: x11 :: x12 :: x13 :: x14 :: x15 :: p :: l) p q (x0 :: x1 :: x2 :: x3 :: x4 :: x5 :: x6 :: x7 :: x8 :: x9 :: x10 :: x11 :: x12 :: x13 :: x14 :: x15 :: q :: l) := ⟨[x0, x1, x2, x3, x4, x5, x6, x7, x8, x9, x10, x11, x12, x13, x14, x15], l, rfl, rfl⟩
theorem r16 : Rem (x0 :: x1 :: x2 :: x3 :: x4 :: x5 :: x6 :: x7 :: x8 :: x9 :: x10 :: x11 :: x12 :: x13 :: x14 :: x15 :: p :: l) p (x0 :: x1 :: x2 :: x3 :: x4 :: x5 :: x6 :: x7 :: x8 :: x9 :: x10 :: x11 :: x12 :: x13 :: x14 :: x15 :: l) := ⟨[x0, x1, x2, x3, x4, x5, x6, x7, x8, x9, x10, x11, x12, x13, x14, x15], l, rfl, rfl⟩
theorem s17 : Swp (x0 :: x1 :: x2 :: x3 :: x4 :: x5 :: x6 :: x7 :: x8 :: x9 :: x10 :: x11 :: x12 :: x13 :: x14 :: x15 :: x16 :: p :: l) p q (x0 :: x1 :: x2 :: x3 :: x4 :: x5 :: x6 :: x7 :: x8 :: x9 :: x10 :: x11 :: x12 :: x13 :: x14 :: x15 :: x16 :: q :: l) := ⟨[x0, x1, x2, x3, x4, x5, x6, x7, x8, x9, x10, x11, x12, x13, x14, x15, x16], l, rfl, rfl⟩
theorem r17 : Rem (x0 :: x1 :: x2 :: x3 :: x4 :: x5 :: x6 :: x7 :: x8 :: x9 :: x10 :: x11 :: x12 :: x13 :: x14 :: x15 :: x16 :: p :: l) p (x0 :: x1 :: x2 :: x3 :: x4 :: x5 :: x6 :: x7 :: x8 :: x9 :: x10 :: x11 :: x12 :: x13 :: x14 :: x15 :: x16 :: l) := ⟨[x0, x1, x2, x3, x4, x5, x6, x7, x8, x9, x10, x11, x12, x13, x14, x15, x16], l, rfl, rfl⟩
theorem s18 : Swp (x0 :: x1 :: x2 :: x3 :: x4 :: x5 :: x6 :: x7 :: x8 :: x9 :: x10 :: x11 :: x12 :: x13 :: x14 :: x15 :: x16 :: x17 :: p :: l) p q (x0 :: x1 :: x2 :: x3 :: x4 :: x5 :: x6 :: x7 :: x8 :: x9 :: x10 :: x11 :: x12 :: x13 :: x14 :: x15 :: x16 :: x17 :: q :: l) := ⟨[x0, x1, x2, x3, x4, x5, x6, x7, x8, x9, x10, x11, x12, x13, x14, x15, x16, x17], l, rfl, rfl⟩
theorem r18 : Rem (x0 :: x1 :: x2 :: x3 :: x4 :: x5 :: x6 :: x7 :: x8 :: x9 :: x10 :: x11 :: x12 :: x13 :: x14 :: x15 :: x16 :: x17 :: p :: l) p (x0 :: x1 :: x2 :: x3 :: x4 :: x5 :: x6 :: x7 :: x8 :: x9 :: x10 :: x11 :: x12 :: x13 :: x14 :: x15 :: x16 :: x17 :: l) := ⟨[x0, x1, x2, x3, x4, x5, x6, x7, x8, x9, x10, x11, x12, x13, x14, x15, x16, x17], l, rfl, rfl⟩
theorem s19 : Swp (x0 :: x1 :: x2 :: x3 :: x4 :: x5 :: x6 :: x7 :: x8 :: x9 :: x10 :: x11 :: x12 :: x13 :: x14 :: x15 :: x16 :: x17 :: x18 :: p :: l) p q (x0 :: x1 :: x2 :: x3 :: x4 :: x5 :: x6 :: x7 :: x8 :: x9 :: x10 :: x11 :: x12 :: x13 :: x14 :: x15 :: x16 :: x17 :: x18 :: q :: l) := ⟨[x0, x1, x2, x3, x4, x5, x6, x7, x8, x9, x10, x11, x12, x13, x14, x15, x16, x17, x18], l, rfl, rfl⟩
theorem r19 : Rem (x0 :: x1 :: x2 :: x3 :: x4 :: x5 :: x6 :: x7 :: x8 :: x9 :: x10 :: x11 :: x12 :: x13 :: x14 :: x15 :: x16 :: x17 :: x18 :: p :: l) p (x0 :: x1 :: x2 :: x3 :: x4 :: x5 :: x6 :: x7 :: x8 :: x9 :: x10 :: x11 :: x12 :: x13 :: x14 :: x15 :: x16 :: x17 :: x18 :: l) := ⟨[x0, x1, x2, x3, x4, x5, x6, x7, x8, x9, x10, x11, x12, x13, x14, x15, x16, x17, x18], l, rfl, rfl⟩
end
def fillP (place : Nat → Option (Nat × Nat)) : List Value → List (Nat × Value) → Option (List Value)
  | cs, [] => some cs
  | cs, (i, v) :: r => match place i with
    | some (o, n) => match Nat.beq v.cells.toList.length n, Nat.ble (o + n) cs.length with
      | true, true => fillP place (putAt cs o v.cells.toList) r
      | _, _ => none
    | none => none
theorem fillP_eq {place : Nat → Option (Nat × Nat)} : ∀ (ps : List (Nat × Value)) (cs : List Value) (out : List Value), fillP place cs ps = some out → Instr.fill place ⟨cs⟩ ps = some ⟨out⟩
  | [], cs, out, h => by simp [fillP] at h; simp [Instr.fill, h]
  | (i, v) :: r, cs, out, h => by
    simp only [fillP] at h
    cases hf : place i with
    | none => simp [hf] at h
    | some on =>
      obtain ⟨o, n⟩ := on
      simp only [hf] at h
      cases h1 : Nat.beq v.cells.toList.length n with
      | false => simp only [h1] at h; cases h
      | true =>
        cases h2 : Nat.ble (o + n) cs.length with
        | false => simp only [h1, h2] at h; cases h
        | true =>
          simp only [h1, h2] at h
          have e1 := Nat.eq_of_beq_eq_true h1
          have e2 := Nat.le_of_ble_eq_true h2
          simp only [Instr.fill, hf]
          have e1' : v.cells.size = n := by simpa using e1
          rw [if_neg (by simp [e1']; omega)]
          have := foldl_put v.cells.toList ⟨cs⟩ o 0
          have ih := fillP_eq r (putAt cs o v.cells.toList) out h
          simp only [Nat.add_zero] at this
          rw [← ih]
          congr 1
          rw [← Array.foldl_toList, Array.toList_zipIdx]
          exact this
section
variable {P : Program} {C : World → Prop} {L : List (Nat × Value)} {d : Option Tmp} {ty : TypeId} {pos : String} {aft : Array Edge} {g : Option (Nat × Bool)}
theorem ok_buildArr {T E : TypeId} {ag : Bool} {m k : Nat} {ps : List (Nat × Operand)} {zs cs : List Value} {vs : List (Nat × Value)} (hf : arI P T = some (m, E)) (hE : tyI P E = some (ag, k)) (hz : zeI P T = some zs) (hx : partsOf L ps = some vs) (hc : fillP (fun i => some (i * k, k)) zs vs = some cs) :
    Ok P C L ⟨d, .build T ⟨ps⟩, ty, pos, aft, g⟩ (.agg ⟨cs⟩) := fun ρ ha w _ => by
  obtain ⟨z, h1, h2⟩ := zeI_spec hz w
  have h6 := fillP_eq vs zs cs hc
  have h7 := parts_map ha ps vs hx
  simp [execOp, Instr.build, bind, Sem.run_bind', h1, Result.andThen, run_underlying (arI_spec hf), run_sizeOf' hE, h2, h7, pure, Sem.run]
  simp only [h6, Sem.run]
end
section
variable {P : Program} {ops : Array Oper} {Q : Exit → Act → World → Prop} {rest : List Oper} {n : Nat} {L : List (Nat × Value)} {a : Act} {w w0 : World} {R : Hh} {Ps Qs : List HP}
  {d : Nat} {ty : TypeId} {pos : String} {aft : Array Edge}
end
end Go.Proofs.YtdallmabajeajaaGreatDoor.Fw
set_option linter.unusedVariables false
set_option linter.all false
namespace Go.Proofs.YtdallmabajeajaaGreatDoor.Fw
open Go
section
variable {P : Program} {ops : Array Oper} {Q : Exit → Act → World → Prop} {n : Nat} {L : List (Nat × Value)} {a : Act} {w w0 : World} {R : Hh} {Ps Qs : List HP} {S : World → Prop} {y : Code}
end
end Go.Proofs.YtdallmabajeajaaGreatDoor.Fw
set_option linter.unusedVariables false
set_option linter.all false
namespace Go.Proofs.YtdallmabajeajaaGreatDoor.Fw
open Go
section
variable {w0 w : World} {R B : Hh} {Ps Qs : List HP} {k : Nat} {E : TypeId} {v : Value} {ds : List (List Value)}
end
section
variable {P : Program} {C : World → Prop} {L : List (Nat × Value)} {d : Option Tmp} {ty : TypeId} {pos : String} {aft : Array Edge} {g : Option (Nat × Bool)}
theorem ok_max {T1 T2 : TypeId} {x y : Operand} {k : IntKind} {m n r : Int} (hx : ev L x = some (.int k m)) (hy : ev L y = some (.int k n)) (hr : max m n = r) :
    Ok P C L ⟨d, .call ⟨.builtin .max, #[x, y], #[T1, T2]⟩, ty, pos, aft, g⟩ (.int k r) := fun ρ ha w' hw' => by
  subst hr
  by_cases h : n > m <;> simp [execOp, resolve, invoke, builtin, Builtin.max_, Builtin.max2, ha x _ hx, ha y _ hy, bind, Sem.run_bind', pure, Sem.run, Result.andThen, List.foldlM, h] <;> omega
theorem ok_min {T1 T2 : TypeId} {x y : Operand} {k : IntKind} {m n r : Int} (hx : ev L x = some (.int k m)) (hy : ev L y = some (.int k n)) (hr : min m n = r) :
    Ok P C L ⟨d, .call ⟨.builtin .min, #[x, y], #[T1, T2]⟩, ty, pos, aft, g⟩ (.int k r) := fun ρ ha w' hw' => by
  subst hr
  by_cases h : n < m <;> simp [execOp, resolve, invoke, builtin, Builtin.min_, Builtin.min2, ha x _ hx, ha y _ hy, bind, Sem.run_bind', pure, Sem.run, Result.andThen, List.foldlM, h] <;> omega
end
end Go.Proofs.YtdallmabajeajaaGreatDoor.Fw
set_option linter.unusedVariables false
set_option linter.all false
namespace Go.Proofs.YtdallmabajeajaaGreatDoor.Fw
open Go
section
variable {w0 w : World} {R : Hh} {Ps Qs Ls : List HP}
theorem Hp.ex {α : Sort _} {p : α → HP} (m : Hp w0 R ((fun h => ∃ x, p x h) :: Ps) w) : ∃ x, Hp w0 R (p x :: Ps) w := by
  obtain ⟨h, ⟨h1, h2, a, ⟨h3, h4, ⟨x, b⟩, c, d1, e1⟩, d2, e2⟩, d, e⟩ := m.heap
  exact ⟨x, m.os, m.tape, m.output, m.size, h, ⟨h1, h2, a, ⟨h3, h4, b, c, d1, e1⟩, d2, e2⟩, d, e⟩
end
section
variable {P : Program} {ops : Array Oper} {Q : Exit → Act → World → Prop} {a : Act} {w : World} {S : World → Prop}
end
end Go.Proofs.YtdallmabajeajaaGreatDoor.Fw
set_option linter.all false
namespace Go.Proofs.YtdallmabajeajaaGreatDoor.Fw
open Go
section
variable {P : Program} {C : World → Prop} {L : List (Nat × Value)} {d : Option Tmp} {ty : TypeId} {pos : String} {aft : Array Edge} {g : Option (Nat × Bool)}
theorem run_nilN {T E : TypeId} (h : ptI P T = some E) (w : World) : (Op.equal T (.pointer none) (.pointer none)).run P w = .ok true w := by
  show (Op.equalIn (9999 + 1) T (.pointer none) (.pointer none)).run P w = _
  unfold Op.equalIn
  rw [Sem.run_bind, run_underlying (ptI_spec h)]
  rfl
theorem ok_isNilN {T T' E : TypeId} {x y : Operand} (hx : ev L x = some (.pointer none)) (hy : ev L y = some (.pointer none)) (h : ptI P T = some E) : Ok P C L ⟨d, .binOp .eql T x y T', ty, pos, aft, g⟩ (.bool true) := fun ρ ha w _ => by
  have r2 := run_nilN h w
  simp [execOp, ha x _ hx, ha y _ hy, bind, Sem.run_bind', eqGuard, binOp, r2, pure, Sem.run, Result.andThen]
end
def RdN {α : Type} (r : Hh → List Value → α → Prop) (h : Hh) (k : Nat) (v : Value) (xs : List α) : Prop :=
  ∃ css : List (List Value), RdS h k v (css.map id) ∧ css.length = xs.length ∧ ∀ (i : Nat) (cs : List Value) (x : α), css[i]? = some cs → xs[i]? = some x → r h cs x
theorem RdN.le {α : Type} {r : Hh → List Value → α → Prop} (hr : ∀ {h g : Hh} {cs : List Value} {x : α}, r h cs x → hle h g → r g cs x) {h g : Hh} {k : Nat} {v : Value} {xs : List α} (x : RdN r h k v xs) (l : hle h g) : RdN r g k v xs := by
  obtain ⟨css, h1, h2, h3⟩ := x
  exact ⟨css, h1.le l, h2, fun i cs x a b => hr (h3 i cs x a b) l⟩
end Go.Proofs.YtdallmabajeajaaGreatDoor.Fw
set_option linter.all false
namespace Go.Proofs.YtdallmabajeajaaGreatDoor.Fw
open Go
section
variable {P : Program} {ops : Array Oper} {Q : Exit → Act → World → Prop} {rest : List Oper} {n : Nat} {L : List (Nat × Value)} {a : Act} {w w0 : World} {C S : World → Prop} {d : Nat} {op : Op} {ty : TypeId} {pos : String} {aft : Array Edge} {v : Value} {j t : Nat} {want b : Bool} {R : Hh} {Ps Qs : List HP}
end
section
variable {P : Program} {ops : Array Oper} {Q : Act → Prop} {rest : List Oper} {n : Nat} {L : List (Nat × Value)} {a : Act} {C : World → Prop} {d : Nat} {op : Op} {ty : TypeId} {pos : String} {aft : Array Edge} {v : Value}
end
theorem bp_ : (∀ a b : Bool, ((a || b) = true) = (a = true ∨ b = true)) ∧ (∀ a b : Bool, ((a || b) = false) = (a = false ∧ b = false)) ∧ (∀ a b : Bool, ((a && b) = true) = (a = true ∧ b = true)) ∧ (∀ a b : Bool, ((a && b) = false) = (a = false ∨ b = false)) ∧ (∀ b : Bool, ((!b) = true) = (b = false)) ∧ (∀ b : Bool, ((!b) = false) = (b = true))
    ∧ (∀ (p : Prop) [Decidable p], (decide p = true) = p) ∧ (∀ (p : Prop) [Decidable p], (decide p = false) = ¬ p) ∧ (∀ {α : Type} [BEq α] [LawfulBEq α] (a b : α), ((a == b) = true) = (a = b)) ∧ (∀ {α : Type} [BEq α] [LawfulBEq α] (a b : α), ((a != b) = true) = ¬ (a = b)) ∧ (∀ {α : Type} [BEq α] [LawfulBEq α] (a b : α), ((a == b) = false) = ¬ (a = b)) ∧ (∀ {α : Type} [BEq α] [LawfulBEq α] (a b : α), ((a != b) = false) = (a = b))
    ∧ (∀ a b : Int, (a > b) = (b < a)) ∧ (∀ a b : Int, (a ≥ b) = (b ≤ a)) ∧ (∀ a b : Int, (¬ (a < b)) = (b ≤ a)) ∧ (∀ a b : Int, (¬ (a ≤ b)) = (b < a)) := by
  refine ⟨?_, ?_, ?_, ?_, ?_, ?_, ?_, ?_, ?_, ?_, ?_, ?_, ?_, ?_, ?_, ?_⟩ <;> intros <;> first | (simp; done) | (rename_i a b; cases a <;> cases b <;> simp)
end Go.Proofs.YtdallmabajeajaaGreatDoor.Fw
set_option linter.unusedVariables false
set_option linter.all false
namespace Go.Proofs.YtdallmabajeajaaGreatDoor.Fw
open Go
section
variable {P : Program} {ops : Array Oper} {Q : Exit → Act → World → Prop} {rest : List Oper} {a : Act} {w w0 : World} {n d : Nat} {L : List (Nat × Value)} {ty : TypeId} {pos : String} {aft : Array Edge} {R : Hh} {Ps Qs : List HP}
end
end Go.Proofs.YtdallmabajeajaaGreatDoor.Fw
