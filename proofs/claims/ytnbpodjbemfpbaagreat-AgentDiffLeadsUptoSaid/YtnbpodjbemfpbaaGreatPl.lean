/-
  Plain functions: what the Go functions compute.
-/
import Derived.Test.YtnbpodjbemfpbaaGreatMd
set_option linter.unusedVariables false
set_option linter.all false
namespace Go.Proofs.YtnbpodjbemfpbaaGreat.Fw
open Go
def maskM (n : Int) : Int := if n = 0 then 0 else IntKind.u32.wrap (4294967295 * 2 ^ (min (32 - n).toNat 32))
def faultM (p : TPrefix) : Int := if p.Len.v < 0 ∨ p.Len.v > 32 then 11 else if bAndNot .u32 p.Addr.v (maskM p.Len.v) = 0 then 0 else 12
def validM (p : TPrefix) : Bool := faultM p == 0
def cmpF (x y : Int) : Fx .i64 := if x < y then ⟨-1, rfl⟩ else if x > y then ⟨1, rfl⟩ else ⟨0, rfl⟩
theorem cmpF_v (x y : Int) : (cmpF x y).v = if x < y then -1 else if x > y then 1 else 0 := by
  unfold cmpF
  split
  · rfl
  · split <;> rfl
def orM : List (Fx .i64) → Fx .i64
  | [] => ⟨0, rfl⟩
  | x :: r => if x.v = 0 then orM r else x
theorem orM_hit {l : List (Fx .i64)} {k : Nat} {e : Fx .i64} (h : l[k]? = some e) (hz : e.v ≠ 0) : orM (l.drop k) = e := by
  obtain ⟨hlt, rfl⟩ := List.getElem?_eq_some_iff.1 h
  rw [List.drop_eq_getElem_cons hlt]
  simp [orM, hz]
theorem orM_miss {l : List (Fx .i64)} {k : Nat} {e : Fx .i64} (h : l[k]? = some e) (hz : e.v = 0) : orM (l.drop k) = orM (l.drop (k + 1)) := by
  obtain ⟨hlt, rfl⟩ := List.getElem?_eq_some_iff.1 h
  rw [List.drop_eq_getElem_cons hlt]
  simp [orM, hz]
theorem orM_end {l : List (Fx .i64)} {k : Nat} (h : ¬ k < l.length) : orM (l.drop k) = ⟨0, rfl⟩ := by
  rw [List.drop_eq_nil_of_le (by omega)]
  rfl
def cmpPrefix (x y : TPrefix) : Fx .i64 := orM [cmpF x.Addr.v y.Addr.v, cmpF x.Len.v y.Len.v]
def macL (x : TMAC) : List (Fx .u8) := [x.b0, x.b1, x.b2, x.b3, x.b4, x.b5]
def cmpRoute (x y : TRoute) : Fx .i64 := cmpPrefix x.Dst y.Dst
def cmpNeigh (x y : TNeigh) : Fx .i64 := cmpF x.IP.v y.IP.v
def cmpFdb (x y : TFdb) : Fx .i64 := cmpBF (macL x.MAC) (macL y.MAC)
/-! binary search -/
section
variable {α : Type}
def bsF (f : α → Int) (l : List α) : Nat → Nat → Nat → Nat
  | 0, i, _ => i
  | n + 1, i, j => if i < j then match l[(i + j) / 2]? with
      | some e => if f e < 0 then bsF f l n ((i + j) / 2 + 1) j else bsF f l n i ((i + j) / 2)
      | none => i
    else i
def bsI (f : α → Int) (l : List α) : Nat := bsF f l l.length 0 l.length
theorem bsF_le (f : α → Int) (l : List α) : ∀ n i j, i ≤ j → j ≤ l.length → bsF f l n i j ≤ l.length ∧ bsF f l n i j ≤ j
  | 0, i, j, h1, h2 => by simp only [bsF]; omega
  | n + 1, i, j, h1, h2 => by
    simp only [bsF]
    by_cases h : i < j
    · rw [if_pos h]
      cases l[(i + j) / 2]? with
      | none => simp only; omega
      | some e =>
        simp only
        split
        · exact bsF_le f l n _ j (by omega) h2
        · have := bsF_le f l n i ((i + j) / 2) (by omega) (by omega)
          omega
    · rw [if_neg h]; omega
theorem bsI_le (f : α → Int) (l : List α) : bsI f l ≤ l.length := (bsF_le f l _ 0 _ (by omega) (by omega)).1
theorem bsF_lt {f : α → Int} {l : List α} {n i j : Nat} {e : α} (h1 : i < j) (h2 : j - i ≤ n) (he : l[(i + j) / 2]? = some e) (hf : f e < 0) : bsF f l (n - 1) ((i + j) / 2 + 1) j = bsF f l n i j := by
  obtain ⟨n, rfl⟩ : ∃ k, n = k + 1 := ⟨n - 1, by omega⟩
  conv => rhs; unfold bsF
  simp [h1, he, hf]
theorem bsF_ge {f : α → Int} {l : List α} {n i j : Nat} {e : α} (h1 : i < j) (h2 : j - i ≤ n) (he : l[(i + j) / 2]? = some e) (hf : ¬ f e < 0) : bsF f l (n - 1) i ((i + j) / 2) = bsF f l n i j := by
  obtain ⟨n, rfl⟩ : ∃ k, n = k + 1 := ⟨n - 1, by omega⟩
  conv => rhs; unfold bsF
  simp [h1, he, hf]
theorem bsF_end {f : α → Int} {l : List α} {n i j : Nat} (h1 : ¬ i < j) : bsF f l n i j = i := by
  cases n with
  | zero => rfl
  | succ n => simp [bsF, h1]
theorem mid_eq {i j : Nat} : Int.fdiv ((i : Int) + (j : Int)) (2 ^ (min (1 : Int).toNat 64)) = (((i + j) / 2 : Nat) : Int) := by
  show Int.fdiv ((i : Int) + (j : Int)) 2 = _
  rw [Int.fdiv_eq_ediv_of_nonneg _ (by omega)]
  omega
def bsHit (c : α → α → Fx .i64) (l : List α) (t : α) : Bool := match l[bsI (fun e => (c e t).v) l]? with
  | some e => (c e t).v == 0
  | none => false
theorem bsHit_eq {c : α → α → Fx .i64} {l : List α} {t z : α} {i : Nat} (h : bsI (fun e => (c e t).v) l = i) : (decide ((i : Int) < (l.length : Int)) && (c ((l[i]?).getD z) t).v == 0) = bsHit c l t := by
  subst h
  unfold bsHit
  cases hl : l[bsI (fun e => (c e t).v) l]? with
  | none =>
    have := List.getElem?_eq_none_iff.1 hl
    simp
    omega
  | some e =>
    have := (List.getElem?_eq_some_iff.1 hl).1
    simp [hl, this]
theorem bsHit_lt {c : α → α → Fx .i64} {l : List α} {t : α} (h : bsHit c l t = true) : bsI (fun e => (c e t).v) l < l.length := by
  unfold bsHit at h
  split at h
  · rename_i e he
    exact (List.getElem?_eq_some_iff.1 he).1
  · cases h
@[irreducible] def setM (c : α → α → Fx .i64) (l : List α) (x : α) : List α :=
  if bsHit c l x then l.set (bsI (fun e => (c e x).v) l) x else l.take (bsI (fun e => (c e x).v) l) ++ [x] ++ l.drop (bsI (fun e => (c e x).v) l)
def getM (c : α → α → Fx .i64) (z : α) (l : List α) (x : α) : α :=
  if bsHit c l x then (l[bsI (fun e => (c e x).v) l]?).getD z else z
def lacksM [DecidableEq α] (c : α → α → Fx .i64) (z : α) (l : List α) (x : α) : Bool := !bsHit c l x || decide (getM c z l x ≠ x)
/-! all below -/
def allK (f : Nat → Bool) (n : Nat) : Bool := (List.range n).all f
theorem allK_succ {f : Nat → Bool} {n : Nat} (h : allK f n = true) (hf : f n = true) : allK f (n + 1) = true := by
  simp only [allK, List.range_succ, List.all_append, List.all_cons, List.all_nil, Bool.and_true, Bool.and_eq_true]
  exact ⟨h, hf⟩
theorem allK_false {f : Nat → Bool} {n k : Nat} (h : k < n) (hf : f k = false) : allK f n = false := by
  simp only [allK, List.all_eq_false, List.mem_range]
  exact ⟨k, h, by simp [hf]⟩
def riseAt (c : α → α → Fx .i64) (l : List α) (i : Nat) : Bool := i == 0 || match l[i - 1]?, l[i]? with
  | some x, some y => decide ((c x y).v < 0)
  | _, _ => true
def risesM (c : α → α → Fx .i64) (l : List α) : Bool := allK (riseAt c l) l.length
end
theorem rise_eq {α : Type} {c : α → α → Fx .i64} {l : List α} {z : α} {k : Nat} (hk : k < l.length) : riseAt c l k = !(decide ((k : Int) > 0) && decide ((c ((l[((k : Int) - 1).toNat]?).getD z) ((l[k]?).getD z)).v ≥ 0)) := by
  unfold riseAt
  cases k with
  | zero => simp
  | succ k =>
    have e : (((k + 1 : Nat) : Int) - 1).toNat = k := by omega
    rw [e]
    have h1 : l[k]? = some l[k] := List.getElem?_eq_getElem (by omega)
    have h2 : l[k + 1]? = some l[k + 1] := List.getElem?_eq_getElem hk
    have h3 : (0 : Int) < ((k + 1 : Nat) : Int) := by omega
    simp [h1, h2]
    by_cases hc : (c l[k] l[k + 1]).v < 0
    · simp [hc]
    · simp [hc]
      omega
theorem rises_f {α : Type} {c : α → α → Fx .i64} {l : List α} {z : α} {k : Nat} (hk : k < l.length) (h : (decide ((k : Int) > 0) && decide ((c ((l[((k : Int) - 1).toNat]?).getD z) ((l[k]?).getD z)).v ≥ 0)) = true) : risesM c l = false :=
  allK_false hk (by rw [rise_eq hk (z := z), h]; rfl)
theorem rise_t {α : Type} {c : α → α → Fx .i64} {l : List α} {z : α} {k : Nat} (hk : k < l.length) (h : (decide ((k : Int) > 0) && decide ((c ((l[((k : Int) - 1).toNat]?).getD z) ((l[k]?).getD z)).v ≥ 0)) = false) : riseAt c l k = true := by
  rw [rise_eq hk (z := z), h]; rfl
/-! two lists, element by element -/
section
variable {α : Type} [DecidableEq α] {x y : List α} {k : Nat}
theorem same_len (h : (x.length : Int) ≠ (y.length : Int)) : false = decide (x = y) := by
  symm
  rw [decide_eq_false_iff_not]
  intro e; subst e; exact h rfl
theorem same_miss {e e' : α} (h1 : x[k]? = some e) (h2 : y[k]? = some e') (h : (!decide (e = e')) = true) : false = decide (x = y) := by
  symm
  rw [decide_eq_false_iff_not]
  intro e; subst e
  rw [h1] at h2
  simp only [Option.some.injEq] at h2
  simp [h2] at h
theorem same_end (h : (x.length : Int) = (y.length : Int)) (hk : x.length ≤ k) (ht : x.take k = y.take k) : true = decide (x = y) := by
  symm
  rw [decide_eq_true_eq]
  rw [List.take_of_length_le hk, List.take_of_length_le (by omega)] at ht
  exact ht
theorem same_next {e e' : α} (ht : x.take k = y.take k) (h1 : x[k]? = some e) (h2 : y[k]? = some e') (h : (!decide (e = e')) = false) : x.take (k + 1) = y.take (k + 1) := by
  have he : e = e' := by simpa using h
  rw [List.take_add_one, List.take_add_one, ht, h1, h2, he]
end
section
variable {α β γ : Type} [DecidableEq α] [DecidableEq β] [DecidableEq γ] {a b : List α} {c d : List β} {e f : List γ}
theorem tabs_f0 (h : (!decide (a = b) || (c.length : Int) != (d.length : Int) || (e.length : Int) != (f.length : Int)) = true) : false = decide (a = b ∧ c = d ∧ e = f) := by
  symm
  rw [decide_eq_false_iff_not]
  rintro ⟨rfl, rfl, rfl⟩
  simp at h
theorem tabs_f1 (h : false = decide (c = d)) : false = decide (a = b ∧ c = d ∧ e = f) := by
  have := of_decide_eq_false h.symm
  simp [this]
theorem tabs_f2 (h : false = decide (e = f)) : false = decide (a = b ∧ c = d ∧ e = f) := by
  have := of_decide_eq_false h.symm
  simp [this]
theorem tabs_t (h : (!decide (a = b) || (c.length : Int) != (d.length : Int) || (e.length : Int) != (f.length : Int)) = false) (h1 : true = decide (c = d)) (h2 : true = decide (e = f)) : true = decide (a = b ∧ c = d ∧ e = f) := by
  have k1 := of_decide_eq_true h1.symm
  have k2 := of_decide_eq_true h2.symm
  simp at h
  simp [k1, k2, h.1]
end
/-! the document's numbers -/
def faultR (p : TPrefix) : Int := if p.Len.v < 0 ∨ p.Len.v > 32 then 11 else if Int.tmod p.Addr.v (2 ^ (32 - p.Len.v).toNat) ≠ 0 then 12 else 0
def validR (p : TPrefix) : Bool := faultR p == 0
def lowerM (p q : TPrefix) : Bool := decide (p.Addr.v < q.Addr.v) || (p.Addr.v == q.Addr.v && decide (p.Len.v < q.Len.v))
@[irreducible] def weightM (m : TMAC) : Int := ((((m.b0.v * 256 + m.b1.v) * 256 + m.b2.v) * 256 + m.b3.v) * 256 + m.b4.v) * 256 + m.b5.v
def zPrefix : TPrefix := ⟨⟨0, rfl⟩, ⟨0, rfl⟩⟩
def zMAC : TMAC := ⟨⟨0, rfl⟩, ⟨0, rfl⟩, ⟨0, rfl⟩, ⟨0, rfl⟩, ⟨0, rfl⟩, ⟨0, rfl⟩⟩
def zRoute : TRoute := ⟨zPrefix, ⟨0, rfl⟩, false⟩
def zNeigh : TNeigh := ⟨⟨0, rfl⟩, zMAC⟩
def zFdb : TFdb := ⟨zMAC, ⟨0, rfl⟩⟩
/-! the document's insertion -/
section
variable {α : Type}
variable {eq lw : α → Bool} {x e : α} {l : List α} {k : Nat} {inn : Bool}
end
/-! plans -/
structure TB where
  R : List TRoute
  N : List TNeigh
  F : List TFdb
def stepA (host : Int) (t : TB) (x : TLease) : TB :=
  if !validM x.Subnet then t else if x.Host.v == host then ⟨setM cmpRoute t.R ⟨x.Subnet, ⟨0, rfl⟩, true⟩, t.N, t.F⟩
  else ⟨setM cmpRoute t.R ⟨x.Subnet, x.Subnet.Addr, false⟩, setM cmpNeigh t.N ⟨x.Subnet.Addr, x.MAC⟩, setM cmpFdb t.F ⟨x.MAC, x.Pub⟩⟩
@[irreducible] def planK (l : List TLease) (host : Int) (k : Nat) : TB := (l.take k).foldl (stepA host) ⟨[], [], []⟩
def planM (l : List TLease) (host : Int) : TB := l.foldl (stepA host) ⟨[], [], []⟩
theorem planK_succ {l : List TLease} {host : Int} {k : Nat} {e : TLease} (h : l[k]? = some e) : planK l host (k + 1) = stepA host (planK l host k) e := by
  unfold planK
  rw [List.take_add_one, h]
  simp
theorem planK_0 {l : List TLease} {host : Int} : planK l host 0 = ⟨[], [], []⟩ := by unfold planK; rfl
section
variable {l : List TLease} {host : Int} {k : Nat} {e : TLease}
theorem planK_inv (h : l[k]? = some e) (hv : (!validM e.Subnet) = true) : planK l host (k + 1) = planK l host k := by
  rw [planK_succ h, stepA, hv]; rfl
theorem planK_loc (h : l[k]? = some e) (hv : (!validM e.Subnet) = false) (hh : (e.Host.v == host) = true) : planK l host (k + 1) = ⟨setM cmpRoute (planK l host k).R ⟨e.Subnet, ⟨0, rfl⟩, true⟩, (planK l host k).N, (planK l host k).F⟩ := by
  rw [planK_succ h, stepA, hv, hh]; rfl
theorem planK_far (h : l[k]? = some e) (hv : (!validM e.Subnet) = false) (hh : (e.Host.v == host) = false) : planK l host (k + 1) = ⟨setM cmpRoute (planK l host k).R ⟨e.Subnet, e.Subnet.Addr, false⟩, setM cmpNeigh (planK l host k).N ⟨e.Subnet.Addr, e.MAC⟩, setM cmpFdb (planK l host k).F ⟨e.MAC, e.Pub⟩⟩ := by
  rw [planK_succ h, stepA, hv, hh]; rfl
end
theorem planK_end {l : List TLease} {host : Int} {k : Nat} (h : l.length ≤ k) : planK l host k = planM l host := by
  unfold planK planM
  rw [List.take_of_length_le h]
theorem setM_len {α : Type} (c : α → α → Fx .i64) (l : List α) (x : α) : (setM c l x).length ≤ l.length + 1 := by
  unfold setM
  have := bsI_le (fun e => (c e x).v) l
  split <;> simp <;> omega
theorem stepA_len (host : Int) (t : TB) (x : TLease) : (stepA host t x).R.length ≤ t.R.length + 1 ∧ (stepA host t x).N.length ≤ t.N.length + 1 ∧ (stepA host t x).F.length ≤ t.F.length + 1 := by
  unfold stepA
  split
  · exact ⟨by omega, by omega, by omega⟩
  · split
    · exact ⟨setM_len _ _ _, Nat.le_succ _, Nat.le_succ _⟩
    · exact ⟨setM_len _ _ _, setM_len _ _ _, setM_len _ _ _⟩
theorem fold_len {f : TB → TLease → TB} (hf : ∀ t x, (f t x).R.length ≤ t.R.length + 1 ∧ (f t x).N.length ≤ t.N.length + 1 ∧ (f t x).F.length ≤ t.F.length + 1) : ∀ (l : List TLease) (t : TB), (l.foldl f t).R.length ≤ t.R.length + l.length ∧ (l.foldl f t).N.length ≤ t.N.length + l.length ∧ (l.foldl f t).F.length ≤ t.F.length + l.length
  | [], t => by simp
  | x :: l, t => by
    have h1 := hf t x
    have h2 := fold_len hf l (f t x)
    simp only [List.foldl_cons, List.length_cons]
    omega
theorem planK_len (l : List TLease) (host : Int) (k : Nat) : (planK l host k).R.length ≤ l.length ∧ (planK l host k).N.length ≤ l.length ∧ (planK l host k).F.length ≤ l.length := by
  have := fold_len (stepA_len host) (l.take k) ⟨[], [], []⟩
  unfold planK
  simp at this
  omega
section
variable {l : List TLease} {host : Int} {k : Nat} {e : TLease}
end
end Go.Proofs.YtnbpodjbemfpbaaGreat.Fw
