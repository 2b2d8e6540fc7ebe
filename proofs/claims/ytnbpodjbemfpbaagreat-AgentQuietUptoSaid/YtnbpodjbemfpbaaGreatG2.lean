/-
  Own work: walks and laws, joined by wip/tool/compact.py.
-/
import Derived.Test.YtnbpodjbemfpbaaGreatG1
import Derived.KernelRfl
set_option linter.all false
set_option linter.unusedVariables false
set_option linter.all false
namespace Go.Proofs.YtnbpodjbemfpbaaGreat.Fw
open Go
def maskM (n : Int) : Int := if n = 0 then 0 else IntKind.u32.wrap (4294967295 * 2 ^ (min (32 - n).toNat 32))
def faultM (p : TPrefix) : Int := if p.Len.v < 0 ∨ p.Len.v > 32 then 11 else if bAndNot .u32 p.Addr.v (maskM p.Len.v) = 0 then 0 else 12
def validM (p : TPrefix) : Bool := faultM p == 0
def cmpF (x y : Int) : Fx .i64 := if x < y then ⟨-1, rfl⟩ else if x > y then ⟨1, rfl⟩ else ⟨0, rfl⟩
theorem cmpF_v (x y : Int) : (cmpF x y).v = if x < y then -1 else if x > y then 1 else 0 := by
  unfold cmpF
  split
  · rfl
  · split <;> rfl
def orM : List (Fx .i64) → Fx .i64
  | [] => ⟨0, rfl⟩
  | x :: r => if x.v = 0 then orM r else x
theorem orM_hit {l : List (Fx .i64)} {k : Nat} {e : Fx .i64} (h : l[k]? = some e) (hz : e.v ≠ 0) : orM (l.drop k) = e := by
  obtain ⟨hlt, rfl⟩ := List.getElem?_eq_some_iff.1 h
  rw [List.drop_eq_getElem_cons hlt]
  simp [orM, hz]
theorem orM_miss {l : List (Fx .i64)} {k : Nat} {e : Fx .i64} (h : l[k]? = some e) (hz : e.v = 0) : orM (l.drop k) = orM (l.drop (k + 1)) := by
  obtain ⟨hlt, rfl⟩ := List.getElem?_eq_some_iff.1 h
  rw [List.drop_eq_getElem_cons hlt]
  simp [orM, hz]
theorem orM_end {l : List (Fx .i64)} {k : Nat} (h : ¬ k < l.length) : orM (l.drop k) = ⟨0, rfl⟩ := by
  rw [List.drop_eq_nil_of_le (by omega)]
  rfl
def cmpPrefix (x y : TPrefix) : Fx .i64 := orM [cmpF x.Addr.v y.Addr.v, cmpF x.Len.v y.Len.v]
def macL (x : TMAC) : List (Fx .u8) := [x.b0, x.b1, x.b2, x.b3, x.b4, x.b5]
def cmpRoute (x y : TRoute) : Fx .i64 := cmpPrefix x.Dst y.Dst
def cmpNeigh (x y : TNeigh) : Fx .i64 := cmpF x.IP.v y.IP.v
def cmpFdb (x y : TFdb) : Fx .i64 := cmpBF (macL x.MAC) (macL y.MAC)
def cmpLease (x y : TLease) : Fx .i64 := cmpPrefix x.Subnet y.Subnet
/-! binary search -/
section
variable {α : Type}
def bsF (f : α → Int) (l : List α) : Nat → Nat → Nat → Nat
  | 0, i, _ => i
  | n + 1, i, j => if i < j then match l[(i + j) / 2]? with
      | some e => if f e < 0 then bsF f l n ((i + j) / 2 + 1) j else bsF f l n i ((i + j) / 2)
      | none => i
    else i
def bsI (f : α → Int) (l : List α) : Nat := bsF f l l.length 0 l.length
theorem bsF_le (f : α → Int) (l : List α) : ∀ n i j, i ≤ j → j ≤ l.length → bsF f l n i j ≤ l.length ∧ bsF f l n i j ≤ j
  | 0, i, j, h1, h2 => by simp only [bsF]; omega
  | n + 1, i, j, h1, h2 => by
    simp only [bsF]
    by_cases h : i < j
    · rw [if_pos h]
      cases l[(i + j) / 2]? with
      | none => simp only; omega
      | some e =>
        simp only
        split
        · exact bsF_le f l n _ j (by omega) h2
        · have := bsF_le f l n i ((i + j) / 2) (by omega) (by omega)
          omega
    · rw [if_neg h]; omega
theorem bsI_le (f : α → Int) (l : List α) : bsI f l ≤ l.length := (bsF_le f l _ 0 _ (by omega) (by omega)).1
theorem bsF_lt {f : α → Int} {l : List α} {n i j : Nat} {e : α} (h1 : i < j) (h2 : j - i ≤ n) (he : l[(i + j) / 2]? = some e) (hf : f e < 0) : bsF f l (n - 1) ((i + j) / 2 + 1) j = bsF f l n i j := by
  obtain ⟨n, rfl⟩ : ∃ k, n = k + 1 := ⟨n - 1, by omega⟩
  conv => rhs; unfold bsF
  simp [h1, he, hf]
theorem bsF_ge {f : α → Int} {l : List α} {n i j : Nat} {e : α} (h1 : i < j) (h2 : j - i ≤ n) (he : l[(i + j) / 2]? = some e) (hf : ¬ f e < 0) : bsF f l (n - 1) i ((i + j) / 2) = bsF f l n i j := by
  obtain ⟨n, rfl⟩ : ∃ k, n = k + 1 := ⟨n - 1, by omega⟩
  conv => rhs; unfold bsF
  simp [h1, he, hf]
theorem bsF_end {f : α → Int} {l : List α} {n i j : Nat} (h1 : ¬ i < j) : bsF f l n i j = i := by
  cases n with
  | zero => rfl
  | succ n => simp [bsF, h1]
theorem mid_eq {i j : Nat} : Int.fdiv ((i : Int) + (j : Int)) (2 ^ (min (1 : Int).toNat 64)) = (((i + j) / 2 : Nat) : Int) := by
  show Int.fdiv ((i : Int) + (j : Int)) 2 = _
  rw [Int.fdiv_eq_ediv_of_nonneg _ (by omega)]
  omega
def bsHit (c : α → α → Fx .i64) (l : List α) (t : α) : Bool := match l[bsI (fun e => (c e t).v) l]? with
  | some e => (c e t).v == 0
  | none => false
theorem bsHit_eq {c : α → α → Fx .i64} {l : List α} {t z : α} {i : Nat} (h : bsI (fun e => (c e t).v) l = i) : (decide ((i : Int) < (l.length : Int)) && (c ((l[i]?).getD z) t).v == 0) = bsHit c l t := by
  subst h
  unfold bsHit
  cases hl : l[bsI (fun e => (c e t).v) l]? with
  | none =>
    have := List.getElem?_eq_none_iff.1 hl
    simp
    omega
  | some e =>
    have := (List.getElem?_eq_some_iff.1 hl).1
    simp [hl, this]
theorem bsHit_lt {c : α → α → Fx .i64} {l : List α} {t : α} (h : bsHit c l t = true) : bsI (fun e => (c e t).v) l < l.length := by
  unfold bsHit at h
  split at h
  · rename_i e he
    exact (List.getElem?_eq_some_iff.1 he).1
  · cases h
@[irreducible] def setM (c : α → α → Fx .i64) (l : List α) (x : α) : List α :=
  if bsHit c l x then l.set (bsI (fun e => (c e x).v) l) x else l.take (bsI (fun e => (c e x).v) l) ++ [x] ++ l.drop (bsI (fun e => (c e x).v) l)
def unsetM (c : α → α → Fx .i64) (l : List α) (x : α) : List α :=
  if bsHit c l x then l.take (bsI (fun e => (c e x).v) l) ++ l.drop (bsI (fun e => (c e x).v) l + 1) else l
def getM (c : α → α → Fx .i64) (z : α) (l : List α) (x : α) : α :=
  if bsHit c l x then (l[bsI (fun e => (c e x).v) l]?).getD z else z
def lacksM [DecidableEq α] (c : α → α → Fx .i64) (z : α) (l : List α) (x : α) : Bool := !bsHit c l x || decide (getM c z l x ≠ x)
/-! all below -/
def allK (f : Nat → Bool) (n : Nat) : Bool := (List.range n).all f
theorem allK_succ {f : Nat → Bool} {n : Nat} (h : allK f n = true) (hf : f n = true) : allK f (n + 1) = true := by
  simp only [allK, List.range_succ, List.all_append, List.all_cons, List.all_nil, Bool.and_true, Bool.and_eq_true]
  exact ⟨h, hf⟩
theorem allK_false {f : Nat → Bool} {n k : Nat} (h : k < n) (hf : f k = false) : allK f n = false := by
  simp only [allK, List.all_eq_false, List.mem_range]
  exact ⟨k, h, by simp [hf]⟩
def riseAt (c : α → α → Fx .i64) (l : List α) (i : Nat) : Bool := i == 0 || match l[i - 1]?, l[i]? with
  | some x, some y => decide ((c x y).v < 0)
  | _, _ => true
def risesM (c : α → α → Fx .i64) (l : List α) : Bool := allK (riseAt c l) l.length
end
theorem rise_eq {α : Type} {c : α → α → Fx .i64} {l : List α} {z : α} {k : Nat} (hk : k < l.length) : riseAt c l k = !(decide ((k : Int) > 0) && decide ((c ((l[((k : Int) - 1).toNat]?).getD z) ((l[k]?).getD z)).v ≥ 0)) := by
  unfold riseAt
  cases k with
  | zero => simp
  | succ k =>
    have e : (((k + 1 : Nat) : Int) - 1).toNat = k := by omega
    rw [e]
    have h1 : l[k]? = some l[k] := List.getElem?_eq_getElem (by omega)
    have h2 : l[k + 1]? = some l[k + 1] := List.getElem?_eq_getElem hk
    have h3 : (0 : Int) < ((k + 1 : Nat) : Int) := by omega
    simp [h1, h2]
    by_cases hc : (c l[k] l[k + 1]).v < 0
    · simp [hc]
    · simp [hc]
      omega
theorem rises_f {α : Type} {c : α → α → Fx .i64} {l : List α} {z : α} {k : Nat} (hk : k < l.length) (h : (decide ((k : Int) > 0) && decide ((c ((l[((k : Int) - 1).toNat]?).getD z) ((l[k]?).getD z)).v ≥ 0)) = true) : risesM c l = false :=
  allK_false hk (by rw [rise_eq hk (z := z), h]; rfl)
theorem rise_t {α : Type} {c : α → α → Fx .i64} {l : List α} {z : α} {k : Nat} (hk : k < l.length) (h : (decide ((k : Int) > 0) && decide ((c ((l[((k : Int) - 1).toNat]?).getD z) ((l[k]?).getD z)).v ≥ 0)) = false) : riseAt c l k = true := by
  rw [rise_eq hk (z := z), h]; rfl
/-! two lists, element by element -/
section
variable {α : Type} [DecidableEq α] {x y : List α} {k : Nat}
theorem same_len (h : (x.length : Int) ≠ (y.length : Int)) : false = decide (x = y) := by
  symm
  rw [decide_eq_false_iff_not]
  intro e; subst e; exact h rfl
theorem same_miss {e e' : α} (h1 : x[k]? = some e) (h2 : y[k]? = some e') (h : (!decide (e = e')) = true) : false = decide (x = y) := by
  symm
  rw [decide_eq_false_iff_not]
  intro e; subst e
  rw [h1] at h2
  simp only [Option.some.injEq] at h2
  simp [h2] at h
theorem same_end (h : (x.length : Int) = (y.length : Int)) (hk : x.length ≤ k) (ht : x.take k = y.take k) : true = decide (x = y) := by
  symm
  rw [decide_eq_true_eq]
  rw [List.take_of_length_le hk, List.take_of_length_le (by omega)] at ht
  exact ht
theorem same_next {e e' : α} (ht : x.take k = y.take k) (h1 : x[k]? = some e) (h2 : y[k]? = some e') (h : (!decide (e = e')) = false) : x.take (k + 1) = y.take (k + 1) := by
  have he : e = e' := by simpa using h
  rw [List.take_add_one, List.take_add_one, ht, h1, h2, he]
end
section
variable {α β γ : Type} [DecidableEq α] [DecidableEq β] [DecidableEq γ] {a b : List α} {c d : List β} {e f : List γ}
theorem tabs_f0 (h : (!decide (a = b) || (c.length : Int) != (d.length : Int) || (e.length : Int) != (f.length : Int)) = true) : false = decide (a = b ∧ c = d ∧ e = f) := by
  symm
  rw [decide_eq_false_iff_not]
  rintro ⟨rfl, rfl, rfl⟩
  simp at h
theorem tabs_f1 (h : false = decide (c = d)) : false = decide (a = b ∧ c = d ∧ e = f) := by
  have := of_decide_eq_false h.symm
  simp [this]
theorem tabs_f2 (h : false = decide (e = f)) : false = decide (a = b ∧ c = d ∧ e = f) := by
  have := of_decide_eq_false h.symm
  simp [this]
theorem tabs_t (h : (!decide (a = b) || (c.length : Int) != (d.length : Int) || (e.length : Int) != (f.length : Int)) = false) (h1 : true = decide (c = d)) (h2 : true = decide (e = f)) : true = decide (a = b ∧ c = d ∧ e = f) := by
  have k1 := of_decide_eq_true h1.symm
  have k2 := of_decide_eq_true h2.symm
  simp at h
  simp [k1, k2, h.1]
end
/-! the document's numbers -/
def zPrefix : TPrefix := ⟨⟨0, rfl⟩, ⟨0, rfl⟩⟩
def zMAC : TMAC := ⟨⟨0, rfl⟩, ⟨0, rfl⟩, ⟨0, rfl⟩, ⟨0, rfl⟩, ⟨0, rfl⟩, ⟨0, rfl⟩⟩
def zRoute : TRoute := ⟨zPrefix, ⟨0, rfl⟩, false⟩
def zNeigh : TNeigh := ⟨⟨0, rfl⟩, zMAC⟩
def zFdb : TFdb := ⟨zMAC, ⟨0, rfl⟩⟩
/-! the document's insertion -/
section
variable {α : Type}
variable {eq lw : α → Bool} {x e : α} {l : List α} {k : Nat} {inn : Bool}
end
/-! plans -/
structure TB where
  R : List TRoute
  N : List TNeigh
  F : List TFdb
def stepA (host : Int) (t : TB) (x : TLease) : TB :=
  if !validM x.Subnet then t else if x.Host.v == host then ⟨setM cmpRoute t.R ⟨x.Subnet, ⟨0, rfl⟩, true⟩, t.N, t.F⟩
  else ⟨setM cmpRoute t.R ⟨x.Subnet, x.Subnet.Addr, false⟩, setM cmpNeigh t.N ⟨x.Subnet.Addr, x.MAC⟩, setM cmpFdb t.F ⟨x.MAC, x.Pub⟩⟩
@[irreducible] def planK (l : List TLease) (host : Int) (k : Nat) : TB := (l.take k).foldl (stepA host) ⟨[], [], []⟩
def planM (l : List TLease) (host : Int) : TB := l.foldl (stepA host) ⟨[], [], []⟩
theorem planK_succ {l : List TLease} {host : Int} {k : Nat} {e : TLease} (h : l[k]? = some e) : planK l host (k + 1) = stepA host (planK l host k) e := by
  unfold planK
  rw [List.take_add_one, h]
  simp
theorem planK_0 {l : List TLease} {host : Int} : planK l host 0 = ⟨[], [], []⟩ := by unfold planK; rfl
section
variable {l : List TLease} {host : Int} {k : Nat} {e : TLease}
theorem planK_inv (h : l[k]? = some e) (hv : (!validM e.Subnet) = true) : planK l host (k + 1) = planK l host k := by
  rw [planK_succ h, stepA, hv]; rfl
theorem planK_loc (h : l[k]? = some e) (hv : (!validM e.Subnet) = false) (hh : (e.Host.v == host) = true) : planK l host (k + 1) = ⟨setM cmpRoute (planK l host k).R ⟨e.Subnet, ⟨0, rfl⟩, true⟩, (planK l host k).N, (planK l host k).F⟩ := by
  rw [planK_succ h, stepA, hv, hh]; rfl
theorem planK_far (h : l[k]? = some e) (hv : (!validM e.Subnet) = false) (hh : (e.Host.v == host) = false) : planK l host (k + 1) = ⟨setM cmpRoute (planK l host k).R ⟨e.Subnet, e.Subnet.Addr, false⟩, setM cmpNeigh (planK l host k).N ⟨e.Subnet.Addr, e.MAC⟩, setM cmpFdb (planK l host k).F ⟨e.MAC, e.Pub⟩⟩ := by
  rw [planK_succ h, stepA, hv, hh]; rfl
end
theorem planK_end {l : List TLease} {host : Int} {k : Nat} (h : l.length ≤ k) : planK l host k = planM l host := by
  unfold planK planM
  rw [List.take_of_length_le h]
theorem setM_len {α : Type} (c : α → α → Fx .i64) (l : List α) (x : α) : (setM c l x).length ≤ l.length + 1 := by
  unfold setM
  have := bsI_le (fun e => (c e x).v) l
  split <;> simp <;> omega
theorem stepA_len (host : Int) (t : TB) (x : TLease) : (stepA host t x).R.length ≤ t.R.length + 1 ∧ (stepA host t x).N.length ≤ t.N.length + 1 ∧ (stepA host t x).F.length ≤ t.F.length + 1 := by
  unfold stepA
  split
  · exact ⟨by omega, by omega, by omega⟩
  · split
    · exact ⟨setM_len _ _ _, Nat.le_succ _, Nat.le_succ _⟩
    · exact ⟨setM_len _ _ _, setM_len _ _ _, setM_len _ _ _⟩
theorem fold_len {f : TB → TLease → TB} (hf : ∀ t x, (f t x).R.length ≤ t.R.length + 1 ∧ (f t x).N.length ≤ t.N.length + 1 ∧ (f t x).F.length ≤ t.F.length + 1) : ∀ (l : List TLease) (t : TB), (l.foldl f t).R.length ≤ t.R.length + l.length ∧ (l.foldl f t).N.length ≤ t.N.length + l.length ∧ (l.foldl f t).F.length ≤ t.F.length + l.length
  | [], t => by simp
  | x :: l, t => by
    have h1 := hf t x
    have h2 := fold_len hf l (f t x)
    simp only [List.foldl_cons, List.length_cons]
    omega
theorem planK_len (l : List TLease) (host : Int) (k : Nat) : (planK l host k).R.length ≤ l.length ∧ (planK l host k).N.length ≤ l.length ∧ (planK l host k).F.length ≤ l.length := by
  have := fold_len (stepA_len host) (l.take k) ⟨[], [], []⟩
  unfold planK
  simp at this
  omega
section
variable {l : List TLease} {host : Int} {k : Nat} {e : TLease}
end
end Go.Proofs.YtnbpodjbemfpbaaGreat.Fw
set_option linter.all false
namespace Go.Proofs.YtnbpodjbemfpbaaGreat.Fw
open Go
/-! keyed lists -/
structure KO (κ : Type) [DecidableEq κ] (lt : κ → κ → Bool) : Prop where
  irr : ∀ a, lt a a = false
  tr : ∀ a b c, lt a b = true → lt b c = true → lt a c = true
  tri : ∀ a b, lt a b = false → lt b a = false → a = b
section
variable {α κ : Type} [DecidableEq κ] {lt : κ → κ → Bool} (O : KO κ lt) (key : α → κ)
def put (lt : κ → κ → Bool) (key : α → κ) (x : α) : List α → List α
  | [] => [x]
  | e :: r => if lt (key x) (key e) then x :: e :: r else if key e = key x then x :: r else e :: put lt key x r
include O in
include O in
include O in
include O in
include O in
include O in
include O in
/-! the program's set -/
include O in
end
/-! the keys -/
end Go.Proofs.YtnbpodjbemfpbaaGreat.Fw
set_option linter.all false
set_option maxRecDepth 100000
namespace Go.Proofs.YtnbpodjbemfpbaaGreat.Fw
open Go
/-! valid prefixes -/
/-! the plan -/
section
variable (host : Int)
end
end Go.Proofs.YtnbpodjbemfpbaaGreat.Fw
set_option linter.all false
namespace Go.Proofs.YtnbpodjbemfpbaaGreat.Fw
open Go
def validAt (l : List TRoute) (i : Nat) : Bool := match l[i]? with
  | some r => validM r.Dst
  | none => true
theorem validAt_t {l : List TRoute} {k : Nat} {e : TRoute} (h : l[k]? = some e) (hv : (!validM e.Dst) = false) : validAt l k = true := by
  simp only [validAt, h]
  simpa using hv
def inOrderM (r : List TRoute) (n : List TNeigh) (f : List TFdb) : Bool := allK (validAt r) r.length && (risesM cmpRoute r && risesM cmpNeigh n && risesM cmpFdb f)
theorem inOrder_f {r : List TRoute} {n : List TNeigh} {f : List TFdb} {k : Nat} {e : TRoute} (hk : k < r.length) (h : r[k]? = some e) (hv : (!validM e.Dst) = true) : false = inOrderM r n f := by
  have : validAt r k = false := by
    simp only [validAt, h]
    simpa using hv
  simp [inOrderM, allK_false hk this]
theorem inOrder_t {r : List TRoute} {n : List TNeigh} {f : List TFdb} {k : Nat} (hk : r.length ≤ k ∧ k ≤ r.length) (h : allK (validAt r) k = true) : (risesM cmpRoute r && risesM cmpNeigh n && risesM cmpFdb f) = inOrderM r n f := by
  have : r.length = k := by omega
  subst this
  simp [inOrderM, h]
def wayM (n : List TNeigh) (f : List TFdb) (r : TRoute) : Tagent_way :=
  if bsHit cmpNeigh n ⟨r.Via, zMAC⟩ then
    ⟨true, bsHit cmpFdb f ⟨(getM cmpNeigh zNeigh n ⟨r.Via, zMAC⟩).MAC, ⟨0, rfl⟩⟩, (getM cmpNeigh zNeigh n ⟨r.Via, zMAC⟩).MAC, (getM cmpFdb zFdb f ⟨(getM cmpNeigh zNeigh n ⟨r.Via, zMAC⟩).MAC, ⟨0, rfl⟩⟩).To⟩
  else ⟨false, false, zMAC, ⟨0, rfl⟩⟩
theorem wayM_f {n : List TNeigh} {f : List TFdb} {r : TRoute} (h : (!bsHit cmpNeigh n ⟨r.Via, zMAC⟩) = true) : (⟨false, false, zMAC, ⟨0, rfl⟩⟩ : Tagent_way) = wayM n f r := by
  have : bsHit cmpNeigh n ⟨r.Via, zMAC⟩ = false := by simpa using h
  simp [wayM, this]
theorem wayM_t {n : List TNeigh} {f : List TFdb} {r : TRoute} (h : (!bsHit cmpNeigh n ⟨r.Via, zMAC⟩) = false) : (⟨true, bsHit cmpFdb f ⟨(getM cmpNeigh zNeigh n ⟨r.Via, zMAC⟩).MAC, ⟨0, rfl⟩⟩, (getM cmpNeigh zNeigh n ⟨r.Via, zMAC⟩).MAC, (getM cmpFdb zFdb f ⟨(getM cmpNeigh zNeigh n ⟨r.Via, zMAC⟩).MAC, ⟨0, rfl⟩⟩).To⟩ : Tagent_way) = wayM n f r := by
  have : bsHit cmpNeigh n ⟨r.Via, zMAC⟩ = true := by simpa using h
  simp [wayM, this]
def staysM (n1 : List TNeigh) (f1 : List TFdb) (r2 : List TRoute) (n2 : List TNeigh) (f2 : List TFdb) (r : TRoute) : Bool :=
  bsHit cmpRoute r2 r && decide (getM cmpRoute zRoute r2 r = r) && (r.Local || decide (wayM n1 f1 r = wayM n2 f2 r))
/-! the changes -/
def pickM {α : Type} (p : α → Bool) (g : α → TOp) (l : List α) : List TOp := l.filterMap fun e => if p e then some (g e) else none
section
variable {α : Type} {p : α → Bool} {g : α → TOp} {l : List α} {k : Nat} {e : α} {A : List TOp}
theorem pickM_0 : A ++ pickM p g (l.take 0) = A := by simp [pickM]
theorem pickM_t (h : l[k]? = some e) (hp : p e = true) : A ++ pickM p g (l.take k) ++ [g e] = A ++ pickM p g (l.take (k + 1)) := by
  rw [List.take_add_one, h]
  simp [pickM, List.filterMap_append, hp]
theorem pickM_f (h : l[k]? = some e) (hp : p e = false) : A ++ pickM p g (l.take k) = A ++ pickM p g (l.take (k + 1)) := by
  rw [List.take_add_one, h]
  simp [pickM, List.filterMap_append, hp]
theorem pickM_add : (A ++ pickM p g (l.take (k + 1))).length ≤ (A ++ pickM p g (l.take k)).length + 1 := by
  cases h : l[k]? with
  | none =>
    rw [List.take_add_one, h]
    simp
  | some e =>
    cases hp : p e with
    | true => rw [← pickM_t h hp]; simp; omega
    | false => rw [← pickM_f h hp]; omega
end
def delR (r : TRoute) : TOp := ⟨⟨2, rfl⟩, r, zNeigh, zFdb⟩
def delN (x : TNeigh) : TOp := ⟨⟨4, rfl⟩, zRoute, x, zFdb⟩
def delF (x : TFdb) : TOp := ⟨⟨6, rfl⟩, zRoute, zNeigh, x⟩
def putF (x : TFdb) : TOp := ⟨⟨5, rfl⟩, zRoute, zNeigh, x⟩
def putNe (x : TNeigh) : TOp := ⟨⟨3, rfl⟩, zRoute, x, zFdb⟩
def putR (r : TRoute) : TOp := ⟨⟨1, rfl⟩, r, zNeigh, zFdb⟩
def diffL (r1 : List TRoute) (n1 : List TNeigh) (f1 : List TFdb) (r2 : List TRoute) (n2 : List TNeigh) (f2 : List TFdb) : List TOp :=
  pickM (fun e => (e.Local == true) && !staysM n1 f1 r2 n2 f2 e) delR r1 ++ pickM (fun e => (e.Local == false) && !staysM n1 f1 r2 n2 f2 e) delR r1 ++ pickM (fun e => lacksM cmpNeigh zNeigh n2 e) delN n1 ++ pickM (fun e => lacksM cmpFdb zFdb f2 e) delF f1
    ++ pickM (fun e => lacksM cmpFdb zFdb f1 e) putF f2 ++ pickM (fun e => lacksM cmpNeigh zNeigh n1 e) putNe n2 ++ pickM (fun e => lacksM cmpRoute zRoute r1 e || !staysM n1 f1 r2 n2 f2 e) putR r2
def diffBad (r1 : List TRoute) (n1 : List TNeigh) (f1 : List TFdb) (r2 : List TRoute) (n2 : List TNeigh) (f2 : List TFdb) : Bool := !inOrderM r1 n1 f1 || !inOrderM r2 n2 f2
def diffM (r1 : List TRoute) (n1 : List TNeigh) (f1 : List TFdb) (r2 : List TRoute) (n2 : List TNeigh) (f2 : List TFdb) : List TOp := if diffBad r1 n1 f1 r2 n2 f2 then [] else diffL r1 n1 f1 r2 n2 f2
def diffE (r1 : List TRoute) (n1 : List TNeigh) (f1 : List TFdb) (r2 : List TRoute) (n2 : List TNeigh) (f2 : List TFdb) : Int := if diffBad r1 n1 f1 r2 n2 f2 then 161 else 0
end Go.Proofs.YtnbpodjbemfpbaaGreat.Fw
set_option linter.all false
namespace Go.Proofs.YtnbpodjbemfpbaaGreat.Fw
open Go
/-! order -/
section
variable {α κ : Type} [DecidableEq κ] {lt : κ → κ → Bool} (O : KO κ lt) (key : α → κ)
include O in
include O in
include O in
include O in
include O in
include O in
include O in
end
/-! the document's order -/
/-! the way -/
def zWay : Tweftref16_Way := ⟨zNeigh, zFdb, ⟨0, rfl⟩⟩
def stepWN (r : TRoute) (w : Tweftref16_Way) (e : TNeigh) : Tweftref16_Way := if e.IP.v == r.Via.v then ⟨e, w.F, ⟨1, rfl⟩⟩ else w
def stepWF (w : Tweftref16_Way) (e : TFdb) : Tweftref16_Way := if e.MAC = w.N.MAC then ⟨w.N, e, ⟨2, rfl⟩⟩ else w
@[irreducible] def wayNK (r : TRoute) (n : List TNeigh) : Tweftref16_Way := n.foldl (stepWN r) zWay
@[irreducible] def wayFK (w : Tweftref16_Way) (f : List TFdb) : Tweftref16_Way := f.foldl stepWF w
def wayRM (n : List TNeigh) (f : List TFdb) (r : TRoute) : Tweftref16_Way := if (wayNK r n).Count.v == 0 then wayNK r n else wayFK (wayNK r n) f
section
variable {r : TRoute} {n : List TNeigh} {f : List TFdb} {w : Tweftref16_Way} {k : Nat} {x : TNeigh} {y : TFdb}
end
section
variable {n : List TNeigh} {f : List TFdb} {r : TRoute} {k : Nat}
end
def staysR (n1 : List TNeigh) (f1 : List TFdb) (r2 : List TRoute) (n2 : List TNeigh) (f2 : List TFdb) (r : TRoute) : Bool := decide (r ∈ r2) && (r.Local || decide (wayRM n1 f1 r = wayRM n2 f2 r))
/-! the walks' words -/
section
variable {r1 r2 : List TRoute} {n1 n2 : List TNeigh} {f1 f2 : List TFdb} {k : Nat}
theorem diffM_bad (h : (!inOrderM r1 n1 f1 || !inOrderM r2 n2 f2) = true) : ([] : List TOp) = diffM r1 n1 f1 r2 n2 f2 := by
  unfold diffM diffBad; rw [h]; rfl
theorem diffE_bad (h : (!inOrderM r1 n1 f1 || !inOrderM r2 n2 f2) = true) : (161 : Int) = diffE r1 n1 f1 r2 n2 f2 := by
  unfold diffE diffBad; rw [h]; rfl
theorem diffE_ok (h : (!inOrderM r1 n1 f1 || !inOrderM r2 n2 f2) = false) : (0 : Int) = diffE r1 n1 f1 r2 n2 f2 := by
  unfold diffE diffBad; rw [h]; rfl
theorem diffM_ok (h : (!inOrderM r1 n1 f1 || !inOrderM r2 n2 f2) = false) (hk : r2.length ≤ k) :
    ([] : List TOp) ++ pickM (fun e => (e.Local == true) && !staysM n1 f1 r2 n2 f2 e) delR r1 ++ pickM (fun e => (e.Local == false) && !staysM n1 f1 r2 n2 f2 e) delR r1 ++ pickM (fun e => lacksM cmpNeigh zNeigh n2 e) delN n1 ++ pickM (fun e => lacksM cmpFdb zFdb f2 e) delF f1
    ++ pickM (fun e => lacksM cmpFdb zFdb f1 e) putF f2 ++ pickM (fun e => lacksM cmpNeigh zNeigh n1 e) putNe n2 ++ pickM (fun e => lacksM cmpRoute zRoute r1 e || !staysM n1 f1 r2 n2 f2 e) putR (r2.take k) = diffM r1 n1 f1 r2 n2 f2 := by
  unfold diffM diffBad; rw [h, List.take_of_length_le hk]; rfl
end
section
variable {α : Type} [DecidableEq α] {l : List α} {k : Nat} {e q : α}
end
section
variable {r : List TRoute} {n : List TNeigh} {f : List TFdb} {k : Nat} {e e' : TRoute} {x x' : TNeigh} {y y' : TFdb}
end
/-! marks behind lists -/
section
variable {α : Type} {mk : Fx .u32 → α} {l : List α} {k : Nat}
end
end Go.Proofs.YtnbpodjbemfpbaaGreat.Fw
set_option linter.all false
namespace Go.Proofs.YtnbpodjbemfpbaaGreat.Fw
open Go
/-! tables made of lists -/
section
variable {α κ : Type} [DecidableEq κ] {lt : κ → κ → Bool} (O : KO κ lt) (key : α → κ)
include O in
include O in
include O in
include O in
end
/-! the plan «as» tables -/
/-! the last lease of a key -/
theorem planM_len (l : List TLease) (host : Int) : (planM l host).R.length ≤ l.length ∧ (planM l host).N.length ≤ l.length ∧ (planM l host).F.length ≤ l.length := by
  have h := planK_len l host l.length
  rw [planK_end (Nat.le_refl _)] at h
  exact h
/-! the walk's words -/
section
variable {l : List TLease} {host : Int} {x e : TLease} {p : TLease → Bool} {i j k k4 : Nat} {b b0 c : Bool} {N : List TNeigh} {F : List TFdb} {cr cn cn4 : Int}
end
section
variable {α : Type} {l : List α} {p : α → Bool} {k : Nat} {e : α}
theorem all_take_succ (h : l[k]? = some e) : (l.take (k + 1)).all p = ((l.take k).all p && p e) := by
  rw [List.take_add_one, h]
  simp
theorem all_false (h : l[k]? = some e) (hp : p e = false) : l.all p = false := by
  rw [List.all_eq_false]
  exact ⟨e, List.mem_of_getElem? h, by simp [hp]⟩
end
end Go.Proofs.YtnbpodjbemfpbaaGreat.Fw
set_option linter.all false
namespace Go.Proofs.YtnbpodjbemfpbaaGreat.Fw
open Go
/-! a list behind a change -/
section
variable {α κ : Type} [DecidableEq κ] {lt : κ → κ → Bool} (O : KO κ lt) (key : α → κ)
include O in
include O in
include O in
include O in
include O in
end
/-! picked lists -/
section
variable {α : Type} {p q : α → Bool} {g : α → TOp}
variable {κ : Type} [DecidableEq κ] {lt : κ → κ → Bool} (O : KO κ lt) (key : α → κ)
include O in
include O in
end
/-! ways -/
def stT (t w : TB) (r : TRoute) : Bool := staysR t.N t.F w.R w.N w.F r
def g1 (t w : TB) : List TOp := pickM (fun e => !stT t w e && (e.Local == true)) delR t.R
def g2 (t w : TB) : List TOp := pickM (fun e => !stT t w e && (e.Local == false)) delR t.R
def g3 (t w : TB) : List TOp := pickM (fun e => !decide (e ∈ w.N)) delN t.N
def g4 (t w : TB) : List TOp := pickM (fun e => !decide (e ∈ w.F)) delF t.F
def g5 (t w : TB) : List TOp := pickM (fun e => !decide (e ∈ t.F)) putF w.F
def g6 (t w : TB) : List TOp := pickM (fun e => !decide (e ∈ t.N)) putNe w.N
def g7 (t w : TB) : List TOp := pickM (fun e => !decide (e ∈ t.R) || !stT t w e) putR w.R
def dl (t w : TB) : List TOp := g1 t w ++ (g2 t w ++ (g3 t w ++ (g4 t w ++ (g5 t w ++ (g6 t w ++ g7 t w)))))
section
variable {t w : TB} {r : TRoute} {x : TNeigh} {y : TFdb}
end
end Go.Proofs.YtnbpodjbemfpbaaGreat.Fw
set_option linter.all false
namespace Go.Proofs.YtnbpodjbemfpbaaGreat.Fw
open Go
section
variable {t w : TB} {o : TOp} {rest r' : List TOp}
end
/-! the whole way -/
section
variable {r1 r2 : List TRoute} {n1 n2 : List TNeigh} {f1 f2 : List TFdb} {k : Nat}
end
/-! the walks' words -/
section
variable {α : Type} {lw eq : α → Bool} {x e : α} {l : List α} {p : Bool} {k : Nat}
section
variable {q : Bool}
end
end
end Go.Proofs.YtnbpodjbemfpbaaGreat.Fw
set_option linter.all false
namespace Go.Proofs.YtnbpodjbemfpbaaGreat.Fw
open Go
def zLease : TLease := ⟨⟨0, rfl⟩, zPrefix, ⟨0, rfl⟩, zMAC, ⟨0, rfl⟩, ⟨0, rfl⟩⟩
def zCmd : TCmd := ⟨⟨0, rfl⟩, ⟨0, rfl⟩, zPrefix, ⟨0, rfl⟩, zMAC, ⟨0, rfl⟩⟩
def zOp : TOp := ⟨⟨0, rfl⟩, zRoute, zNeigh, zFdb⟩
def zReq : TReq := ⟨⟨0, rfl⟩, zCmd, zOp, ⟨0, rfl⟩, ⟨0, rfl⟩⟩
/-! own -/
@[irreducible] def ownI (h : Int) (l : List TLease) : Int := match l.findIdx? fun e => e.Host.v == h with
  | some i => (i : Int)
  | none => -1
section
variable {h : Int} {l : List TLease} {k : Nat} {e : TLease}
theorem own_next (hn : ∀ i, i < k → ∀ x, l[i]? = some x → ¬ x.Host.v = h) (he : l[k]? = some e) (hc : (e.Host.v == h) = false) : ∀ i, i < k + 1 → ∀ x, l[i]? = some x → ¬ x.Host.v = h := by
  intro i hi x hx
  by_cases hk : i = k
  · subst hk
    rw [he] at hx
    simp only [Option.some.injEq] at hx
    subst hx
    simpa using hc
  · exact hn i (by omega) x hx
theorem own_hit (hn : ∀ i, i < k → ∀ x, l[i]? = some x → ¬ x.Host.v = h) (he : l[k]? = some e) (hc : (e.Host.v == h) = true) : (k : Int) = ownI h l := by
  unfold ownI
  have : (l.findIdx? fun e => e.Host.v == h) = some k := by
    rw [List.findIdx?_eq_some_iff_getElem]
    obtain ⟨h1, h2⟩ := List.getElem?_eq_some_iff.1 he
    refine ⟨h1, by rw [h2]; exact hc, fun j hj => ?_⟩
    have := hn j hj _ (List.getElem?_eq_getElem (by omega))
    simpa using this
  rw [this]
theorem own_miss (hn : ∀ i, i < k → ∀ x, l[i]? = some x → ¬ x.Host.v = h) (hk : l.length ≤ k) : (-1 : Int) = ownI h l := by
  unfold ownI
  have : (l.findIdx? fun e => e.Host.v == h) = none := by
    rw [List.findIdx?_eq_none_iff]
    intro x hx
    obtain ⟨i, hi, rfl⟩ := List.getElem_of_mem hx
    have := hn i (by omega) _ (List.getElem?_eq_getElem hi)
    simpa using this
  rw [this]
theorem ownI_lt : ownI h l < (l.length : Int) ∧ -1 ≤ ownI h l := by
  unfold ownI
  cases hf : l.findIdx? fun e => e.Host.v == h with
  | none => simp only; omega
  | some i =>
    rw [List.findIdx?_eq_some_iff_getElem] at hf
    obtain ⟨h1, _⟩ := hf
    simp only
    omega
end
/-! changes -/
def keepM (s : List TPrefix) (l : List TLease) : List TLease := l.filter fun e => !bsHit cmpPrefix s e.Subnet
section
variable {s : List TPrefix} {l : List TLease} {k : Nat} {e : TLease}
theorem keepM_0 : ([] : List TLease) = keepM s (l.take 0) := by simp [keepM]
theorem keepM_t (h : l[k]? = some e) (hc : (!bsHit cmpPrefix s e.Subnet) = true) : keepM s (l.take k) ++ [e] = keepM s (l.take (k + 1)) := by
  rw [List.take_add_one, h]
  simp only [keepM, List.filter_append, Option.toList_some, List.filter_cons, hc, if_true, List.filter_nil]
theorem keepM_f (h : l[k]? = some e) (hc : (!bsHit cmpPrefix s e.Subnet) = false) : keepM s (l.take k) = keepM s (l.take (k + 1)) := by
  rw [List.take_add_one, h]
  simp only [keepM, List.filter_append, Option.toList_some, List.filter_cons, hc, List.filter_nil, List.append_nil, Bool.false_eq_true, if_false]
theorem keepM_len : (keepM s l).length ≤ l.length := List.length_filter_le _ _
end
@[irreducible] def changesM (a : AgM) : List TOp := diffM a.Routes a.Neighs a.Fdbs (planM (keepM a.skipped a.view) a.self.Host.v).R (planM (keepM a.skipped a.view) a.self.Host.v).N (planM (keepM a.skipped a.view) a.self.Host.v).F
theorem changesM_eq {a : AgM} {k : Nat} (hk : a.view.length ≤ k) : diffM a.Routes a.Neighs a.Fdbs (planM (keepM a.skipped (a.view.take k)) a.self.Host.v).R (planM (keepM a.skipped (a.view.take k)) a.self.Host.v).N (planM (keepM a.skipped (a.view.take k)) a.self.Host.v).F = changesM a := by
  unfold changesM
  rw [List.take_of_length_le hk]
theorem changes_plan (a : AgM) (k : Nat) : (planM (keepM a.skipped (a.view.take k)) a.self.Host.v).R.length ≤ a.view.length ∧ (planM (keepM a.skipped (a.view.take k)) a.self.Host.v).N.length ≤ a.view.length ∧ (planM (keepM a.skipped (a.view.take k)) a.self.Host.v).F.length ≤ a.view.length ∧ (keepM a.skipped (a.view.take k)).length ≤ a.view.length := by
  have h1 := planM_len (keepM a.skipped (a.view.take k)) a.self.Host.v
  have h2 := keepM_len (s := a.skipped) (l := a.view.take k)
  simp only [List.length_take] at h2
  omega
/-! the rules -/
def mineM (g : AgM) : Bool := match g.view[(ownI g.self.Host.v g.view).toNat]? with
  | some e => decide (0 ≤ ownI g.self.Host.v g.view) && ((e.Pub.v == g.self.Pub.v) && decide (e.MAC = g.self.MAC))
  | none => false
section
variable {g : AgM} {e : TLease} {now : Int}
theorem mine_t (h0 : 0 ≤ ownI g.self.Host.v g.view) (he : g.view[(ownI g.self.Host.v g.view).toNat]? = some e) (h1 : (e.Pub.v == g.self.Pub.v) = true) (h2 : decide (e.MAC = g.self.MAC) = true) : mineM g = true := by
  unfold mineM; rw [he]; simp only [h1, h2, decide_eq_true h0]; rfl
theorem mine_f0 (h0 : ownI g.self.Host.v g.view < 0) : mineM g = false := by
  unfold mineM
  cases g.view[(ownI g.self.Host.v g.view).toNat]? with
  | none => rfl
  | some e => simp only [decide_eq_false (show ¬ 0 ≤ ownI g.self.Host.v g.view by omega)]; rfl
theorem mine_f1 (he : g.view[(ownI g.self.Host.v g.view).toNat]? = some e) (h1 : (e.Pub.v == g.self.Pub.v) = false) : mineM g = false := by
  unfold mineM; rw [he]; simp only [h1, Bool.false_and, Bool.and_false]
theorem mine_f2 (he : g.view[(ownI g.self.Host.v g.view).toNat]? = some e) (h2 : decide (e.MAC = g.self.MAC) = false) : mineM g = false := by
  unfold mineM; rw [he]; simp only [h2, Bool.and_false]
def acqQ (g : AgM) : TReq := if mineM g then zReq else ⟨⟨4, rfl⟩, ⟨⟨1, rfl⟩, g.self.Host, g.wish, g.self.Pub, g.self.MAC, ⟨0, rfl⟩⟩, zOp, ⟨0, rfl⟩, ⟨0, rfl⟩⟩
def acqB (g : AgM) : Bool := !mineM g && (decide (g.cursor.v ≥ g.granted.v) && !g.waiting)
theorem acqQ_t (h : mineM g = true) : zReq = acqQ g := by simp [acqQ, h]
theorem acqB_t (h : mineM g = true) : false = acqB g := by simp [acqB, h]
theorem acqQ_f (h : mineM g = false) : (⟨⟨4, rfl⟩, ⟨⟨1, rfl⟩, g.self.Host, g.wish, g.self.Pub, g.self.MAC, ⟨0, rfl⟩⟩, zOp, ⟨0, rfl⟩, ⟨0, rfl⟩⟩ : TReq) = acqQ g := by simp [acqQ, h]
theorem acqB_f (h : mineM g = false) : (decide (g.cursor.v ≥ g.granted.v) && !g.waiting) = acqB g := by simp [acqB, h]
theorem acqB_w (h : mineM g = false) (hc : decide (g.cursor.v ≥ g.granted.v) = true) : (!g.waiting) = acqB g := by simp only [acqB, h, hc, Bool.not_false, Bool.true_and]
theorem acqB_c (h : mineM g = false) (hc : decide (g.cursor.v ≥ g.granted.v) = false) : false = acqB g := by simp only [acqB, h, hc, Bool.false_and, Bool.and_false]
def afterM (x y : Int) : Int := if ((decide (x > 0) && decide (y > 0)) && decide (IntKind.i64.wrap (x + y) < 0)) = true then 9223372036854775807
  else if ((decide (x < 0) && decide (y < 0)) && decide (IntKind.i64.wrap (x + y) ≥ 0)) = true then -9223372036854775808 else IntKind.i64.wrap (x + y)
def renL (g : AgM) : TLease := (g.view[(ownI g.self.Host.v g.view).toNat]?).getD zLease
def noRen (g : AgM) : Bool := decide (ownI g.self.Host.v g.view < 0) || g.renewed
def renQ (g : AgM) : TReq := if noRen g then zReq else ⟨⟨5, rfl⟩, ⟨⟨2, rfl⟩, g.self.Host, (renL g).Subnet, ⟨0, rfl⟩, zMAC, ⟨0, rfl⟩⟩, zOp, ⟨0, rfl⟩, ⟨0, rfl⟩⟩
def renB (g : AgM) (now : Int) : Bool := !noRen g && (decide ((renL g).Until.v < 9223372036854775807) && decide (now ≥ afterM (renL g).Until.v (IntKind.i64.wrap (0 - g.self.Renew.v))))
theorem renQ_t (h : (decide (ownI g.self.Host.v g.view < 0) || g.renewed) = true) : zReq = renQ g := by simp only [renQ, noRen, h, if_true]
theorem renB_t (h : (decide (ownI g.self.Host.v g.view < 0) || g.renewed) = true) : false = renB g now := by simp only [renB, noRen, h, Bool.not_true, Bool.false_and]
theorem renQ_f (h : (decide (ownI g.self.Host.v g.view < 0) || g.renewed) = false) (he : g.view[(ownI g.self.Host.v g.view).toNat]? = some e) : (⟨⟨5, rfl⟩, ⟨⟨2, rfl⟩, g.self.Host, e.Subnet, ⟨0, rfl⟩, zMAC, ⟨0, rfl⟩⟩, zOp, ⟨0, rfl⟩, ⟨0, rfl⟩⟩ : TReq) = renQ g := by
  simp only [renQ, noRen, h, renL, he, Option.getD_some, Bool.false_eq_true, if_false]
theorem renB_f (h : (decide (ownI g.self.Host.v g.view < 0) || g.renewed) = false) (he : g.view[(ownI g.self.Host.v g.view).toNat]? = some e) : (decide (e.Until.v < 9223372036854775807) && decide (now ≥ afterM e.Until.v (IntKind.i64.wrap (0 - g.self.Renew.v)))) = renB g now := by
  simp only [renB, noRen, h, renL, he, Option.getD_some, Bool.not_false, Bool.true_and]
theorem renB_w (h : (decide (ownI g.self.Host.v g.view < 0) || g.renewed) = false) (he : g.view[(ownI g.self.Host.v g.view).toNat]? = some e) (hc : decide (e.Until.v < 9223372036854775807) = true) : decide (now ≥ afterM e.Until.v (IntKind.i64.wrap (0 - g.self.Renew.v))) = renB g now := by
  rw [← renB_f h he, hc, Bool.true_and]
theorem renB_c (h : (decide (ownI g.self.Host.v g.view < 0) || g.renewed) = false) (he : g.view[(ownI g.self.Host.v g.view).toNat]? = some e) (hc : decide (e.Until.v < 9223372036854775807) = false) : false = renB g now := by
  rw [← renB_f h he, hc, Bool.false_and]
def chgQ (g : AgM) : TReq := match changesM g with
  | [] => zReq
  | o :: _ => ⟨⟨3, rfl⟩, zCmd, o, ⟨0, rfl⟩, ⟨0, rfl⟩⟩
def chgB (g : AgM) : Bool := !(changesM g).isEmpty
theorem chgQ_t (h : ((changesM g).length : Int) = 0) : zReq = chgQ g := by
  unfold chgQ
  cases hc : changesM g with
  | nil => rfl
  | cons o r => rw [hc] at h; simp at h; omega
theorem chgB_t (h : ((changesM g).length : Int) = 0) : false = chgB g := by
  unfold chgB
  cases hc : changesM g with
  | nil => rfl
  | cons o r => rw [hc] at h; simp at h; omega
theorem chgQ_f {o : TOp} (he : (changesM g)[0]? = some o) : (⟨⟨3, rfl⟩, zCmd, o, ⟨0, rfl⟩, ⟨0, rfl⟩⟩ : TReq) = chgQ g := by
  unfold chgQ
  cases hc : changesM g with
  | nil => rw [hc] at he; cases he
  | cons a r => rw [hc] at he; simp at he; rw [he]
theorem chgB_f {o : TOp} (he : (changesM g)[0]? = some o) : true = chgB g := by
  unfold chgB
  cases hc : changesM g with
  | nil => rw [hc] at he; cases he
  | cons a r => rfl
end
/-! events -/
def badEv (a : Int) (e : TEvent) : Bool := (((a == 9223372036854775807) || (e.Rev.v != a + 1)) || ((e.Kind.v != 1) && (e.Kind.v != 2))) || !(validM e.Lease.Subnet)
def mayL : Int → List TEvent → Bool
  | _, [] => true
  | a, e :: r => !badEv a e && mayL (a + 1) r
@[irreducible] def mayM (a : Int) (l : List TEvent) : Bool := mayL a l
def mayBeM (g : AgM) (l : List TEvent) : Bool := if l.length > 4 then false else mayM g.cursor.v l
section
variable {g : AgM} {l : List TEvent} {a : Int} {k : Nat} {e : TEvent}
theorem may_f (h : l[k]? = some e) (hb : badEv a e = true) (ho : mayM g.cursor.v l = mayM a (l.drop k)) (hl : ¬ (4 : Int) < (l.length : Int)) : false = mayBeM g l := by
  have hd : l.drop k = e :: l.drop (k + 1) := by
    obtain ⟨h1, h2⟩ := List.getElem?_eq_some_iff.1 h
    rw [List.drop_eq_getElem_cons h1, h2]
  unfold mayBeM
  rw [if_neg (by omega), ho, hd]
  unfold mayM mayL
  rw [hb]; rfl
theorem may_s (h : l[k]? = some e) (hb : badEv a e = false) (ho : mayM g.cursor.v l = mayM a (l.drop k)) : mayM g.cursor.v l = mayM (a + 1) (l.drop (k + 1)) := by
  have hd : l.drop k = e :: l.drop (k + 1) := by
    obtain ⟨h1, h2⟩ := List.getElem?_eq_some_iff.1 h
    rw [List.drop_eq_getElem_cons h1, h2]
  rw [ho, hd]
  unfold mayM
  conv => lhs; unfold mayL
  rw [hb]; rfl
theorem may_t (hk : l.length ≤ k) (ho : mayM g.cursor.v l = mayM a (l.drop k)) (hl : ¬ (4 : Int) < (l.length : Int)) : true = mayBeM g l := by
  unfold mayBeM
  rw [if_neg (by omega), ho, List.drop_eq_nil_of_le hk]
  unfold mayM; rfl
theorem may_n (hl : (4 : Int) < (l.length : Int)) : false = mayBeM g l := by
  unfold mayBeM
  rw [if_pos (by omega)]
end
def watchQ (g : AgM) : TReq := ⟨⟨6, rfl⟩, zCmd, zOp, g.cursor, ⟨4, rfl⟩⟩
/-! the view -/
def vwLease (g : AgM) : TLease := if 0 ≤ ownI g.self.Host.v g.view then renL g else zLease
def vwSync (g : AgM) : Bool := (((g.read && !g.stale) && g.quiet) && (((changesM g).length : Int) == 0))
theorem vw_t {g : AgM} {e : TLease} (h : 0 ≤ ownI g.self.Host.v g.view) (he : g.view[(ownI g.self.Host.v g.view).toNat]? = some e) : e = vwLease g := by
  simp only [vwLease, if_pos h, renL, he, Option.getD_some]
theorem vw_f {g : AgM} (h : ownI g.self.Host.v g.view < 0) : zLease = vwLease g := by
  simp only [vwLease, if_neg (show ¬ 0 ≤ ownI g.self.Host.v g.view by omega)]
end Go.Proofs.YtnbpodjbemfpbaaGreat.Fw
set_option linter.all false
namespace Go.Proofs.YtnbpodjbemfpbaaGreat.Fw
open Go
/-! carry -/
def carryA (g : AgM) (o : TOp) : AgM :=
  if o.Kind.v = 1 then { g with Routes := setM cmpRoute g.Routes o.Route }
  else if o.Kind.v = 2 then { g with Routes := unsetM cmpRoute g.Routes o.Route }
  else if o.Kind.v = 3 then { g with Neighs := setM cmpNeigh g.Neighs o.Neigh }
  else if o.Kind.v = 4 then { g with Neighs := unsetM cmpNeigh g.Neighs o.Neigh }
  else if o.Kind.v = 5 then { g with Fdbs := setM cmpFdb g.Fdbs o.Fdb }
  else if o.Kind.v = 6 then { g with Fdbs := unsetM cmpFdb g.Fdbs o.Fdb }
  else g
/-! dumped -/
def wishOf (w : TPrefix) (l : List TRoute) : TPrefix := match l.find? fun e => e.Local with
  | some e => e.Dst
  | none => w
theorem wish_hit {w : TPrefix} {l : List TRoute} {k : Nat} {e : TRoute} (hn : ∀ i, i < k → ∀ x, l[i]? = some x → x.Local = false) (he : l[k]? = some e) (hl : e.Local = true) : e.Dst = wishOf w l := by
  unfold wishOf
  have : (l.find? fun e => e.Local) = some e := by
    rw [List.find?_eq_some_iff_getElem]
    obtain ⟨h1, h2⟩ := List.getElem?_eq_some_iff.1 he
    refine ⟨hl, k, h1, h2, fun j hj => ?_⟩
    have := hn j hj _ (List.getElem?_eq_getElem (by omega))
    simp [this]
  rw [this]
theorem wish_miss {w : TPrefix} {l : List TRoute} {k : Nat} (hn : ∀ i, i < k → ∀ x, l[i]? = some x → x.Local = false) (hk : l.length ≤ k) : w = wishOf w l := by
  unfold wishOf
  have : (l.find? fun e => e.Local) = none := by
    rw [List.find?_eq_none]
    intro x hx
    obtain ⟨i, hi, rfl⟩ := List.getElem_of_mem hx
    have := hn i (by omega) _ (List.getElem?_eq_getElem hi)
    simp [this]
  rw [this]
theorem wish_next {l : List TRoute} {k : Nat} {e : TRoute} (hn : ∀ i, i < k → ∀ x, l[i]? = some x → x.Local = false) (he : l[k]? = some e) (hl : e.Local = false) : ∀ i, i < k + 1 → ∀ x, l[i]? = some x → x.Local = false := by
  intro i hi x hx
  by_cases hk : i = k
  · subst hk
    rw [he] at hx
    simp only [Option.some.injEq] at hx
    subst hx
    exact hl
  · exact hn i (by omega) x hx
def dumpE (err : Int) (r : List TRoute) (n : List TNeigh) (f : List TFdb) : Int := if err ≠ 0 then 0 else if inOrderM r n f then 0 else 161
def dumpA (g : AgM) (err : Int) (r : List TRoute) (n : List TNeigh) (f : List TFdb) : AgM := if err ≠ 0 then g else if inOrderM r n f then { g with Routes := r, Neighs := n, Fdbs := f, read := true, wish := wishOf g.wish r } else g
/-! snapped -/
def snapBad (rev : Int) (l : List TLease) : Bool := decide (rev < 0) || !(risesM cmpLease l)
def snapOk (rev : Int) (l : List TLease) : Bool := !snapBad rev l && l.all fun e => validM e.Subnet
def snapE (err rev : Int) (l : List TLease) : Int := if err ≠ 0 then 0 else if snapOk rev l then 0 else 162
def snapWish (g : AgM) (l : List TLease) : TPrefix := if 0 ≤ ownI g.self.Host.v l then ((l[(ownI g.self.Host.v l).toNat]?).getD zLease).Subnet else g.wish
def snapA (g : AgM) (err : Int) (rev : Fx .i64) (l : List TLease) : AgM := if err ≠ 0 then g else if snapOk rev.v l then { g with view := l, cursor := rev, stale := false, waiting := false, skipped := [], granted := ⟨0, rfl⟩, wish := snapWish g l } else g
section
variable {g : AgM} {err : Int} {rev : Fx .i64} {l : List TLease} {k : Nat} {e : TLease}
theorem snap_bad (h0 : err = 0) (h : (decide (rev.v < 0) || !(risesM cmpLease l)) = true) : (162 : Int) = snapE err rev.v l ∧ g = snapA g err rev l := by
  have : snapOk rev.v l = false := by unfold snapOk snapBad; rw [h]; rfl
  simp [snapE, snapA, h0, this]
theorem snap_inv (h0 : err = 0) (he : l[k]? = some e) (hv : (!validM e.Subnet) = true) : (162 : Int) = snapE err rev.v l ∧ g = snapA g err rev l := by
  have : (l.all fun e => validM e.Subnet) = false := by
    refine all_false he ?_
    simpa using hv
  have : snapOk rev.v l = false := by unfold snapOk; rw [this, Bool.and_false]
  simp [snapE, snapA, h0, this]
theorem snap_ok (h0 : err = 0) (h : (decide (rev.v < 0) || !(risesM cmpLease l)) = false) (hk : l.length ≤ k) (hv : (l.take k).all (fun e => validM e.Subnet) = true) : snapOk rev.v l = true := by
  rw [List.take_of_length_le hk] at hv
  unfold snapOk snapBad; rw [h, hv]; rfl
theorem snap_t (h0 : err = 0) (ho : snapOk rev.v l = true) (hi : 0 ≤ ownI g.self.Host.v l) (he : l[(ownI g.self.Host.v l).toNat]? = some e) : (0 : Int) = snapE err rev.v l ∧ ({ g with view := l, cursor := rev, stale := false, waiting := false, skipped := [], granted := ⟨0, rfl⟩, wish := e.Subnet } : AgM) = snapA g err rev l := by
  simp [snapE, snapA, h0, ho, snapWish, hi, he]
theorem snap_f (h0 : err = 0) (ho : snapOk rev.v l = true) (hi : ownI g.self.Host.v l < 0) : (0 : Int) = snapE err rev.v l ∧ ({ g with view := l, cursor := rev, stale := false, waiting := false, skipped := [], granted := ⟨0, rfl⟩ } : AgM) = snapA g err rev l := by
  simp [snapE, snapA, h0, ho, snapWish, show ¬ 0 ≤ ownI g.self.Host.v l by omega]
theorem snap_n (h0 : err ≠ 0) : (0 : Int) = snapE err rev.v l ∧ g = snapA g err rev l := by simp [snapE, snapA, h0]
end
/-! changed -/
def isPut (o : TOp) : Bool := ((o.Kind.v == 1) || (o.Kind.v == 3)) || (o.Kind.v == 5)
def usesM (g : AgM) (e : TLease) : Bool :=
  (((g.opn.Op.Kind.v == 1) && decide (e.Subnet = g.opn.Op.Route.Dst)) || (((g.opn.Op.Kind.v == 3) && (e.Host.v != g.self.Host.v)) && (e.Subnet.Addr.v == g.opn.Op.Neigh.IP.v))) || (((g.opn.Op.Kind.v == 5) && (e.Host.v != g.self.Host.v)) && decide (e.MAC = g.opn.Op.Fdb.MAC))
@[irreducible] def skipK (g : AgM) (k : Nat) : List TPrefix := (g.view.take k).foldl (fun s e => if usesM g e then setM cmpPrefix s e.Subnet else s) g.skipped
def changedA (g : AgM) (err : Int) : AgM := if err = 0 then carryA g g.opn.Op else if ((err == 4) && isPut g.opn.Op) = true then { g with degraded := true, skipped := skipK g g.view.length } else g
theorem skipK_0 {g : AgM} : g.skipped = skipK g 0 := by unfold skipK; rfl
theorem skipK_t {g : AgM} {k : Nat} {e : TLease} (h : g.view[k]? = some e) (hu : usesM g e = true) : setM cmpPrefix (skipK g k) e.Subnet = skipK g (k + 1) := by
  unfold skipK
  rw [List.take_add_one, h]
  simp [List.foldl_append, hu]
theorem skipK_f {g : AgM} {k : Nat} {e : TLease} (h : g.view[k]? = some e) (hu : usesM g e = false) : skipK g k = skipK g (k + 1) := by
  unfold skipK
  rw [List.take_add_one, h]
  simp [List.foldl_append, hu]
theorem skipK_len {g : AgM} {k : Nat} : (skipK g k).length ≤ g.skipped.length + k := by
  induction k with
  | zero => rw [← skipK_0]; omega
  | succ k ih =>
    cases h : g.view[k]? with
    | none =>
      have : skipK g (k + 1) = skipK g k := by
        unfold skipK
        rw [List.take_add_one, h]
        simp
      rw [this]; omega
    | some e =>
      cases hu : usesM g e with
      | true =>
        rw [← skipK_t h hu]
        have := setM_len cmpPrefix (skipK g k) e.Subnet
        omega
      | false => rw [← skipK_f h hu]; omega
/-! leased -/
def leasedOk (g : AgM) (x : TLease) : Bool := !((x.Host.v != g.self.Host.v) || !(validM x.Subnet))
def leasedE (g : AgM) (err : Int) (x : TLease) : Int :=
  if ((err == 4) && (g.opn.Kind.v == 4)) = true then 0 else if ((err == 111) && !(g.opn.Kind.v == 4)) = true then 0 else if err ≠ 0 then 0 else if leasedOk g x then 0 else 162
def leasedView (g : AgM) (x : TLease) : List TLease := match g.view[(ownI g.self.Host.v g.view).toNat]? with
  | some e => if 0 ≤ ownI g.self.Host.v g.view ∧ e.Subnet = x.Subnet then g.view.set (ownI g.self.Host.v g.view).toNat { e with Until := x.Until } else g.view
  | none => g.view
def leasedA (g : AgM) (err : Int) (x : TLease) : AgM :=
  if ((err == 4) && (g.opn.Kind.v == 4)) = true then { g with waiting := true } else if ((err == 111) && !(g.opn.Kind.v == 4)) = true then { g with stale := true } else if err ≠ 0 then g
  else if leasedOk g x then (if g.opn.Kind.v = 4 then { g with view := leasedView g x, granted := x.Rev, wish := x.Subnet } else { g with view := leasedView g x }) else g
/-! watched -/
def evStep (g : AgM) (v : TEvent) : AgM :=
  if v.Kind.v = 1 then (if v.Lease.Host.v = g.self.Host.v then { g with cursor := v.Rev, view := setM cmpLease g.view v.Lease, wish := v.Lease.Subnet } else { g with cursor := v.Rev, view := setM cmpLease g.view v.Lease })
  else { g with cursor := v.Rev, view := unsetM cmpLease g.view v.Lease, skipped := unsetM cmpPrefix g.skipped v.Lease.Subnet, waiting := false }
@[irreducible] def evK (g : AgM) (l : List TEvent) (k : Nat) : AgM := (l.take k).foldl evStep g
theorem evK_0 {g : AgM} {l : List TEvent} : g = evK g l 0 := by unfold evK; rfl
theorem evK_succ {g : AgM} {l : List TEvent} {k : Nat} {e : TEvent} (h : l[k]? = some e) : evStep (evK g l k) e = evK g l (k + 1) := by
  unfold evK
  rw [List.take_add_one, h]
  simp
theorem evK_len {g : AgM} {l : List TEvent} {k : Nat} : (evK g l k).view.length ≤ g.view.length + k ∧ (evK g l k).skipped.length ≤ g.skipped.length := by
  induction k with
  | zero => rw [← evK_0]; omega
  | succ k ih =>
    cases h : l[k]? with
    | none =>
      have : evK g l (k + 1) = evK g l k := by
        unfold evK
        rw [List.take_add_one, h]
        simp
      rw [this]; omega
    | some e =>
      rw [← evK_succ h]
      have h1 := setM_len cmpLease (evK g l k).view e.Lease
      have h2 : (unsetM cmpLease (evK g l k).view e.Lease).length ≤ (evK g l k).view.length := by
        unfold unsetM; split <;> simp <;> omega
      have h3 : (unsetM cmpPrefix (evK g l k).skipped e.Lease.Subnet).length ≤ (evK g l k).skipped.length := by
        unfold unsetM; split <;> simp <;> omega
      unfold evStep
      split
      · split <;> simp only <;> omega
      · simp only; omega
def isStale (err : Int) : Bool := (err == 112) || ((err == 113) || ((err == 140) || ((err == 141) || (err == 142))))
def watchedE (g : AgM) (err : Int) (l : List TEvent) : Int := if err ≠ 0 then 0 else if mayBeM g l then 0 else 162
def watchedA (g : AgM) (err : Int) (l : List TEvent) : AgM := if err = 0 then (if mayBeM g l then evK g l l.length else g) else if isStale err then { g with stale := true } else g
/-! the walks' words -/
section
variable {g : AgM} {err : Int} {x : TLease} {e : TLease} {V : List TLease}
theorem lv_f0 (h0 : ownI g.self.Host.v g.view < 0) : g.view = leasedView g x := by
  unfold leasedView
  cases g.view[(ownI g.self.Host.v g.view).toNat]? with
  | none => rfl
  | some e => simp only; rw [if_neg (by omega)]
theorem lv_f1 (he : g.view[(ownI g.self.Host.v g.view).toNat]? = some e) (hd : decide (e.Subnet = x.Subnet) = false) : g.view = leasedView g x := by
  unfold leasedView
  rw [he]
  simp only
  rw [if_neg (fun h => of_decide_eq_false hd h.2)]
theorem lv_t (h0 : 0 ≤ ownI g.self.Host.v g.view) (he : g.view[(ownI g.self.Host.v g.view).toNat]? = some e) (hd : decide (e.Subnet = x.Subnet) = true) : g.view.set (ownI g.self.Host.v g.view).toNat ⟨e.Host, e.Subnet, e.Pub, e.MAC, x.Until, e.Rev⟩ = leasedView g x := by
  unfold leasedView
  rw [he]
  simp only
  rw [if_pos ⟨h0, of_decide_eq_true hd⟩]
theorem leased_1 (h : ((err == 4) && (g.opn.Kind.v == 4)) = true) : (0 : Int) = leasedE g err x ∧ ({ g with waiting := true } : AgM) = leasedA g err x := by
  unfold leasedE leasedA; rw [if_pos h, if_pos h]; exact ⟨rfl, rfl⟩
theorem leased_2 (h1 : ((err == 4) && (g.opn.Kind.v == 4)) = false) (h : ((err == 111) && !(g.opn.Kind.v == 4)) = true) : (0 : Int) = leasedE g err x ∧ ({ g with stale := true } : AgM) = leasedA g err x := by
  unfold leasedE leasedA; rw [h1]; simp only [Bool.false_eq_true, if_false]; rw [if_pos h, if_pos h]; exact ⟨rfl, rfl⟩
theorem leased_3 (h1 : ((err == 4) && (g.opn.Kind.v == 4)) = false) (h2 : ((err == 111) && !(g.opn.Kind.v == 4)) = false) (h : err ≠ 0) : (0 : Int) = leasedE g err x ∧ g = leasedA g err x := by
  unfold leasedE leasedA; rw [h1, h2]; simp only [Bool.false_eq_true, if_false]; rw [if_pos h, if_pos h]; exact ⟨rfl, rfl⟩
theorem leased_4 (h1 : ((err == 4) && (g.opn.Kind.v == 4)) = false) (h2 : ((err == 111) && !(g.opn.Kind.v == 4)) = false) (h3 : err = 0) (h : ((x.Host.v != g.self.Host.v) || !(validM x.Subnet)) = true) : (162 : Int) = leasedE g err x ∧ g = leasedA g err x := by
  unfold leasedE leasedA leasedOk; rw [h1, h2, h]; simp [h3]
theorem leased_5 (h1 : ((err == 4) && (g.opn.Kind.v == 4)) = false) (h2 : ((err == 111) && !(g.opn.Kind.v == 4)) = false) (h3 : err = 0) (h4 : ((x.Host.v != g.self.Host.v) || !(validM x.Subnet)) = false) (hv : V = leasedView g x) (h : (g.opn.Kind.v == 4) = true) : (0 : Int) = leasedE g err x ∧ ({ g with view := V, granted := x.Rev, wish := x.Subnet } : AgM) = leasedA g err x := by
  have hk : g.opn.Kind.v = 4 := by simpa using h
  unfold leasedE leasedA leasedOk; rw [h1, h2, h4, hv]; simp [h3, hk]
theorem leased_6 (h1 : ((err == 4) && (g.opn.Kind.v == 4)) = false) (h2 : ((err == 111) && !(g.opn.Kind.v == 4)) = false) (h3 : err = 0) (h4 : ((x.Host.v != g.self.Host.v) || !(validM x.Subnet)) = false) (hv : V = leasedView g x) (h : (g.opn.Kind.v == 4) = false) : (0 : Int) = leasedE g err x ∧ ({ g with view := V } : AgM) = leasedA g err x := by
  have hk : ¬ g.opn.Kind.v = 4 := by simpa using h
  unfold leasedE leasedA leasedOk; rw [h1, h2, h4, hv]; simp [h3, hk]
theorem changed_p {k : Nat} (h0 : ¬ err = 0) (hp : ((err == 4) && (((g.opn.Op.Kind.v == 1) || (g.opn.Op.Kind.v == 3)) || (g.opn.Op.Kind.v == 5))) = true) (hk : k = g.view.length) : ({ g with skipped := skipK g k, degraded := true } : AgM) = changedA g err := by
  unfold changedA isPut; rw [if_neg h0, if_pos hp, hk]
theorem changed_n (h0 : ¬ err = 0) (hp : ((err == 4) && (((g.opn.Op.Kind.v == 1) || (g.opn.Op.Kind.v == 3)) || (g.opn.Op.Kind.v == 5))) = false) : g = changedA g err := by
  unfold changedA isPut; rw [if_neg h0, hp]; rfl
theorem changed_y (h0 : err = 0) : carryA g g.opn.Op = changedA g err := by
  unfold changedA; rw [if_pos h0]
end
section
variable {g : AgM} {l : List TEvent} {k : Nat} {e : TEvent} {err : Int}
theorem ev_1 (h : l[k]? = some e) (h1 : e.Kind.v = 1) (h2 : e.Lease.Host.v = (evK g l k).self.Host.v) : ({ evK g l k with cursor := e.Rev, view := setM cmpLease (evK g l k).view e.Lease, wish := e.Lease.Subnet } : AgM) = evK g l (k + 1) := by
  rw [← evK_succ h]; unfold evStep; rw [if_pos h1, if_pos h2]
theorem ev_2 (h : l[k]? = some e) (h1 : e.Kind.v = 1) (h2 : ¬ e.Lease.Host.v = (evK g l k).self.Host.v) : ({ evK g l k with cursor := e.Rev, view := setM cmpLease (evK g l k).view e.Lease } : AgM) = evK g l (k + 1) := by
  rw [← evK_succ h]; unfold evStep; rw [if_pos h1, if_neg h2]
theorem ev_3 (h : l[k]? = some e) (h1 : ¬ e.Kind.v = 1) : ({ evK g l k with cursor := e.Rev, view := unsetM cmpLease (evK g l k).view e.Lease, skipped := unsetM cmpPrefix (evK g l k).skipped e.Lease.Subnet, waiting := false } : AgM) = evK g l (k + 1) := by
  rw [← evK_succ h]; unfold evStep; rw [if_neg h1]
theorem watched_0 (h : err = 0) (hm : (!(mayBeM g l)) = true) : (162 : Int) = watchedE g err l ∧ g = watchedA g err l := by
  have hm : mayBeM g l = false := by simpa using hm
  simp [watchedE, watchedA, h, hm]
theorem watched_1 (h : err = 0) (hm : (!(mayBeM g l)) = false) (hk : k = l.length) : (0 : Int) = watchedE g err l ∧ evK g l k = watchedA g err l := by
  have hm : mayBeM g l = true := by simpa using hm
  simp [watchedE, watchedA, h, hm, hk]
theorem watched_2 (h : err = 112 ∨ err = 113 ∨ err = 140 ∨ err = 141 ∨ err = 142) : (0 : Int) = watchedE g err l ∧ ({ g with stale := true } : AgM) = watchedA g err l := by
  have h0 : err ≠ 0 := by omega
  have hs : isStale err = true := by simpa [isStale] using h
  simp [watchedE, watchedA, h0, hs]
theorem watched_3 (h0 : err ≠ 0) (h : err ≠ 112 ∧ err ≠ 113 ∧ err ≠ 140 ∧ err ≠ 141 ∧ err ≠ 142) : (0 : Int) = watchedE g err l ∧ g = watchedA g err l := by
  have hs : isStale err = false := by simpa [isStale] using h
  simp [watchedE, watchedA, h0, hs]
end
/-! Done -/
def takenE (g : AgM) (r : ReM) : Int :=
  if g.opn.Kind.v = 1 then dumpE r.Err.v r.Routes r.Neighs r.Fdbs else if g.opn.Kind.v = 2 then snapE r.Err.v r.Rev.v r.Leases else if g.opn.Kind.v = 3 then 0
  else if g.opn.Kind.v = 4 ∨ g.opn.Kind.v = 5 then leasedE g r.Err.v r.Answer.Lease else if g.opn.Kind.v = 6 then watchedE g r.Err.v r.Events else 0
def takenA (g : AgM) (r : ReM) : AgM :=
  if g.opn.Kind.v = 1 then dumpA g r.Err.v r.Routes r.Neighs r.Fdbs else if g.opn.Kind.v = 2 then snapA g r.Err.v r.Rev r.Leases else if g.opn.Kind.v = 3 then changedA g r.Err.v
  else if g.opn.Kind.v = 4 ∨ g.opn.Kind.v = 5 then leasedA g r.Err.v r.Answer.Lease else if g.opn.Kind.v = 6 then watchedA g r.Err.v r.Events else g
def doneE (g : AgM) (r : ReM) : Int := if g.opn.Kind.v = 0 then 160 else takenE g r
def doneA (g : AgM) (r : ReM) : AgM := if g.opn.Kind.v = 0 then g else if takenE g r ≠ 0 then takenA g r else { takenA g r with renewed := ((takenA g r).opn.Kind.v == 5) && (r.Err.v == 0), quiet := (g.opn.Kind.v == 6) && ((r.Err.v == 0) && ((r.Events.length : Int) == 0)), opn := zReq }
section
variable {g A : AgM} {r : ReM} {E : Int} {b q : Bool}
theorem tk1 (h : g.opn.Kind.v = 1) : takenE g r = dumpE r.Err.v r.Routes r.Neighs r.Fdbs ∧ takenA g r = dumpA g r.Err.v r.Routes r.Neighs r.Fdbs := by simp [takenE, takenA, h]
theorem tk2 (h : g.opn.Kind.v = 2) : takenE g r = snapE r.Err.v r.Rev.v r.Leases ∧ takenA g r = snapA g r.Err.v r.Rev r.Leases := by simp [takenE, takenA, h]
theorem tk3 (h : g.opn.Kind.v = 3) : takenE g r = 0 ∧ takenA g r = changedA g r.Err.v := by simp [takenE, takenA, h]
theorem tk4 (h : g.opn.Kind.v = 4 ∨ g.opn.Kind.v = 5) : takenE g r = leasedE g r.Err.v r.Answer.Lease ∧ takenA g r = leasedA g r.Err.v r.Answer.Lease := by
  unfold takenE takenA
  rw [if_neg (by omega), if_neg (by omega), if_neg (by omega), if_pos h, if_neg (by omega), if_neg (by omega), if_neg (by omega), if_pos h]
  exact ⟨rfl, rfl⟩
theorem tk6 (h : g.opn.Kind.v = 6) : takenE g r = watchedE g r.Err.v r.Events ∧ takenA g r = watchedA g r.Err.v r.Events := by simp [takenE, takenA, h]
theorem tkn (h1 : g.opn.Kind.v ≠ 1) (h2 : g.opn.Kind.v ≠ 2) (h3 : g.opn.Kind.v ≠ 3) (h4 : ¬ (g.opn.Kind.v = 4 ∨ g.opn.Kind.v = 5)) (h6 : g.opn.Kind.v ≠ 6) : takenE g r = 0 ∧ takenA g r = g := by
  simp [takenE, takenA, h1, h2, h3, h4, h6]
theorem done_0 (h : g.opn.Kind.v = 0) : 160 = doneE g r ∧ g = doneA g r := by simp [doneE, doneA, h]
theorem done_e (he : takenE g r = E ∧ takenA g r = A) (hE : E ≠ 0) (h0 : g.opn.Kind.v ≠ 0) : E = doneE g r ∧ A = doneA g r := by
  unfold doneE doneA
  rw [if_neg h0, if_neg h0, he.1, if_pos hE, he.2]
  exact ⟨rfl, rfl⟩
theorem done_k (he : takenE g r = E ∧ takenA g r = A) (hE : E = 0) (h0 : g.opn.Kind.v ≠ 0) (hq : q = ((g.opn.Kind.v == 6) && ((r.Err.v == 0) && ((r.Events.length : Int) == 0)))) : 0 = doneE g r ∧ ({ A with renewed := (A.opn.Kind.v == 5) && (r.Err.v == 0), quiet := q, opn := zReq } : AgM) = doneA g r := by
  unfold doneE doneA
  rw [if_neg h0, if_neg h0, he.1, if_neg (by omega), he.2, hE, hq]
  exact ⟨rfl, rfl⟩
theorem qt0 (h : g.opn.Kind.v ≠ 6) : false = ((g.opn.Kind.v == 6) && ((r.Err.v == 0) && ((r.Events.length : Int) == 0))) := by simp [h]
theorem qt6 (h : g.opn.Kind.v = 6) : ((r.Err.v == 0) && ((r.Events.length : Int) == 0)) = ((g.opn.Kind.v == 6) && ((r.Err.v == 0) && ((r.Events.length : Int) == 0))) := by simp [h]
end
/-! Next -/
def nextQ (g : AgM) (now : Int) : TReq := if g.opn.Kind.v ≠ 0 then g.opn else if g.read = false then ⟨⟨1, rfl⟩, zCmd, zOp, ⟨0, rfl⟩, ⟨0, rfl⟩⟩ else if g.stale then ⟨⟨2, rfl⟩, zCmd, zOp, ⟨0, rfl⟩, ⟨0, rfl⟩⟩
  else if chgB g then chgQ g else if acqB g then acqQ g else if renB g now then renQ g else watchQ g
def nextA (g : AgM) (now : Int) : AgM := { g with opn := nextQ g now }
theorem chg_kind {g : AgM} (h : chgB g = true) : (chgQ g).Kind.v = 3 := by
  unfold chgB at h; unfold chgQ
  cases hc : changesM g with
  | nil => rw [hc] at h; cases h
  | cons o r => rfl
theorem acq_kind {g : AgM} (h : acqB g = true) : (acqQ g).Kind.v = 4 := by
  unfold acqB at h; unfold acqQ
  cases hm : mineM g with
  | true => rw [hm] at h; cases h
  | false => rfl
theorem ren_kind {g : AgM} {now : Int} (h : renB g now = true) : (renQ g).Kind.v = 5 := by
  unfold renB at h; unfold renQ
  cases hm : noRen g with
  | true => rw [hm] at h; cases h
  | false => rfl
section
variable {g : AgM} {now : Int} {Q : TReq}
theorem nx0 (h : g.opn.Kind.v ≠ 0) : g = nextA g now := by unfold nextA nextQ; rw [if_pos h]
theorem nx (h : Q = nextQ g now) : ({ g with opn := Q } : AgM) = nextA g now := by rw [h]; rfl
theorem nq0 (h : g.opn.Kind.v ≠ 0) : g.opn = nextQ g now := by unfold nextQ; rw [if_pos h]
theorem nq1 (h : g.opn.Kind.v = 0) (hr : (!g.read) = true) : (⟨⟨1, rfl⟩, zCmd, zOp, ⟨0, rfl⟩, ⟨0, rfl⟩⟩ : TReq) = nextQ g now := by unfold nextQ; simp only [Bool.not_eq_true'] at hr; rw [if_neg (by omega), if_pos hr]
theorem nq2 (h : g.opn.Kind.v = 0) (hr : (!g.read) = false) (hs : g.stale = true) : (⟨⟨2, rfl⟩, zCmd, zOp, ⟨0, rfl⟩, ⟨0, rfl⟩⟩ : TReq) = nextQ g now := by unfold nextQ; simp only [Bool.not_eq_false'] at hr; rw [if_neg (by omega), if_neg (by simp [hr]), if_pos hs]
theorem nq3 (h : g.opn.Kind.v = 0) (hr : (!g.read) = false) (hs : g.stale = false) (hc : chgB g = true) : chgQ g = nextQ g now := by unfold nextQ; simp only [Bool.not_eq_false'] at hr; rw [if_neg (by omega), if_neg (by simp [hr]), if_neg (by simp [hs]), if_pos hc]
theorem nq4 (h : g.opn.Kind.v = 0) (hr : (!g.read) = false) (hs : g.stale = false) (hc : chgB g = false) (ha : acqB g = true) : acqQ g = nextQ g now := by unfold nextQ; simp only [Bool.not_eq_false'] at hr; rw [if_neg (by omega), if_neg (by simp [hr]), if_neg (by simp [hs]), if_neg (by simp [hc]), if_pos ha]
theorem nq5 (h : g.opn.Kind.v = 0) (hr : (!g.read) = false) (hs : g.stale = false) (hc : chgB g = false) (ha : acqB g = false) (hb : renB g now = true) : renQ g = nextQ g now := by unfold nextQ; simp only [Bool.not_eq_false'] at hr; rw [if_neg (by omega), if_neg (by simp [hr]), if_neg (by simp [hs]), if_neg (by simp [hc]), if_neg (by simp [ha]), if_pos hb]
theorem nq6 (h : g.opn.Kind.v = 0) (hr : (!g.read) = false) (hs : g.stale = false) (hc : chgB g = false) (ha : acqB g = false) (hb : renB g now = false) : watchQ g = nextQ g now := by unfold nextQ; simp only [Bool.not_eq_false'] at hr; rw [if_neg (by omega), if_neg (by simp [hr]), if_neg (by simp [hs]), if_neg (by simp [hc]), if_neg (by simp [ha]), if_neg (by simp [hb])]
end
/-! New -/
def badSelf (s : TSelf) : Bool := ((decide (s.Host.v < 0) || decide (s.Host.v > 63)) || decide (s.Renew.v < 1)) || decide (s.Renew.v > 1099511627776)
def newA (s : TSelf) : AgM := ⟨s, zReq, false, [], [], [], [], ⟨0, rfl⟩, true, [], false, ⟨0, rfl⟩, false, zPrefix, false, false⟩
end Go.Proofs.YtnbpodjbemfpbaaGreat.Fw
set_option linter.all false
namespace Go.Proofs.YtnbpodjbemfpbaaGreat.Fw
open Go
/-! sizes of the agent's lists behind a call -/
theorem unsetM_len {α : Type} (c : α → α → Fx .i64) (l : List α) (x : α) : (unsetM c l x).length ≤ l.length := by
  unfold unsetM; split <;> simp <;> omega
structure Grows (g h : AgM) (v r n f s : Nat) : Prop where
  v : h.view.length ≤ g.view.length + v
  r : h.Routes.length ≤ g.Routes.length + r
  n : h.Neighs.length ≤ g.Neighs.length + n
  f : h.Fdbs.length ≤ g.Fdbs.length + f
  s : h.skipped.length ≤ g.skipped.length + s
theorem grows_0 {g : AgM} {v r n f s : Nat} : Grows g g v r n f s := ⟨by omega, by omega, by omega, by omega, by omega⟩
theorem carry_grows {g : AgM} {o : TOp} {v s : Nat} : Grows g (carryA g o) v 1 1 1 s := by
  have h1 := setM_len cmpRoute g.Routes o.Route
  have h2 := setM_len cmpNeigh g.Neighs o.Neigh
  have h3 := setM_len cmpFdb g.Fdbs o.Fdb
  have h4 := unsetM_len cmpRoute g.Routes o.Route
  have h5 := unsetM_len cmpNeigh g.Neighs o.Neigh
  have h6 := unsetM_len cmpFdb g.Fdbs o.Fdb
  unfold carryA
  repeat' split
  all_goals exact ⟨by first | omega | (simp only; omega), by first | omega | (simp only; omega), by first | omega | (simp only; omega), by first | omega | (simp only; omega), by first | omega | (simp only; omega)⟩
theorem dump_grows {g : AgM} {e : Int} {a : List TRoute} {b : List TNeigh} {c : List TFdb} {v s : Nat} : Grows g (dumpA g e a b c) v a.length b.length c.length s := by
  unfold dumpA
  repeat' split
  all_goals exact ⟨by first | omega | (simp only; omega), by first | omega | (simp only; omega), by first | omega | (simp only; omega), by first | omega | (simp only; omega), by first | omega | (simp only; omega)⟩
theorem snap_grows {g : AgM} {e : Int} {rev : Fx .i64} {l : List TLease} {r n f s : Nat} : Grows g (snapA g e rev l) l.length r n f s := by
  unfold snapA
  repeat' split
  all_goals exact ⟨by first | omega | (simp only; omega), by first | omega | (simp only; omega), by first | omega | (simp only; omega), by first | omega | (simp only; omega), by first | omega | (simp only [List.length_nil]; omega)⟩
theorem changed_grows {g : AgM} {e : Int} {v : Nat} : Grows g (changedA g e) v 1 1 1 g.view.length := by
  unfold changedA
  have h := skipK_len (g := g) (k := g.view.length)
  repeat' split
  · exact carry_grows
  · exact ⟨by (simp only; omega), by (simp only; omega), by (simp only; omega), by (simp only; omega), by omega⟩
  · exact grows_0
theorem leasedView_len {g : AgM} {x : TLease} : (leasedView g x).length = g.view.length := by
  unfold leasedView
  repeat' split
  all_goals simp
theorem leased_grows {g : AgM} {e : Int} {x : TLease} {v r n f s : Nat} : Grows g (leasedA g e x) v r n f s := by
  unfold leasedA
  have h := leasedView_len (g := g) (x := x)
  repeat' split
  all_goals exact ⟨by first | omega | (simp only; omega), by first | omega | (simp only; omega), by first | omega | (simp only; omega), by first | omega | (simp only; omega), by first | omega | (simp only; omega)⟩
theorem ev_keep {g : AgM} {l : List TEvent} {k : Nat} : (evK g l k).Routes = g.Routes ∧ (evK g l k).Neighs = g.Neighs ∧ (evK g l k).Fdbs = g.Fdbs := by
  induction k with
  | zero => rw [← evK_0]; exact ⟨rfl, rfl, rfl⟩
  | succ k ih =>
    cases h : l[k]? with
    | none =>
      have : evK g l (k + 1) = evK g l k := by
        unfold evK
        rw [List.take_add_one, h]
        simp
      rw [this]; exact ih
    | some e =>
      rw [← evK_succ h]
      unfold evStep
      split
      · split <;> exact ih
      · exact ih
theorem watched_grows {g : AgM} {e : Int} {l : List TEvent} {r n f s : Nat} : Grows g (watchedA g e l) l.length r n f s := by
  have h := evK_len (g := g) (l := l) (k := l.length)
  obtain ⟨h1, h2, h3⟩ := ev_keep (g := g) (l := l) (k := l.length)
  unfold watchedA
  repeat' split
  · exact ⟨h.1, by rw [h1]; omega, by rw [h2]; omega, by rw [h3]; omega, by omega⟩
  all_goals exact ⟨by first | omega | (simp only; omega), by first | omega | (simp only; omega), by first | omega | (simp only; omega), by first | omega | (simp only; omega), by first | omega | (simp only; omega)⟩
theorem Grows.le {g h : AgM} {v r n f s v' r' n' f' s' : Nat} (x : Grows g h v r n f s) (h1 : v ≤ v') (h2 : r ≤ r') (h3 : n ≤ n') (h4 : f ≤ f') (h5 : s ≤ s') : Grows g h v' r' n' f' s' :=
  ⟨Nat.le_trans x.v (by omega), Nat.le_trans x.r (by omega), Nat.le_trans x.n (by omega), Nat.le_trans x.f (by omega), Nat.le_trans x.s (by omega)⟩
theorem taken_grows {g : AgM} {r : ReM} : Grows g (takenA g r) (r.Leases.length + r.Events.length) (r.Routes.length + 1) (r.Neighs.length + 1) (r.Fdbs.length + 1) g.view.length := by
  unfold takenA
  split
  · exact dump_grows.le (Nat.le_refl _) (by omega) (by omega) (by omega) (Nat.le_refl _)
  split
  · exact (snap_grows (r := 0) (n := 0) (f := 0) (s := 0)).le (by omega) (by omega) (by omega) (by omega) (by omega)
  split
  · exact (changed_grows (v := 0)).le (by omega) (by omega) (by omega) (by omega) (Nat.le_refl _)
  split
  · exact leased_grows
  split
  · exact (watched_grows (r := 0) (n := 0) (f := 0) (s := 0)).le (by omega) (by omega) (by omega) (by omega) (by omega)
  · exact grows_0
theorem done_grows {g : AgM} {r : ReM} : Grows g (doneA g r) (r.Leases.length + r.Events.length) (r.Routes.length + 1) (r.Neighs.length + 1) (r.Fdbs.length + 1) g.view.length := by
  have h := taken_grows (g := g) (r := r)
  unfold doneA
  split
  · exact grows_0
  split
  · exact h
  · exact ⟨h.v, h.r, h.n, h.f, h.s⟩
/-! asking -/
theorem nextQ_kind (g : AgM) (now : Int) : (nextQ g now).Kind.v ≠ 0 := by
  unfold nextQ
  split
  · assumption
  split
  · simp
  split
  · simp
  split
  · rename_i h; rw [chg_kind h]; omega
  split
  · rename_i h; rw [acq_kind h]; omega
  split
  · rename_i h; rw [ren_kind h]; omega
  · simp [watchQ]
theorem nextQ_idem (g : AgM) (n n' : Int) : nextQ (nextA g n) n' = nextQ g n := by
  conv => lhs; unfold nextQ
  rw [if_pos (show (nextA g n).opn.Kind.v ≠ 0 from nextQ_kind g n)]
  rfl
theorem nextA_idem (g : AgM) (n n' : Int) : nextA (nextA g n) n' = nextA g n := by
  have h := nextQ_idem g n n'
  show ({ nextA g n with opn := nextQ (nextA g n) n' } : AgM) = _
  rw [h]; rfl
/-! a script -/
def respOf (o : OqM) : ReM := ⟨o.Err, o.Answer, o.Rev, o.Snap_Now, o.Leases, o.Events, o.Routes, o.Neighs, o.Fdbs⟩
def playQ (g : AgM) (o : OqM) : AgM := if o.Kind.v = 1 then nextA g o.Now.v else if o.Kind.v = 2 then doneA g (respOf o) else g
def opSz (o : OqM) : Nat := 1 + o.Leases.length + o.Events.length + o.Routes.length + o.Neighs.length + o.Fdbs.length
def opsSz : List OqM → Nat
  | [] => 0
  | o :: r => opSz o + opsSz r
@[irreducible] def gK (s : TSelf) (l : List OqM) (k : Nat) : AgM := (l.take k).foldl playQ (newA s)
section
variable {s : TSelf} {l : List OqM} {k : Nat} {o : OqM}
theorem gK_0 : newA s = gK s l 0 := by unfold gK; rfl
theorem gK_succ (h : l[k]? = some o) : playQ (gK s l k) o = gK s l (k + 1) := by
  unfold gK
  rw [List.take_add_one, h]
  simp
theorem gK_q (h : l[k]? = some o) (hk : o.Kind.v = 1) : nextA (gK s l k) o.Now.v = gK s l (k + 1) := by rw [← gK_succ h]; unfold playQ; rw [if_pos hk]
theorem gK_q2 {n : Int} (h : l[k]? = some o) (hk : o.Kind.v = 1) : nextA (nextA (gK s l k) o.Now.v) n = gK s l (k + 1) := by rw [nextA_idem]; exact gK_q h hk
theorem gK_d (h : l[k]? = some o) (hk : o.Kind.v = 2) : doneA (gK s l k) ⟨o.Err, o.Answer, o.Rev, o.Snap_Now, o.Leases, o.Events, o.Routes, o.Neighs, o.Fdbs⟩ = gK s l (k + 1) := by rw [← gK_succ h]; unfold playQ; rw [if_neg (by omega), if_pos hk]; rfl
theorem gK_n (h : l[k]? = some o) (h1 : o.Kind.v ≠ 1) (h2 : o.Kind.v ≠ 2) : gK s l k = gK s l (k + 1) := by rw [← gK_succ h]; unfold playQ; rw [if_neg h1, if_neg h2]
theorem opsSz_take (h : l[k]? = some o) : opsSz (l.take (k + 1)) = opsSz (l.take k) + opSz o := by
  rw [List.take_add_one, h]
  generalize l.take k = q
  show opsSz (q ++ [o]) = _
  induction q with
  | nil => simp [opsSz]
  | cons a r ih => simp only [List.cons_append, opsSz, ih]; omega
theorem opsSz_le (l : List OqM) (k : Nat) : opsSz (l.take k) ≤ opsSz l := by
  induction l generalizing k with
  | nil => simp [opsSz]
  | cons a r ih =>
    cases k with
    | zero => simp [opsSz]
    | succ k => simp only [List.take_succ_cons, opsSz]; have := ih k; omega
theorem opsSz_len (l : List OqM) : l.length ≤ opsSz l := by
  induction l with
  | nil => simp [opsSz]
  | cons a r ih => simp only [List.length_cons, opsSz, opSz]; omega
theorem opsSz_mem (h : l[k]? = some o) : opSz o ≤ opsSz l := by
  have h1 := opsSz_take h
  have h2 := opsSz_le l (k + 1)
  omega
structure Fits (g : AgM) (N k : Nat) : Prop where
  v : g.view.length ≤ N
  r : g.Routes.length ≤ N
  n : g.Neighs.length ≤ N
  f : g.Fdbs.length ≤ N
  s : g.skipped.length ≤ k * 1048576
theorem gK_fits (hz : opsSz l ≤ 1048576) (hk : k ≤ l.length) : Fits (gK s l k) (opsSz (l.take k)) k := by
  induction k with
  | zero => rw [← gK_0]; exact ⟨by simp [newA], by simp [newA], by simp [newA], by simp [newA], by simp [newA]⟩
  | succ k ih =>
    have ih := ih (by omega)
    obtain ⟨o, h⟩ : ∃ o, l[k]? = some o := ⟨l[k], List.getElem?_eq_getElem (by omega)⟩
    have hv := opsSz_le l k
    rw [opsSz_take h, ← gK_succ h]
    have key : ∀ h2, Grows (gK s l k) h2 (o.Leases.length + o.Events.length) (o.Routes.length + 1) (o.Neighs.length + 1) (o.Fdbs.length + 1) (gK s l k).view.length → Fits h2 (opsSz (l.take k) + opSz o) (k + 1) := by
      intro h2 x
      obtain ⟨x1, x2, x3, x4, x5⟩ := x
      obtain ⟨y1, y2, y3, y4, y5⟩ := ih
      unfold opSz
      exact ⟨by omega, by omega, by omega, by omega, by omega⟩
    apply key
    unfold playQ
    split
    · exact ⟨by simp only [nextA]; omega, by simp only [nextA]; omega, by simp only [nextA]; omega, by simp only [nextA]; omega, by simp only [nextA]; omega⟩
    split
    · exact done_grows (r := respOf o)
    · exact grows_0
theorem gK_sz (hz : opsSz l ≤ 1048576) (hk : k ≤ l.length) : (gK s l k).view.length ≤ 1048576 ∧ (gK s l k).Routes.length ≤ 1048576 ∧ (gK s l k).Neighs.length ≤ 1048576 ∧ (gK s l k).Fdbs.length ≤ 1048576 ∧ (gK s l k).skipped.length ≤ 1099511627776 := by
  have h := gK_fits (s := s) hz hk
  have h1 := opsSz_le l k
  have h2 := opsSz_len l
  obtain ⟨y1, y2, y3, y4, y5⟩ := h
  exact ⟨by omega, by omega, by omega, by omega, by omega⟩
theorem op_sz (hz : opsSz l ≤ 1048576) (h : l[k]? = some o) : o.Leases.length ≤ 1048576 ∧ o.Events.length ≤ 1048576 ∧ o.Routes.length ≤ 1048576 ∧ o.Neighs.length ≤ 1048576 ∧ o.Fdbs.length ≤ 1048576 := by
  have h1 := opsSz_mem h
  unfold opSz at h1
  omega
end
/-! nothing is open: Done says so -/
theorem done_err0 {g : AgM} {r : ReM} (h : g.opn.Kind.v = 0) : doneE g r = 160 ∧ doneA g r = g := by simp [doneE, doneA, h]
theorem done_ok0 {g : AgM} {r : ReM} (h : doneE g r = 0) : (doneA g r).opn.Kind.v = 0 := by
  unfold doneE at h
  split at h
  · omega
  · rename_i hk
    unfold doneA
    rw [if_neg hk, if_neg (by omega)]
    simp [zReq]
theorem done_stay {g : AgM} {r : ReM} {op : Bool} (h : op = false → g.opn.Kind.v = 0) : op = false → (doneA g r).opn.Kind.v = 0 := fun ho => by rw [(done_err0 (h ho)).2]; exact h ho
theorem nb_t {b : Bool} (h : (!b) = true) : b = false := by simpa using h
/-! the same view -/
theorem ne_same {α : Type} [DecidableEq α] {x y : List α} {k : Nat} {a b : α} (ha : x[k]? = some a) (hb : y[k]? = some b) (h : y = x) : (!decide (a = b)) = false := by
  rw [h, ha] at hb
  simp at hb
  simp [hb]
end Go.Proofs.YtnbpodjbemfpbaaGreat.Fw
set_option linter.all false
set_option maxHeartbeats 4000000
set_option maxRecDepth 100000
namespace Go.Proofs.YtnbpodjbemfpbaaGreat.Fw
open Go
theorem mask_c (n : Int) (w0 : World) (h0 : 0 ≤ n) (h1 : n ≤ 32) : Pure Tryz.prog 144 [.int .i64 n] (.int .u32 (maskM n)) w0 := by
 refine enter (n := 8) Tryz.func144 rfl rfl rfl fun a (hs : St 8 [(0, .int .i64 n)] a) => ?_
 have m := Hp.start w0
 refine c_reg ?_
 refine s_ hs m (ok_assign rfl) (bn_ ?_)
 clear hs a; intro a hs
 refine c_seq ?_
 refine c_reg ?_
 refine s_ hs m (ok_move rfl) (b_ m (ok_bin rfl rfl rfl) (bn_ ?_))
 clear hs a; intro a hs
 refine c_cond hs rfl (fun h1 => ?_) (fun h1 => ?_)
 ·have h1p := eq_of_beq h1
  refine c_reg ?_
  refine s_ hs m (ok_assign rfl) (bn_ ?_)
  clear hs a; intro a hs
  refine wp_ret ?_
  refine ret_then (leave hs (vs := [.int .u32 0]) rfl ⟨rfl, trivial⟩ ?_)
  refine ⟨?_, m.sub .n⟩
  have q2 : (0 : Int) = maskM n := by clear hs m; simp [maskM, *]
  (rw [q2]; rfl)
 have h1p := ne_of_beq_false h1
 refine wp_skip ?_
 refine n_then ?_
 refine c_reg ?_
 refine s_ hs m (ok_move rfl) (b_ m (ok_sub (r := 32 - n) rfl rfl (wrap_i64 (by omega) (by omega))) (b_ m (ok_shl rfl rfl (by omega) rfl) (b_ m (ok_assign rfl) (bn_ ?_))))
 clear hs a; intro a hs
 refine wp_ret ?_
 refine leave hs (vs := [.int .u32 (IntKind.u32.wrap (4294967295 * 2 ^ (min (32 - n).toNat 32)))]) rfl ⟨rfl, trivial⟩ ?_
 refine ⟨?_, m.sub .n⟩
 have q3 : (IntKind.u32.wrap (4294967295 * 2 ^ (min (32 - n).toNat 32)) : Int) = maskM n := by clear hs m; simp [maskM, *]
 (rw [q3]; rfl)
theorem fault_c (p : TPrefix) (w0 : World) : Pure Tryz.prog 96 [.agg ⟨cPrefix p⟩] (.int .i64 (faultM p)) w0 := by
 have hl := p.Len.i64
 refine enter (n := 20) Tryz.func96 rfl rfl rfl fun a (hs : St 20 [(0, .agg ⟨cPrefix p⟩)] a) => ?_
 have m := Hp.start w0
 refine c_reg ?_
 refine r_box (cs := cPrefix p) hs m rfl rfl rfl ?_
 clear m hs a; intro p1 w2 m a hs
 refine s_ hs m (ok_assign rfl) (bn_ ?_)
 clear hs a; intro a hs
 refine c_seq ?_
 refine wp_block ?_
 refine c_reg ?_
 refine s_ hs m (ok_fieldAddr (r := 1) rfl fd44_1 ty3 rfl) (b_ m (ok_load_sc rfl ty3 (bx_at r0) rfl) (b_ m (ok_bin rfl rfl rfl) (b_ m (ok_move rfl) ?_)))
 clear hs a; intro a hs
 refine l_cut (.c (.c (.c (.c (.n))))) (fun a w => St 20 [(1, .pointer (some (padd p1 0))), (11, .bool ((decide (p.Len.v < 0)) || (decide (p.Len.v > 32))))] a ∧ Hp w0 (hh w0) [Bx p1 44 (cPrefix p)] w) ?_ ?_
 ·rcases Bool.eq_false_or_eq_true (decide (p.Len.v < 0)) with hb3 | hb3
  ·have hb3p := of_decide_eq_true hb3
   refine so_ hs hb3 (bo_ hb3 (bo_ hb3 (b_ m (ok_pick (r := .bool ((decide (p.Len.v < 0)) || (decide (p.Len.v > 32)))) rfl rfl rfl (by rw [hb3]; rfl)) ?_)))
   clear hs a; intro a hs
   exact wpList_nil (n_then ⟨hs.to ⟨rfl, rfl, trivial⟩, m⟩)
  ·have hb3p := of_decide_eq_false hb3
   refine sg_ hs hb3 m (ok_fieldAddr (r := 1) rfl fd44_1 ty3 rfl) (bg_ hb3 m (ok_load_sc rfl ty3 (bx_at r0) rfl) (bg_ hb3 m (ok_bin rfl rfl rfl) (b_ m (ok_pick (r := .bool ((decide (p.Len.v < 0)) || (decide (p.Len.v > 32)))) rfl rfl rfl (by rw [hb3]; rfl)) ?_)))
   clear hs a; intro a hs
   exact wpList_nil (n_then ⟨hs.to ⟨rfl, rfl, trivial⟩, m⟩)
 clear hs m a w2; rintro a w4 ⟨hs, m⟩
 refine s_ hs m (ok_assign rfl) (bn_ ?_)
 clear hs a; intro a hs
 refine c_cond hs rfl (fun h5 => ?_) (fun h5 => ?_)
 ·have h5p := h5; simp only [bp_] at h5p
  refine c_reg ?_
  refine s_ hs m (ok_assign rfl) (bn_ ?_)
  clear hs a; intro a hs
  refine wp_ret ?_
  refine ret_block (ret_then (leave hs (vs := [.int .i64 11]) rfl ⟨rfl, trivial⟩ ?_))
  refine ⟨?_, m.sub .n⟩
  have q6 : (11 : Int) = faultM p := by clear hs m; simp [faultM, *] <;> omega
  (rw [q6]; rfl)
 have h5p := h5; simp only [bp_] at h5p
 refine c_draw m mo (by kernel_rfl) ?_
 refine sq_ hs (ok_fieldAddr (r := 0) rfl fd44_0 ty42 rfl) (bq_ (ok_load_sc rfl ty42 (bx_at r0) rfl) (bq_ (ok_fieldAddr (r := 1) rfl fd44_1 ty3 rfl) (bq_ (ok_load_sc rfl ty3 (bx_at r0) rfl) ?_)))
 clear hs a; intro a hs
 refine q_callP hs rfl rfl ca144 rfl (fun w m => mask_c p.Len.v w  (by omega) (by omega)) rfl ?_
 clear hs a; intro a hs
 refine sq_ hs (ok_bin rfl rfl rfl) (bq_ (ok_bin rfl rfl rfl) (bq_ (ok_assign rfl) ?_))
 clear hs a; intro a hs
 refine wpQuiet_nil ?_; clear m w4; intro w7 m
 refine c_cond hs rfl (fun h8 => ?_) (fun h8 => ?_)
 ·have h8p := ne_of_bne h8
  refine c_reg ?_
  refine s_ hs m (ok_assign rfl) (bn_ ?_)
  clear hs a; intro a hs
  refine wp_ret ?_
  refine ret_block (ret_then (leave hs (vs := [.int .i64 12]) rfl ⟨rfl, trivial⟩ ?_))
  refine ⟨?_, m.sub .n⟩
  have q9 : (12 : Int) = faultM p := by clear hs m; simp [faultM, *] <;> omega
  (rw [q9]; rfl)
 have h8p := eq_of_bne_false h8
 refine wp_skip ?_
 refine n_block (n_then ?_)
 refine c_reg ?_
 refine s_ hs m (ok_assign rfl) (bn_ ?_)
 clear hs a; intro a hs
 refine wp_ret ?_
 refine leave hs (vs := [.int .i64 0]) rfl ⟨rfl, trivial⟩ ?_
 refine ⟨?_, m.sub .n⟩
 have q10 : (0 : Int) = faultM p := by clear hs m; simp [faultM, *] <;> omega
 (rw [q10]; rfl)
theorem valid_c (p : TPrefix) (w0 : World) : Pure Tryz.prog 43 [.agg ⟨cPrefix p⟩] (.bool (validM p)) w0 := by
 refine enter (n := 6) Tryz.func43 rfl rfl rfl fun a (hs : St 6 [(0, .agg ⟨cPrefix p⟩)] a) => ?_
 have m := Hp.start w0
 refine c_reg ?_
 refine r_box (cs := cPrefix p) hs m rfl rfl rfl ?_
 clear m hs a; intro p1 w2 m a hs
 refine s_ hs m (ok_assign rfl) (bn_ (bc_ (b_ m (ok_load_ag (vs := cPrefix p) rfl ty44 (bx_at r0) rfl rfl) ?_)))
 clear hs a; intro a hs
 refine r_callP hs m rfl rfl ca96 rfl (fault_c p _  ) rfl ?_
 clear m hs a w2; intro w3 m a hs
 refine s_ hs m (ok_bin rfl rfl rfl) (b_ m (ok_assign rfl) (bn_ ?_))
 clear hs a; intro a hs
 refine wp_ret ?_
 refine leave hs (vs := [.bool ((faultM p) == 0)]) rfl ⟨rfl, trivial⟩ ?_
 refine ⟨?_, m.sub .n⟩
 have q4 : ((faultM p) == 0 : Bool) = validM p := by clear hs m; simp [validM]
 (rw [q4]; rfl)
theorem isNaNA_c (x : Int) (w0 : World) : Pure Tryz.prog 151 [.int .u32 x] (.bool false) w0 := by
 refine enter (n := 6) Tryz.func151 rfl rfl rfl fun a (hs : St 6 [(0, .int .u32 x)] a) => ?_
 have m := Hp.start w0
 refine c_reg ?_
 refine s_ hs m (ok_assign rfl) (bn_ (bc_ (b_ m (ok_move rfl) (b_ m (ok_move rfl) (b_ m (ok_bin rfl rfl rfl) (b_ m (ok_assign rfl) (bn_ ?_)))))))
 clear hs a; intro a hs
 refine wp_ret ?_
 refine leave hs (vs := [.bool (x != x)]) rfl ⟨rfl, trivial⟩ ?_
 refine ⟨?_, m.sub .n⟩
 have q1 : (x != x : Bool) = false := by clear hs m; simp
 (rw [q1]; rfl)
theorem isNaNI_c (x : Int) (w0 : World) : Pure Tryz.prog 174 [.int .i64 x] (.bool false) w0 := by
 refine enter (n := 6) Tryz.func174 rfl rfl rfl fun a (hs : St 6 [(0, .int .i64 x)] a) => ?_
 have m := Hp.start w0
 refine c_reg ?_
 refine s_ hs m (ok_assign rfl) (bn_ (bc_ (b_ m (ok_move rfl) (b_ m (ok_move rfl) (b_ m (ok_bin rfl rfl rfl) (b_ m (ok_assign rfl) (bn_ ?_)))))))
 clear hs a; intro a hs
 refine wp_ret ?_
 refine leave hs (vs := [.bool (x != x)]) rfl ⟨rfl, trivial⟩ ?_
 refine ⟨?_, m.sub .n⟩
 have q1 : (x != x : Bool) = false := by clear hs m; simp
 (rw [q1]; rfl)
theorem compareA_c (x : Int) (y : Int) (w0 : World) : Pure Tryz.prog 102 [.int .u32 x, .int .u32 y] (.int .i64 ((cmpF x y).v)) w0 := by
 refine enter (n := 20) Tryz.func102 rfl rfl rfl fun a (hs : St 20 [(0, .int .u32 x), (1, .int .u32 y)] a) => ?_
 have m := Hp.start w0
 refine c_reg ?_
 refine s_ hs m (ok_assign rfl) (bn_ (bc_ (b_ m (ok_move rfl) ?_)))
 clear hs a; intro a hs
 refine r_callP hs m rfl rfl ca151 rfl (isNaNA_c x _  ) rfl ?_
 clear m hs a; intro w1 m a hs
 refine s_ hs m (ok_assign rfl) (bn_ (bc_ (b_ m (ok_move rfl) ?_)))
 clear hs a; intro a hs
 refine r_callP hs m rfl rfl ca151 rfl (isNaNA_c y _  ) rfl ?_
 clear m hs a w1; intro w2 m a hs
 refine s_ hs m (ok_assign rfl) (bn_ ?_)
 clear hs a; intro a hs
 refine c_seq ?_
 refine c_reg ?_
 refine s_ hs m (ok_move rfl) (bn_ ?_)
 clear hs a; intro a hs
 refine c_false hs rfl rfl ?_
 refine wp_skip ?_
 refine n_then ?_
 refine c_seq ?_
 refine c_reg ?_
 refine s_ hs m (ok_move rfl) (bn_ ?_)
 clear hs a; intro a hs
 refine c_false hs rfl rfl ?_
 refine wp_skip ?_
 refine n_then ?_
 refine c_seq ?_
 refine c_reg ?_
 refine s_ hs m (ok_move rfl) (b_ m (ok_move rfl) (b_ m (ok_bin rfl rfl rfl) (bn_ ?_)))
 clear hs a; intro a hs
 refine c_cond hs rfl (fun h5 => ?_) (fun h5 => ?_)
 ·have h5p := of_decide_eq_true h5
  refine c_reg ?_
  refine s_ hs m (ok_assign rfl) (bn_ ?_)
  clear hs a; intro a hs
  refine wp_ret ?_
  refine ret_then (leave hs (vs := [.int .i64 (-1)]) rfl ⟨rfl, trivial⟩ ?_)
  refine ⟨?_, m.sub .n⟩
  have q6 : ((-1) : Int) = (cmpF x y).v := by clear hs m; simp [cmpF_v] <;> omega
  (rw [q6]; rfl)
 have h5p := of_decide_eq_false h5
 refine wp_skip ?_
 refine n_then ?_
 refine c_seq ?_
 refine c_reg ?_
 refine s_ hs m (ok_move rfl) (b_ m (ok_move rfl) (b_ m (ok_bin rfl rfl rfl) (bn_ ?_)))
 clear hs a; intro a hs
 refine c_cond hs rfl (fun h7 => ?_) (fun h7 => ?_)
 ·have h7p := of_decide_eq_true h7
  refine c_reg ?_
  refine s_ hs m (ok_assign rfl) (bn_ ?_)
  clear hs a; intro a hs
  refine wp_ret ?_
  refine ret_then (leave hs (vs := [.int .i64 1]) rfl ⟨rfl, trivial⟩ ?_)
  refine ⟨?_, m.sub .n⟩
  have q8 : (1 : Int) = (cmpF x y).v := by clear hs m; simp [cmpF_v] <;> omega
  (rw [q8]; rfl)
 have h7p := of_decide_eq_false h7
 refine wp_skip ?_
 refine n_then ?_
 refine c_reg ?_
 refine s_ hs m (ok_assign rfl) (bn_ ?_)
 clear hs a; intro a hs
 refine wp_ret ?_
 refine leave hs (vs := [.int .i64 0]) rfl ⟨rfl, trivial⟩ ?_
 refine ⟨?_, m.sub .n⟩
 have q9 : (0 : Int) = (cmpF x y).v := by clear hs m; simp [cmpF_v] <;> omega
 (rw [q9]; rfl)
theorem compareI_c (x : Int) (y : Int) (w0 : World) : Pure Tryz.prog 148 [.int .i64 x, .int .i64 y] (.int .i64 ((cmpF x y).v)) w0 := by
 refine enter (n := 20) Tryz.func148 rfl rfl rfl fun a (hs : St 20 [(0, .int .i64 x), (1, .int .i64 y)] a) => ?_
 have m := Hp.start w0
 refine c_reg ?_
 refine s_ hs m (ok_assign rfl) (bn_ (bc_ (b_ m (ok_move rfl) ?_)))
 clear hs a; intro a hs
 refine r_callP hs m rfl rfl ca174 rfl (isNaNI_c x _  ) rfl ?_
 clear m hs a; intro w1 m a hs
 refine s_ hs m (ok_assign rfl) (bn_ (bc_ (b_ m (ok_move rfl) ?_)))
 clear hs a; intro a hs
 refine r_callP hs m rfl rfl ca174 rfl (isNaNI_c y _  ) rfl ?_
 clear m hs a w1; intro w2 m a hs
 refine s_ hs m (ok_assign rfl) (bn_ ?_)
 clear hs a; intro a hs
 refine c_seq ?_
 refine c_reg ?_
 refine s_ hs m (ok_move rfl) (bn_ ?_)
 clear hs a; intro a hs
 refine c_false hs rfl rfl ?_
 refine wp_skip ?_
 refine n_then ?_
 refine c_seq ?_
 refine c_reg ?_
 refine s_ hs m (ok_move rfl) (bn_ ?_)
 clear hs a; intro a hs
 refine c_false hs rfl rfl ?_
 refine wp_skip ?_
 refine n_then ?_
 refine c_seq ?_
 refine c_reg ?_
 refine s_ hs m (ok_move rfl) (b_ m (ok_move rfl) (b_ m (ok_bin rfl rfl rfl) (bn_ ?_)))
 clear hs a; intro a hs
 refine c_cond hs rfl (fun h5 => ?_) (fun h5 => ?_)
 ·have h5p := of_decide_eq_true h5
  refine c_reg ?_
  refine s_ hs m (ok_assign rfl) (bn_ ?_)
  clear hs a; intro a hs
  refine wp_ret ?_
  refine ret_then (leave hs (vs := [.int .i64 (-1)]) rfl ⟨rfl, trivial⟩ ?_)
  refine ⟨?_, m.sub .n⟩
  have q6 : ((-1) : Int) = (cmpF x y).v := by clear hs m; simp [cmpF_v] <;> omega
  (rw [q6]; rfl)
 have h5p := of_decide_eq_false h5
 refine wp_skip ?_
 refine n_then ?_
 refine c_seq ?_
 refine c_reg ?_
 refine s_ hs m (ok_move rfl) (b_ m (ok_move rfl) (b_ m (ok_bin rfl rfl rfl) (bn_ ?_)))
 clear hs a; intro a hs
 refine c_cond hs rfl (fun h7 => ?_) (fun h7 => ?_)
 ·have h7p := of_decide_eq_true h7
  refine c_reg ?_
  refine s_ hs m (ok_assign rfl) (bn_ ?_)
  clear hs a; intro a hs
  refine wp_ret ?_
  refine ret_then (leave hs (vs := [.int .i64 1]) rfl ⟨rfl, trivial⟩ ?_)
  refine ⟨?_, m.sub .n⟩
  have q8 : (1 : Int) = (cmpF x y).v := by clear hs m; simp [cmpF_v] <;> omega
  (rw [q8]; rfl)
 have h7p := of_decide_eq_false h7
 refine wp_skip ?_
 refine n_then ?_
 refine c_reg ?_
 refine s_ hs m (ok_assign rfl) (bn_ ?_)
 clear hs a; intro a hs
 refine wp_ret ?_
 refine leave hs (vs := [.int .i64 0]) rfl ⟨rfl, trivial⟩ ?_
 refine ⟨?_, m.sub .n⟩
 have q9 : (0 : Int) = (cmpF x y).v := by clear hs m; simp [cmpF_v] <;> omega
 (rw [q9]; rfl)
end Go.Proofs.YtnbpodjbemfpbaaGreat.Fw
set_option linter.all false
set_option maxHeartbeats 4000000
set_option maxRecDepth 100000
namespace Go.Proofs.YtnbpodjbemfpbaaGreat.Fw
open Go
theorem or_c (vx : SH) (x : List (Fx .i64)) (w0 : World) (hx : RdS (hh w0) 1 vx.v (x.map cI)) : Pure Tryz.prog 147 [vx.v] (.int .i64 ((orM x).v)) w0 := by
 have lvx := hx.bd
 refine enter (n := 18) Tryz.func147 rfl rfl rfl fun a (hs : St 18 [(0, vx.v)] a) => ?_
 have m := Hp.start w0
 refine c_reg ?_
 refine s_ hs m (ok_assign rfl) (bn_ (bc_ (b_ m (ok_assign rfl) (bn_ ?_))))
 clear hs a; intro a hs
 refine c_seq ?_
 refine c_reg ?_
 refine s_ hs m (ok_move rfl) (b_ m (ok_len (r := (x.length : Int)) m rfl sl232 (rc_fr hx) (by simp)) (b_ m (ok_move rfl) (bn_ ?_)))
 clear hs a; intro a hs
 refine wp_block ?_
 refine wp_loop_ghost (fun gn a w => ∃ k : Nat, (k ≤ x.length) ∧ (orM x = orM (x.drop k)) ∧ gn = x.length - k ∧ St 18 [(3, .int .i64 0), (6, vx.v), (7, .int .i64 (x.length : Int)), (8, .int .i64 (k : Int))] a ∧ Hp w0 (hh w0) [] w) (x.length - 0) ⟨0, by omega, by rfl, rfl, hs.to ⟨rfl, rfl, rfl, rfl, trivial⟩, m.sub .n⟩ ?_
 clear hs m a
 rintro gn a w1 ⟨k, hk, ho, rfl, hs, m⟩
 refine c_reg ?_
 refine s_ hs m (ok_bin rfl rfl rfl) (bn_ ?_)
 clear hs a; intro a hs
 refine c_seq ?_
 refine c_cond hs rfl (fun h2 => ?_) (fun h2 => ?_)
 rotate_left
 ·have h2p := of_decide_eq_false h2
  refine wp_exit ?_
  refine ex_then (ex_then (ex_hit (?_)))
  refine n_then ?_
  refine c_reg ?_
  refine s_ hs m (ok_move rfl) (b_ m (ok_assign rfl) (bn_ ?_))
  clear hs a; intro a hs
  refine wp_ret ?_
  refine leave hs (vs := [.int .i64 0]) rfl ⟨rfl, trivial⟩ ?_
  refine ⟨?_, m.sub .n⟩
  have q3 : (0 : Int) = (orM x).v := by clear hs m; rw [ho]; rw [orM_end (by omega)]
  (rw [q3]; rfl)
 have h2p := of_decide_eq_true h2
 refine wp_skip ?_
 refine n_then ?_
 refine c_seq ?_
 refine wp_block ?_
 refine c_reg ?_
 obtain ⟨e4, he5⟩ := get_of_lt (l := x) (i := k) (by omega)
 refine elF (c := cI) (e := e4) hs m (x := (.tmp 6)) (ix := (.tmp 8)) rfl rfl sl232 ty3 hx (by omega) he5 fun p6 hp7 ok8 => ?_
 refine s_ hs m (ok8 _ _ _ _ _) (b_ m (ok_load_sc rfl ty3 (fr_at hp7) rfl) (b_ m (ok_assign rfl) (bn_ (bc_ (b_ m (ok_move rfl) (b_ m (ok_move rfl) (b_ m (ok_bin rfl rfl rfl) (bn_ ?_))))))))
 clear hs a; intro a hs
 refine c_cond hs rfl (fun h9 => ?_) (fun h9 => ?_)
 ·have h9p := ne_of_bne h9
  refine c_reg ?_
  refine s_ hs m (ok_move rfl) (b_ m (ok_assign rfl) (bn_ ?_))
  clear hs a; intro a hs
  refine wp_ret ?_
  refine ret_block (ret_then (ret_then (ret_block (ret_then (leave hs (vs := [.int .i64 e4.v]) rfl ⟨rfl, trivial⟩ ?_)))))
  refine ⟨?_, m.sub .n⟩
  have q10 : (e4.v : Int) = (orM x).v := by clear hs m; rw [ho]; rw [orM_hit (by assumption) (by assumption)]
  (rw [q10]; rfl)
 have h9p := eq_of_bne_false h9
 refine wp_skip ?_
 refine n_block (n_then ?_)
 refine c_last ?_
 refine s_ hs m (ok_add (r := (k : Int) + 1) rfl rfl (wrap_i64 (by omega) (by omega))) (b_ m (ok_move rfl) (bn_ ?_))
 clear hs a; intro a hs
 exact ⟨x.length - (k + 1), by omega, k + 1, by omega, by rw [ho]; exact orM_miss (by assumption) (by assumption), rfl, hs.to ⟨rfl, rfl, rfl, rfl, trivial⟩, m.sub .n⟩
theorem cprefix_c (x : TPrefix) (y : TPrefix) (w0 : World) : Pure Tryz.prog 99 [.agg ⟨cPrefix x⟩, .agg ⟨cPrefix y⟩] (.int .i64 ((cmpPrefix x y).v)) w0 := by
 refine enter (n := 17) Tryz.func99 rfl rfl rfl fun a (hs : St 17 [(0, .agg ⟨cPrefix x⟩), (1, .agg ⟨cPrefix y⟩)] a) => ?_
 have m := Hp.start w0
 refine c_reg ?_
 refine r_box (cs := cPrefix x) hs m rfl rfl rfl ?_
 clear m hs a; intro p1 w2 m a hs
 refine r_box (cs := cPrefix y) hs m rfl rfl rfl ?_
 clear m hs a w2; intro p3 w4 m a hs
 refine s_ hs m (ok_assign rfl) (bn_ ?_)
 clear hs a; intro a hs
 refine c_drawH (Hp w0 (hh w0) [Bx p3 44 (cPrefix y), Bx p1 44 (cPrefix x)]) m mo ?_; clear m w4; intro w5 m
 refine sh_ (i := 0) rfl hs (m.sub (.c r0 (.c r0 .n))) (ok_fieldAddr (r := 0) rfl fd44_0 ty42 rfl) (bh_ (i := 1) rfl (m.sub (.c r0 (.c r0 .n))) (ok_load_sc rfl ty42 (bx_at r1) rfl) (bh_ (i := 2) rfl (m.sub (.c r0 (.c r0 .n))) (ok_fieldAddr (r := 0) rfl fd44_0 ty42 rfl) (bh_ (i := 3) rfl (m.sub (.c r0 (.c r0 .n))) (ok_load_sc rfl ty42 (bx_at r0) rfl) (bh_ (i := 5) rfl (m.sub (.c r0 (.c r0 .n))) (ok_fieldAddr (r := 1) rfl fd44_1 ty3 rfl) (bh_ (i := 6) rfl (m.sub (.c r0 (.c r0 .n))) (ok_load_sc rfl ty3 (bx_at r1) rfl) (bh_ (i := 7) rfl (m.sub (.c r0 (.c r0 .n))) (ok_fieldAddr (r := 1) rfl fd44_1 ty3 rfl) (bh_ (i := 8) rfl (m.sub (.c r0 (.c r0 .n))) (ok_load_sc rfl ty3 (bx_at r0) rfl) ?_)))))))
 clear hs a; intro a hs
 refine h_eff (i := 4) (by kernel_rfl) rfl ?_
 refine r_callP hs m rfl rfl ca102 rfl (compareA_c x.Addr.v y.Addr.v _  ) rfl ?_
 clear m hs a w5; intro w6 m a hs
 refine wpList_nil (n_then ⟨(m.sub (.c r0 (.c r0 .n))), ?_⟩)
 refine h_eff (i := 9) (by kernel_rfl) rfl ?_
 refine r_callP hs m rfl rfl ca148 rfl (compareI_c x.Len.v y.Len.v _  ) rfl ?_
 clear m hs a w6; intro w7 m a hs
 refine wpList_nil (n_then ⟨(m.sub (.c r0 (.c r0 .n))), ?_⟩)
 refine h_eff (i := 10) (by kernel_rfl) rfl ?_
 refine r_buildM (c := cI) (ys := [(cmpF x.Addr.v y.Addr.v), (cmpF x.Len.v y.Len.v)]) hs m sl232 ty3 ze3 rfl rfl rfl rfl rfl (fun _ => rfl) rfl rfl rfl ?_
 clear m hs a w7; intro v8 w9 m a hs
 refine wpList_nil (n_then ⟨(m.sub (.c r1 (.c r1 .n))), ?_⟩)
 refine h_eff (i := 11) (by kernel_rfl) rfl ?_
 refine r_callP hs m rfl rfl ca147 rfl (or_c v8 [(cmpF x.Addr.v y.Addr.v), (cmpF x.Len.v y.Len.v)] _ (m.rdv r0) ) rfl ?_
 clear m hs a w9; intro w10 m a hs
 refine wpList_nil (n_then ⟨(m.sub (.c r1 (.c r1 .n))), ?_⟩)
 refine sh_ (i := 12) rfl hs (m.sub (.c r1 (.c r1 .n))) (ok_assign rfl) ?_
 clear hs a; intro a hs
 refine h_done (by kernel_rfl) (n_then ?_)
 refine wp_ret ?_
 refine leave hs (vs := [.int .i64 ((orM [(cmpF x.Addr.v y.Addr.v), (cmpF x.Len.v y.Len.v)]).v)]) rfl ⟨rfl, trivial⟩ ?_
 refine ⟨?_, m.sub .n⟩
 have q11 : ((orM [(cmpF x.Addr.v y.Addr.v), (cmpF x.Len.v y.Len.v)]).v : Int) = (cmpPrefix x y).v := by clear hs m; rfl
 (rw [q11]; rfl)
theorem croute_c (x : TRoute) (y : TRoute) (w0 : World) : Pure Tryz.prog 45 [.agg ⟨cRoute x⟩, .agg ⟨cRoute y⟩] (.int .i64 ((cmpRoute x y).v)) w0 := by
 refine enter (n := 10) Tryz.func45 rfl rfl rfl fun a (hs : St 10 [(0, .agg ⟨cRoute x⟩), (1, .agg ⟨cRoute y⟩)] a) => ?_
 have m := Hp.start w0
 refine c_reg ?_
 refine r_box (cs := cRoute x) hs m rfl rfl rfl ?_
 clear m hs a; intro p1 w2 m a hs
 refine r_box (cs := cRoute y) hs m rfl rfl rfl ?_
 clear m hs a w2; intro p3 w4 m a hs
 refine s_ hs m (ok_assign rfl) (bn_ (bc_ (b_ m (ok_fieldAddr (r := 0) rfl fd51_0 ty44 rfl) (b_ m (ok_load_ag (vs := cPrefix x.Dst) rfl ty44 (bx_at r1) rfl rfl) (b_ m (ok_fieldAddr (r := 0) rfl fd51_0 ty44 rfl) (b_ m (ok_load_ag (vs := cPrefix y.Dst) rfl ty44 (bx_at r0) rfl rfl) ?_))))))
 clear hs a; intro a hs
 refine r_callP hs m rfl rfl ca99 rfl (cprefix_c x.Dst y.Dst _  ) rfl ?_
 clear m hs a w4; intro w5 m a hs
 refine s_ hs m (ok_assign rfl) (bn_ ?_)
 clear hs a; intro a hs
 refine wp_ret ?_
 refine leave hs (vs := [.int .i64 ((cmpPrefix x.Dst y.Dst).v)]) rfl ⟨rfl, trivial⟩ ?_
 refine ⟨?_, m.sub .n⟩
 have q6 : ((cmpPrefix x.Dst y.Dst).v : Int) = (cmpRoute x y).v := by clear hs m; rfl
 (rw [q6]; rfl)
theorem cneigh_c (x : TNeigh) (y : TNeigh) (w0 : World) : Pure Tryz.prog 47 [.agg ⟨cNeigh x⟩, .agg ⟨cNeigh y⟩] (.int .i64 ((cmpNeigh x y).v)) w0 := by
 refine enter (n := 10) Tryz.func47 rfl rfl rfl fun a (hs : St 10 [(0, .agg ⟨cNeigh x⟩), (1, .agg ⟨cNeigh y⟩)] a) => ?_
 have m := Hp.start w0
 refine c_reg ?_
 refine r_box (cs := cNeigh x) hs m rfl rfl rfl ?_
 clear m hs a; intro p1 w2 m a hs
 refine r_box (cs := cNeigh y) hs m rfl rfl rfl ?_
 clear m hs a w2; intro p3 w4 m a hs
 refine s_ hs m (ok_assign rfl) (bn_ (bc_ (b_ m (ok_fieldAddr (r := 0) rfl fd54_0 ty42 rfl) (b_ m (ok_load_sc rfl ty42 (bx_at r1) rfl) (b_ m (ok_fieldAddr (r := 0) rfl fd54_0 ty42 rfl) (b_ m (ok_load_sc rfl ty42 (bx_at r0) rfl) ?_))))))
 clear hs a; intro a hs
 refine r_callP hs m rfl rfl ca102 rfl (compareA_c x.IP.v y.IP.v _  ) rfl ?_
 clear m hs a w4; intro w5 m a hs
 refine s_ hs m (ok_assign rfl) (bn_ ?_)
 clear hs a; intro a hs
 refine wp_ret ?_
 refine leave hs (vs := [.int .i64 ((cmpF x.IP.v y.IP.v).v)]) rfl ⟨rfl, trivial⟩ ?_
 refine ⟨?_, m.sub .n⟩
 have q6 : ((cmpF x.IP.v y.IP.v).v : Int) = (cmpNeigh x y).v := by clear hs m; rfl
 (rw [q6]; rfl)
theorem clease_c (x : TLease) (y : TLease) (w0 : World) : Pure Tryz.prog 133 [.agg ⟨cLease x⟩, .agg ⟨cLease y⟩] (.int .i64 ((cmpLease x y).v)) w0 := by
 refine enter (n := 10) Tryz.func133 rfl rfl rfl fun a (hs : St 10 [(0, .agg ⟨cLease x⟩), (1, .agg ⟨cLease y⟩)] a) => ?_
 have m := Hp.start w0
 refine c_reg ?_
 refine r_box (cs := cLease x) hs m rfl rfl rfl ?_
 clear m hs a; intro p1 w2 m a hs
 refine r_box (cs := cLease y) hs m rfl rfl rfl ?_
 clear m hs a w2; intro p3 w4 m a hs
 refine s_ hs m (ok_assign rfl) (bn_ (bc_ (b_ m (ok_fieldAddr (r := 1) rfl fd48_1 ty44 rfl) (b_ m (ok_load_ag (vs := cPrefix x.Subnet) rfl ty44 (bx_at r1) rfl rfl) (b_ m (ok_fieldAddr (r := 1) rfl fd48_1 ty44 rfl) (b_ m (ok_load_ag (vs := cPrefix y.Subnet) rfl ty44 (bx_at r0) rfl rfl) ?_))))))
 clear hs a; intro a hs
 refine r_callP hs m rfl rfl ca99 rfl (cprefix_c x.Subnet y.Subnet _  ) rfl ?_
 clear m hs a w4; intro w5 m a hs
 refine s_ hs m (ok_assign rfl) (bn_ ?_)
 clear hs a; intro a hs
 refine wp_ret ?_
 refine leave hs (vs := [.int .i64 ((cmpPrefix x.Subnet y.Subnet).v)]) rfl ⟨rfl, trivial⟩ ?_
 refine ⟨?_, m.sub .n⟩
 have q6 : ((cmpPrefix x.Subnet y.Subnet).v : Int) = (cmpLease x y).v := by clear hs m; rfl
 (rw [q6]; rfl)
end Go.Proofs.YtnbpodjbemfpbaaGreat.Fw
set_option linter.all false
set_option maxHeartbeats 4000000
set_option maxRecDepth 100000
namespace Go.Proofs.YtnbpodjbemfpbaaGreat.Fw
open Go
theorem en154 : entry Tryz.prog 154 Extern.BytealgCompare.compare := ⟨_, Tryz.func154, by kernel_rfl, by kernel_rfl, by kernel_rfl, by kernel_rfl⟩
theorem bcompare_c (vx : SH) (x : List (Fx .u8)) (vy : SH) (y : List (Fx .u8)) (w0 : World) (hx : RdS (hh w0) 1 vx.v (x.map cI)) (hy : RdS (hh w0) 1 vy.v (y.map cI)) : Pure Tryz.prog 105 [vx.v, vy.v] (.int .i64 ((cmpBF x y).v)) w0 := by
 have lvx := hx.bd
 have lvy := hy.bd
 refine enter (n := 8) Tryz.func105 rfl rfl rfl fun a (hs : St 8 [(0, vx.v), (1, vy.v)] a) => ?_
 have m := Hp.start w0
 refine c_reg ?_
 refine s_ hs m (ok_assign rfl) (bn_ (bc_ (b_ m (ok_move rfl) (b_ m (ok_move rfl) (b_ m (ok_entry en154 rfl (fun w m => run_compare (m.rd hx) (m.rd hy))) (b_ m (ok_assign rfl) (bn_ ?_)))))))
 clear hs a; intro a hs
 refine wp_ret ?_
 refine leave hs (vs := [.int .i64 ((cmpBF x y).v)]) rfl ⟨rfl, trivial⟩ ?_
 refine ⟨?_, m.sub .n⟩
 rfl
theorem cfdb_c (x : TFdb) (y : TFdb) (w0 : World) : Pure Tryz.prog 49 [.agg ⟨cFdb x⟩, .agg ⟨cFdb y⟩] (.int .i64 ((cmpFdb x y).v)) w0 := by
 refine enter (n := 10) Tryz.func49 rfl rfl rfl fun a (hs : St 10 [(0, .agg ⟨cFdb x⟩), (1, .agg ⟨cFdb y⟩)] a) => ?_
 have m := Hp.start w0
 refine c_reg ?_
 refine r_box (cs := cFdb x) hs m rfl rfl rfl ?_
 clear m hs a; intro p1 w2 m a hs
 refine r_box (cs := cFdb y) hs m rfl rfl rfl ?_
 clear m hs a w2; intro p3 w4 m a hs
 refine s_ hs m (ok_assign rfl) (bn_ ?_)
 clear hs a; intro a hs
 refine c_draw m mo (by kernel_rfl) ?_
 refine sq_ hs (ok_fieldAddr (r := 0) rfl fd56_0 ty46 rfl) (bq_ (ok_sliceArr rfl ar46 ty5) (bq_ (ok_fieldAddr (r := 0) rfl fd56_0 ty46 rfl) (bq_ (ok_sliceArr rfl ar46 ty5) ?_)))
 clear hs a; intro a hs
 refine q_callP hs rfl rfl ca105 rfl (fun w m => bcompare_c (⟨some (padd p1 0), 6, 6⟩ : SH) [x.MAC.b0, x.MAC.b1, x.MAC.b2, x.MAC.b3, x.MAC.b4, x.MAC.b5] (⟨some (padd p3 0), 6, 6⟩ : SH) [y.MAC.b0, y.MAC.b1, y.MAC.b2, y.MAC.b3, y.MAC.b4, y.MAC.b5] w (rd_boxM (c := cI) (bx_at r1 _ m) rfl rfl rfl) (rd_boxM (c := cI) (bx_at r0 _ m) rfl rfl rfl) ) rfl ?_
 clear hs a; intro a hs
 refine sq_ hs (ok_assign rfl) ?_
 clear hs a; intro a hs
 refine wpQuiet_nil ?_; clear m w4; intro w5 m
 refine wp_ret ?_
 refine leave hs (vs := [.int .i64 ((cmpBF [x.MAC.b0, x.MAC.b1, x.MAC.b2, x.MAC.b3, x.MAC.b4, x.MAC.b5] [y.MAC.b0, y.MAC.b1, y.MAC.b2, y.MAC.b3, y.MAC.b4, y.MAC.b5]).v)]) rfl ⟨rfl, trivial⟩ ?_
 refine ⟨?_, m.sub .n⟩
 have q6 : ((cmpBF [x.MAC.b0, x.MAC.b1, x.MAC.b2, x.MAC.b3, x.MAC.b4, x.MAC.b5] [y.MAC.b0, y.MAC.b1, y.MAC.b2, y.MAC.b3, y.MAC.b4, y.MAC.b5]).v : Int) = (cmpFdb x y).v := by clear hs m; rfl
 (rw [q6]; rfl)
end Go.Proofs.YtnbpodjbemfpbaaGreat.Fw
set_option linter.all false
set_option maxHeartbeats 4000000
set_option maxRecDepth 100000
namespace Go.Proofs.YtnbpodjbemfpbaaGreat.Fw
open Go
theorem bsRoute_c (vx : SH) (x : List TRoute) (t : TRoute) (w0 : World) (hx : RdS (hh w0) 4 vx.v (x.map cRoute)) : Pure Tryz.prog 97 [vx.v, .agg ⟨cRoute t⟩, .func (.func 45) ⟨[]⟩ ⟨[]⟩] (.tuple ⟨[.int .i64 (bsI (fun e => (cmpRoute e t).v) x : Int), .bool (bsHit cmpRoute x t)]⟩) w0 := by
 have lvx := hx.bd
 refine enter (n := 49) Tryz.func97 rfl rfl rfl fun a (hs : St 49 [(0, vx.v), (1, .agg ⟨cRoute t⟩), (2, .func (.func 45) ⟨[]⟩ ⟨[]⟩)] a) => ?_
 have m := Hp.start w0
 refine c_reg ?_
 refine r_box (cs := cRoute t) hs m rfl rfl rfl ?_
 clear m hs a; intro p1 w2 m a hs
 refine s_ hs m (ok_assign rfl) (b_ m (ok_assign rfl) (bn_ (bc_ (b_ m (ok_move rfl) (b_ m (ok_len (r := (x.length : Int)) m rfl sl25 (rc_fr hx) (by simp)) (b_ m (ok_assign rfl) (bn_ (bc_ (b_ m (ok_move rfl) (b_ m (ok_assign rfl) (b_ m (ok_assign rfl) ?_)))))))))))
 clear hs a; intro a hs
 refine wpList_nil (n_then ?_)
 refine c_seq ?_
 refine wp_block ?_
 refine wp_loop_ghost (fun gn a w => ∃ i : Nat, ∃ j : Nat, ∃ fu : Nat, (i ≤ j) ∧ (j ≤ x.length) ∧ (j - i ≤ fu) ∧ (bsF (fun e => (cmpRoute e t).v) x fu i j = bsI (fun e => (cmpRoute e t).v) x) ∧ gn = j - i ∧ St 49 [(0, vx.v), (2, .func (.func 45) ⟨[]⟩ ⟨[]⟩), (4, .pointer (some (padd p1 0))), (8, .int .i64 (x.length : Int)), (9, .int .i64 (i : Int)), (10, .int .i64 (j : Int))] a ∧ Hp w0 (hh w0) [Bx p1 51 (cRoute t)] w) (x.length - 0) ⟨0, x.length, x.length, by omega, by omega, by omega, by rfl, rfl, hs.to ⟨rfl, rfl, rfl, rfl, rfl, rfl, trivial⟩, m.sub (.c r0 .n)⟩ ?_
 clear hs m a w2
 rintro gn a w3 ⟨i, j, fu, hi, hj, hfu, hb, rfl, hs, m⟩
 refine c_seq ?_
 refine c_reg ?_
 refine s_ hs m (ok_move rfl) (b_ m (ok_move rfl) (b_ m (ok_bin rfl rfl rfl) (bn_ ?_)))
 clear hs a; intro a hs
 refine c_cond hs rfl (fun h4 => ?_) (fun h4 => ?_)
 rotate_left
 ·have h4p := of_decide_eq_false h4
  refine wp_exit ?_
  refine ex_then (ex_then (ex_hit (?_)))
  refine n_then ?_
  refine c_draw m mo (by kernel_rfl) ?_
  refine sq_ hs (ok_move rfl) (bq_ (ok_move rfl) (bq_ (ok_move rfl) (bq_ (ok_bin rfl rfl rfl) (bq_ (ok_move rfl) ?_))))
  clear hs a; intro a hs
  refine q_cut (.c (.c (.c (.c (.c (.c (.c (.c (.c (.n)))))))))) (fun a => St 49 [(35, .int .i64 (i : Int)), (48, .bool ((decide ((i : Int) < (x.length : Int))) && (((cmpRoute ((x[i]?).getD (⟨(⟨⟨0, rfl⟩, ⟨0, rfl⟩⟩ : TPrefix), ⟨0, rfl⟩, false⟩ : TRoute)) t).v) == 0)))] a) ?_ ?_
  ·rcases Bool.eq_false_or_eq_true (decide ((i : Int) < (x.length : Int))) with hb5 | hb5
   ·have hb5p := of_decide_eq_true hb5
    refine q_okg hs rfl rfl hb5 (ok_move rfl) rfl ?_
    clear hs a; intro a hs
    refine q_okg hs rfl rfl hb5 (ok_move rfl) rfl ?_
    clear hs a; intro a hs
    refine q_okg hs rfl rfl hb5 (ok_move rfl) rfl ?_
    clear hs a; intro a hs
    obtain ⟨e6, he7⟩ := get_of_lt (l := x) (i := i) (by omega)
    refine elF (c := cRoute) (e := e6) hs m (x := (.tmp 41)) (ix := (.tmp 42)) rfl rfl sl25 ty51 hx (by omega) he7 fun p8 hp9 ok10 => ?_
    refine q_okg hs rfl rfl hb5 (ok10 _ _ _ _ _) rfl ?_
    clear hs a; intro a hs
    refine q_okg hs rfl rfl hb5 (ok_load_ag (vs := cRoute e6) rfl ty51 (fr_at hp9) rfl rfl) rfl ?_
    clear hs a; intro a hs
    refine q_okg hs rfl rfl hb5 (ok_load_ag (vs := cRoute t) rfl ty51 (bx_at r0) rfl rfl) rfl ?_
    clear hs a; intro a hs
    refine q_callPg hs rfl rfl hb5 rfl rfl ca45 rfl (fun w m => croute_c e6 t w  ) rfl ?_
    clear hs a; intro a hs
    refine q_okg hs rfl rfl hb5 (ok_bin rfl rfl rfl) rfl ?_
    clear hs a; intro a hs
    refine sq_ hs (ok_pick (r := .bool ((decide ((i : Int) < (x.length : Int))) && (((cmpRoute ((x[i]?).getD (⟨(⟨⟨0, rfl⟩, ⟨0, rfl⟩⟩ : TPrefix), ⟨0, rfl⟩, false⟩ : TRoute)) t).v) == 0))) rfl rfl rfl (by (try rw [he7]); rw [hb5]; rfl)) ?_
    clear hs a; intro a hs
    exact wpQuiet_nil (hs.to ⟨rfl, rfl, trivial⟩)
   ·have hb5p := of_decide_eq_false hb5
    refine q_out hs rfl rfl hb5 rfl ?_
    clear hs a; intro a hs
    refine q_out hs rfl rfl hb5 rfl ?_
    clear hs a; intro a hs
    refine q_out hs rfl rfl hb5 rfl ?_
    clear hs a; intro a hs
    refine q_out hs rfl rfl hb5 rfl ?_
    clear hs a; intro a hs
    refine q_out hs rfl rfl hb5 rfl ?_
    clear hs a; intro a hs
    refine q_out hs rfl rfl hb5 rfl ?_
    clear hs a; intro a hs
    refine q_out hs rfl rfl hb5 rfl ?_
    clear hs a; intro a hs
    refine q_out hs rfl rfl hb5 rfl ?_
    clear hs a; intro a hs
    refine sq_ hs (ok_pick (r := .bool ((decide ((i : Int) < (x.length : Int))) && (((cmpRoute ((x[i]?).getD (⟨(⟨⟨0, rfl⟩, ⟨0, rfl⟩⟩ : TPrefix), ⟨0, rfl⟩, false⟩ : TRoute)) t).v) == 0))) rfl rfl rfl (by rw [hb5]; rfl)) ?_
    clear hs a; intro a hs
    exact wpQuiet_nil (hs.to ⟨rfl, rfl, trivial⟩)
  clear hs a; intro a hs
  refine sq_ hs (ok_assign rfl) (bq_ (ok_assign rfl) ?_)
  clear hs a; intro a hs
  refine wpQuiet_nil ?_; clear m w3; intro w11 m
  refine wp_ret ?_
  refine leave hs (vs := [.int .i64 (i : Int), .bool ((decide ((i : Int) < (x.length : Int))) && (((cmpRoute ((x[i]?).getD (⟨(⟨⟨0, rfl⟩, ⟨0, rfl⟩⟩ : TPrefix), ⟨0, rfl⟩, false⟩ : TRoute)) t).v) == 0))]) rfl ⟨rfl, rfl, trivial⟩ ?_
  refine ⟨?_, m.sub .n⟩
  have q12 : ((i : Int) : Int) = (bsI (fun e => (cmpRoute e t).v) x : Int) := by clear hs m; rw [← hb, bsF_end (by omega)]
  have q13 : ((decide ((i : Int) < (x.length : Int))) && (((cmpRoute ((x[i]?).getD (⟨(⟨⟨0, rfl⟩, ⟨0, rfl⟩⟩ : TPrefix), ⟨0, rfl⟩, false⟩ : TRoute)) t).v) == 0) : Bool) = bsHit cmpRoute x t := by clear hs m; exact bsHit_eq (by rw [← hb, bsF_end (by omega)])
  (rw [q13, q12]; rfl)
 have h4p := of_decide_eq_true h4
 refine wp_skip ?_
 refine n_then ?_
 refine wp_block ?_
 refine c_reg ?_
 refine s_ hs m (ok_move rfl) (b_ m (ok_move rfl) (b_ m (ok_add (r := (i : Int) + (j : Int)) rfl rfl (wrap_i64 (by omega) (by omega))) (b_ m (ok_conv (r := (i : Int) + (j : Int)) rfl in3 in208 (wrap_u64 (by omega) (by omega))) (b_ m (ok_shr (r := (((i + j) / 2 : Nat) : Int)) rfl rfl (by decide) (mid_eq)) (b_ m (ok_conv (r := (((i + j) / 2 : Nat) : Int)) rfl in208 in3 (wrap_i64 (by omega) (by omega))) (b_ m (ok_assign rfl) (bn_ ?_)))))))
 clear hs a; intro a hs
 refine c_draw m mo (by kernel_rfl) ?_
 refine sq_ hs (ok_move rfl) (bq_ (ok_move rfl) (bq_ (ok_move rfl) ?_))
 clear hs a; intro a hs
 obtain ⟨e14, he15⟩ := get_of_lt (l := x) (i := ((i + j) / 2)) (by omega)
 refine elF (c := cRoute) (e := e14) hs m (x := (.tmp 25)) (ix := (.tmp 26)) rfl rfl sl25 ty51 hx (by omega) he15 fun p16 hp17 ok18 => ?_
 refine sq_ hs (ok18 _ _ _ _ _) (bq_ (ok_load_ag (vs := cRoute e14) rfl ty51 (fr_at hp17) rfl rfl) (bq_ (ok_load_ag (vs := cRoute t) rfl ty51 (bx_at r0) rfl rfl) ?_))
 clear hs a; intro a hs
 refine q_callP hs rfl rfl ca45 rfl (fun w m => croute_c e14 t w  ) rfl ?_
 clear hs a; intro a hs
 refine sq_ hs (ok_bin rfl rfl rfl) ?_
 clear hs a; intro a hs
 refine wpQuiet_nil ?_; clear m w3; intro w19 m
 refine c_cond hs rfl (fun h20 => ?_) (fun h20 => ?_)
 ·have h20p := of_decide_eq_true h20
  refine c_last ?_
  refine s_ hs m (ok_move rfl) (b_ m (ok_add (r := (((i + j) / 2 : Nat) : Int) + 1) rfl rfl (wrap_i64 (by omega) (by omega))) (b_ m (ok_assign rfl) ?_))
  clear hs a; intro a hs
  refine wpList_nil (n_block (n_then ?_))
  exact ⟨j - ((i + j) / 2 + 1), by omega, (i + j) / 2 + 1, j, fu - 1, by omega, by omega, by omega, by (exact (bsF_lt (by omega) (by omega) (by assumption) (by assumption)).trans hb), rfl, hs.to ⟨rfl, rfl, rfl, rfl, rfl, rfl, trivial⟩, m.sub (.c r0 .n)⟩
 have h20p := of_decide_eq_false h20
 refine c_last ?_
 refine s_ hs m (ok_move rfl) (b_ m (ok_assign rfl) ?_)
 clear hs a; intro a hs
 refine wpList_nil (n_block (n_then ?_))
 exact ⟨((i + j) / 2) - i, by omega, i, (i + j) / 2, fu - 1, by omega, by omega, by omega, by (exact (bsF_ge (by omega) (by omega) (by assumption) (by assumption)).trans hb), rfl, hs.to ⟨rfl, rfl, rfl, rfl, rfl, rfl, trivial⟩, m.sub (.c r0 .n)⟩
theorem bsNeigh_c (vx : SH) (x : List TNeigh) (t : TNeigh) (w0 : World) (hx : RdS (hh w0) 7 vx.v (x.map cNeigh)) : Pure Tryz.prog 100 [vx.v, .agg ⟨cNeigh t⟩, .func (.func 47) ⟨[]⟩ ⟨[]⟩] (.tuple ⟨[.int .i64 (bsI (fun e => (cmpNeigh e t).v) x : Int), .bool (bsHit cmpNeigh x t)]⟩) w0 := by
 have lvx := hx.bd
 refine enter (n := 49) Tryz.func100 rfl rfl rfl fun a (hs : St 49 [(0, vx.v), (1, .agg ⟨cNeigh t⟩), (2, .func (.func 47) ⟨[]⟩ ⟨[]⟩)] a) => ?_
 have m := Hp.start w0
 refine c_reg ?_
 refine r_box (cs := cNeigh t) hs m rfl rfl rfl ?_
 clear m hs a; intro p1 w2 m a hs
 refine s_ hs m (ok_assign rfl) (b_ m (ok_assign rfl) (bn_ (bc_ (b_ m (ok_move rfl) (b_ m (ok_len (r := (x.length : Int)) m rfl sl26 (rc_fr hx) (by simp)) (b_ m (ok_assign rfl) (bn_ (bc_ (b_ m (ok_move rfl) (b_ m (ok_assign rfl) (b_ m (ok_assign rfl) ?_)))))))))))
 clear hs a; intro a hs
 refine wpList_nil (n_then ?_)
 refine c_seq ?_
 refine wp_block ?_
 refine wp_loop_ghost (fun gn a w => ∃ i : Nat, ∃ j : Nat, ∃ fu : Nat, (i ≤ j) ∧ (j ≤ x.length) ∧ (j - i ≤ fu) ∧ (bsF (fun e => (cmpNeigh e t).v) x fu i j = bsI (fun e => (cmpNeigh e t).v) x) ∧ gn = j - i ∧ St 49 [(0, vx.v), (2, .func (.func 47) ⟨[]⟩ ⟨[]⟩), (4, .pointer (some (padd p1 0))), (8, .int .i64 (x.length : Int)), (9, .int .i64 (i : Int)), (10, .int .i64 (j : Int))] a ∧ Hp w0 (hh w0) [Bx p1 54 (cNeigh t)] w) (x.length - 0) ⟨0, x.length, x.length, by omega, by omega, by omega, by rfl, rfl, hs.to ⟨rfl, rfl, rfl, rfl, rfl, rfl, trivial⟩, m.sub (.c r0 .n)⟩ ?_
 clear hs m a w2
 rintro gn a w3 ⟨i, j, fu, hi, hj, hfu, hb, rfl, hs, m⟩
 refine c_seq ?_
 refine c_reg ?_
 refine s_ hs m (ok_move rfl) (b_ m (ok_move rfl) (b_ m (ok_bin rfl rfl rfl) (bn_ ?_)))
 clear hs a; intro a hs
 refine c_cond hs rfl (fun h4 => ?_) (fun h4 => ?_)
 rotate_left
 ·have h4p := of_decide_eq_false h4
  refine wp_exit ?_
  refine ex_then (ex_then (ex_hit (?_)))
  refine n_then ?_
  refine c_draw m mo (by kernel_rfl) ?_
  refine sq_ hs (ok_move rfl) (bq_ (ok_move rfl) (bq_ (ok_move rfl) (bq_ (ok_bin rfl rfl rfl) (bq_ (ok_move rfl) ?_))))
  clear hs a; intro a hs
  refine q_cut (.c (.c (.c (.c (.c (.c (.c (.c (.c (.n)))))))))) (fun a => St 49 [(35, .int .i64 (i : Int)), (48, .bool ((decide ((i : Int) < (x.length : Int))) && (((cmpNeigh ((x[i]?).getD (⟨⟨0, rfl⟩, (⟨⟨0, rfl⟩, ⟨0, rfl⟩, ⟨0, rfl⟩, ⟨0, rfl⟩, ⟨0, rfl⟩, ⟨0, rfl⟩⟩ : TMAC)⟩ : TNeigh)) t).v) == 0)))] a) ?_ ?_
  ·rcases Bool.eq_false_or_eq_true (decide ((i : Int) < (x.length : Int))) with hb5 | hb5
   ·have hb5p := of_decide_eq_true hb5
    refine q_okg hs rfl rfl hb5 (ok_move rfl) rfl ?_
    clear hs a; intro a hs
    refine q_okg hs rfl rfl hb5 (ok_move rfl) rfl ?_
    clear hs a; intro a hs
    refine q_okg hs rfl rfl hb5 (ok_move rfl) rfl ?_
    clear hs a; intro a hs
    obtain ⟨e6, he7⟩ := get_of_lt (l := x) (i := i) (by omega)
    refine elF (c := cNeigh) (e := e6) hs m (x := (.tmp 41)) (ix := (.tmp 42)) rfl rfl sl26 ty54 hx (by omega) he7 fun p8 hp9 ok10 => ?_
    refine q_okg hs rfl rfl hb5 (ok10 _ _ _ _ _) rfl ?_
    clear hs a; intro a hs
    refine q_okg hs rfl rfl hb5 (ok_load_ag (vs := cNeigh e6) rfl ty54 (fr_at hp9) rfl rfl) rfl ?_
    clear hs a; intro a hs
    refine q_okg hs rfl rfl hb5 (ok_load_ag (vs := cNeigh t) rfl ty54 (bx_at r0) rfl rfl) rfl ?_
    clear hs a; intro a hs
    refine q_callPg hs rfl rfl hb5 rfl rfl ca47 rfl (fun w m => cneigh_c e6 t w  ) rfl ?_
    clear hs a; intro a hs
    refine q_okg hs rfl rfl hb5 (ok_bin rfl rfl rfl) rfl ?_
    clear hs a; intro a hs
    refine sq_ hs (ok_pick (r := .bool ((decide ((i : Int) < (x.length : Int))) && (((cmpNeigh ((x[i]?).getD (⟨⟨0, rfl⟩, (⟨⟨0, rfl⟩, ⟨0, rfl⟩, ⟨0, rfl⟩, ⟨0, rfl⟩, ⟨0, rfl⟩, ⟨0, rfl⟩⟩ : TMAC)⟩ : TNeigh)) t).v) == 0))) rfl rfl rfl (by (try rw [he7]); rw [hb5]; rfl)) ?_
    clear hs a; intro a hs
    exact wpQuiet_nil (hs.to ⟨rfl, rfl, trivial⟩)
   ·have hb5p := of_decide_eq_false hb5
    refine q_out hs rfl rfl hb5 rfl ?_
    clear hs a; intro a hs
    refine q_out hs rfl rfl hb5 rfl ?_
    clear hs a; intro a hs
    refine q_out hs rfl rfl hb5 rfl ?_
    clear hs a; intro a hs
    refine q_out hs rfl rfl hb5 rfl ?_
    clear hs a; intro a hs
    refine q_out hs rfl rfl hb5 rfl ?_
    clear hs a; intro a hs
    refine q_out hs rfl rfl hb5 rfl ?_
    clear hs a; intro a hs
    refine q_out hs rfl rfl hb5 rfl ?_
    clear hs a; intro a hs
    refine q_out hs rfl rfl hb5 rfl ?_
    clear hs a; intro a hs
    refine sq_ hs (ok_pick (r := .bool ((decide ((i : Int) < (x.length : Int))) && (((cmpNeigh ((x[i]?).getD (⟨⟨0, rfl⟩, (⟨⟨0, rfl⟩, ⟨0, rfl⟩, ⟨0, rfl⟩, ⟨0, rfl⟩, ⟨0, rfl⟩, ⟨0, rfl⟩⟩ : TMAC)⟩ : TNeigh)) t).v) == 0))) rfl rfl rfl (by rw [hb5]; rfl)) ?_
    clear hs a; intro a hs
    exact wpQuiet_nil (hs.to ⟨rfl, rfl, trivial⟩)
  clear hs a; intro a hs
  refine sq_ hs (ok_assign rfl) (bq_ (ok_assign rfl) ?_)
  clear hs a; intro a hs
  refine wpQuiet_nil ?_; clear m w3; intro w11 m
  refine wp_ret ?_
  refine leave hs (vs := [.int .i64 (i : Int), .bool ((decide ((i : Int) < (x.length : Int))) && (((cmpNeigh ((x[i]?).getD (⟨⟨0, rfl⟩, (⟨⟨0, rfl⟩, ⟨0, rfl⟩, ⟨0, rfl⟩, ⟨0, rfl⟩, ⟨0, rfl⟩, ⟨0, rfl⟩⟩ : TMAC)⟩ : TNeigh)) t).v) == 0))]) rfl ⟨rfl, rfl, trivial⟩ ?_
  refine ⟨?_, m.sub .n⟩
  have q12 : ((i : Int) : Int) = (bsI (fun e => (cmpNeigh e t).v) x : Int) := by clear hs m; rw [← hb, bsF_end (by omega)]
  have q13 : ((decide ((i : Int) < (x.length : Int))) && (((cmpNeigh ((x[i]?).getD (⟨⟨0, rfl⟩, (⟨⟨0, rfl⟩, ⟨0, rfl⟩, ⟨0, rfl⟩, ⟨0, rfl⟩, ⟨0, rfl⟩, ⟨0, rfl⟩⟩ : TMAC)⟩ : TNeigh)) t).v) == 0) : Bool) = bsHit cmpNeigh x t := by clear hs m; exact bsHit_eq (by rw [← hb, bsF_end (by omega)])
  (rw [q13, q12]; rfl)
 have h4p := of_decide_eq_true h4
 refine wp_skip ?_
 refine n_then ?_
 refine wp_block ?_
 refine c_reg ?_
 refine s_ hs m (ok_move rfl) (b_ m (ok_move rfl) (b_ m (ok_add (r := (i : Int) + (j : Int)) rfl rfl (wrap_i64 (by omega) (by omega))) (b_ m (ok_conv (r := (i : Int) + (j : Int)) rfl in3 in208 (wrap_u64 (by omega) (by omega))) (b_ m (ok_shr (r := (((i + j) / 2 : Nat) : Int)) rfl rfl (by decide) (mid_eq)) (b_ m (ok_conv (r := (((i + j) / 2 : Nat) : Int)) rfl in208 in3 (wrap_i64 (by omega) (by omega))) (b_ m (ok_assign rfl) (bn_ ?_)))))))
 clear hs a; intro a hs
 refine c_draw m mo (by kernel_rfl) ?_
 refine sq_ hs (ok_move rfl) (bq_ (ok_move rfl) (bq_ (ok_move rfl) ?_))
 clear hs a; intro a hs
 obtain ⟨e14, he15⟩ := get_of_lt (l := x) (i := ((i + j) / 2)) (by omega)
 refine elF (c := cNeigh) (e := e14) hs m (x := (.tmp 25)) (ix := (.tmp 26)) rfl rfl sl26 ty54 hx (by omega) he15 fun p16 hp17 ok18 => ?_
 refine sq_ hs (ok18 _ _ _ _ _) (bq_ (ok_load_ag (vs := cNeigh e14) rfl ty54 (fr_at hp17) rfl rfl) (bq_ (ok_load_ag (vs := cNeigh t) rfl ty54 (bx_at r0) rfl rfl) ?_))
 clear hs a; intro a hs
 refine q_callP hs rfl rfl ca47 rfl (fun w m => cneigh_c e14 t w  ) rfl ?_
 clear hs a; intro a hs
 refine sq_ hs (ok_bin rfl rfl rfl) ?_
 clear hs a; intro a hs
 refine wpQuiet_nil ?_; clear m w3; intro w19 m
 refine c_cond hs rfl (fun h20 => ?_) (fun h20 => ?_)
 ·have h20p := of_decide_eq_true h20
  refine c_last ?_
  refine s_ hs m (ok_move rfl) (b_ m (ok_add (r := (((i + j) / 2 : Nat) : Int) + 1) rfl rfl (wrap_i64 (by omega) (by omega))) (b_ m (ok_assign rfl) ?_))
  clear hs a; intro a hs
  refine wpList_nil (n_block (n_then ?_))
  exact ⟨j - ((i + j) / 2 + 1), by omega, (i + j) / 2 + 1, j, fu - 1, by omega, by omega, by omega, by (exact (bsF_lt (by omega) (by omega) (by assumption) (by assumption)).trans hb), rfl, hs.to ⟨rfl, rfl, rfl, rfl, rfl, rfl, trivial⟩, m.sub (.c r0 .n)⟩
 have h20p := of_decide_eq_false h20
 refine c_last ?_
 refine s_ hs m (ok_move rfl) (b_ m (ok_assign rfl) ?_)
 clear hs a; intro a hs
 refine wpList_nil (n_block (n_then ?_))
 exact ⟨((i + j) / 2) - i, by omega, i, (i + j) / 2, fu - 1, by omega, by omega, by omega, by (exact (bsF_ge (by omega) (by omega) (by assumption) (by assumption)).trans hb), rfl, hs.to ⟨rfl, rfl, rfl, rfl, rfl, rfl, trivial⟩, m.sub (.c r0 .n)⟩
theorem bsFdb_c (vx : SH) (x : List TFdb) (t : TFdb) (w0 : World) (hx : RdS (hh w0) 7 vx.v (x.map cFdb)) : Pure Tryz.prog 103 [vx.v, .agg ⟨cFdb t⟩, .func (.func 49) ⟨[]⟩ ⟨[]⟩] (.tuple ⟨[.int .i64 (bsI (fun e => (cmpFdb e t).v) x : Int), .bool (bsHit cmpFdb x t)]⟩) w0 := by
 have lvx := hx.bd
 refine enter (n := 49) Tryz.func103 rfl rfl rfl fun a (hs : St 49 [(0, vx.v), (1, .agg ⟨cFdb t⟩), (2, .func (.func 49) ⟨[]⟩ ⟨[]⟩)] a) => ?_
 have m := Hp.start w0
 refine c_reg ?_
 refine r_box (cs := cFdb t) hs m rfl rfl rfl ?_
 clear m hs a; intro p1 w2 m a hs
 refine s_ hs m (ok_assign rfl) (b_ m (ok_assign rfl) (bn_ (bc_ (b_ m (ok_move rfl) (b_ m (ok_len (r := (x.length : Int)) m rfl sl27 (rc_fr hx) (by simp)) (b_ m (ok_assign rfl) (bn_ (bc_ (b_ m (ok_move rfl) (b_ m (ok_assign rfl) (b_ m (ok_assign rfl) ?_)))))))))))
 clear hs a; intro a hs
 refine wpList_nil (n_then ?_)
 refine c_seq ?_
 refine wp_block ?_
 refine wp_loop_ghost (fun gn a w => ∃ i : Nat, ∃ j : Nat, ∃ fu : Nat, (i ≤ j) ∧ (j ≤ x.length) ∧ (j - i ≤ fu) ∧ (bsF (fun e => (cmpFdb e t).v) x fu i j = bsI (fun e => (cmpFdb e t).v) x) ∧ gn = j - i ∧ St 49 [(0, vx.v), (2, .func (.func 49) ⟨[]⟩ ⟨[]⟩), (4, .pointer (some (padd p1 0))), (8, .int .i64 (x.length : Int)), (9, .int .i64 (i : Int)), (10, .int .i64 (j : Int))] a ∧ Hp w0 (hh w0) [Bx p1 56 (cFdb t)] w) (x.length - 0) ⟨0, x.length, x.length, by omega, by omega, by omega, by rfl, rfl, hs.to ⟨rfl, rfl, rfl, rfl, rfl, rfl, trivial⟩, m.sub (.c r0 .n)⟩ ?_
 clear hs m a w2
 rintro gn a w3 ⟨i, j, fu, hi, hj, hfu, hb, rfl, hs, m⟩
 refine c_seq ?_
 refine c_reg ?_
 refine s_ hs m (ok_move rfl) (b_ m (ok_move rfl) (b_ m (ok_bin rfl rfl rfl) (bn_ ?_)))
 clear hs a; intro a hs
 refine c_cond hs rfl (fun h4 => ?_) (fun h4 => ?_)
 rotate_left
 ·have h4p := of_decide_eq_false h4
  refine wp_exit ?_
  refine ex_then (ex_then (ex_hit (?_)))
  refine n_then ?_
  refine c_draw m mo (by kernel_rfl) ?_
  refine sq_ hs (ok_move rfl) (bq_ (ok_move rfl) (bq_ (ok_move rfl) (bq_ (ok_bin rfl rfl rfl) (bq_ (ok_move rfl) ?_))))
  clear hs a; intro a hs
  refine q_cut (.c (.c (.c (.c (.c (.c (.c (.c (.c (.n)))))))))) (fun a => St 49 [(35, .int .i64 (i : Int)), (48, .bool ((decide ((i : Int) < (x.length : Int))) && (((cmpFdb ((x[i]?).getD (⟨(⟨⟨0, rfl⟩, ⟨0, rfl⟩, ⟨0, rfl⟩, ⟨0, rfl⟩, ⟨0, rfl⟩, ⟨0, rfl⟩⟩ : TMAC), ⟨0, rfl⟩⟩ : TFdb)) t).v) == 0)))] a) ?_ ?_
  ·rcases Bool.eq_false_or_eq_true (decide ((i : Int) < (x.length : Int))) with hb5 | hb5
   ·have hb5p := of_decide_eq_true hb5
    refine q_okg hs rfl rfl hb5 (ok_move rfl) rfl ?_
    clear hs a; intro a hs
    refine q_okg hs rfl rfl hb5 (ok_move rfl) rfl ?_
    clear hs a; intro a hs
    refine q_okg hs rfl rfl hb5 (ok_move rfl) rfl ?_
    clear hs a; intro a hs
    obtain ⟨e6, he7⟩ := get_of_lt (l := x) (i := i) (by omega)
    refine elF (c := cFdb) (e := e6) hs m (x := (.tmp 41)) (ix := (.tmp 42)) rfl rfl sl27 ty56 hx (by omega) he7 fun p8 hp9 ok10 => ?_
    refine q_okg hs rfl rfl hb5 (ok10 _ _ _ _ _) rfl ?_
    clear hs a; intro a hs
    refine q_okg hs rfl rfl hb5 (ok_load_ag (vs := cFdb e6) rfl ty56 (fr_at hp9) rfl rfl) rfl ?_
    clear hs a; intro a hs
    refine q_okg hs rfl rfl hb5 (ok_load_ag (vs := cFdb t) rfl ty56 (bx_at r0) rfl rfl) rfl ?_
    clear hs a; intro a hs
    refine q_callPg hs rfl rfl hb5 rfl rfl ca49 rfl (fun w m => cfdb_c e6 t w  ) rfl ?_
    clear hs a; intro a hs
    refine q_okg hs rfl rfl hb5 (ok_bin rfl rfl rfl) rfl ?_
    clear hs a; intro a hs
    refine sq_ hs (ok_pick (r := .bool ((decide ((i : Int) < (x.length : Int))) && (((cmpFdb ((x[i]?).getD (⟨(⟨⟨0, rfl⟩, ⟨0, rfl⟩, ⟨0, rfl⟩, ⟨0, rfl⟩, ⟨0, rfl⟩, ⟨0, rfl⟩⟩ : TMAC), ⟨0, rfl⟩⟩ : TFdb)) t).v) == 0))) rfl rfl rfl (by (try rw [he7]); rw [hb5]; rfl)) ?_
    clear hs a; intro a hs
    exact wpQuiet_nil (hs.to ⟨rfl, rfl, trivial⟩)
   ·have hb5p := of_decide_eq_false hb5
    refine q_out hs rfl rfl hb5 rfl ?_
    clear hs a; intro a hs
    refine q_out hs rfl rfl hb5 rfl ?_
    clear hs a; intro a hs
    refine q_out hs rfl rfl hb5 rfl ?_
    clear hs a; intro a hs
    refine q_out hs rfl rfl hb5 rfl ?_
    clear hs a; intro a hs
    refine q_out hs rfl rfl hb5 rfl ?_
    clear hs a; intro a hs
    refine q_out hs rfl rfl hb5 rfl ?_
    clear hs a; intro a hs
    refine q_out hs rfl rfl hb5 rfl ?_
    clear hs a; intro a hs
    refine q_out hs rfl rfl hb5 rfl ?_
    clear hs a; intro a hs
    refine sq_ hs (ok_pick (r := .bool ((decide ((i : Int) < (x.length : Int))) && (((cmpFdb ((x[i]?).getD (⟨(⟨⟨0, rfl⟩, ⟨0, rfl⟩, ⟨0, rfl⟩, ⟨0, rfl⟩, ⟨0, rfl⟩, ⟨0, rfl⟩⟩ : TMAC), ⟨0, rfl⟩⟩ : TFdb)) t).v) == 0))) rfl rfl rfl (by rw [hb5]; rfl)) ?_
    clear hs a; intro a hs
    exact wpQuiet_nil (hs.to ⟨rfl, rfl, trivial⟩)
  clear hs a; intro a hs
  refine sq_ hs (ok_assign rfl) (bq_ (ok_assign rfl) ?_)
  clear hs a; intro a hs
  refine wpQuiet_nil ?_; clear m w3; intro w11 m
  refine wp_ret ?_
  refine leave hs (vs := [.int .i64 (i : Int), .bool ((decide ((i : Int) < (x.length : Int))) && (((cmpFdb ((x[i]?).getD (⟨(⟨⟨0, rfl⟩, ⟨0, rfl⟩, ⟨0, rfl⟩, ⟨0, rfl⟩, ⟨0, rfl⟩, ⟨0, rfl⟩⟩ : TMAC), ⟨0, rfl⟩⟩ : TFdb)) t).v) == 0))]) rfl ⟨rfl, rfl, trivial⟩ ?_
  refine ⟨?_, m.sub .n⟩
  have q12 : ((i : Int) : Int) = (bsI (fun e => (cmpFdb e t).v) x : Int) := by clear hs m; rw [← hb, bsF_end (by omega)]
  have q13 : ((decide ((i : Int) < (x.length : Int))) && (((cmpFdb ((x[i]?).getD (⟨(⟨⟨0, rfl⟩, ⟨0, rfl⟩, ⟨0, rfl⟩, ⟨0, rfl⟩, ⟨0, rfl⟩, ⟨0, rfl⟩⟩ : TMAC), ⟨0, rfl⟩⟩ : TFdb)) t).v) == 0) : Bool) = bsHit cmpFdb x t := by clear hs m; exact bsHit_eq (by rw [← hb, bsF_end (by omega)])
  (rw [q13, q12]; rfl)
 have h4p := of_decide_eq_true h4
 refine wp_skip ?_
 refine n_then ?_
 refine wp_block ?_
 refine c_reg ?_
 refine s_ hs m (ok_move rfl) (b_ m (ok_move rfl) (b_ m (ok_add (r := (i : Int) + (j : Int)) rfl rfl (wrap_i64 (by omega) (by omega))) (b_ m (ok_conv (r := (i : Int) + (j : Int)) rfl in3 in208 (wrap_u64 (by omega) (by omega))) (b_ m (ok_shr (r := (((i + j) / 2 : Nat) : Int)) rfl rfl (by decide) (mid_eq)) (b_ m (ok_conv (r := (((i + j) / 2 : Nat) : Int)) rfl in208 in3 (wrap_i64 (by omega) (by omega))) (b_ m (ok_assign rfl) (bn_ ?_)))))))
 clear hs a; intro a hs
 refine c_draw m mo (by kernel_rfl) ?_
 refine sq_ hs (ok_move rfl) (bq_ (ok_move rfl) (bq_ (ok_move rfl) ?_))
 clear hs a; intro a hs
 obtain ⟨e14, he15⟩ := get_of_lt (l := x) (i := ((i + j) / 2)) (by omega)
 refine elF (c := cFdb) (e := e14) hs m (x := (.tmp 25)) (ix := (.tmp 26)) rfl rfl sl27 ty56 hx (by omega) he15 fun p16 hp17 ok18 => ?_
 refine sq_ hs (ok18 _ _ _ _ _) (bq_ (ok_load_ag (vs := cFdb e14) rfl ty56 (fr_at hp17) rfl rfl) (bq_ (ok_load_ag (vs := cFdb t) rfl ty56 (bx_at r0) rfl rfl) ?_))
 clear hs a; intro a hs
 refine q_callP hs rfl rfl ca49 rfl (fun w m => cfdb_c e14 t w  ) rfl ?_
 clear hs a; intro a hs
 refine sq_ hs (ok_bin rfl rfl rfl) ?_
 clear hs a; intro a hs
 refine wpQuiet_nil ?_; clear m w3; intro w19 m
 refine c_cond hs rfl (fun h20 => ?_) (fun h20 => ?_)
 ·have h20p := of_decide_eq_true h20
  refine c_last ?_
  refine s_ hs m (ok_move rfl) (b_ m (ok_add (r := (((i + j) / 2 : Nat) : Int) + 1) rfl rfl (wrap_i64 (by omega) (by omega))) (b_ m (ok_assign rfl) ?_))
  clear hs a; intro a hs
  refine wpList_nil (n_block (n_then ?_))
  exact ⟨j - ((i + j) / 2 + 1), by omega, (i + j) / 2 + 1, j, fu - 1, by omega, by omega, by omega, by (exact (bsF_lt (by omega) (by omega) (by assumption) (by assumption)).trans hb), rfl, hs.to ⟨rfl, rfl, rfl, rfl, rfl, rfl, trivial⟩, m.sub (.c r0 .n)⟩
 have h20p := of_decide_eq_false h20
 refine c_last ?_
 refine s_ hs m (ok_move rfl) (b_ m (ok_assign rfl) ?_)
 clear hs a; intro a hs
 refine wpList_nil (n_block (n_then ?_))
 exact ⟨((i + j) / 2) - i, by omega, i, (i + j) / 2, fu - 1, by omega, by omega, by omega, by (exact (bsF_ge (by omega) (by omega) (by assumption) (by assumption)).trans hb), rfl, hs.to ⟨rfl, rfl, rfl, rfl, rfl, rfl, trivial⟩, m.sub (.c r0 .n)⟩
theorem bsPrefix_c (vx : SH) (x : List TPrefix) (t : TPrefix) (w0 : World) (hx : RdS (hh w0) 2 vx.v (x.map cPrefix)) : Pure Tryz.prog 131 [vx.v, .agg ⟨cPrefix t⟩, .func (.func 99) ⟨[]⟩ ⟨[]⟩] (.tuple ⟨[.int .i64 (bsI (fun e => (cmpPrefix e t).v) x : Int), .bool (bsHit cmpPrefix x t)]⟩) w0 := by
 have lvx := hx.bd
 refine enter (n := 49) Tryz.func131 rfl rfl rfl fun a (hs : St 49 [(0, vx.v), (1, .agg ⟨cPrefix t⟩), (2, .func (.func 99) ⟨[]⟩ ⟨[]⟩)] a) => ?_
 have m := Hp.start w0
 refine c_reg ?_
 refine r_box (cs := cPrefix t) hs m rfl rfl rfl ?_
 clear m hs a; intro p1 w2 m a hs
 refine s_ hs m (ok_assign rfl) (b_ m (ok_assign rfl) (bn_ (bc_ (b_ m (ok_move rfl) (b_ m (ok_len (r := (x.length : Int)) m rfl sl82 (rc_fr hx) (by simp)) (b_ m (ok_assign rfl) (bn_ (bc_ (b_ m (ok_move rfl) (b_ m (ok_assign rfl) (b_ m (ok_assign rfl) ?_)))))))))))
 clear hs a; intro a hs
 refine wpList_nil (n_then ?_)
 refine c_seq ?_
 refine wp_block ?_
 refine wp_loop_ghost (fun gn a w => ∃ i : Nat, ∃ j : Nat, ∃ fu : Nat, (i ≤ j) ∧ (j ≤ x.length) ∧ (j - i ≤ fu) ∧ (bsF (fun e => (cmpPrefix e t).v) x fu i j = bsI (fun e => (cmpPrefix e t).v) x) ∧ gn = j - i ∧ St 49 [(0, vx.v), (2, .func (.func 99) ⟨[]⟩ ⟨[]⟩), (4, .pointer (some (padd p1 0))), (8, .int .i64 (x.length : Int)), (9, .int .i64 (i : Int)), (10, .int .i64 (j : Int))] a ∧ Hp w0 (hh w0) [Bx p1 44 (cPrefix t)] w) (x.length - 0) ⟨0, x.length, x.length, by omega, by omega, by omega, by rfl, rfl, hs.to ⟨rfl, rfl, rfl, rfl, rfl, rfl, trivial⟩, m.sub (.c r0 .n)⟩ ?_
 clear hs m a w2
 rintro gn a w3 ⟨i, j, fu, hi, hj, hfu, hb, rfl, hs, m⟩
 refine c_seq ?_
 refine c_reg ?_
 refine s_ hs m (ok_move rfl) (b_ m (ok_move rfl) (b_ m (ok_bin rfl rfl rfl) (bn_ ?_)))
 clear hs a; intro a hs
 refine c_cond hs rfl (fun h4 => ?_) (fun h4 => ?_)
 rotate_left
 ·have h4p := of_decide_eq_false h4
  refine wp_exit ?_
  refine ex_then (ex_then (ex_hit (?_)))
  refine n_then ?_
  refine c_draw m mo (by kernel_rfl) ?_
  refine sq_ hs (ok_move rfl) (bq_ (ok_move rfl) (bq_ (ok_move rfl) (bq_ (ok_bin rfl rfl rfl) (bq_ (ok_move rfl) ?_))))
  clear hs a; intro a hs
  refine q_cut (.c (.c (.c (.c (.c (.c (.c (.c (.c (.n)))))))))) (fun a => St 49 [(35, .int .i64 (i : Int)), (48, .bool ((decide ((i : Int) < (x.length : Int))) && (((cmpPrefix ((x[i]?).getD (⟨⟨0, rfl⟩, ⟨0, rfl⟩⟩ : TPrefix)) t).v) == 0)))] a) ?_ ?_
  ·rcases Bool.eq_false_or_eq_true (decide ((i : Int) < (x.length : Int))) with hb5 | hb5
   ·have hb5p := of_decide_eq_true hb5
    refine q_okg hs rfl rfl hb5 (ok_move rfl) rfl ?_
    clear hs a; intro a hs
    refine q_okg hs rfl rfl hb5 (ok_move rfl) rfl ?_
    clear hs a; intro a hs
    refine q_okg hs rfl rfl hb5 (ok_move rfl) rfl ?_
    clear hs a; intro a hs
    obtain ⟨e6, he7⟩ := get_of_lt (l := x) (i := i) (by omega)
    refine elF (c := cPrefix) (e := e6) hs m (x := (.tmp 41)) (ix := (.tmp 42)) rfl rfl sl82 ty44 hx (by omega) he7 fun p8 hp9 ok10 => ?_
    refine q_okg hs rfl rfl hb5 (ok10 _ _ _ _ _) rfl ?_
    clear hs a; intro a hs
    refine q_okg hs rfl rfl hb5 (ok_load_ag (vs := cPrefix e6) rfl ty44 (fr_at hp9) rfl rfl) rfl ?_
    clear hs a; intro a hs
    refine q_okg hs rfl rfl hb5 (ok_load_ag (vs := cPrefix t) rfl ty44 (bx_at r0) rfl rfl) rfl ?_
    clear hs a; intro a hs
    refine q_callPg hs rfl rfl hb5 rfl rfl ca99 rfl (fun w m => cprefix_c e6 t w  ) rfl ?_
    clear hs a; intro a hs
    refine q_okg hs rfl rfl hb5 (ok_bin rfl rfl rfl) rfl ?_
    clear hs a; intro a hs
    refine sq_ hs (ok_pick (r := .bool ((decide ((i : Int) < (x.length : Int))) && (((cmpPrefix ((x[i]?).getD (⟨⟨0, rfl⟩, ⟨0, rfl⟩⟩ : TPrefix)) t).v) == 0))) rfl rfl rfl (by (try rw [he7]); rw [hb5]; rfl)) ?_
    clear hs a; intro a hs
    exact wpQuiet_nil (hs.to ⟨rfl, rfl, trivial⟩)
   ·have hb5p := of_decide_eq_false hb5
    refine q_out hs rfl rfl hb5 rfl ?_
    clear hs a; intro a hs
    refine q_out hs rfl rfl hb5 rfl ?_
    clear hs a; intro a hs
    refine q_out hs rfl rfl hb5 rfl ?_
    clear hs a; intro a hs
    refine q_out hs rfl rfl hb5 rfl ?_
    clear hs a; intro a hs
    refine q_out hs rfl rfl hb5 rfl ?_
    clear hs a; intro a hs
    refine q_out hs rfl rfl hb5 rfl ?_
    clear hs a; intro a hs
    refine q_out hs rfl rfl hb5 rfl ?_
    clear hs a; intro a hs
    refine q_out hs rfl rfl hb5 rfl ?_
    clear hs a; intro a hs
    refine sq_ hs (ok_pick (r := .bool ((decide ((i : Int) < (x.length : Int))) && (((cmpPrefix ((x[i]?).getD (⟨⟨0, rfl⟩, ⟨0, rfl⟩⟩ : TPrefix)) t).v) == 0))) rfl rfl rfl (by rw [hb5]; rfl)) ?_
    clear hs a; intro a hs
    exact wpQuiet_nil (hs.to ⟨rfl, rfl, trivial⟩)
  clear hs a; intro a hs
  refine sq_ hs (ok_assign rfl) (bq_ (ok_assign rfl) ?_)
  clear hs a; intro a hs
  refine wpQuiet_nil ?_; clear m w3; intro w11 m
  refine wp_ret ?_
  refine leave hs (vs := [.int .i64 (i : Int), .bool ((decide ((i : Int) < (x.length : Int))) && (((cmpPrefix ((x[i]?).getD (⟨⟨0, rfl⟩, ⟨0, rfl⟩⟩ : TPrefix)) t).v) == 0))]) rfl ⟨rfl, rfl, trivial⟩ ?_
  refine ⟨?_, m.sub .n⟩
  have q12 : ((i : Int) : Int) = (bsI (fun e => (cmpPrefix e t).v) x : Int) := by clear hs m; rw [← hb, bsF_end (by omega)]
  have q13 : ((decide ((i : Int) < (x.length : Int))) && (((cmpPrefix ((x[i]?).getD (⟨⟨0, rfl⟩, ⟨0, rfl⟩⟩ : TPrefix)) t).v) == 0) : Bool) = bsHit cmpPrefix x t := by clear hs m; exact bsHit_eq (by rw [← hb, bsF_end (by omega)])
  (rw [q13, q12]; rfl)
 have h4p := of_decide_eq_true h4
 refine wp_skip ?_
 refine n_then ?_
 refine wp_block ?_
 refine c_reg ?_
 refine s_ hs m (ok_move rfl) (b_ m (ok_move rfl) (b_ m (ok_add (r := (i : Int) + (j : Int)) rfl rfl (wrap_i64 (by omega) (by omega))) (b_ m (ok_conv (r := (i : Int) + (j : Int)) rfl in3 in208 (wrap_u64 (by omega) (by omega))) (b_ m (ok_shr (r := (((i + j) / 2 : Nat) : Int)) rfl rfl (by decide) (mid_eq)) (b_ m (ok_conv (r := (((i + j) / 2 : Nat) : Int)) rfl in208 in3 (wrap_i64 (by omega) (by omega))) (b_ m (ok_assign rfl) (bn_ ?_)))))))
 clear hs a; intro a hs
 refine c_draw m mo (by kernel_rfl) ?_
 refine sq_ hs (ok_move rfl) (bq_ (ok_move rfl) (bq_ (ok_move rfl) ?_))
 clear hs a; intro a hs
 obtain ⟨e14, he15⟩ := get_of_lt (l := x) (i := ((i + j) / 2)) (by omega)
 refine elF (c := cPrefix) (e := e14) hs m (x := (.tmp 25)) (ix := (.tmp 26)) rfl rfl sl82 ty44 hx (by omega) he15 fun p16 hp17 ok18 => ?_
 refine sq_ hs (ok18 _ _ _ _ _) (bq_ (ok_load_ag (vs := cPrefix e14) rfl ty44 (fr_at hp17) rfl rfl) (bq_ (ok_load_ag (vs := cPrefix t) rfl ty44 (bx_at r0) rfl rfl) ?_))
 clear hs a; intro a hs
 refine q_callP hs rfl rfl ca99 rfl (fun w m => cprefix_c e14 t w  ) rfl ?_
 clear hs a; intro a hs
 refine sq_ hs (ok_bin rfl rfl rfl) ?_
 clear hs a; intro a hs
 refine wpQuiet_nil ?_; clear m w3; intro w19 m
 refine c_cond hs rfl (fun h20 => ?_) (fun h20 => ?_)
 ·have h20p := of_decide_eq_true h20
  refine c_last ?_
  refine s_ hs m (ok_move rfl) (b_ m (ok_add (r := (((i + j) / 2 : Nat) : Int) + 1) rfl rfl (wrap_i64 (by omega) (by omega))) (b_ m (ok_assign rfl) ?_))
  clear hs a; intro a hs
  refine wpList_nil (n_block (n_then ?_))
  exact ⟨j - ((i + j) / 2 + 1), by omega, (i + j) / 2 + 1, j, fu - 1, by omega, by omega, by omega, by (exact (bsF_lt (by omega) (by omega) (by assumption) (by assumption)).trans hb), rfl, hs.to ⟨rfl, rfl, rfl, rfl, rfl, rfl, trivial⟩, m.sub (.c r0 .n)⟩
 have h20p := of_decide_eq_false h20
 refine c_last ?_
 refine s_ hs m (ok_move rfl) (b_ m (ok_assign rfl) ?_)
 clear hs a; intro a hs
 refine wpList_nil (n_block (n_then ?_))
 exact ⟨((i + j) / 2) - i, by omega, i, (i + j) / 2, fu - 1, by omega, by omega, by omega, by (exact (bsF_ge (by omega) (by omega) (by assumption) (by assumption)).trans hb), rfl, hs.to ⟨rfl, rfl, rfl, rfl, rfl, rfl, trivial⟩, m.sub (.c r0 .n)⟩
theorem bsLease_c (vx : SH) (x : List TLease) (t : TLease) (w0 : World) (hx : RdS (hh w0) 12 vx.v (x.map cLease)) : Pure Tryz.prog 167 [vx.v, .agg ⟨cLease t⟩, .func (.func 133) ⟨[]⟩ ⟨[]⟩] (.tuple ⟨[.int .i64 (bsI (fun e => (cmpLease e t).v) x : Int), .bool (bsHit cmpLease x t)]⟩) w0 := by
 have lvx := hx.bd
 refine enter (n := 49) Tryz.func167 rfl rfl rfl fun a (hs : St 49 [(0, vx.v), (1, .agg ⟨cLease t⟩), (2, .func (.func 133) ⟨[]⟩ ⟨[]⟩)] a) => ?_
 have m := Hp.start w0
 refine c_reg ?_
 refine r_box (cs := cLease t) hs m rfl rfl rfl ?_
 clear m hs a; intro p1 w2 m a hs
 refine s_ hs m (ok_assign rfl) (b_ m (ok_assign rfl) (bn_ (bc_ (b_ m (ok_move rfl) (b_ m (ok_len (r := (x.length : Int)) m rfl sl22 (rc_fr hx) (by simp)) (b_ m (ok_assign rfl) (bn_ (bc_ (b_ m (ok_move rfl) (b_ m (ok_assign rfl) (b_ m (ok_assign rfl) ?_)))))))))))
 clear hs a; intro a hs
 refine wpList_nil (n_then ?_)
 refine c_seq ?_
 refine wp_block ?_
 refine wp_loop_ghost (fun gn a w => ∃ i : Nat, ∃ j : Nat, ∃ fu : Nat, (i ≤ j) ∧ (j ≤ x.length) ∧ (j - i ≤ fu) ∧ (bsF (fun e => (cmpLease e t).v) x fu i j = bsI (fun e => (cmpLease e t).v) x) ∧ gn = j - i ∧ St 49 [(0, vx.v), (2, .func (.func 133) ⟨[]⟩ ⟨[]⟩), (4, .pointer (some (padd p1 0))), (8, .int .i64 (x.length : Int)), (9, .int .i64 (i : Int)), (10, .int .i64 (j : Int))] a ∧ Hp w0 (hh w0) [Bx p1 48 (cLease t)] w) (x.length - 0) ⟨0, x.length, x.length, by omega, by omega, by omega, by rfl, rfl, hs.to ⟨rfl, rfl, rfl, rfl, rfl, rfl, trivial⟩, m.sub (.c r0 .n)⟩ ?_
 clear hs m a w2
 rintro gn a w3 ⟨i, j, fu, hi, hj, hfu, hb, rfl, hs, m⟩
 refine c_seq ?_
 refine c_reg ?_
 refine s_ hs m (ok_move rfl) (b_ m (ok_move rfl) (b_ m (ok_bin rfl rfl rfl) (bn_ ?_)))
 clear hs a; intro a hs
 refine c_cond hs rfl (fun h4 => ?_) (fun h4 => ?_)
 rotate_left
 ·have h4p := of_decide_eq_false h4
  refine wp_exit ?_
  refine ex_then (ex_then (ex_hit (?_)))
  refine n_then ?_
  refine c_draw m mo (by kernel_rfl) ?_
  refine sq_ hs (ok_move rfl) (bq_ (ok_move rfl) (bq_ (ok_move rfl) (bq_ (ok_bin rfl rfl rfl) (bq_ (ok_move rfl) ?_))))
  clear hs a; intro a hs
  refine q_cut (.c (.c (.c (.c (.c (.c (.c (.c (.c (.n)))))))))) (fun a => St 49 [(35, .int .i64 (i : Int)), (48, .bool ((decide ((i : Int) < (x.length : Int))) && (((cmpLease ((x[i]?).getD (⟨⟨0, rfl⟩, (⟨⟨0, rfl⟩, ⟨0, rfl⟩⟩ : TPrefix), ⟨0, rfl⟩, (⟨⟨0, rfl⟩, ⟨0, rfl⟩, ⟨0, rfl⟩, ⟨0, rfl⟩, ⟨0, rfl⟩, ⟨0, rfl⟩⟩ : TMAC), ⟨0, rfl⟩, ⟨0, rfl⟩⟩ : TLease)) t).v) == 0)))] a) ?_ ?_
  ·rcases Bool.eq_false_or_eq_true (decide ((i : Int) < (x.length : Int))) with hb5 | hb5
   ·have hb5p := of_decide_eq_true hb5
    refine q_okg hs rfl rfl hb5 (ok_move rfl) rfl ?_
    clear hs a; intro a hs
    refine q_okg hs rfl rfl hb5 (ok_move rfl) rfl ?_
    clear hs a; intro a hs
    refine q_okg hs rfl rfl hb5 (ok_move rfl) rfl ?_
    clear hs a; intro a hs
    obtain ⟨e6, he7⟩ := get_of_lt (l := x) (i := i) (by omega)
    refine elF (c := cLease) (e := e6) hs m (x := (.tmp 41)) (ix := (.tmp 42)) rfl rfl sl22 ty48 hx (by omega) he7 fun p8 hp9 ok10 => ?_
    refine q_okg hs rfl rfl hb5 (ok10 _ _ _ _ _) rfl ?_
    clear hs a; intro a hs
    refine q_okg hs rfl rfl hb5 (ok_load_ag (vs := cLease e6) rfl ty48 (fr_at hp9) rfl rfl) rfl ?_
    clear hs a; intro a hs
    refine q_okg hs rfl rfl hb5 (ok_load_ag (vs := cLease t) rfl ty48 (bx_at r0) rfl rfl) rfl ?_
    clear hs a; intro a hs
    refine q_callPg hs rfl rfl hb5 rfl rfl ca133 rfl (fun w m => clease_c e6 t w  ) rfl ?_
    clear hs a; intro a hs
    refine q_okg hs rfl rfl hb5 (ok_bin rfl rfl rfl) rfl ?_
    clear hs a; intro a hs
    refine sq_ hs (ok_pick (r := .bool ((decide ((i : Int) < (x.length : Int))) && (((cmpLease ((x[i]?).getD (⟨⟨0, rfl⟩, (⟨⟨0, rfl⟩, ⟨0, rfl⟩⟩ : TPrefix), ⟨0, rfl⟩, (⟨⟨0, rfl⟩, ⟨0, rfl⟩, ⟨0, rfl⟩, ⟨0, rfl⟩, ⟨0, rfl⟩, ⟨0, rfl⟩⟩ : TMAC), ⟨0, rfl⟩, ⟨0, rfl⟩⟩ : TLease)) t).v) == 0))) rfl rfl rfl (by (try rw [he7]); rw [hb5]; rfl)) ?_
    clear hs a; intro a hs
    exact wpQuiet_nil (hs.to ⟨rfl, rfl, trivial⟩)
   ·have hb5p := of_decide_eq_false hb5
    refine q_out hs rfl rfl hb5 rfl ?_
    clear hs a; intro a hs
    refine q_out hs rfl rfl hb5 rfl ?_
    clear hs a; intro a hs
    refine q_out hs rfl rfl hb5 rfl ?_
    clear hs a; intro a hs
    refine q_out hs rfl rfl hb5 rfl ?_
    clear hs a; intro a hs
    refine q_out hs rfl rfl hb5 rfl ?_
    clear hs a; intro a hs
    refine q_out hs rfl rfl hb5 rfl ?_
    clear hs a; intro a hs
    refine q_out hs rfl rfl hb5 rfl ?_
    clear hs a; intro a hs
    refine q_out hs rfl rfl hb5 rfl ?_
    clear hs a; intro a hs
    refine sq_ hs (ok_pick (r := .bool ((decide ((i : Int) < (x.length : Int))) && (((cmpLease ((x[i]?).getD (⟨⟨0, rfl⟩, (⟨⟨0, rfl⟩, ⟨0, rfl⟩⟩ : TPrefix), ⟨0, rfl⟩, (⟨⟨0, rfl⟩, ⟨0, rfl⟩, ⟨0, rfl⟩, ⟨0, rfl⟩, ⟨0, rfl⟩, ⟨0, rfl⟩⟩ : TMAC), ⟨0, rfl⟩, ⟨0, rfl⟩⟩ : TLease)) t).v) == 0))) rfl rfl rfl (by rw [hb5]; rfl)) ?_
    clear hs a; intro a hs
    exact wpQuiet_nil (hs.to ⟨rfl, rfl, trivial⟩)
  clear hs a; intro a hs
  refine sq_ hs (ok_assign rfl) (bq_ (ok_assign rfl) ?_)
  clear hs a; intro a hs
  refine wpQuiet_nil ?_; clear m w3; intro w11 m
  refine wp_ret ?_
  refine leave hs (vs := [.int .i64 (i : Int), .bool ((decide ((i : Int) < (x.length : Int))) && (((cmpLease ((x[i]?).getD (⟨⟨0, rfl⟩, (⟨⟨0, rfl⟩, ⟨0, rfl⟩⟩ : TPrefix), ⟨0, rfl⟩, (⟨⟨0, rfl⟩, ⟨0, rfl⟩, ⟨0, rfl⟩, ⟨0, rfl⟩, ⟨0, rfl⟩, ⟨0, rfl⟩⟩ : TMAC), ⟨0, rfl⟩, ⟨0, rfl⟩⟩ : TLease)) t).v) == 0))]) rfl ⟨rfl, rfl, trivial⟩ ?_
  refine ⟨?_, m.sub .n⟩
  have q12 : ((i : Int) : Int) = (bsI (fun e => (cmpLease e t).v) x : Int) := by clear hs m; rw [← hb, bsF_end (by omega)]
  have q13 : ((decide ((i : Int) < (x.length : Int))) && (((cmpLease ((x[i]?).getD (⟨⟨0, rfl⟩, (⟨⟨0, rfl⟩, ⟨0, rfl⟩⟩ : TPrefix), ⟨0, rfl⟩, (⟨⟨0, rfl⟩, ⟨0, rfl⟩, ⟨0, rfl⟩, ⟨0, rfl⟩, ⟨0, rfl⟩, ⟨0, rfl⟩⟩ : TMAC), ⟨0, rfl⟩, ⟨0, rfl⟩⟩ : TLease)) t).v) == 0) : Bool) = bsHit cmpLease x t := by clear hs m; exact bsHit_eq (by rw [← hb, bsF_end (by omega)])
  (rw [q13, q12]; rfl)
 have h4p := of_decide_eq_true h4
 refine wp_skip ?_
 refine n_then ?_
 refine wp_block ?_
 refine c_reg ?_
 refine s_ hs m (ok_move rfl) (b_ m (ok_move rfl) (b_ m (ok_add (r := (i : Int) + (j : Int)) rfl rfl (wrap_i64 (by omega) (by omega))) (b_ m (ok_conv (r := (i : Int) + (j : Int)) rfl in3 in208 (wrap_u64 (by omega) (by omega))) (b_ m (ok_shr (r := (((i + j) / 2 : Nat) : Int)) rfl rfl (by decide) (mid_eq)) (b_ m (ok_conv (r := (((i + j) / 2 : Nat) : Int)) rfl in208 in3 (wrap_i64 (by omega) (by omega))) (b_ m (ok_assign rfl) (bn_ ?_)))))))
 clear hs a; intro a hs
 refine c_draw m mo (by kernel_rfl) ?_
 refine sq_ hs (ok_move rfl) (bq_ (ok_move rfl) (bq_ (ok_move rfl) ?_))
 clear hs a; intro a hs
 obtain ⟨e14, he15⟩ := get_of_lt (l := x) (i := ((i + j) / 2)) (by omega)
 refine elF (c := cLease) (e := e14) hs m (x := (.tmp 25)) (ix := (.tmp 26)) rfl rfl sl22 ty48 hx (by omega) he15 fun p16 hp17 ok18 => ?_
 refine sq_ hs (ok18 _ _ _ _ _) (bq_ (ok_load_ag (vs := cLease e14) rfl ty48 (fr_at hp17) rfl rfl) (bq_ (ok_load_ag (vs := cLease t) rfl ty48 (bx_at r0) rfl rfl) ?_))
 clear hs a; intro a hs
 refine q_callP hs rfl rfl ca133 rfl (fun w m => clease_c e14 t w  ) rfl ?_
 clear hs a; intro a hs
 refine sq_ hs (ok_bin rfl rfl rfl) ?_
 clear hs a; intro a hs
 refine wpQuiet_nil ?_; clear m w3; intro w19 m
 refine c_cond hs rfl (fun h20 => ?_) (fun h20 => ?_)
 ·have h20p := of_decide_eq_true h20
  refine c_last ?_
  refine s_ hs m (ok_move rfl) (b_ m (ok_add (r := (((i + j) / 2 : Nat) : Int) + 1) rfl rfl (wrap_i64 (by omega) (by omega))) (b_ m (ok_assign rfl) ?_))
  clear hs a; intro a hs
  refine wpList_nil (n_block (n_then ?_))
  exact ⟨j - ((i + j) / 2 + 1), by omega, (i + j) / 2 + 1, j, fu - 1, by omega, by omega, by omega, by (exact (bsF_lt (by omega) (by omega) (by assumption) (by assumption)).trans hb), rfl, hs.to ⟨rfl, rfl, rfl, rfl, rfl, rfl, trivial⟩, m.sub (.c r0 .n)⟩
 have h20p := of_decide_eq_false h20
 refine c_last ?_
 refine s_ hs m (ok_move rfl) (b_ m (ok_assign rfl) ?_)
 clear hs a; intro a hs
 refine wpList_nil (n_block (n_then ?_))
 exact ⟨((i + j) / 2) - i, by omega, i, (i + j) / 2, fu - 1, by omega, by omega, by omega, by (exact (bsF_ge (by omega) (by omega) (by assumption) (by assumption)).trans hb), rfl, hs.to ⟨rfl, rfl, rfl, rfl, rfl, rfl, trivial⟩, m.sub (.c r0 .n)⟩
end Go.Proofs.YtnbpodjbemfpbaaGreat.Fw
set_option linter.all false
set_option maxHeartbeats 4000000
set_option maxRecDepth 100000
namespace Go.Proofs.YtnbpodjbemfpbaaGreat.Fw
open Go
theorem en145 : entry Tryz.prog 145 (Extern.SlicesOverlaps.overlaps #[25, 25] #[4]) := ⟨_, Tryz.func145, by kernel_rfl, by kernel_rfl, by kernel_rfl, by kernel_rfl⟩
theorem en149 : entry Tryz.prog 149 (Extern.SlicesOverlaps.overlaps #[26, 26] #[4]) := ⟨_, Tryz.func149, by kernel_rfl, by kernel_rfl, by kernel_rfl, by kernel_rfl⟩
theorem en152 : entry Tryz.prog 152 (Extern.SlicesOverlaps.overlaps #[27, 27] #[4]) := ⟨_, Tryz.func152, by kernel_rfl, by kernel_rfl, by kernel_rfl, by kernel_rfl⟩
theorem en183 : entry Tryz.prog 183 (Extern.SlicesOverlaps.overlaps #[82, 82] #[4]) := ⟨_, Tryz.func183, by kernel_rfl, by kernel_rfl, by kernel_rfl, by kernel_rfl⟩
theorem en185 : entry Tryz.prog 185 (Extern.SlicesOverlaps.overlaps #[22, 22] #[4]) := ⟨_, Tryz.func185, by kernel_rfl, by kernel_rfl, by kernel_rfl, by kernel_rfl⟩
theorem insRoute_c (vx : SH) (x : List TRoute) (i : Nat) (vy : SH) (y : List TRoute) (w0 : World) (R : Hh) (A1 : y.length = 1) (A2 : i ≤ x.length) (A3 : x.length ≤ 2600000000000) (m : Hp w0 R [Sv 4 51 vx.v (x.map cRoute), Sv 4 51 vy.v (y.map cRoute)] w0) : Calls Tryz.prog 98 ⟨[vx.v, .int .i64 (i : Int), vy.v]⟩ w0 fun e w' => ∃ v, e = .returned v ∧ (∃ x0 : SH, v = (x0.v) ∧ Hp w0 R [Sv 4 51 x0.v ((x.take i ++ y ++ x.drop i).map cRoute)] w') := by
 have cx := m.ncapM r0
 have cy := m.ncapM r1
 have lvx := (m.rdv r0).bd
 have lvy := (m.rdv r1).bd
 refine enter (n := 95) Tryz.func98 rfl rfl rfl fun a (hs : St 95 [(0, vx.v), (1, .int .i64 (i : Int)), (2, vy.v)] a) => ?_
 refine c_reg ?_
 refine s_ hs m (ok_assign rfl) (bn_ (bc_ (b_ m (ok_move rfl) (b_ m (ok_move rfl) ?_))))
 clear hs a; intro a hs
 have hc1 := ((m.rdv r0)).ncapM
 refine s_ hs m (ok_sliceH (i := i) (j := x.length) (c := vx.c) rfl sl25 ty51 ⟨_, rfl⟩ (by show _ = _; omega) rfl (fun _ => rfl) (by omega) (by omega) (by omega)) (bn_ (bc_ (b_ m (ok_move rfl) (b_ m (ok_len (r := (y.length : Int)) m rfl sl25 (rc_own r1) (by simp)) (b_ m (ok_assign rfl) (bn_ ?_))))))
 clear hs a; intro a hs
 refine c_seq ?_
 refine c_reg ?_
 refine s_ hs m (ok_move rfl) (b_ m (ok_bin rfl rfl rfl) (bn_ ?_))
 clear hs a; intro a hs
 refine c_false hs rfl (by rw [A1]; rfl) ?_
 refine wp_skip ?_
 refine n_then ?_
 refine c_reg ?_
 refine s_ hs m (ok_move rfl) (b_ m (ok_len (r := (x.length : Int)) m rfl sl25 (rc_own r0) (by simp)) (b_ m (ok_assign rfl) (bn_ ?_)))
 clear hs a; intro a hs
 refine c_seq ?_
 refine c_reg ?_
 refine s_ hs m (ok_move rfl) (b_ m (ok_move rfl) (b_ m (ok_bin rfl rfl rfl) (bn_ ?_)))
 clear hs a; intro a hs
 refine c_cond hs rfl (fun h3 => ?_) (fun h3 => ?_)
 ·have h3p := eq_of_beq h3
  refine c_reg ?_
  refine s_ hs m (ok_move rfl) (b_ m (ok_move rfl) ?_)
  clear hs a; intro a hs
  refine r_appendM (c := cRoute) (xs := x) (ys := y) hs m rfl rfl sl25 ni25 ty51 ze51 rfl by51 rfl r0 (m.rdv r1) (fun _ => rfl) (by omega) rfl ?_
  clear m hs a; intro v4 w5 m a hs
  refine s_ hs m (ok_assign rfl) (bn_ ?_)
  clear hs a; intro a hs
  refine wp_ret ?_
  refine ret_then (leave hs (vs := [v4.v]) rfl ⟨rfl, trivial⟩ ?_)
  have q6 : x ++ y = x.take i ++ y ++ x.drop i := by (have hi : i = x.length := by omega); subst hi; simp
  rw [q6] at m
  refine ⟨_, rfl, v4, ?_, m.sub (.c r0 .n)⟩
  rfl
 have h3p := ne_of_beq_false h3
 refine wp_skip ?_
 refine n_then ?_
 refine c_seq ?_
 refine c_reg ?_
 refine s_ hs m (ok_move rfl) (b_ m (ok_move rfl) (b_ m (ok_add (r := ((x.length + 1 : Nat) : Int)) rfl rfl (by rw [wrap_i64 (by omega) (by omega)]; omega)) (b_ m (ok_move rfl) (b_ m (ok_cap rfl sl25) (b_ m (ok_bin rfl rfl rfl) (bn_ ?_))))))
 clear hs a; intro a hs
 refine c_cond hs rfl (fun h7 => ?_) (fun h7 => ?_)
 ·have h7p := of_decide_eq_true h7
  refine c_reg ?_
  refine s_ hs m (ok_move rfl) (b_ m (ok_move rfl) ?_)
  clear hs a; intro a hs
  have hc8 := ((m.rdv r0)).ncapM
  refine s_ hs m (ok_sliceH (i := 0) (j := i) (c := vx.c) rfl sl25 ty51 rfl ⟨_, rfl⟩ rfl (fun h => by cases h) (by omega) (by omega) (by omega)) ?_
  clear hs a; intro a hs
  rw [sub3_0] at hs
  refine s_ hs m (ok_move rfl) (b_ m (ok_move rfl) (b_ m (ok_add (r := ((x.length + 1 : Nat) : Int)) rfl rfl (by rw [wrap_i64 (by omega) (by omega)]; omega)) (b_ m (ok_move rfl) (b_ m (ok_sub (r := ((x.length + 1 - i : Nat) : Int)) rfl rfl (by rw [wrap_i64 (by omega) (by omega)]; omega)) ?_))))
  clear hs a; intro a hs
  refine r_appendZM (c := cRoute) (z0 := (⟨(⟨⟨0, rfl⟩, ⟨0, rfl⟩⟩ : TPrefix), ⟨0, rfl⟩, false⟩ : TRoute)) (xs := x) (i := i) (cn := x.length + 1 - i) hs m rfl rfl sl25 in3 ty51 ze51 rfl rfl by51 rfl rfl r0 (by omega) (by omega) (by omega) (by omega) rfl ?_
  clear m hs a; intro v9 w13 hn10 hc11 m a hs
  have hl12 : (x.take i ++ List.replicate (x.length + 1 - i) (⟨(⟨⟨0, rfl⟩, ⟨0, rfl⟩⟩ : TPrefix), ⟨0, rfl⟩, false⟩ : TRoute)).length = x.length + 1 := by simp; omega
  refine s_ hs m (ok_assign rfl) (bn_ (bc_ (b_ m (ok_move rfl) (b_ m (ok_move rfl) ?_))))
  clear hs a; intro a hs
  have hc14 := ((m.rdv r0)).ncapM
  refine s_ hs m (ok_sliceH (i := i) (j := (x.take i ++ List.replicate (x.length + 1 - i) (⟨(⟨⟨0, rfl⟩, ⟨0, rfl⟩⟩ : TPrefix), ⟨0, rfl⟩, false⟩ : TRoute)).length) (c := v9.c) rfl sl25 ty51 ⟨_, rfl⟩ (by show _ = _; omega) rfl (fun _ => rfl) (by omega) (by omega) (by omega)) (b_ m (ok_move rfl) ?_)
  clear hs a; intro a hs
  have hy15 := (m.rdv r2)
  have hy15n := hy15.ncapM
  refine r_copyM (c := cRoute) (x := v9) (xs := (x.take i ++ List.replicate (x.length + 1 - i) (⟨(⟨⟨0, rfl⟩, ⟨0, rfl⟩⟩ : TPrefix), ⟨0, rfl⟩, false⟩ : TRoute))) (es := y) (lo := i) (dl := (x.take i ++ List.replicate (x.length + 1 - i) (⟨(⟨⟨0, rfl⟩, ⟨0, rfl⟩⟩ : TPrefix), ⟨0, rfl⟩, false⟩ : TRoute)).length - i) (zs := ((x.take i ++ List.replicate (x.length + 1 - i) (⟨(⟨⟨0, rfl⟩, ⟨0, rfl⟩⟩ : TPrefix), ⟨0, rfl⟩, false⟩ : TRoute)).take i ++ y ++ (x.take i ++ List.replicate (x.length + 1 - i) (⟨(⟨⟨0, rfl⟩, ⟨0, rfl⟩⟩ : TPrefix), ⟨0, rfl⟩, false⟩ : TRoute)).drop (i + y.length))) (N := x.length + 1) hs m rfl rfl sl25 ty51 r0 (sub3_lt (by omega)) (⟨_, _, _, rfl, by omega, hy15.wln⟩) (fun _ => rfl) (by omega) (by omega) (by omega) (rfl) (by omega) rfl ?_
  clear m hy15 hs a w13; intro w16 m a hs
  have hl17 : ((x.take i ++ List.replicate (x.length + 1 - i) (⟨(⟨⟨0, rfl⟩, ⟨0, rfl⟩⟩ : TPrefix), ⟨0, rfl⟩, false⟩ : TRoute)).take i ++ y ++ (x.take i ++ List.replicate (x.length + 1 - i) (⟨(⟨⟨0, rfl⟩, ⟨0, rfl⟩⟩ : TPrefix), ⟨0, rfl⟩, false⟩ : TRoute)).drop (i + y.length)).length = x.length + 1 := by simp; omega
  rw [show upH v9 (x.length + 1) = v9 from upH_self (by omega)] at m
  refine wpList_nil (n_then ?_)
  refine c_drawH (Hp w0 R [Sv 4 51 vx.v (x.map cRoute), Sv 4 51 vy.v (y.map cRoute)]) m mo ?_; clear m w16; intro w18 m
  refine sh_ (i := 0) rfl hs (m.sub (.c r1 (.c r1 .n))) (ok_move rfl) (bh_ (i := 1) rfl (m.sub (.c r1 (.c r1 .n))) (ok_move rfl) (bh_ (i := 2) rfl (m.sub (.c r1 (.c r1 .n))) (ok_move rfl) (bh_ (i := 3) rfl (m.sub (.c r1 (.c r1 .n))) (ok_add (r := ((i + 1 : Nat) : Int)) rfl rfl (by rw [wrap_i64 (by omega) (by omega)]; omega)) ?_)))
  clear hs a; intro a hs
  have hc19 := ((m.rdv r0)).ncapM
  refine sh_ (i := 4) rfl hs (m.sub (.c r1 (.c r1 .n))) (ok_sliceH (i := (i + 1)) (j := ((x.take i ++ List.replicate (x.length + 1 - i) (⟨(⟨⟨0, rfl⟩, ⟨0, rfl⟩⟩ : TPrefix), ⟨0, rfl⟩, false⟩ : TRoute)).take i ++ y ++ (x.take i ++ List.replicate (x.length + 1 - i) (⟨(⟨⟨0, rfl⟩, ⟨0, rfl⟩⟩ : TPrefix), ⟨0, rfl⟩, false⟩ : TRoute)).drop (i + y.length)).length) (c := v9.c) rfl sl25 ty51 ⟨_, rfl⟩ (by show _ = _; omega) rfl (fun _ => rfl) (by omega) (by omega) (by omega)) (bh_ (i := 5) rfl (m.sub (.c r1 (.c r1 .n))) (ok_move rfl) (bh_ (i := 6) rfl (m.sub (.c r1 (.c r1 .n))) (ok_move rfl) ?_))
  clear hs a; intro a hs
  have hc20 := ((m.rdv r1)).ncapM
  refine sh_ (i := 7) rfl hs (m.sub (.c r1 (.c r1 .n))) (ok_sliceH (i := i) (j := x.length) (c := vx.c) rfl sl25 ty51 ⟨_, rfl⟩ (by show _ = _; omega) rfl (fun _ => rfl) (by omega) (by omega) (by omega)) ?_
  clear hs a; intro a hs
  have hx21 := (m.rdv r1).winS (lo := i) (by omega) (by omega)
  refine h_eff (i := 8) (by kernel_rfl) rfl ?_
  refine r_copyM (c := cRoute) (x := v9) (xs := ((x.take i ++ List.replicate (x.length + 1 - i) (⟨(⟨⟨0, rfl⟩, ⟨0, rfl⟩⟩ : TPrefix), ⟨0, rfl⟩, false⟩ : TRoute)).take i ++ y ++ (x.take i ++ List.replicate (x.length + 1 - i) (⟨(⟨⟨0, rfl⟩, ⟨0, rfl⟩⟩ : TPrefix), ⟨0, rfl⟩, false⟩ : TRoute)).drop (i + y.length))) (es := x.drop i) (lo := i + 1) (dl := ((x.take i ++ List.replicate (x.length + 1 - i) (⟨(⟨⟨0, rfl⟩, ⟨0, rfl⟩⟩ : TPrefix), ⟨0, rfl⟩, false⟩ : TRoute)).take i ++ y ++ (x.take i ++ List.replicate (x.length + 1 - i) (⟨(⟨⟨0, rfl⟩, ⟨0, rfl⟩⟩ : TPrefix), ⟨0, rfl⟩, false⟩ : TRoute)).drop (i + y.length)).length - (i + 1)) (zs := x.take i ++ y ++ x.drop i) (N := x.length + 1) hs m rfl rfl sl25 ty51 r0 (sub3_lt (by omega)) (⟨_, _, _, sub3_lt (by omega), by simp; omega, hx21⟩) (fun _ => rfl) (by omega) (by (simp; omega)) (by (simp; omega)) (ins_eqZ (by omega) A1 rfl) (by simp; omega) rfl ?_
  clear m hx21 hs a w18; intro w22 m a hs
  rw [show upH v9 (x.length + 1) = v9 from upH_self (by omega)] at m
  refine wpList_nil (n_then ⟨(m.sub (.c r1 (.c r1 .n))), ?_⟩)
  refine h_done (by kernel_rfl) (n_then ?_)
  refine c_reg ?_
  refine s_ hs m (ok_move rfl) (b_ m (ok_assign rfl) (bn_ ?_))
  clear hs a; intro a hs
  refine wp_ret ?_
  refine ret_then (leave hs (vs := [v9.v]) rfl ⟨rfl, trivial⟩ ?_)
  refine ⟨_, rfl, v9, ?_, m.sub (.c r0 .n)⟩
  rfl
 have h7p := of_decide_eq_false h7
 refine wp_skip ?_
 refine n_then ?_
 refine c_reg ?_
 refine s_ hs m (ok_move rfl) (b_ m (ok_move rfl) (b_ m (ok_move rfl) (b_ m (ok_add (r := ((x.length + 1 : Nat) : Int)) rfl rfl (by rw [wrap_i64 (by omega) (by omega)]; omega)) ?_)))
 clear hs a; intro a hs
 have hc23 := ((m.rdv r0)).ncapM
 refine s_ hs m (ok_sliceH (i := 0) (j := (x.length + 1)) (c := vx.c) rfl sl25 ty51 rfl ⟨_, rfl⟩ rfl (fun h => by cases h) (by omega) (by omega) (by omega)) ?_
 clear hs a; intro a hs
 rw [sub3_0] at hs
 refine s_ hs m (ok_assign rfl) (bn_ ?_)
 clear hs a; intro a hs
 refine c_seq ?_
 refine c_reg ?_
 refine s_ hs m (ok_move rfl) (b_ m (ok_move rfl) (b_ m (ok_move rfl) (b_ m (ok_move rfl) (b_ m (ok_add (r := ((i + 1 : Nat) : Int)) rfl rfl (by rw [wrap_i64 (by omega) (by omega)]; omega)) ?_))))
 clear hs a; intro a hs
 have hc24 : (upH vx (x.length + 1)).n = (x.length + 1) ∧ (upH vx (x.length + 1)).c = vx.c := ⟨rfl, rfl⟩
 refine s_ hs m (ok_sliceH (i := (i + 1)) (j := (x.length + 1)) (c := (upH vx (x.length + 1)).c) rfl sl25 ty51 ⟨_, rfl⟩ (by show _ = _; omega) rfl (fun _ => rfl) (by omega) (by omega) (by omega)) (b_ m (ok_entry en145 rfl (fun w m => overlaps_no (x := vx) (i := i + 1) (j := x.length + 1) sl25 ty51 m r1 r0 (by omega))) (b_ m (ok_not rfl) (bn_ ?_)))
 clear hs a; intro a hs
 refine c_true hs rfl rfl ?_
 refine c_drawH (Hp w0 R [Sv 4 51 vy.v (y.map cRoute)]) m mo ?_; clear m; intro w26 m
 refine sh_ (i := 0) rfl hs (m.sub (.c r1 .n)) (ok_move rfl) (bh_ (i := 1) rfl (m.sub (.c r1 .n)) (ok_move rfl) (bh_ (i := 2) rfl (m.sub (.c r1 .n)) (ok_move rfl) (bh_ (i := 3) rfl (m.sub (.c r1 .n)) (ok_add (r := ((i + 1 : Nat) : Int)) rfl rfl (by rw [wrap_i64 (by omega) (by omega)]; omega)) ?_)))
 clear hs a; intro a hs
 have hc27 : (upH vx (x.length + 1)).n = (x.length + 1) ∧ (upH vx (x.length + 1)).c = vx.c := ⟨rfl, rfl⟩
 refine sh_ (i := 4) rfl hs (m.sub (.c r1 .n)) (ok_sliceH (i := (i + 1)) (j := (x.length + 1)) (c := (upH vx (x.length + 1)).c) rfl sl25 ty51 ⟨_, rfl⟩ (by show _ = _; omega) rfl (fun _ => rfl) (by omega) (by omega) (by omega)) (bh_ (i := 5) rfl (m.sub (.c r1 .n)) (ok_move rfl) (bh_ (i := 6) rfl (m.sub (.c r1 .n)) (ok_move rfl) ?_))
 clear hs a; intro a hs
 have hc28 : (upH vx (x.length + 1)).n = (x.length + 1) ∧ (upH vx (x.length + 1)).c = vx.c := ⟨rfl, rfl⟩
 refine sh_ (i := 7) rfl hs (m.sub (.c r1 .n)) (ok_sliceH (i := i) (j := (x.length + 1)) (c := (upH vx (x.length + 1)).c) rfl sl25 ty51 ⟨_, rfl⟩ (by show _ = _; omega) rfl (fun _ => rfl) (by omega) (by omega) (by omega)) ?_
 clear hs a; intro a hs
 have hx29 := (m.rdv r0).winS (lo := i) (by omega) (by omega)
 refine h_eff (i := 8) (by kernel_rfl) rfl ?_
 refine r_copyM (c := cRoute) (x := vx) (xs := x) (es := x.drop i) (lo := i + 1) (dl := x.length + 1 - (i + 1)) (zs := x.take (i + 1) ++ x.drop i) (N := x.length + 1) hs m rfl rfl sl25 ty51 r0 (sub3_lt (x := upH vx (x.length + 1)) (by show _ < vx.c; omega)) (⟨_, _, _, sub3_lt (x := upH vx (x.length + 1)) (by show _ < vx.c; omega), by simp; omega, hx29⟩) (fun _ => rfl) (by omega) (by (simp; omega)) (by (simp; omega)) (cp1_eq (by omega)) (by simp; omega) rfl ?_
 clear m hx29 hs a w26; intro w30 m a hs
 refine wpList_nil (n_then ⟨(m.sub (.c r1 .n)), ?_⟩)
 refine h_done (by kernel_rfl) (n_then ?_)
 refine c_reg ?_
 refine s_ hs m (ok_move rfl) (b_ m (ok_move rfl) ?_)
 clear hs a; intro a hs
 have hc31 : (upH vx (x.length + 1)).n = (x.length + 1) ∧ (upH vx (x.length + 1)).c = vx.c := ⟨rfl, rfl⟩
 refine s_ hs m (ok_sliceH (i := i) (j := (x.length + 1)) (c := (upH vx (x.length + 1)).c) rfl sl25 ty51 ⟨_, rfl⟩ (by show _ = _; omega) rfl (fun _ => rfl) (by omega) (by omega) (by omega)) (b_ m (ok_move rfl) ?_)
 clear hs a; intro a hs
 have hy32 := (m.rdv r1)
 have hy32n := hy32.ncapM
 refine r_copyM (c := cRoute) (x := (upH vx (x.length + 1))) (xs := x.take (i + 1) ++ x.drop i) (es := y) (lo := i) (dl := x.length + 1 - i) (zs := x.take i ++ y ++ x.drop i) (N := x.length + 1) hs m rfl rfl sl25 ty51 r0 (sub3_lt (x := upH vx (x.length + 1)) (by show _ < vx.c; omega)) (⟨_, _, _, rfl, by omega, hy32.wln⟩) (fun _ => rfl) (by (simp; omega)) (by omega) (by omega) (ins_eq (by omega) A1) (by simp; omega) rfl ?_
 clear m hy32 hs a w30; intro w33 m a hs
 refine wpList_nil (n_then ?_)
 refine c_reg ?_
 refine s_ hs m (ok_move rfl) (b_ m (ok_assign rfl) (bn_ ?_))
 clear hs a; intro a hs
 refine wp_ret ?_
 refine ret_then (leave hs (vs := [(upH vx (x.length + 1)).v]) rfl ⟨rfl, trivial⟩ ?_)
 refine ⟨_, rfl, (upH vx (x.length + 1)), ?_, m.sub (.c r0 .n)⟩
 rfl
theorem insNeigh_c (vx : SH) (x : List TNeigh) (i : Nat) (vy : SH) (y : List TNeigh) (w0 : World) (R : Hh) (A1 : y.length = 1) (A2 : i ≤ x.length) (A3 : x.length ≤ 2600000000000) (m : Hp w0 R [Sv 7 54 vx.v (x.map cNeigh), Sv 7 54 vy.v (y.map cNeigh)] w0) : Calls Tryz.prog 101 ⟨[vx.v, .int .i64 (i : Int), vy.v]⟩ w0 fun e w' => ∃ v, e = .returned v ∧ (∃ x0 : SH, v = (x0.v) ∧ Hp w0 R [Sv 7 54 x0.v ((x.take i ++ y ++ x.drop i).map cNeigh)] w') := by
 have cx := m.ncapM r0
 have cy := m.ncapM r1
 have lvx := (m.rdv r0).bd
 have lvy := (m.rdv r1).bd
 refine enter (n := 95) Tryz.func101 rfl rfl rfl fun a (hs : St 95 [(0, vx.v), (1, .int .i64 (i : Int)), (2, vy.v)] a) => ?_
 refine c_reg ?_
 refine s_ hs m (ok_assign rfl) (bn_ (bc_ (b_ m (ok_move rfl) (b_ m (ok_move rfl) ?_))))
 clear hs a; intro a hs
 have hc1 := ((m.rdv r0)).ncapM
 refine s_ hs m (ok_sliceH (i := i) (j := x.length) (c := vx.c) rfl sl26 ty54 ⟨_, rfl⟩ (by show _ = _; omega) rfl (fun _ => rfl) (by omega) (by omega) (by omega)) (bn_ (bc_ (b_ m (ok_move rfl) (b_ m (ok_len (r := (y.length : Int)) m rfl sl26 (rc_own r1) (by simp)) (b_ m (ok_assign rfl) (bn_ ?_))))))
 clear hs a; intro a hs
 refine c_seq ?_
 refine c_reg ?_
 refine s_ hs m (ok_move rfl) (b_ m (ok_bin rfl rfl rfl) (bn_ ?_))
 clear hs a; intro a hs
 refine c_false hs rfl (by rw [A1]; rfl) ?_
 refine wp_skip ?_
 refine n_then ?_
 refine c_reg ?_
 refine s_ hs m (ok_move rfl) (b_ m (ok_len (r := (x.length : Int)) m rfl sl26 (rc_own r0) (by simp)) (b_ m (ok_assign rfl) (bn_ ?_)))
 clear hs a; intro a hs
 refine c_seq ?_
 refine c_reg ?_
 refine s_ hs m (ok_move rfl) (b_ m (ok_move rfl) (b_ m (ok_bin rfl rfl rfl) (bn_ ?_)))
 clear hs a; intro a hs
 refine c_cond hs rfl (fun h3 => ?_) (fun h3 => ?_)
 ·have h3p := eq_of_beq h3
  refine c_reg ?_
  refine s_ hs m (ok_move rfl) (b_ m (ok_move rfl) ?_)
  clear hs a; intro a hs
  refine r_appendM (c := cNeigh) (xs := x) (ys := y) hs m rfl rfl sl26 ni26 ty54 ze54 rfl by54 rfl r0 (m.rdv r1) (fun _ => rfl) (by omega) rfl ?_
  clear m hs a; intro v4 w5 m a hs
  refine s_ hs m (ok_assign rfl) (bn_ ?_)
  clear hs a; intro a hs
  refine wp_ret ?_
  refine ret_then (leave hs (vs := [v4.v]) rfl ⟨rfl, trivial⟩ ?_)
  have q6 : x ++ y = x.take i ++ y ++ x.drop i := by (have hi : i = x.length := by omega); subst hi; simp
  rw [q6] at m
  refine ⟨_, rfl, v4, ?_, m.sub (.c r0 .n)⟩
  rfl
 have h3p := ne_of_beq_false h3
 refine wp_skip ?_
 refine n_then ?_
 refine c_seq ?_
 refine c_reg ?_
 refine s_ hs m (ok_move rfl) (b_ m (ok_move rfl) (b_ m (ok_add (r := ((x.length + 1 : Nat) : Int)) rfl rfl (by rw [wrap_i64 (by omega) (by omega)]; omega)) (b_ m (ok_move rfl) (b_ m (ok_cap rfl sl26) (b_ m (ok_bin rfl rfl rfl) (bn_ ?_))))))
 clear hs a; intro a hs
 refine c_cond hs rfl (fun h7 => ?_) (fun h7 => ?_)
 ·have h7p := of_decide_eq_true h7
  refine c_reg ?_
  refine s_ hs m (ok_move rfl) (b_ m (ok_move rfl) ?_)
  clear hs a; intro a hs
  have hc8 := ((m.rdv r0)).ncapM
  refine s_ hs m (ok_sliceH (i := 0) (j := i) (c := vx.c) rfl sl26 ty54 rfl ⟨_, rfl⟩ rfl (fun h => by cases h) (by omega) (by omega) (by omega)) ?_
  clear hs a; intro a hs
  rw [sub3_0] at hs
  refine s_ hs m (ok_move rfl) (b_ m (ok_move rfl) (b_ m (ok_add (r := ((x.length + 1 : Nat) : Int)) rfl rfl (by rw [wrap_i64 (by omega) (by omega)]; omega)) (b_ m (ok_move rfl) (b_ m (ok_sub (r := ((x.length + 1 - i : Nat) : Int)) rfl rfl (by rw [wrap_i64 (by omega) (by omega)]; omega)) ?_))))
  clear hs a; intro a hs
  refine r_appendZM (c := cNeigh) (z0 := (⟨⟨0, rfl⟩, (⟨⟨0, rfl⟩, ⟨0, rfl⟩, ⟨0, rfl⟩, ⟨0, rfl⟩, ⟨0, rfl⟩, ⟨0, rfl⟩⟩ : TMAC)⟩ : TNeigh)) (xs := x) (i := i) (cn := x.length + 1 - i) hs m rfl rfl sl26 in3 ty54 ze54 rfl rfl by54 rfl rfl r0 (by omega) (by omega) (by omega) (by omega) rfl ?_
  clear m hs a; intro v9 w13 hn10 hc11 m a hs
  have hl12 : (x.take i ++ List.replicate (x.length + 1 - i) (⟨⟨0, rfl⟩, (⟨⟨0, rfl⟩, ⟨0, rfl⟩, ⟨0, rfl⟩, ⟨0, rfl⟩, ⟨0, rfl⟩, ⟨0, rfl⟩⟩ : TMAC)⟩ : TNeigh)).length = x.length + 1 := by simp; omega
  refine s_ hs m (ok_assign rfl) (bn_ (bc_ (b_ m (ok_move rfl) (b_ m (ok_move rfl) ?_))))
  clear hs a; intro a hs
  have hc14 := ((m.rdv r0)).ncapM
  refine s_ hs m (ok_sliceH (i := i) (j := (x.take i ++ List.replicate (x.length + 1 - i) (⟨⟨0, rfl⟩, (⟨⟨0, rfl⟩, ⟨0, rfl⟩, ⟨0, rfl⟩, ⟨0, rfl⟩, ⟨0, rfl⟩, ⟨0, rfl⟩⟩ : TMAC)⟩ : TNeigh)).length) (c := v9.c) rfl sl26 ty54 ⟨_, rfl⟩ (by show _ = _; omega) rfl (fun _ => rfl) (by omega) (by omega) (by omega)) (b_ m (ok_move rfl) ?_)
  clear hs a; intro a hs
  have hy15 := (m.rdv r2)
  have hy15n := hy15.ncapM
  refine r_copyM (c := cNeigh) (x := v9) (xs := (x.take i ++ List.replicate (x.length + 1 - i) (⟨⟨0, rfl⟩, (⟨⟨0, rfl⟩, ⟨0, rfl⟩, ⟨0, rfl⟩, ⟨0, rfl⟩, ⟨0, rfl⟩, ⟨0, rfl⟩⟩ : TMAC)⟩ : TNeigh))) (es := y) (lo := i) (dl := (x.take i ++ List.replicate (x.length + 1 - i) (⟨⟨0, rfl⟩, (⟨⟨0, rfl⟩, ⟨0, rfl⟩, ⟨0, rfl⟩, ⟨0, rfl⟩, ⟨0, rfl⟩, ⟨0, rfl⟩⟩ : TMAC)⟩ : TNeigh)).length - i) (zs := ((x.take i ++ List.replicate (x.length + 1 - i) (⟨⟨0, rfl⟩, (⟨⟨0, rfl⟩, ⟨0, rfl⟩, ⟨0, rfl⟩, ⟨0, rfl⟩, ⟨0, rfl⟩, ⟨0, rfl⟩⟩ : TMAC)⟩ : TNeigh)).take i ++ y ++ (x.take i ++ List.replicate (x.length + 1 - i) (⟨⟨0, rfl⟩, (⟨⟨0, rfl⟩, ⟨0, rfl⟩, ⟨0, rfl⟩, ⟨0, rfl⟩, ⟨0, rfl⟩, ⟨0, rfl⟩⟩ : TMAC)⟩ : TNeigh)).drop (i + y.length))) (N := x.length + 1) hs m rfl rfl sl26 ty54 r0 (sub3_lt (by omega)) (⟨_, _, _, rfl, by omega, hy15.wln⟩) (fun _ => rfl) (by omega) (by omega) (by omega) (rfl) (by omega) rfl ?_
  clear m hy15 hs a w13; intro w16 m a hs
  have hl17 : ((x.take i ++ List.replicate (x.length + 1 - i) (⟨⟨0, rfl⟩, (⟨⟨0, rfl⟩, ⟨0, rfl⟩, ⟨0, rfl⟩, ⟨0, rfl⟩, ⟨0, rfl⟩, ⟨0, rfl⟩⟩ : TMAC)⟩ : TNeigh)).take i ++ y ++ (x.take i ++ List.replicate (x.length + 1 - i) (⟨⟨0, rfl⟩, (⟨⟨0, rfl⟩, ⟨0, rfl⟩, ⟨0, rfl⟩, ⟨0, rfl⟩, ⟨0, rfl⟩, ⟨0, rfl⟩⟩ : TMAC)⟩ : TNeigh)).drop (i + y.length)).length = x.length + 1 := by simp; omega
  rw [show upH v9 (x.length + 1) = v9 from upH_self (by omega)] at m
  refine wpList_nil (n_then ?_)
  refine c_drawH (Hp w0 R [Sv 7 54 vx.v (x.map cNeigh), Sv 7 54 vy.v (y.map cNeigh)]) m mo ?_; clear m w16; intro w18 m
  refine sh_ (i := 0) rfl hs (m.sub (.c r1 (.c r1 .n))) (ok_move rfl) (bh_ (i := 1) rfl (m.sub (.c r1 (.c r1 .n))) (ok_move rfl) (bh_ (i := 2) rfl (m.sub (.c r1 (.c r1 .n))) (ok_move rfl) (bh_ (i := 3) rfl (m.sub (.c r1 (.c r1 .n))) (ok_add (r := ((i + 1 : Nat) : Int)) rfl rfl (by rw [wrap_i64 (by omega) (by omega)]; omega)) ?_)))
  clear hs a; intro a hs
  have hc19 := ((m.rdv r0)).ncapM
  refine sh_ (i := 4) rfl hs (m.sub (.c r1 (.c r1 .n))) (ok_sliceH (i := (i + 1)) (j := ((x.take i ++ List.replicate (x.length + 1 - i) (⟨⟨0, rfl⟩, (⟨⟨0, rfl⟩, ⟨0, rfl⟩, ⟨0, rfl⟩, ⟨0, rfl⟩, ⟨0, rfl⟩, ⟨0, rfl⟩⟩ : TMAC)⟩ : TNeigh)).take i ++ y ++ (x.take i ++ List.replicate (x.length + 1 - i) (⟨⟨0, rfl⟩, (⟨⟨0, rfl⟩, ⟨0, rfl⟩, ⟨0, rfl⟩, ⟨0, rfl⟩, ⟨0, rfl⟩, ⟨0, rfl⟩⟩ : TMAC)⟩ : TNeigh)).drop (i + y.length)).length) (c := v9.c) rfl sl26 ty54 ⟨_, rfl⟩ (by show _ = _; omega) rfl (fun _ => rfl) (by omega) (by omega) (by omega)) (bh_ (i := 5) rfl (m.sub (.c r1 (.c r1 .n))) (ok_move rfl) (bh_ (i := 6) rfl (m.sub (.c r1 (.c r1 .n))) (ok_move rfl) ?_))
  clear hs a; intro a hs
  have hc20 := ((m.rdv r1)).ncapM
  refine sh_ (i := 7) rfl hs (m.sub (.c r1 (.c r1 .n))) (ok_sliceH (i := i) (j := x.length) (c := vx.c) rfl sl26 ty54 ⟨_, rfl⟩ (by show _ = _; omega) rfl (fun _ => rfl) (by omega) (by omega) (by omega)) ?_
  clear hs a; intro a hs
  have hx21 := (m.rdv r1).winS (lo := i) (by omega) (by omega)
  refine h_eff (i := 8) (by kernel_rfl) rfl ?_
  refine r_copyM (c := cNeigh) (x := v9) (xs := ((x.take i ++ List.replicate (x.length + 1 - i) (⟨⟨0, rfl⟩, (⟨⟨0, rfl⟩, ⟨0, rfl⟩, ⟨0, rfl⟩, ⟨0, rfl⟩, ⟨0, rfl⟩, ⟨0, rfl⟩⟩ : TMAC)⟩ : TNeigh)).take i ++ y ++ (x.take i ++ List.replicate (x.length + 1 - i) (⟨⟨0, rfl⟩, (⟨⟨0, rfl⟩, ⟨0, rfl⟩, ⟨0, rfl⟩, ⟨0, rfl⟩, ⟨0, rfl⟩, ⟨0, rfl⟩⟩ : TMAC)⟩ : TNeigh)).drop (i + y.length))) (es := x.drop i) (lo := i + 1) (dl := ((x.take i ++ List.replicate (x.length + 1 - i) (⟨⟨0, rfl⟩, (⟨⟨0, rfl⟩, ⟨0, rfl⟩, ⟨0, rfl⟩, ⟨0, rfl⟩, ⟨0, rfl⟩, ⟨0, rfl⟩⟩ : TMAC)⟩ : TNeigh)).take i ++ y ++ (x.take i ++ List.replicate (x.length + 1 - i) (⟨⟨0, rfl⟩, (⟨⟨0, rfl⟩, ⟨0, rfl⟩, ⟨0, rfl⟩, ⟨0, rfl⟩, ⟨0, rfl⟩, ⟨0, rfl⟩⟩ : TMAC)⟩ : TNeigh)).drop (i + y.length)).length - (i + 1)) (zs := x.take i ++ y ++ x.drop i) (N := x.length + 1) hs m rfl rfl sl26 ty54 r0 (sub3_lt (by omega)) (⟨_, _, _, sub3_lt (by omega), by simp; omega, hx21⟩) (fun _ => rfl) (by omega) (by (simp; omega)) (by (simp; omega)) (ins_eqZ (by omega) A1 rfl) (by simp; omega) rfl ?_
  clear m hx21 hs a w18; intro w22 m a hs
  rw [show upH v9 (x.length + 1) = v9 from upH_self (by omega)] at m
  refine wpList_nil (n_then ⟨(m.sub (.c r1 (.c r1 .n))), ?_⟩)
  refine h_done (by kernel_rfl) (n_then ?_)
  refine c_reg ?_
  refine s_ hs m (ok_move rfl) (b_ m (ok_assign rfl) (bn_ ?_))
  clear hs a; intro a hs
  refine wp_ret ?_
  refine ret_then (leave hs (vs := [v9.v]) rfl ⟨rfl, trivial⟩ ?_)
  refine ⟨_, rfl, v9, ?_, m.sub (.c r0 .n)⟩
  rfl
 have h7p := of_decide_eq_false h7
 refine wp_skip ?_
 refine n_then ?_
 refine c_reg ?_
 refine s_ hs m (ok_move rfl) (b_ m (ok_move rfl) (b_ m (ok_move rfl) (b_ m (ok_add (r := ((x.length + 1 : Nat) : Int)) rfl rfl (by rw [wrap_i64 (by omega) (by omega)]; omega)) ?_)))
 clear hs a; intro a hs
 have hc23 := ((m.rdv r0)).ncapM
 refine s_ hs m (ok_sliceH (i := 0) (j := (x.length + 1)) (c := vx.c) rfl sl26 ty54 rfl ⟨_, rfl⟩ rfl (fun h => by cases h) (by omega) (by omega) (by omega)) ?_
 clear hs a; intro a hs
 rw [sub3_0] at hs
 refine s_ hs m (ok_assign rfl) (bn_ ?_)
 clear hs a; intro a hs
 refine c_seq ?_
 refine c_reg ?_
 refine s_ hs m (ok_move rfl) (b_ m (ok_move rfl) (b_ m (ok_move rfl) (b_ m (ok_move rfl) (b_ m (ok_add (r := ((i + 1 : Nat) : Int)) rfl rfl (by rw [wrap_i64 (by omega) (by omega)]; omega)) ?_))))
 clear hs a; intro a hs
 have hc24 : (upH vx (x.length + 1)).n = (x.length + 1) ∧ (upH vx (x.length + 1)).c = vx.c := ⟨rfl, rfl⟩
 refine s_ hs m (ok_sliceH (i := (i + 1)) (j := (x.length + 1)) (c := (upH vx (x.length + 1)).c) rfl sl26 ty54 ⟨_, rfl⟩ (by show _ = _; omega) rfl (fun _ => rfl) (by omega) (by omega) (by omega)) (b_ m (ok_entry en149 rfl (fun w m => overlaps_no (x := vx) (i := i + 1) (j := x.length + 1) sl26 ty54 m r1 r0 (by omega))) (b_ m (ok_not rfl) (bn_ ?_)))
 clear hs a; intro a hs
 refine c_true hs rfl rfl ?_
 refine c_drawH (Hp w0 R [Sv 7 54 vy.v (y.map cNeigh)]) m mo ?_; clear m; intro w26 m
 refine sh_ (i := 0) rfl hs (m.sub (.c r1 .n)) (ok_move rfl) (bh_ (i := 1) rfl (m.sub (.c r1 .n)) (ok_move rfl) (bh_ (i := 2) rfl (m.sub (.c r1 .n)) (ok_move rfl) (bh_ (i := 3) rfl (m.sub (.c r1 .n)) (ok_add (r := ((i + 1 : Nat) : Int)) rfl rfl (by rw [wrap_i64 (by omega) (by omega)]; omega)) ?_)))
 clear hs a; intro a hs
 have hc27 : (upH vx (x.length + 1)).n = (x.length + 1) ∧ (upH vx (x.length + 1)).c = vx.c := ⟨rfl, rfl⟩
 refine sh_ (i := 4) rfl hs (m.sub (.c r1 .n)) (ok_sliceH (i := (i + 1)) (j := (x.length + 1)) (c := (upH vx (x.length + 1)).c) rfl sl26 ty54 ⟨_, rfl⟩ (by show _ = _; omega) rfl (fun _ => rfl) (by omega) (by omega) (by omega)) (bh_ (i := 5) rfl (m.sub (.c r1 .n)) (ok_move rfl) (bh_ (i := 6) rfl (m.sub (.c r1 .n)) (ok_move rfl) ?_))
 clear hs a; intro a hs
 have hc28 : (upH vx (x.length + 1)).n = (x.length + 1) ∧ (upH vx (x.length + 1)).c = vx.c := ⟨rfl, rfl⟩
 refine sh_ (i := 7) rfl hs (m.sub (.c r1 .n)) (ok_sliceH (i := i) (j := (x.length + 1)) (c := (upH vx (x.length + 1)).c) rfl sl26 ty54 ⟨_, rfl⟩ (by show _ = _; omega) rfl (fun _ => rfl) (by omega) (by omega) (by omega)) ?_
 clear hs a; intro a hs
 have hx29 := (m.rdv r0).winS (lo := i) (by omega) (by omega)
 refine h_eff (i := 8) (by kernel_rfl) rfl ?_
 refine r_copyM (c := cNeigh) (x := vx) (xs := x) (es := x.drop i) (lo := i + 1) (dl := x.length + 1 - (i + 1)) (zs := x.take (i + 1) ++ x.drop i) (N := x.length + 1) hs m rfl rfl sl26 ty54 r0 (sub3_lt (x := upH vx (x.length + 1)) (by show _ < vx.c; omega)) (⟨_, _, _, sub3_lt (x := upH vx (x.length + 1)) (by show _ < vx.c; omega), by simp; omega, hx29⟩) (fun _ => rfl) (by omega) (by (simp; omega)) (by (simp; omega)) (cp1_eq (by omega)) (by simp; omega) rfl ?_
 clear m hx29 hs a w26; intro w30 m a hs
 refine wpList_nil (n_then ⟨(m.sub (.c r1 .n)), ?_⟩)
 refine h_done (by kernel_rfl) (n_then ?_)
 refine c_reg ?_
 refine s_ hs m (ok_move rfl) (b_ m (ok_move rfl) ?_)
 clear hs a; intro a hs
 have hc31 : (upH vx (x.length + 1)).n = (x.length + 1) ∧ (upH vx (x.length + 1)).c = vx.c := ⟨rfl, rfl⟩
 refine s_ hs m (ok_sliceH (i := i) (j := (x.length + 1)) (c := (upH vx (x.length + 1)).c) rfl sl26 ty54 ⟨_, rfl⟩ (by show _ = _; omega) rfl (fun _ => rfl) (by omega) (by omega) (by omega)) (b_ m (ok_move rfl) ?_)
 clear hs a; intro a hs
 have hy32 := (m.rdv r1)
 have hy32n := hy32.ncapM
 refine r_copyM (c := cNeigh) (x := (upH vx (x.length + 1))) (xs := x.take (i + 1) ++ x.drop i) (es := y) (lo := i) (dl := x.length + 1 - i) (zs := x.take i ++ y ++ x.drop i) (N := x.length + 1) hs m rfl rfl sl26 ty54 r0 (sub3_lt (x := upH vx (x.length + 1)) (by show _ < vx.c; omega)) (⟨_, _, _, rfl, by omega, hy32.wln⟩) (fun _ => rfl) (by (simp; omega)) (by omega) (by omega) (ins_eq (by omega) A1) (by simp; omega) rfl ?_
 clear m hy32 hs a w30; intro w33 m a hs
 refine wpList_nil (n_then ?_)
 refine c_reg ?_
 refine s_ hs m (ok_move rfl) (b_ m (ok_assign rfl) (bn_ ?_))
 clear hs a; intro a hs
 refine wp_ret ?_
 refine ret_then (leave hs (vs := [(upH vx (x.length + 1)).v]) rfl ⟨rfl, trivial⟩ ?_)
 refine ⟨_, rfl, (upH vx (x.length + 1)), ?_, m.sub (.c r0 .n)⟩
 rfl
theorem insFdb_c (vx : SH) (x : List TFdb) (i : Nat) (vy : SH) (y : List TFdb) (w0 : World) (R : Hh) (A1 : y.length = 1) (A2 : i ≤ x.length) (A3 : x.length ≤ 2600000000000) (m : Hp w0 R [Sv 7 56 vx.v (x.map cFdb), Sv 7 56 vy.v (y.map cFdb)] w0) : Calls Tryz.prog 104 ⟨[vx.v, .int .i64 (i : Int), vy.v]⟩ w0 fun e w' => ∃ v, e = .returned v ∧ (∃ x0 : SH, v = (x0.v) ∧ Hp w0 R [Sv 7 56 x0.v ((x.take i ++ y ++ x.drop i).map cFdb)] w') := by
 have cx := m.ncapM r0
 have cy := m.ncapM r1
 have lvx := (m.rdv r0).bd
 have lvy := (m.rdv r1).bd
 refine enter (n := 95) Tryz.func104 rfl rfl rfl fun a (hs : St 95 [(0, vx.v), (1, .int .i64 (i : Int)), (2, vy.v)] a) => ?_
 refine c_reg ?_
 refine s_ hs m (ok_assign rfl) (bn_ (bc_ (b_ m (ok_move rfl) (b_ m (ok_move rfl) ?_))))
 clear hs a; intro a hs
 have hc1 := ((m.rdv r0)).ncapM
 refine s_ hs m (ok_sliceH (i := i) (j := x.length) (c := vx.c) rfl sl27 ty56 ⟨_, rfl⟩ (by show _ = _; omega) rfl (fun _ => rfl) (by omega) (by omega) (by omega)) (bn_ (bc_ (b_ m (ok_move rfl) (b_ m (ok_len (r := (y.length : Int)) m rfl sl27 (rc_own r1) (by simp)) (b_ m (ok_assign rfl) (bn_ ?_))))))
 clear hs a; intro a hs
 refine c_seq ?_
 refine c_reg ?_
 refine s_ hs m (ok_move rfl) (b_ m (ok_bin rfl rfl rfl) (bn_ ?_))
 clear hs a; intro a hs
 refine c_false hs rfl (by rw [A1]; rfl) ?_
 refine wp_skip ?_
 refine n_then ?_
 refine c_reg ?_
 refine s_ hs m (ok_move rfl) (b_ m (ok_len (r := (x.length : Int)) m rfl sl27 (rc_own r0) (by simp)) (b_ m (ok_assign rfl) (bn_ ?_)))
 clear hs a; intro a hs
 refine c_seq ?_
 refine c_reg ?_
 refine s_ hs m (ok_move rfl) (b_ m (ok_move rfl) (b_ m (ok_bin rfl rfl rfl) (bn_ ?_)))
 clear hs a; intro a hs
 refine c_cond hs rfl (fun h3 => ?_) (fun h3 => ?_)
 ·have h3p := eq_of_beq h3
  refine c_reg ?_
  refine s_ hs m (ok_move rfl) (b_ m (ok_move rfl) ?_)
  clear hs a; intro a hs
  refine r_appendM (c := cFdb) (xs := x) (ys := y) hs m rfl rfl sl27 ni27 ty56 ze56 rfl by56 rfl r0 (m.rdv r1) (fun _ => rfl) (by omega) rfl ?_
  clear m hs a; intro v4 w5 m a hs
  refine s_ hs m (ok_assign rfl) (bn_ ?_)
  clear hs a; intro a hs
  refine wp_ret ?_
  refine ret_then (leave hs (vs := [v4.v]) rfl ⟨rfl, trivial⟩ ?_)
  have q6 : x ++ y = x.take i ++ y ++ x.drop i := by (have hi : i = x.length := by omega); subst hi; simp
  rw [q6] at m
  refine ⟨_, rfl, v4, ?_, m.sub (.c r0 .n)⟩
  rfl
 have h3p := ne_of_beq_false h3
 refine wp_skip ?_
 refine n_then ?_
 refine c_seq ?_
 refine c_reg ?_
 refine s_ hs m (ok_move rfl) (b_ m (ok_move rfl) (b_ m (ok_add (r := ((x.length + 1 : Nat) : Int)) rfl rfl (by rw [wrap_i64 (by omega) (by omega)]; omega)) (b_ m (ok_move rfl) (b_ m (ok_cap rfl sl27) (b_ m (ok_bin rfl rfl rfl) (bn_ ?_))))))
 clear hs a; intro a hs
 refine c_cond hs rfl (fun h7 => ?_) (fun h7 => ?_)
 ·have h7p := of_decide_eq_true h7
  refine c_reg ?_
  refine s_ hs m (ok_move rfl) (b_ m (ok_move rfl) ?_)
  clear hs a; intro a hs
  have hc8 := ((m.rdv r0)).ncapM
  refine s_ hs m (ok_sliceH (i := 0) (j := i) (c := vx.c) rfl sl27 ty56 rfl ⟨_, rfl⟩ rfl (fun h => by cases h) (by omega) (by omega) (by omega)) ?_
  clear hs a; intro a hs
  rw [sub3_0] at hs
  refine s_ hs m (ok_move rfl) (b_ m (ok_move rfl) (b_ m (ok_add (r := ((x.length + 1 : Nat) : Int)) rfl rfl (by rw [wrap_i64 (by omega) (by omega)]; omega)) (b_ m (ok_move rfl) (b_ m (ok_sub (r := ((x.length + 1 - i : Nat) : Int)) rfl rfl (by rw [wrap_i64 (by omega) (by omega)]; omega)) ?_))))
  clear hs a; intro a hs
  refine r_appendZM (c := cFdb) (z0 := (⟨(⟨⟨0, rfl⟩, ⟨0, rfl⟩, ⟨0, rfl⟩, ⟨0, rfl⟩, ⟨0, rfl⟩, ⟨0, rfl⟩⟩ : TMAC), ⟨0, rfl⟩⟩ : TFdb)) (xs := x) (i := i) (cn := x.length + 1 - i) hs m rfl rfl sl27 in3 ty56 ze56 rfl rfl by56 rfl rfl r0 (by omega) (by omega) (by omega) (by omega) rfl ?_
  clear m hs a; intro v9 w13 hn10 hc11 m a hs
  have hl12 : (x.take i ++ List.replicate (x.length + 1 - i) (⟨(⟨⟨0, rfl⟩, ⟨0, rfl⟩, ⟨0, rfl⟩, ⟨0, rfl⟩, ⟨0, rfl⟩, ⟨0, rfl⟩⟩ : TMAC), ⟨0, rfl⟩⟩ : TFdb)).length = x.length + 1 := by simp; omega
  refine s_ hs m (ok_assign rfl) (bn_ (bc_ (b_ m (ok_move rfl) (b_ m (ok_move rfl) ?_))))
  clear hs a; intro a hs
  have hc14 := ((m.rdv r0)).ncapM
  refine s_ hs m (ok_sliceH (i := i) (j := (x.take i ++ List.replicate (x.length + 1 - i) (⟨(⟨⟨0, rfl⟩, ⟨0, rfl⟩, ⟨0, rfl⟩, ⟨0, rfl⟩, ⟨0, rfl⟩, ⟨0, rfl⟩⟩ : TMAC), ⟨0, rfl⟩⟩ : TFdb)).length) (c := v9.c) rfl sl27 ty56 ⟨_, rfl⟩ (by show _ = _; omega) rfl (fun _ => rfl) (by omega) (by omega) (by omega)) (b_ m (ok_move rfl) ?_)
  clear hs a; intro a hs
  have hy15 := (m.rdv r2)
  have hy15n := hy15.ncapM
  refine r_copyM (c := cFdb) (x := v9) (xs := (x.take i ++ List.replicate (x.length + 1 - i) (⟨(⟨⟨0, rfl⟩, ⟨0, rfl⟩, ⟨0, rfl⟩, ⟨0, rfl⟩, ⟨0, rfl⟩, ⟨0, rfl⟩⟩ : TMAC), ⟨0, rfl⟩⟩ : TFdb))) (es := y) (lo := i) (dl := (x.take i ++ List.replicate (x.length + 1 - i) (⟨(⟨⟨0, rfl⟩, ⟨0, rfl⟩, ⟨0, rfl⟩, ⟨0, rfl⟩, ⟨0, rfl⟩, ⟨0, rfl⟩⟩ : TMAC), ⟨0, rfl⟩⟩ : TFdb)).length - i) (zs := ((x.take i ++ List.replicate (x.length + 1 - i) (⟨(⟨⟨0, rfl⟩, ⟨0, rfl⟩, ⟨0, rfl⟩, ⟨0, rfl⟩, ⟨0, rfl⟩, ⟨0, rfl⟩⟩ : TMAC), ⟨0, rfl⟩⟩ : TFdb)).take i ++ y ++ (x.take i ++ List.replicate (x.length + 1 - i) (⟨(⟨⟨0, rfl⟩, ⟨0, rfl⟩, ⟨0, rfl⟩, ⟨0, rfl⟩, ⟨0, rfl⟩, ⟨0, rfl⟩⟩ : TMAC), ⟨0, rfl⟩⟩ : TFdb)).drop (i + y.length))) (N := x.length + 1) hs m rfl rfl sl27 ty56 r0 (sub3_lt (by omega)) (⟨_, _, _, rfl, by omega, hy15.wln⟩) (fun _ => rfl) (by omega) (by omega) (by omega) (rfl) (by omega) rfl ?_
  clear m hy15 hs a w13; intro w16 m a hs
  have hl17 : ((x.take i ++ List.replicate (x.length + 1 - i) (⟨(⟨⟨0, rfl⟩, ⟨0, rfl⟩, ⟨0, rfl⟩, ⟨0, rfl⟩, ⟨0, rfl⟩, ⟨0, rfl⟩⟩ : TMAC), ⟨0, rfl⟩⟩ : TFdb)).take i ++ y ++ (x.take i ++ List.replicate (x.length + 1 - i) (⟨(⟨⟨0, rfl⟩, ⟨0, rfl⟩, ⟨0, rfl⟩, ⟨0, rfl⟩, ⟨0, rfl⟩, ⟨0, rfl⟩⟩ : TMAC), ⟨0, rfl⟩⟩ : TFdb)).drop (i + y.length)).length = x.length + 1 := by simp; omega
  rw [show upH v9 (x.length + 1) = v9 from upH_self (by omega)] at m
  refine wpList_nil (n_then ?_)
  refine c_drawH (Hp w0 R [Sv 7 56 vx.v (x.map cFdb), Sv 7 56 vy.v (y.map cFdb)]) m mo ?_; clear m w16; intro w18 m
  refine sh_ (i := 0) rfl hs (m.sub (.c r1 (.c r1 .n))) (ok_move rfl) (bh_ (i := 1) rfl (m.sub (.c r1 (.c r1 .n))) (ok_move rfl) (bh_ (i := 2) rfl (m.sub (.c r1 (.c r1 .n))) (ok_move rfl) (bh_ (i := 3) rfl (m.sub (.c r1 (.c r1 .n))) (ok_add (r := ((i + 1 : Nat) : Int)) rfl rfl (by rw [wrap_i64 (by omega) (by omega)]; omega)) ?_)))
  clear hs a; intro a hs
  have hc19 := ((m.rdv r0)).ncapM
  refine sh_ (i := 4) rfl hs (m.sub (.c r1 (.c r1 .n))) (ok_sliceH (i := (i + 1)) (j := ((x.take i ++ List.replicate (x.length + 1 - i) (⟨(⟨⟨0, rfl⟩, ⟨0, rfl⟩, ⟨0, rfl⟩, ⟨0, rfl⟩, ⟨0, rfl⟩, ⟨0, rfl⟩⟩ : TMAC), ⟨0, rfl⟩⟩ : TFdb)).take i ++ y ++ (x.take i ++ List.replicate (x.length + 1 - i) (⟨(⟨⟨0, rfl⟩, ⟨0, rfl⟩, ⟨0, rfl⟩, ⟨0, rfl⟩, ⟨0, rfl⟩, ⟨0, rfl⟩⟩ : TMAC), ⟨0, rfl⟩⟩ : TFdb)).drop (i + y.length)).length) (c := v9.c) rfl sl27 ty56 ⟨_, rfl⟩ (by show _ = _; omega) rfl (fun _ => rfl) (by omega) (by omega) (by omega)) (bh_ (i := 5) rfl (m.sub (.c r1 (.c r1 .n))) (ok_move rfl) (bh_ (i := 6) rfl (m.sub (.c r1 (.c r1 .n))) (ok_move rfl) ?_))
  clear hs a; intro a hs
  have hc20 := ((m.rdv r1)).ncapM
  refine sh_ (i := 7) rfl hs (m.sub (.c r1 (.c r1 .n))) (ok_sliceH (i := i) (j := x.length) (c := vx.c) rfl sl27 ty56 ⟨_, rfl⟩ (by show _ = _; omega) rfl (fun _ => rfl) (by omega) (by omega) (by omega)) ?_
  clear hs a; intro a hs
  have hx21 := (m.rdv r1).winS (lo := i) (by omega) (by omega)
  refine h_eff (i := 8) (by kernel_rfl) rfl ?_
  refine r_copyM (c := cFdb) (x := v9) (xs := ((x.take i ++ List.replicate (x.length + 1 - i) (⟨(⟨⟨0, rfl⟩, ⟨0, rfl⟩, ⟨0, rfl⟩, ⟨0, rfl⟩, ⟨0, rfl⟩, ⟨0, rfl⟩⟩ : TMAC), ⟨0, rfl⟩⟩ : TFdb)).take i ++ y ++ (x.take i ++ List.replicate (x.length + 1 - i) (⟨(⟨⟨0, rfl⟩, ⟨0, rfl⟩, ⟨0, rfl⟩, ⟨0, rfl⟩, ⟨0, rfl⟩, ⟨0, rfl⟩⟩ : TMAC), ⟨0, rfl⟩⟩ : TFdb)).drop (i + y.length))) (es := x.drop i) (lo := i + 1) (dl := ((x.take i ++ List.replicate (x.length + 1 - i) (⟨(⟨⟨0, rfl⟩, ⟨0, rfl⟩, ⟨0, rfl⟩, ⟨0, rfl⟩, ⟨0, rfl⟩, ⟨0, rfl⟩⟩ : TMAC), ⟨0, rfl⟩⟩ : TFdb)).take i ++ y ++ (x.take i ++ List.replicate (x.length + 1 - i) (⟨(⟨⟨0, rfl⟩, ⟨0, rfl⟩, ⟨0, rfl⟩, ⟨0, rfl⟩, ⟨0, rfl⟩, ⟨0, rfl⟩⟩ : TMAC), ⟨0, rfl⟩⟩ : TFdb)).drop (i + y.length)).length - (i + 1)) (zs := x.take i ++ y ++ x.drop i) (N := x.length + 1) hs m rfl rfl sl27 ty56 r0 (sub3_lt (by omega)) (⟨_, _, _, sub3_lt (by omega), by simp; omega, hx21⟩) (fun _ => rfl) (by omega) (by (simp; omega)) (by (simp; omega)) (ins_eqZ (by omega) A1 rfl) (by simp; omega) rfl ?_
  clear m hx21 hs a w18; intro w22 m a hs
  rw [show upH v9 (x.length + 1) = v9 from upH_self (by omega)] at m
  refine wpList_nil (n_then ⟨(m.sub (.c r1 (.c r1 .n))), ?_⟩)
  refine h_done (by kernel_rfl) (n_then ?_)
  refine c_reg ?_
  refine s_ hs m (ok_move rfl) (b_ m (ok_assign rfl) (bn_ ?_))
  clear hs a; intro a hs
  refine wp_ret ?_
  refine ret_then (leave hs (vs := [v9.v]) rfl ⟨rfl, trivial⟩ ?_)
  refine ⟨_, rfl, v9, ?_, m.sub (.c r0 .n)⟩
  rfl
 have h7p := of_decide_eq_false h7
 refine wp_skip ?_
 refine n_then ?_
 refine c_reg ?_
 refine s_ hs m (ok_move rfl) (b_ m (ok_move rfl) (b_ m (ok_move rfl) (b_ m (ok_add (r := ((x.length + 1 : Nat) : Int)) rfl rfl (by rw [wrap_i64 (by omega) (by omega)]; omega)) ?_)))
 clear hs a; intro a hs
 have hc23 := ((m.rdv r0)).ncapM
 refine s_ hs m (ok_sliceH (i := 0) (j := (x.length + 1)) (c := vx.c) rfl sl27 ty56 rfl ⟨_, rfl⟩ rfl (fun h => by cases h) (by omega) (by omega) (by omega)) ?_
 clear hs a; intro a hs
 rw [sub3_0] at hs
 refine s_ hs m (ok_assign rfl) (bn_ ?_)
 clear hs a; intro a hs
 refine c_seq ?_
 refine c_reg ?_
 refine s_ hs m (ok_move rfl) (b_ m (ok_move rfl) (b_ m (ok_move rfl) (b_ m (ok_move rfl) (b_ m (ok_add (r := ((i + 1 : Nat) : Int)) rfl rfl (by rw [wrap_i64 (by omega) (by omega)]; omega)) ?_))))
 clear hs a; intro a hs
 have hc24 : (upH vx (x.length + 1)).n = (x.length + 1) ∧ (upH vx (x.length + 1)).c = vx.c := ⟨rfl, rfl⟩
 refine s_ hs m (ok_sliceH (i := (i + 1)) (j := (x.length + 1)) (c := (upH vx (x.length + 1)).c) rfl sl27 ty56 ⟨_, rfl⟩ (by show _ = _; omega) rfl (fun _ => rfl) (by omega) (by omega) (by omega)) (b_ m (ok_entry en152 rfl (fun w m => overlaps_no (x := vx) (i := i + 1) (j := x.length + 1) sl27 ty56 m r1 r0 (by omega))) (b_ m (ok_not rfl) (bn_ ?_)))
 clear hs a; intro a hs
 refine c_true hs rfl rfl ?_
 refine c_drawH (Hp w0 R [Sv 7 56 vy.v (y.map cFdb)]) m mo ?_; clear m; intro w26 m
 refine sh_ (i := 0) rfl hs (m.sub (.c r1 .n)) (ok_move rfl) (bh_ (i := 1) rfl (m.sub (.c r1 .n)) (ok_move rfl) (bh_ (i := 2) rfl (m.sub (.c r1 .n)) (ok_move rfl) (bh_ (i := 3) rfl (m.sub (.c r1 .n)) (ok_add (r := ((i + 1 : Nat) : Int)) rfl rfl (by rw [wrap_i64 (by omega) (by omega)]; omega)) ?_)))
 clear hs a; intro a hs
 have hc27 : (upH vx (x.length + 1)).n = (x.length + 1) ∧ (upH vx (x.length + 1)).c = vx.c := ⟨rfl, rfl⟩
 refine sh_ (i := 4) rfl hs (m.sub (.c r1 .n)) (ok_sliceH (i := (i + 1)) (j := (x.length + 1)) (c := (upH vx (x.length + 1)).c) rfl sl27 ty56 ⟨_, rfl⟩ (by show _ = _; omega) rfl (fun _ => rfl) (by omega) (by omega) (by omega)) (bh_ (i := 5) rfl (m.sub (.c r1 .n)) (ok_move rfl) (bh_ (i := 6) rfl (m.sub (.c r1 .n)) (ok_move rfl) ?_))
 clear hs a; intro a hs
 have hc28 : (upH vx (x.length + 1)).n = (x.length + 1) ∧ (upH vx (x.length + 1)).c = vx.c := ⟨rfl, rfl⟩
 refine sh_ (i := 7) rfl hs (m.sub (.c r1 .n)) (ok_sliceH (i := i) (j := (x.length + 1)) (c := (upH vx (x.length + 1)).c) rfl sl27 ty56 ⟨_, rfl⟩ (by show _ = _; omega) rfl (fun _ => rfl) (by omega) (by omega) (by omega)) ?_
 clear hs a; intro a hs
 have hx29 := (m.rdv r0).winS (lo := i) (by omega) (by omega)
 refine h_eff (i := 8) (by kernel_rfl) rfl ?_
 refine r_copyM (c := cFdb) (x := vx) (xs := x) (es := x.drop i) (lo := i + 1) (dl := x.length + 1 - (i + 1)) (zs := x.take (i + 1) ++ x.drop i) (N := x.length + 1) hs m rfl rfl sl27 ty56 r0 (sub3_lt (x := upH vx (x.length + 1)) (by show _ < vx.c; omega)) (⟨_, _, _, sub3_lt (x := upH vx (x.length + 1)) (by show _ < vx.c; omega), by simp; omega, hx29⟩) (fun _ => rfl) (by omega) (by (simp; omega)) (by (simp; omega)) (cp1_eq (by omega)) (by simp; omega) rfl ?_
 clear m hx29 hs a w26; intro w30 m a hs
 refine wpList_nil (n_then ⟨(m.sub (.c r1 .n)), ?_⟩)
 refine h_done (by kernel_rfl) (n_then ?_)
 refine c_reg ?_
 refine s_ hs m (ok_move rfl) (b_ m (ok_move rfl) ?_)
 clear hs a; intro a hs
 have hc31 : (upH vx (x.length + 1)).n = (x.length + 1) ∧ (upH vx (x.length + 1)).c = vx.c := ⟨rfl, rfl⟩
 refine s_ hs m (ok_sliceH (i := i) (j := (x.length + 1)) (c := (upH vx (x.length + 1)).c) rfl sl27 ty56 ⟨_, rfl⟩ (by show _ = _; omega) rfl (fun _ => rfl) (by omega) (by omega) (by omega)) (b_ m (ok_move rfl) ?_)
 clear hs a; intro a hs
 have hy32 := (m.rdv r1)
 have hy32n := hy32.ncapM
 refine r_copyM (c := cFdb) (x := (upH vx (x.length + 1))) (xs := x.take (i + 1) ++ x.drop i) (es := y) (lo := i) (dl := x.length + 1 - i) (zs := x.take i ++ y ++ x.drop i) (N := x.length + 1) hs m rfl rfl sl27 ty56 r0 (sub3_lt (x := upH vx (x.length + 1)) (by show _ < vx.c; omega)) (⟨_, _, _, rfl, by omega, hy32.wln⟩) (fun _ => rfl) (by (simp; omega)) (by omega) (by omega) (ins_eq (by omega) A1) (by simp; omega) rfl ?_
 clear m hy32 hs a w30; intro w33 m a hs
 refine wpList_nil (n_then ?_)
 refine c_reg ?_
 refine s_ hs m (ok_move rfl) (b_ m (ok_assign rfl) (bn_ ?_))
 clear hs a; intro a hs
 refine wp_ret ?_
 refine ret_then (leave hs (vs := [(upH vx (x.length + 1)).v]) rfl ⟨rfl, trivial⟩ ?_)
 refine ⟨_, rfl, (upH vx (x.length + 1)), ?_, m.sub (.c r0 .n)⟩
 rfl
theorem insPrefix_c (vx : SH) (x : List TPrefix) (i : Nat) (vy : SH) (y : List TPrefix) (w0 : World) (R : Hh) (A1 : y.length = 1) (A2 : i ≤ x.length) (A3 : x.length ≤ 2600000000000) (m : Hp w0 R [Sv 2 44 vx.v (x.map cPrefix), Sv 2 44 vy.v (y.map cPrefix)] w0) : Calls Tryz.prog 166 ⟨[vx.v, .int .i64 (i : Int), vy.v]⟩ w0 fun e w' => ∃ v, e = .returned v ∧ (∃ x0 : SH, v = (x0.v) ∧ Hp w0 R [Sv 2 44 x0.v ((x.take i ++ y ++ x.drop i).map cPrefix)] w') := by
 have cx := m.ncapM r0
 have cy := m.ncapM r1
 have lvx := (m.rdv r0).bd
 have lvy := (m.rdv r1).bd
 refine enter (n := 95) Tryz.func166 rfl rfl rfl fun a (hs : St 95 [(0, vx.v), (1, .int .i64 (i : Int)), (2, vy.v)] a) => ?_
 refine c_reg ?_
 refine s_ hs m (ok_assign rfl) (bn_ (bc_ (b_ m (ok_move rfl) (b_ m (ok_move rfl) ?_))))
 clear hs a; intro a hs
 have hc1 := ((m.rdv r0)).ncapM
 refine s_ hs m (ok_sliceH (i := i) (j := x.length) (c := vx.c) rfl sl82 ty44 ⟨_, rfl⟩ (by show _ = _; omega) rfl (fun _ => rfl) (by omega) (by omega) (by omega)) (bn_ (bc_ (b_ m (ok_move rfl) (b_ m (ok_len (r := (y.length : Int)) m rfl sl82 (rc_own r1) (by simp)) (b_ m (ok_assign rfl) (bn_ ?_))))))
 clear hs a; intro a hs
 refine c_seq ?_
 refine c_reg ?_
 refine s_ hs m (ok_move rfl) (b_ m (ok_bin rfl rfl rfl) (bn_ ?_))
 clear hs a; intro a hs
 refine c_false hs rfl (by rw [A1]; rfl) ?_
 refine wp_skip ?_
 refine n_then ?_
 refine c_reg ?_
 refine s_ hs m (ok_move rfl) (b_ m (ok_len (r := (x.length : Int)) m rfl sl82 (rc_own r0) (by simp)) (b_ m (ok_assign rfl) (bn_ ?_)))
 clear hs a; intro a hs
 refine c_seq ?_
 refine c_reg ?_
 refine s_ hs m (ok_move rfl) (b_ m (ok_move rfl) (b_ m (ok_bin rfl rfl rfl) (bn_ ?_)))
 clear hs a; intro a hs
 refine c_cond hs rfl (fun h3 => ?_) (fun h3 => ?_)
 ·have h3p := eq_of_beq h3
  refine c_reg ?_
  refine s_ hs m (ok_move rfl) (b_ m (ok_move rfl) ?_)
  clear hs a; intro a hs
  refine r_appendM (c := cPrefix) (xs := x) (ys := y) hs m rfl rfl sl82 ni82 ty44 ze44 rfl by44 rfl r0 (m.rdv r1) (fun _ => rfl) (by omega) rfl ?_
  clear m hs a; intro v4 w5 m a hs
  refine s_ hs m (ok_assign rfl) (bn_ ?_)
  clear hs a; intro a hs
  refine wp_ret ?_
  refine ret_then (leave hs (vs := [v4.v]) rfl ⟨rfl, trivial⟩ ?_)
  have q6 : x ++ y = x.take i ++ y ++ x.drop i := by (have hi : i = x.length := by omega); subst hi; simp
  rw [q6] at m
  refine ⟨_, rfl, v4, ?_, m.sub (.c r0 .n)⟩
  rfl
 have h3p := ne_of_beq_false h3
 refine wp_skip ?_
 refine n_then ?_
 refine c_seq ?_
 refine c_reg ?_
 refine s_ hs m (ok_move rfl) (b_ m (ok_move rfl) (b_ m (ok_add (r := ((x.length + 1 : Nat) : Int)) rfl rfl (by rw [wrap_i64 (by omega) (by omega)]; omega)) (b_ m (ok_move rfl) (b_ m (ok_cap rfl sl82) (b_ m (ok_bin rfl rfl rfl) (bn_ ?_))))))
 clear hs a; intro a hs
 refine c_cond hs rfl (fun h7 => ?_) (fun h7 => ?_)
 ·have h7p := of_decide_eq_true h7
  refine c_reg ?_
  refine s_ hs m (ok_move rfl) (b_ m (ok_move rfl) ?_)
  clear hs a; intro a hs
  have hc8 := ((m.rdv r0)).ncapM
  refine s_ hs m (ok_sliceH (i := 0) (j := i) (c := vx.c) rfl sl82 ty44 rfl ⟨_, rfl⟩ rfl (fun h => by cases h) (by omega) (by omega) (by omega)) ?_
  clear hs a; intro a hs
  rw [sub3_0] at hs
  refine s_ hs m (ok_move rfl) (b_ m (ok_move rfl) (b_ m (ok_add (r := ((x.length + 1 : Nat) : Int)) rfl rfl (by rw [wrap_i64 (by omega) (by omega)]; omega)) (b_ m (ok_move rfl) (b_ m (ok_sub (r := ((x.length + 1 - i : Nat) : Int)) rfl rfl (by rw [wrap_i64 (by omega) (by omega)]; omega)) ?_))))
  clear hs a; intro a hs
  refine r_appendZM (c := cPrefix) (z0 := (⟨⟨0, rfl⟩, ⟨0, rfl⟩⟩ : TPrefix)) (xs := x) (i := i) (cn := x.length + 1 - i) hs m rfl rfl sl82 in3 ty44 ze44 rfl rfl by44 rfl rfl r0 (by omega) (by omega) (by omega) (by omega) rfl ?_
  clear m hs a; intro v9 w13 hn10 hc11 m a hs
  have hl12 : (x.take i ++ List.replicate (x.length + 1 - i) (⟨⟨0, rfl⟩, ⟨0, rfl⟩⟩ : TPrefix)).length = x.length + 1 := by simp; omega
  refine s_ hs m (ok_assign rfl) (bn_ (bc_ (b_ m (ok_move rfl) (b_ m (ok_move rfl) ?_))))
  clear hs a; intro a hs
  have hc14 := ((m.rdv r0)).ncapM
  refine s_ hs m (ok_sliceH (i := i) (j := (x.take i ++ List.replicate (x.length + 1 - i) (⟨⟨0, rfl⟩, ⟨0, rfl⟩⟩ : TPrefix)).length) (c := v9.c) rfl sl82 ty44 ⟨_, rfl⟩ (by show _ = _; omega) rfl (fun _ => rfl) (by omega) (by omega) (by omega)) (b_ m (ok_move rfl) ?_)
  clear hs a; intro a hs
  have hy15 := (m.rdv r2)
  have hy15n := hy15.ncapM
  refine r_copyM (c := cPrefix) (x := v9) (xs := (x.take i ++ List.replicate (x.length + 1 - i) (⟨⟨0, rfl⟩, ⟨0, rfl⟩⟩ : TPrefix))) (es := y) (lo := i) (dl := (x.take i ++ List.replicate (x.length + 1 - i) (⟨⟨0, rfl⟩, ⟨0, rfl⟩⟩ : TPrefix)).length - i) (zs := ((x.take i ++ List.replicate (x.length + 1 - i) (⟨⟨0, rfl⟩, ⟨0, rfl⟩⟩ : TPrefix)).take i ++ y ++ (x.take i ++ List.replicate (x.length + 1 - i) (⟨⟨0, rfl⟩, ⟨0, rfl⟩⟩ : TPrefix)).drop (i + y.length))) (N := x.length + 1) hs m rfl rfl sl82 ty44 r0 (sub3_lt (by omega)) (⟨_, _, _, rfl, by omega, hy15.wln⟩) (fun _ => rfl) (by omega) (by omega) (by omega) (rfl) (by omega) rfl ?_
  clear m hy15 hs a w13; intro w16 m a hs
  have hl17 : ((x.take i ++ List.replicate (x.length + 1 - i) (⟨⟨0, rfl⟩, ⟨0, rfl⟩⟩ : TPrefix)).take i ++ y ++ (x.take i ++ List.replicate (x.length + 1 - i) (⟨⟨0, rfl⟩, ⟨0, rfl⟩⟩ : TPrefix)).drop (i + y.length)).length = x.length + 1 := by simp; omega
  rw [show upH v9 (x.length + 1) = v9 from upH_self (by omega)] at m
  refine wpList_nil (n_then ?_)
  refine c_drawH (Hp w0 R [Sv 2 44 vx.v (x.map cPrefix), Sv 2 44 vy.v (y.map cPrefix)]) m mo ?_; clear m w16; intro w18 m
  refine sh_ (i := 0) rfl hs (m.sub (.c r1 (.c r1 .n))) (ok_move rfl) (bh_ (i := 1) rfl (m.sub (.c r1 (.c r1 .n))) (ok_move rfl) (bh_ (i := 2) rfl (m.sub (.c r1 (.c r1 .n))) (ok_move rfl) (bh_ (i := 3) rfl (m.sub (.c r1 (.c r1 .n))) (ok_add (r := ((i + 1 : Nat) : Int)) rfl rfl (by rw [wrap_i64 (by omega) (by omega)]; omega)) ?_)))
  clear hs a; intro a hs
  have hc19 := ((m.rdv r0)).ncapM
  refine sh_ (i := 4) rfl hs (m.sub (.c r1 (.c r1 .n))) (ok_sliceH (i := (i + 1)) (j := ((x.take i ++ List.replicate (x.length + 1 - i) (⟨⟨0, rfl⟩, ⟨0, rfl⟩⟩ : TPrefix)).take i ++ y ++ (x.take i ++ List.replicate (x.length + 1 - i) (⟨⟨0, rfl⟩, ⟨0, rfl⟩⟩ : TPrefix)).drop (i + y.length)).length) (c := v9.c) rfl sl82 ty44 ⟨_, rfl⟩ (by show _ = _; omega) rfl (fun _ => rfl) (by omega) (by omega) (by omega)) (bh_ (i := 5) rfl (m.sub (.c r1 (.c r1 .n))) (ok_move rfl) (bh_ (i := 6) rfl (m.sub (.c r1 (.c r1 .n))) (ok_move rfl) ?_))
  clear hs a; intro a hs
  have hc20 := ((m.rdv r1)).ncapM
  refine sh_ (i := 7) rfl hs (m.sub (.c r1 (.c r1 .n))) (ok_sliceH (i := i) (j := x.length) (c := vx.c) rfl sl82 ty44 ⟨_, rfl⟩ (by show _ = _; omega) rfl (fun _ => rfl) (by omega) (by omega) (by omega)) ?_
  clear hs a; intro a hs
  have hx21 := (m.rdv r1).winS (lo := i) (by omega) (by omega)
  refine h_eff (i := 8) (by kernel_rfl) rfl ?_
  refine r_copyM (c := cPrefix) (x := v9) (xs := ((x.take i ++ List.replicate (x.length + 1 - i) (⟨⟨0, rfl⟩, ⟨0, rfl⟩⟩ : TPrefix)).take i ++ y ++ (x.take i ++ List.replicate (x.length + 1 - i) (⟨⟨0, rfl⟩, ⟨0, rfl⟩⟩ : TPrefix)).drop (i + y.length))) (es := x.drop i) (lo := i + 1) (dl := ((x.take i ++ List.replicate (x.length + 1 - i) (⟨⟨0, rfl⟩, ⟨0, rfl⟩⟩ : TPrefix)).take i ++ y ++ (x.take i ++ List.replicate (x.length + 1 - i) (⟨⟨0, rfl⟩, ⟨0, rfl⟩⟩ : TPrefix)).drop (i + y.length)).length - (i + 1)) (zs := x.take i ++ y ++ x.drop i) (N := x.length + 1) hs m rfl rfl sl82 ty44 r0 (sub3_lt (by omega)) (⟨_, _, _, sub3_lt (by omega), by simp; omega, hx21⟩) (fun _ => rfl) (by omega) (by (simp; omega)) (by (simp; omega)) (ins_eqZ (by omega) A1 rfl) (by simp; omega) rfl ?_
  clear m hx21 hs a w18; intro w22 m a hs
  rw [show upH v9 (x.length + 1) = v9 from upH_self (by omega)] at m
  refine wpList_nil (n_then ⟨(m.sub (.c r1 (.c r1 .n))), ?_⟩)
  refine h_done (by kernel_rfl) (n_then ?_)
  refine c_reg ?_
  refine s_ hs m (ok_move rfl) (b_ m (ok_assign rfl) (bn_ ?_))
  clear hs a; intro a hs
  refine wp_ret ?_
  refine ret_then (leave hs (vs := [v9.v]) rfl ⟨rfl, trivial⟩ ?_)
  refine ⟨_, rfl, v9, ?_, m.sub (.c r0 .n)⟩
  rfl
 have h7p := of_decide_eq_false h7
 refine wp_skip ?_
 refine n_then ?_
 refine c_reg ?_
 refine s_ hs m (ok_move rfl) (b_ m (ok_move rfl) (b_ m (ok_move rfl) (b_ m (ok_add (r := ((x.length + 1 : Nat) : Int)) rfl rfl (by rw [wrap_i64 (by omega) (by omega)]; omega)) ?_)))
 clear hs a; intro a hs
 have hc23 := ((m.rdv r0)).ncapM
 refine s_ hs m (ok_sliceH (i := 0) (j := (x.length + 1)) (c := vx.c) rfl sl82 ty44 rfl ⟨_, rfl⟩ rfl (fun h => by cases h) (by omega) (by omega) (by omega)) ?_
 clear hs a; intro a hs
 rw [sub3_0] at hs
 refine s_ hs m (ok_assign rfl) (bn_ ?_)
 clear hs a; intro a hs
 refine c_seq ?_
 refine c_reg ?_
 refine s_ hs m (ok_move rfl) (b_ m (ok_move rfl) (b_ m (ok_move rfl) (b_ m (ok_move rfl) (b_ m (ok_add (r := ((i + 1 : Nat) : Int)) rfl rfl (by rw [wrap_i64 (by omega) (by omega)]; omega)) ?_))))
 clear hs a; intro a hs
 have hc24 : (upH vx (x.length + 1)).n = (x.length + 1) ∧ (upH vx (x.length + 1)).c = vx.c := ⟨rfl, rfl⟩
 refine s_ hs m (ok_sliceH (i := (i + 1)) (j := (x.length + 1)) (c := (upH vx (x.length + 1)).c) rfl sl82 ty44 ⟨_, rfl⟩ (by show _ = _; omega) rfl (fun _ => rfl) (by omega) (by omega) (by omega)) (b_ m (ok_entry en183 rfl (fun w m => overlaps_no (x := vx) (i := i + 1) (j := x.length + 1) sl82 ty44 m r1 r0 (by omega))) (b_ m (ok_not rfl) (bn_ ?_)))
 clear hs a; intro a hs
 refine c_true hs rfl rfl ?_
 refine c_drawH (Hp w0 R [Sv 2 44 vy.v (y.map cPrefix)]) m mo ?_; clear m; intro w26 m
 refine sh_ (i := 0) rfl hs (m.sub (.c r1 .n)) (ok_move rfl) (bh_ (i := 1) rfl (m.sub (.c r1 .n)) (ok_move rfl) (bh_ (i := 2) rfl (m.sub (.c r1 .n)) (ok_move rfl) (bh_ (i := 3) rfl (m.sub (.c r1 .n)) (ok_add (r := ((i + 1 : Nat) : Int)) rfl rfl (by rw [wrap_i64 (by omega) (by omega)]; omega)) ?_)))
 clear hs a; intro a hs
 have hc27 : (upH vx (x.length + 1)).n = (x.length + 1) ∧ (upH vx (x.length + 1)).c = vx.c := ⟨rfl, rfl⟩
 refine sh_ (i := 4) rfl hs (m.sub (.c r1 .n)) (ok_sliceH (i := (i + 1)) (j := (x.length + 1)) (c := (upH vx (x.length + 1)).c) rfl sl82 ty44 ⟨_, rfl⟩ (by show _ = _; omega) rfl (fun _ => rfl) (by omega) (by omega) (by omega)) (bh_ (i := 5) rfl (m.sub (.c r1 .n)) (ok_move rfl) (bh_ (i := 6) rfl (m.sub (.c r1 .n)) (ok_move rfl) ?_))
 clear hs a; intro a hs
 have hc28 : (upH vx (x.length + 1)).n = (x.length + 1) ∧ (upH vx (x.length + 1)).c = vx.c := ⟨rfl, rfl⟩
 refine sh_ (i := 7) rfl hs (m.sub (.c r1 .n)) (ok_sliceH (i := i) (j := (x.length + 1)) (c := (upH vx (x.length + 1)).c) rfl sl82 ty44 ⟨_, rfl⟩ (by show _ = _; omega) rfl (fun _ => rfl) (by omega) (by omega) (by omega)) ?_
 clear hs a; intro a hs
 have hx29 := (m.rdv r0).winS (lo := i) (by omega) (by omega)
 refine h_eff (i := 8) (by kernel_rfl) rfl ?_
 refine r_copyM (c := cPrefix) (x := vx) (xs := x) (es := x.drop i) (lo := i + 1) (dl := x.length + 1 - (i + 1)) (zs := x.take (i + 1) ++ x.drop i) (N := x.length + 1) hs m rfl rfl sl82 ty44 r0 (sub3_lt (x := upH vx (x.length + 1)) (by show _ < vx.c; omega)) (⟨_, _, _, sub3_lt (x := upH vx (x.length + 1)) (by show _ < vx.c; omega), by simp; omega, hx29⟩) (fun _ => rfl) (by omega) (by (simp; omega)) (by (simp; omega)) (cp1_eq (by omega)) (by simp; omega) rfl ?_
 clear m hx29 hs a w26; intro w30 m a hs
 refine wpList_nil (n_then ⟨(m.sub (.c r1 .n)), ?_⟩)
 refine h_done (by kernel_rfl) (n_then ?_)
 refine c_reg ?_
 refine s_ hs m (ok_move rfl) (b_ m (ok_move rfl) ?_)
 clear hs a; intro a hs
 have hc31 : (upH vx (x.length + 1)).n = (x.length + 1) ∧ (upH vx (x.length + 1)).c = vx.c := ⟨rfl, rfl⟩
 refine s_ hs m (ok_sliceH (i := i) (j := (x.length + 1)) (c := (upH vx (x.length + 1)).c) rfl sl82 ty44 ⟨_, rfl⟩ (by show _ = _; omega) rfl (fun _ => rfl) (by omega) (by omega) (by omega)) (b_ m (ok_move rfl) ?_)
 clear hs a; intro a hs
 have hy32 := (m.rdv r1)
 have hy32n := hy32.ncapM
 refine r_copyM (c := cPrefix) (x := (upH vx (x.length + 1))) (xs := x.take (i + 1) ++ x.drop i) (es := y) (lo := i) (dl := x.length + 1 - i) (zs := x.take i ++ y ++ x.drop i) (N := x.length + 1) hs m rfl rfl sl82 ty44 r0 (sub3_lt (x := upH vx (x.length + 1)) (by show _ < vx.c; omega)) (⟨_, _, _, rfl, by omega, hy32.wln⟩) (fun _ => rfl) (by (simp; omega)) (by omega) (by omega) (ins_eq (by omega) A1) (by simp; omega) rfl ?_
 clear m hy32 hs a w30; intro w33 m a hs
 refine wpList_nil (n_then ?_)
 refine c_reg ?_
 refine s_ hs m (ok_move rfl) (b_ m (ok_assign rfl) (bn_ ?_))
 clear hs a; intro a hs
 refine wp_ret ?_
 refine ret_then (leave hs (vs := [(upH vx (x.length + 1)).v]) rfl ⟨rfl, trivial⟩ ?_)
 refine ⟨_, rfl, (upH vx (x.length + 1)), ?_, m.sub (.c r0 .n)⟩
 rfl
theorem insLease_c (vx : SH) (x : List TLease) (i : Nat) (vy : SH) (y : List TLease) (w0 : World) (R : Hh) (A1 : y.length = 1) (A2 : i ≤ x.length) (A3 : x.length ≤ 2500000000000) (m : Hp w0 R [Sv 12 48 vx.v (x.map cLease), Sv 12 48 vy.v (y.map cLease)] w0) : Calls Tryz.prog 168 ⟨[vx.v, .int .i64 (i : Int), vy.v]⟩ w0 fun e w' => ∃ v, e = .returned v ∧ (∃ x0 : SH, v = (x0.v) ∧ Hp w0 R [Sv 12 48 x0.v ((x.take i ++ y ++ x.drop i).map cLease)] w') := by
 have cx := m.ncapM r0
 have cy := m.ncapM r1
 have lvx := (m.rdv r0).bd
 have lvy := (m.rdv r1).bd
 refine enter (n := 95) Tryz.func168 rfl rfl rfl fun a (hs : St 95 [(0, vx.v), (1, .int .i64 (i : Int)), (2, vy.v)] a) => ?_
 refine c_reg ?_
 refine s_ hs m (ok_assign rfl) (bn_ (bc_ (b_ m (ok_move rfl) (b_ m (ok_move rfl) ?_))))
 clear hs a; intro a hs
 have hc1 := ((m.rdv r0)).ncapM
 refine s_ hs m (ok_sliceH (i := i) (j := x.length) (c := vx.c) rfl sl22 ty48 ⟨_, rfl⟩ (by show _ = _; omega) rfl (fun _ => rfl) (by omega) (by omega) (by omega)) (bn_ (bc_ (b_ m (ok_move rfl) (b_ m (ok_len (r := (y.length : Int)) m rfl sl22 (rc_own r1) (by simp)) (b_ m (ok_assign rfl) (bn_ ?_))))))
 clear hs a; intro a hs
 refine c_seq ?_
 refine c_reg ?_
 refine s_ hs m (ok_move rfl) (b_ m (ok_bin rfl rfl rfl) (bn_ ?_))
 clear hs a; intro a hs
 refine c_false hs rfl (by rw [A1]; rfl) ?_
 refine wp_skip ?_
 refine n_then ?_
 refine c_reg ?_
 refine s_ hs m (ok_move rfl) (b_ m (ok_len (r := (x.length : Int)) m rfl sl22 (rc_own r0) (by simp)) (b_ m (ok_assign rfl) (bn_ ?_)))
 clear hs a; intro a hs
 refine c_seq ?_
 refine c_reg ?_
 refine s_ hs m (ok_move rfl) (b_ m (ok_move rfl) (b_ m (ok_bin rfl rfl rfl) (bn_ ?_)))
 clear hs a; intro a hs
 refine c_cond hs rfl (fun h3 => ?_) (fun h3 => ?_)
 ·have h3p := eq_of_beq h3
  refine c_reg ?_
  refine s_ hs m (ok_move rfl) (b_ m (ok_move rfl) ?_)
  clear hs a; intro a hs
  refine r_appendM (c := cLease) (xs := x) (ys := y) hs m rfl rfl sl22 ni22 ty48 ze48 rfl by48 rfl r0 (m.rdv r1) (fun _ => rfl) (by omega) rfl ?_
  clear m hs a; intro v4 w5 m a hs
  refine s_ hs m (ok_assign rfl) (bn_ ?_)
  clear hs a; intro a hs
  refine wp_ret ?_
  refine ret_then (leave hs (vs := [v4.v]) rfl ⟨rfl, trivial⟩ ?_)
  have q6 : x ++ y = x.take i ++ y ++ x.drop i := by (have hi : i = x.length := by omega); subst hi; simp
  rw [q6] at m
  refine ⟨_, rfl, v4, ?_, m.sub (.c r0 .n)⟩
  rfl
 have h3p := ne_of_beq_false h3
 refine wp_skip ?_
 refine n_then ?_
 refine c_seq ?_
 refine c_reg ?_
 refine s_ hs m (ok_move rfl) (b_ m (ok_move rfl) (b_ m (ok_add (r := ((x.length + 1 : Nat) : Int)) rfl rfl (by rw [wrap_i64 (by omega) (by omega)]; omega)) (b_ m (ok_move rfl) (b_ m (ok_cap rfl sl22) (b_ m (ok_bin rfl rfl rfl) (bn_ ?_))))))
 clear hs a; intro a hs
 refine c_cond hs rfl (fun h7 => ?_) (fun h7 => ?_)
 ·have h7p := of_decide_eq_true h7
  refine c_reg ?_
  refine s_ hs m (ok_move rfl) (b_ m (ok_move rfl) ?_)
  clear hs a; intro a hs
  have hc8 := ((m.rdv r0)).ncapM
  refine s_ hs m (ok_sliceH (i := 0) (j := i) (c := vx.c) rfl sl22 ty48 rfl ⟨_, rfl⟩ rfl (fun h => by cases h) (by omega) (by omega) (by omega)) ?_
  clear hs a; intro a hs
  rw [sub3_0] at hs
  refine s_ hs m (ok_move rfl) (b_ m (ok_move rfl) (b_ m (ok_add (r := ((x.length + 1 : Nat) : Int)) rfl rfl (by rw [wrap_i64 (by omega) (by omega)]; omega)) (b_ m (ok_move rfl) (b_ m (ok_sub (r := ((x.length + 1 - i : Nat) : Int)) rfl rfl (by rw [wrap_i64 (by omega) (by omega)]; omega)) ?_))))
  clear hs a; intro a hs
  refine r_appendZM (c := cLease) (z0 := (⟨⟨0, rfl⟩, (⟨⟨0, rfl⟩, ⟨0, rfl⟩⟩ : TPrefix), ⟨0, rfl⟩, (⟨⟨0, rfl⟩, ⟨0, rfl⟩, ⟨0, rfl⟩, ⟨0, rfl⟩, ⟨0, rfl⟩, ⟨0, rfl⟩⟩ : TMAC), ⟨0, rfl⟩, ⟨0, rfl⟩⟩ : TLease)) (xs := x) (i := i) (cn := x.length + 1 - i) hs m rfl rfl sl22 in3 ty48 ze48 rfl rfl by48 rfl rfl r0 (by omega) (by omega) (by omega) (by omega) rfl ?_
  clear m hs a; intro v9 w13 hn10 hc11 m a hs
  have hl12 : (x.take i ++ List.replicate (x.length + 1 - i) (⟨⟨0, rfl⟩, (⟨⟨0, rfl⟩, ⟨0, rfl⟩⟩ : TPrefix), ⟨0, rfl⟩, (⟨⟨0, rfl⟩, ⟨0, rfl⟩, ⟨0, rfl⟩, ⟨0, rfl⟩, ⟨0, rfl⟩, ⟨0, rfl⟩⟩ : TMAC), ⟨0, rfl⟩, ⟨0, rfl⟩⟩ : TLease)).length = x.length + 1 := by simp; omega
  refine s_ hs m (ok_assign rfl) (bn_ (bc_ (b_ m (ok_move rfl) (b_ m (ok_move rfl) ?_))))
  clear hs a; intro a hs
  have hc14 := ((m.rdv r0)).ncapM
  refine s_ hs m (ok_sliceH (i := i) (j := (x.take i ++ List.replicate (x.length + 1 - i) (⟨⟨0, rfl⟩, (⟨⟨0, rfl⟩, ⟨0, rfl⟩⟩ : TPrefix), ⟨0, rfl⟩, (⟨⟨0, rfl⟩, ⟨0, rfl⟩, ⟨0, rfl⟩, ⟨0, rfl⟩, ⟨0, rfl⟩, ⟨0, rfl⟩⟩ : TMAC), ⟨0, rfl⟩, ⟨0, rfl⟩⟩ : TLease)).length) (c := v9.c) rfl sl22 ty48 ⟨_, rfl⟩ (by show _ = _; omega) rfl (fun _ => rfl) (by omega) (by omega) (by omega)) (b_ m (ok_move rfl) ?_)
  clear hs a; intro a hs
  have hy15 := (m.rdv r2)
  have hy15n := hy15.ncapM
  refine r_copyM (c := cLease) (x := v9) (xs := (x.take i ++ List.replicate (x.length + 1 - i) (⟨⟨0, rfl⟩, (⟨⟨0, rfl⟩, ⟨0, rfl⟩⟩ : TPrefix), ⟨0, rfl⟩, (⟨⟨0, rfl⟩, ⟨0, rfl⟩, ⟨0, rfl⟩, ⟨0, rfl⟩, ⟨0, rfl⟩, ⟨0, rfl⟩⟩ : TMAC), ⟨0, rfl⟩, ⟨0, rfl⟩⟩ : TLease))) (es := y) (lo := i) (dl := (x.take i ++ List.replicate (x.length + 1 - i) (⟨⟨0, rfl⟩, (⟨⟨0, rfl⟩, ⟨0, rfl⟩⟩ : TPrefix), ⟨0, rfl⟩, (⟨⟨0, rfl⟩, ⟨0, rfl⟩, ⟨0, rfl⟩, ⟨0, rfl⟩, ⟨0, rfl⟩, ⟨0, rfl⟩⟩ : TMAC), ⟨0, rfl⟩, ⟨0, rfl⟩⟩ : TLease)).length - i) (zs := ((x.take i ++ List.replicate (x.length + 1 - i) (⟨⟨0, rfl⟩, (⟨⟨0, rfl⟩, ⟨0, rfl⟩⟩ : TPrefix), ⟨0, rfl⟩, (⟨⟨0, rfl⟩, ⟨0, rfl⟩, ⟨0, rfl⟩, ⟨0, rfl⟩, ⟨0, rfl⟩, ⟨0, rfl⟩⟩ : TMAC), ⟨0, rfl⟩, ⟨0, rfl⟩⟩ : TLease)).take i ++ y ++ (x.take i ++ List.replicate (x.length + 1 - i) (⟨⟨0, rfl⟩, (⟨⟨0, rfl⟩, ⟨0, rfl⟩⟩ : TPrefix), ⟨0, rfl⟩, (⟨⟨0, rfl⟩, ⟨0, rfl⟩, ⟨0, rfl⟩, ⟨0, rfl⟩, ⟨0, rfl⟩, ⟨0, rfl⟩⟩ : TMAC), ⟨0, rfl⟩, ⟨0, rfl⟩⟩ : TLease)).drop (i + y.length))) (N := x.length + 1) hs m rfl rfl sl22 ty48 r0 (sub3_lt (by omega)) (⟨_, _, _, rfl, by omega, hy15.wln⟩) (fun _ => rfl) (by omega) (by omega) (by omega) (rfl) (by omega) rfl ?_
  clear m hy15 hs a w13; intro w16 m a hs
  have hl17 : ((x.take i ++ List.replicate (x.length + 1 - i) (⟨⟨0, rfl⟩, (⟨⟨0, rfl⟩, ⟨0, rfl⟩⟩ : TPrefix), ⟨0, rfl⟩, (⟨⟨0, rfl⟩, ⟨0, rfl⟩, ⟨0, rfl⟩, ⟨0, rfl⟩, ⟨0, rfl⟩, ⟨0, rfl⟩⟩ : TMAC), ⟨0, rfl⟩, ⟨0, rfl⟩⟩ : TLease)).take i ++ y ++ (x.take i ++ List.replicate (x.length + 1 - i) (⟨⟨0, rfl⟩, (⟨⟨0, rfl⟩, ⟨0, rfl⟩⟩ : TPrefix), ⟨0, rfl⟩, (⟨⟨0, rfl⟩, ⟨0, rfl⟩, ⟨0, rfl⟩, ⟨0, rfl⟩, ⟨0, rfl⟩, ⟨0, rfl⟩⟩ : TMAC), ⟨0, rfl⟩, ⟨0, rfl⟩⟩ : TLease)).drop (i + y.length)).length = x.length + 1 := by simp; omega
  rw [show upH v9 (x.length + 1) = v9 from upH_self (by omega)] at m
  refine wpList_nil (n_then ?_)
  refine c_drawH (Hp w0 R [Sv 12 48 vx.v (x.map cLease), Sv 12 48 vy.v (y.map cLease)]) m mo ?_; clear m w16; intro w18 m
  refine sh_ (i := 0) rfl hs (m.sub (.c r1 (.c r1 .n))) (ok_move rfl) (bh_ (i := 1) rfl (m.sub (.c r1 (.c r1 .n))) (ok_move rfl) (bh_ (i := 2) rfl (m.sub (.c r1 (.c r1 .n))) (ok_move rfl) (bh_ (i := 3) rfl (m.sub (.c r1 (.c r1 .n))) (ok_add (r := ((i + 1 : Nat) : Int)) rfl rfl (by rw [wrap_i64 (by omega) (by omega)]; omega)) ?_)))
  clear hs a; intro a hs
  have hc19 := ((m.rdv r0)).ncapM
  refine sh_ (i := 4) rfl hs (m.sub (.c r1 (.c r1 .n))) (ok_sliceH (i := (i + 1)) (j := ((x.take i ++ List.replicate (x.length + 1 - i) (⟨⟨0, rfl⟩, (⟨⟨0, rfl⟩, ⟨0, rfl⟩⟩ : TPrefix), ⟨0, rfl⟩, (⟨⟨0, rfl⟩, ⟨0, rfl⟩, ⟨0, rfl⟩, ⟨0, rfl⟩, ⟨0, rfl⟩, ⟨0, rfl⟩⟩ : TMAC), ⟨0, rfl⟩, ⟨0, rfl⟩⟩ : TLease)).take i ++ y ++ (x.take i ++ List.replicate (x.length + 1 - i) (⟨⟨0, rfl⟩, (⟨⟨0, rfl⟩, ⟨0, rfl⟩⟩ : TPrefix), ⟨0, rfl⟩, (⟨⟨0, rfl⟩, ⟨0, rfl⟩, ⟨0, rfl⟩, ⟨0, rfl⟩, ⟨0, rfl⟩, ⟨0, rfl⟩⟩ : TMAC), ⟨0, rfl⟩, ⟨0, rfl⟩⟩ : TLease)).drop (i + y.length)).length) (c := v9.c) rfl sl22 ty48 ⟨_, rfl⟩ (by show _ = _; omega) rfl (fun _ => rfl) (by omega) (by omega) (by omega)) (bh_ (i := 5) rfl (m.sub (.c r1 (.c r1 .n))) (ok_move rfl) (bh_ (i := 6) rfl (m.sub (.c r1 (.c r1 .n))) (ok_move rfl) ?_))
  clear hs a; intro a hs
  have hc20 := ((m.rdv r1)).ncapM
  refine sh_ (i := 7) rfl hs (m.sub (.c r1 (.c r1 .n))) (ok_sliceH (i := i) (j := x.length) (c := vx.c) rfl sl22 ty48 ⟨_, rfl⟩ (by show _ = _; omega) rfl (fun _ => rfl) (by omega) (by omega) (by omega)) ?_
  clear hs a; intro a hs
  have hx21 := (m.rdv r1).winS (lo := i) (by omega) (by omega)
  refine h_eff (i := 8) (by kernel_rfl) rfl ?_
  refine r_copyM (c := cLease) (x := v9) (xs := ((x.take i ++ List.replicate (x.length + 1 - i) (⟨⟨0, rfl⟩, (⟨⟨0, rfl⟩, ⟨0, rfl⟩⟩ : TPrefix), ⟨0, rfl⟩, (⟨⟨0, rfl⟩, ⟨0, rfl⟩, ⟨0, rfl⟩, ⟨0, rfl⟩, ⟨0, rfl⟩, ⟨0, rfl⟩⟩ : TMAC), ⟨0, rfl⟩, ⟨0, rfl⟩⟩ : TLease)).take i ++ y ++ (x.take i ++ List.replicate (x.length + 1 - i) (⟨⟨0, rfl⟩, (⟨⟨0, rfl⟩, ⟨0, rfl⟩⟩ : TPrefix), ⟨0, rfl⟩, (⟨⟨0, rfl⟩, ⟨0, rfl⟩, ⟨0, rfl⟩, ⟨0, rfl⟩, ⟨0, rfl⟩, ⟨0, rfl⟩⟩ : TMAC), ⟨0, rfl⟩, ⟨0, rfl⟩⟩ : TLease)).drop (i + y.length))) (es := x.drop i) (lo := i + 1) (dl := ((x.take i ++ List.replicate (x.length + 1 - i) (⟨⟨0, rfl⟩, (⟨⟨0, rfl⟩, ⟨0, rfl⟩⟩ : TPrefix), ⟨0, rfl⟩, (⟨⟨0, rfl⟩, ⟨0, rfl⟩, ⟨0, rfl⟩, ⟨0, rfl⟩, ⟨0, rfl⟩, ⟨0, rfl⟩⟩ : TMAC), ⟨0, rfl⟩, ⟨0, rfl⟩⟩ : TLease)).take i ++ y ++ (x.take i ++ List.replicate (x.length + 1 - i) (⟨⟨0, rfl⟩, (⟨⟨0, rfl⟩, ⟨0, rfl⟩⟩ : TPrefix), ⟨0, rfl⟩, (⟨⟨0, rfl⟩, ⟨0, rfl⟩, ⟨0, rfl⟩, ⟨0, rfl⟩, ⟨0, rfl⟩, ⟨0, rfl⟩⟩ : TMAC), ⟨0, rfl⟩, ⟨0, rfl⟩⟩ : TLease)).drop (i + y.length)).length - (i + 1)) (zs := x.take i ++ y ++ x.drop i) (N := x.length + 1) hs m rfl rfl sl22 ty48 r0 (sub3_lt (by omega)) (⟨_, _, _, sub3_lt (by omega), by simp; omega, hx21⟩) (fun _ => rfl) (by omega) (by (simp; omega)) (by (simp; omega)) (ins_eqZ (by omega) A1 rfl) (by simp; omega) rfl ?_
  clear m hx21 hs a w18; intro w22 m a hs
  rw [show upH v9 (x.length + 1) = v9 from upH_self (by omega)] at m
  refine wpList_nil (n_then ⟨(m.sub (.c r1 (.c r1 .n))), ?_⟩)
  refine h_done (by kernel_rfl) (n_then ?_)
  refine c_reg ?_
  refine s_ hs m (ok_move rfl) (b_ m (ok_assign rfl) (bn_ ?_))
  clear hs a; intro a hs
  refine wp_ret ?_
  refine ret_then (leave hs (vs := [v9.v]) rfl ⟨rfl, trivial⟩ ?_)
  refine ⟨_, rfl, v9, ?_, m.sub (.c r0 .n)⟩
  rfl
 have h7p := of_decide_eq_false h7
 refine wp_skip ?_
 refine n_then ?_
 refine c_reg ?_
 refine s_ hs m (ok_move rfl) (b_ m (ok_move rfl) (b_ m (ok_move rfl) (b_ m (ok_add (r := ((x.length + 1 : Nat) : Int)) rfl rfl (by rw [wrap_i64 (by omega) (by omega)]; omega)) ?_)))
 clear hs a; intro a hs
 have hc23 := ((m.rdv r0)).ncapM
 refine s_ hs m (ok_sliceH (i := 0) (j := (x.length + 1)) (c := vx.c) rfl sl22 ty48 rfl ⟨_, rfl⟩ rfl (fun h => by cases h) (by omega) (by omega) (by omega)) ?_
 clear hs a; intro a hs
 rw [sub3_0] at hs
 refine s_ hs m (ok_assign rfl) (bn_ ?_)
 clear hs a; intro a hs
 refine c_seq ?_
 refine c_reg ?_
 refine s_ hs m (ok_move rfl) (b_ m (ok_move rfl) (b_ m (ok_move rfl) (b_ m (ok_move rfl) (b_ m (ok_add (r := ((i + 1 : Nat) : Int)) rfl rfl (by rw [wrap_i64 (by omega) (by omega)]; omega)) ?_))))
 clear hs a; intro a hs
 have hc24 : (upH vx (x.length + 1)).n = (x.length + 1) ∧ (upH vx (x.length + 1)).c = vx.c := ⟨rfl, rfl⟩
 refine s_ hs m (ok_sliceH (i := (i + 1)) (j := (x.length + 1)) (c := (upH vx (x.length + 1)).c) rfl sl22 ty48 ⟨_, rfl⟩ (by show _ = _; omega) rfl (fun _ => rfl) (by omega) (by omega) (by omega)) (b_ m (ok_entry en185 rfl (fun w m => overlaps_no (x := vx) (i := i + 1) (j := x.length + 1) sl22 ty48 m r1 r0 (by omega))) (b_ m (ok_not rfl) (bn_ ?_)))
 clear hs a; intro a hs
 refine c_true hs rfl rfl ?_
 refine c_drawH (Hp w0 R [Sv 12 48 vy.v (y.map cLease)]) m mo ?_; clear m; intro w26 m
 refine sh_ (i := 0) rfl hs (m.sub (.c r1 .n)) (ok_move rfl) (bh_ (i := 1) rfl (m.sub (.c r1 .n)) (ok_move rfl) (bh_ (i := 2) rfl (m.sub (.c r1 .n)) (ok_move rfl) (bh_ (i := 3) rfl (m.sub (.c r1 .n)) (ok_add (r := ((i + 1 : Nat) : Int)) rfl rfl (by rw [wrap_i64 (by omega) (by omega)]; omega)) ?_)))
 clear hs a; intro a hs
 have hc27 : (upH vx (x.length + 1)).n = (x.length + 1) ∧ (upH vx (x.length + 1)).c = vx.c := ⟨rfl, rfl⟩
 refine sh_ (i := 4) rfl hs (m.sub (.c r1 .n)) (ok_sliceH (i := (i + 1)) (j := (x.length + 1)) (c := (upH vx (x.length + 1)).c) rfl sl22 ty48 ⟨_, rfl⟩ (by show _ = _; omega) rfl (fun _ => rfl) (by omega) (by omega) (by omega)) (bh_ (i := 5) rfl (m.sub (.c r1 .n)) (ok_move rfl) (bh_ (i := 6) rfl (m.sub (.c r1 .n)) (ok_move rfl) ?_))
 clear hs a; intro a hs
 have hc28 : (upH vx (x.length + 1)).n = (x.length + 1) ∧ (upH vx (x.length + 1)).c = vx.c := ⟨rfl, rfl⟩
 refine sh_ (i := 7) rfl hs (m.sub (.c r1 .n)) (ok_sliceH (i := i) (j := (x.length + 1)) (c := (upH vx (x.length + 1)).c) rfl sl22 ty48 ⟨_, rfl⟩ (by show _ = _; omega) rfl (fun _ => rfl) (by omega) (by omega) (by omega)) ?_
 clear hs a; intro a hs
 have hx29 := (m.rdv r0).winS (lo := i) (by omega) (by omega)
 refine h_eff (i := 8) (by kernel_rfl) rfl ?_
 refine r_copyM (c := cLease) (x := vx) (xs := x) (es := x.drop i) (lo := i + 1) (dl := x.length + 1 - (i + 1)) (zs := x.take (i + 1) ++ x.drop i) (N := x.length + 1) hs m rfl rfl sl22 ty48 r0 (sub3_lt (x := upH vx (x.length + 1)) (by show _ < vx.c; omega)) (⟨_, _, _, sub3_lt (x := upH vx (x.length + 1)) (by show _ < vx.c; omega), by simp; omega, hx29⟩) (fun _ => rfl) (by omega) (by (simp; omega)) (by (simp; omega)) (cp1_eq (by omega)) (by simp; omega) rfl ?_
 clear m hx29 hs a w26; intro w30 m a hs
 refine wpList_nil (n_then ⟨(m.sub (.c r1 .n)), ?_⟩)
 refine h_done (by kernel_rfl) (n_then ?_)
 refine c_reg ?_
 refine s_ hs m (ok_move rfl) (b_ m (ok_move rfl) ?_)
 clear hs a; intro a hs
 have hc31 : (upH vx (x.length + 1)).n = (x.length + 1) ∧ (upH vx (x.length + 1)).c = vx.c := ⟨rfl, rfl⟩
 refine s_ hs m (ok_sliceH (i := i) (j := (x.length + 1)) (c := (upH vx (x.length + 1)).c) rfl sl22 ty48 ⟨_, rfl⟩ (by show _ = _; omega) rfl (fun _ => rfl) (by omega) (by omega) (by omega)) (b_ m (ok_move rfl) ?_)
 clear hs a; intro a hs
 have hy32 := (m.rdv r1)
 have hy32n := hy32.ncapM
 refine r_copyM (c := cLease) (x := (upH vx (x.length + 1))) (xs := x.take (i + 1) ++ x.drop i) (es := y) (lo := i) (dl := x.length + 1 - i) (zs := x.take i ++ y ++ x.drop i) (N := x.length + 1) hs m rfl rfl sl22 ty48 r0 (sub3_lt (x := upH vx (x.length + 1)) (by show _ < vx.c; omega)) (⟨_, _, _, rfl, by omega, hy32.wln⟩) (fun _ => rfl) (by (simp; omega)) (by omega) (by omega) (ins_eq (by omega) A1) (by simp; omega) rfl ?_
 clear m hy32 hs a w30; intro w33 m a hs
 refine wpList_nil (n_then ?_)
 refine c_reg ?_
 refine s_ hs m (ok_move rfl) (b_ m (ok_assign rfl) (bn_ ?_))
 clear hs a; intro a hs
 refine wp_ret ?_
 refine ret_then (leave hs (vs := [(upH vx (x.length + 1)).v]) rfl ⟨rfl, trivial⟩ ?_)
 refine ⟨_, rfl, (upH vx (x.length + 1)), ?_, m.sub (.c r0 .n)⟩
 rfl
end Go.Proofs.YtnbpodjbemfpbaaGreat.Fw
set_option linter.all false
set_option maxHeartbeats 4000000
set_option maxRecDepth 100000
namespace Go.Proofs.YtnbpodjbemfpbaaGreat.Fw
open Go
theorem delRoute_c (vx : SH) (x : List TRoute) (i : Nat) (j : Nat) (w0 : World) (R : Hh) (A1 : i < j) (A2 : j ≤ x.length) (m : Hp w0 R [Sv 4 51 vx.v (x.map cRoute)] w0) : Calls Tryz.prog 180 ⟨[vx.v, .int .i64 (i : Int), .int .i64 (j : Int)]⟩ w0 fun e w' => ∃ v, e = .returned v ∧ (∃ x0 : SH, v = (x0.v) ∧ Hp w0 R [Sv 4 51 x0.v ((x.take i ++ x.drop j).map cRoute)] w') := by
 have cx := m.ncapM r0
 have lvx := (m.rdv r0).bd
 refine enter (n := 33) Tryz.func180 rfl rfl rfl fun a (hs : St 33 [(0, vx.v), (1, .int .i64 (i : Int)), (2, .int .i64 (j : Int))] a) => ?_
 refine c_reg ?_
 refine s_ hs m (ok_assign rfl) (bn_ (bc_ (b_ m (ok_move rfl) (b_ m (ok_move rfl) (b_ m (ok_move rfl) (b_ m (ok_move rfl) (b_ m (ok_len (r := (x.length : Int)) m rfl sl25 (rc_own r0) (by simp)) ?_)))))))
 clear hs a; intro a hs
 have hc1 := ((m.rdv r0)).ncapM
 refine s_ hs m (ok_sliceH (i := i) (j := j) (c := x.length) rfl sl25 ty51 ⟨_, rfl⟩ ⟨_, rfl⟩ ⟨_, rfl⟩ (fun h => by cases h) (by omega) (by omega) (by omega)) (bn_ ?_)
 clear hs a; intro a hs
 refine c_seq ?_
 refine c_reg ?_
 refine s_ hs m (ok_move rfl) (b_ m (ok_move rfl) (b_ m (ok_bin rfl rfl rfl) (bn_ ?_)))
 clear hs a; intro a hs
 refine c_false hs rfl (by simp; omega) ?_
 refine wp_skip ?_
 refine n_then ?_
 refine c_reg ?_
 refine s_ hs m (ok_move rfl) (b_ m (ok_len (r := (x.length : Int)) m rfl sl25 (rc_own r0) (by simp)) (b_ m (ok_assign rfl) (bn_ ?_)))
 clear hs a; intro a hs
 refine c_drawH (Hp w0 R []) m mo ?_; clear m; intro w3 m
 refine sh_ (i := 0) rfl hs (m.sub .n) (ok_move rfl) (bh_ (i := 1) rfl (m.sub .n) (ok_move rfl) ?_)
 clear hs a; intro a hs
 have hc4 := ((m.rdv r0)).ncapM
 refine sh_ (i := 2) rfl hs (m.sub .n) (ok_sliceH (i := 0) (j := i) (c := vx.c) rfl sl25 ty51 rfl ⟨_, rfl⟩ rfl (fun h => by cases h) (by omega) (by omega) (by omega)) ?_
 clear hs a; intro a hs
 rw [sub3_0] at hs
 refine sh_ (i := 3) rfl hs (m.sub .n) (ok_move rfl) (bh_ (i := 4) rfl (m.sub .n) (ok_move rfl) ?_)
 clear hs a; intro a hs
 have hc5 := ((m.rdv r0)).ncapM
 refine sh_ (i := 5) rfl hs (m.sub .n) (ok_sliceH (i := j) (j := x.length) (c := vx.c) rfl sl25 ty51 ⟨_, rfl⟩ (by show _ = _; omega) rfl (fun _ => rfl) (by omega) (by omega) (by omega)) ?_
 clear hs a; intro a hs
 have hu6 := ((m.rdv r0).win (lo := j) (hi := x.length) (mx := vx.c) (ys := x.drop j) (by omega) (by omega) (by omega) (by omega) (by simp))
 refine h_eff (i := 6) (by kernel_rfl) rfl ?_
 replace m := m.shrinkM (hi := i) s0 (by omega)
 refine r_appendFitM (c := cRoute) (x := upH vx i) (xs := x.take i) (es := x.drop j) hs m rfl rfl sl25 ni25 ty51 r0 hu6 (fun _ => rfl) (by show _ ≤ vx.c; simp; omega) (by simp; omega) rfl ?_
 clear m hu6 hs a w3; intro w8 m a hs
 rw [upH_up] at m hs
 have hl7 : (x.take i ++ x.drop j).length = x.length - (j - i) := by simp; omega
 refine wpList_nil (n_then ⟨(m.sub .n), ?_⟩)
 refine sh_ (i := 7) rfl hs (m.sub .n) (ok_assign rfl) ?_
 clear hs a; intro a hs
 refine h_done (by kernel_rfl) (n_then ?_)
 refine c_reg ?_
 refine s_ hs m (ok_move rfl) (b_ m (ok_move rfl) (b_ m (ok_len (r := ((x.take i ++ x.drop j).length : Int)) m rfl sl25 (rc_own r0) (by simp)) (b_ m (ok_move rfl) ?_)))
 clear hs a; intro a hs
 have hc9 : (upH vx ((x.take i).length + (x.drop j).length)).n = ((x.take i).length + (x.drop j).length) ∧ (upH vx ((x.take i).length + (x.drop j).length)).c = vx.c := ⟨rfl, rfl⟩
 refine s_ hs m (ok_sliceH (i := (x.take i ++ x.drop j).length) (j := x.length) (c := (upH vx ((x.take i).length + (x.drop j).length)).c) rfl sl25 ty51 ⟨_, rfl⟩ ⟨_, rfl⟩ rfl (fun h => by cases h) (by omega) (by omega) (by omega)) ?_
 clear hs a; intro a hs
 refine r_clearRoomM (c := cRoute) (x := upH vx ((x.take i).length + (x.drop j).length)) (xs := x.take i ++ x.drop j) (lo := (x.take i ++ x.drop j).length) (z := x.length - (x.take i ++ x.drop j).length) hs m rfl sl25 ty51 ze51 rfl rfl r0 (sub3_lt (x := upH vx ((x.take i).length + (x.drop j).length)) (by show _ < vx.c; omega)) (Nat.le_refl _) (by show _ ≤ vx.c; omega) ?_
 clear m w8; intro w10 m
 refine wpList_nil (n_then ?_)
 refine c_reg ?_
 refine s_ hs m (ok_move rfl) (b_ m (ok_assign rfl) (bn_ ?_))
 clear hs a; intro a hs
 refine wp_ret ?_
 refine leave hs (vs := [(upH vx ((x.take i).length + (x.drop j).length)).v]) rfl ⟨rfl, trivial⟩ ?_
 refine ⟨_, rfl, (upH vx ((x.take i).length + (x.drop j).length)), ?_, m.sub (.c r0 .n)⟩
 rfl
theorem delNeigh_c (vx : SH) (x : List TNeigh) (i : Nat) (j : Nat) (w0 : World) (R : Hh) (A1 : i < j) (A2 : j ≤ x.length) (m : Hp w0 R [Sv 7 54 vx.v (x.map cNeigh)] w0) : Calls Tryz.prog 181 ⟨[vx.v, .int .i64 (i : Int), .int .i64 (j : Int)]⟩ w0 fun e w' => ∃ v, e = .returned v ∧ (∃ x0 : SH, v = (x0.v) ∧ Hp w0 R [Sv 7 54 x0.v ((x.take i ++ x.drop j).map cNeigh)] w') := by
 have cx := m.ncapM r0
 have lvx := (m.rdv r0).bd
 refine enter (n := 33) Tryz.func181 rfl rfl rfl fun a (hs : St 33 [(0, vx.v), (1, .int .i64 (i : Int)), (2, .int .i64 (j : Int))] a) => ?_
 refine c_reg ?_
 refine s_ hs m (ok_assign rfl) (bn_ (bc_ (b_ m (ok_move rfl) (b_ m (ok_move rfl) (b_ m (ok_move rfl) (b_ m (ok_move rfl) (b_ m (ok_len (r := (x.length : Int)) m rfl sl26 (rc_own r0) (by simp)) ?_)))))))
 clear hs a; intro a hs
 have hc1 := ((m.rdv r0)).ncapM
 refine s_ hs m (ok_sliceH (i := i) (j := j) (c := x.length) rfl sl26 ty54 ⟨_, rfl⟩ ⟨_, rfl⟩ ⟨_, rfl⟩ (fun h => by cases h) (by omega) (by omega) (by omega)) (bn_ ?_)
 clear hs a; intro a hs
 refine c_seq ?_
 refine c_reg ?_
 refine s_ hs m (ok_move rfl) (b_ m (ok_move rfl) (b_ m (ok_bin rfl rfl rfl) (bn_ ?_)))
 clear hs a; intro a hs
 refine c_false hs rfl (by simp; omega) ?_
 refine wp_skip ?_
 refine n_then ?_
 refine c_reg ?_
 refine s_ hs m (ok_move rfl) (b_ m (ok_len (r := (x.length : Int)) m rfl sl26 (rc_own r0) (by simp)) (b_ m (ok_assign rfl) (bn_ ?_)))
 clear hs a; intro a hs
 refine c_drawH (Hp w0 R []) m mo ?_; clear m; intro w3 m
 refine sh_ (i := 0) rfl hs (m.sub .n) (ok_move rfl) (bh_ (i := 1) rfl (m.sub .n) (ok_move rfl) ?_)
 clear hs a; intro a hs
 have hc4 := ((m.rdv r0)).ncapM
 refine sh_ (i := 2) rfl hs (m.sub .n) (ok_sliceH (i := 0) (j := i) (c := vx.c) rfl sl26 ty54 rfl ⟨_, rfl⟩ rfl (fun h => by cases h) (by omega) (by omega) (by omega)) ?_
 clear hs a; intro a hs
 rw [sub3_0] at hs
 refine sh_ (i := 3) rfl hs (m.sub .n) (ok_move rfl) (bh_ (i := 4) rfl (m.sub .n) (ok_move rfl) ?_)
 clear hs a; intro a hs
 have hc5 := ((m.rdv r0)).ncapM
 refine sh_ (i := 5) rfl hs (m.sub .n) (ok_sliceH (i := j) (j := x.length) (c := vx.c) rfl sl26 ty54 ⟨_, rfl⟩ (by show _ = _; omega) rfl (fun _ => rfl) (by omega) (by omega) (by omega)) ?_
 clear hs a; intro a hs
 have hu6 := ((m.rdv r0).win (lo := j) (hi := x.length) (mx := vx.c) (ys := x.drop j) (by omega) (by omega) (by omega) (by omega) (by simp))
 refine h_eff (i := 6) (by kernel_rfl) rfl ?_
 replace m := m.shrinkM (hi := i) s0 (by omega)
 refine r_appendFitM (c := cNeigh) (x := upH vx i) (xs := x.take i) (es := x.drop j) hs m rfl rfl sl26 ni26 ty54 r0 hu6 (fun _ => rfl) (by show _ ≤ vx.c; simp; omega) (by simp; omega) rfl ?_
 clear m hu6 hs a w3; intro w8 m a hs
 rw [upH_up] at m hs
 have hl7 : (x.take i ++ x.drop j).length = x.length - (j - i) := by simp; omega
 refine wpList_nil (n_then ⟨(m.sub .n), ?_⟩)
 refine sh_ (i := 7) rfl hs (m.sub .n) (ok_assign rfl) ?_
 clear hs a; intro a hs
 refine h_done (by kernel_rfl) (n_then ?_)
 refine c_reg ?_
 refine s_ hs m (ok_move rfl) (b_ m (ok_move rfl) (b_ m (ok_len (r := ((x.take i ++ x.drop j).length : Int)) m rfl sl26 (rc_own r0) (by simp)) (b_ m (ok_move rfl) ?_)))
 clear hs a; intro a hs
 have hc9 : (upH vx ((x.take i).length + (x.drop j).length)).n = ((x.take i).length + (x.drop j).length) ∧ (upH vx ((x.take i).length + (x.drop j).length)).c = vx.c := ⟨rfl, rfl⟩
 refine s_ hs m (ok_sliceH (i := (x.take i ++ x.drop j).length) (j := x.length) (c := (upH vx ((x.take i).length + (x.drop j).length)).c) rfl sl26 ty54 ⟨_, rfl⟩ ⟨_, rfl⟩ rfl (fun h => by cases h) (by omega) (by omega) (by omega)) ?_
 clear hs a; intro a hs
 refine r_clearRoomM (c := cNeigh) (x := upH vx ((x.take i).length + (x.drop j).length)) (xs := x.take i ++ x.drop j) (lo := (x.take i ++ x.drop j).length) (z := x.length - (x.take i ++ x.drop j).length) hs m rfl sl26 ty54 ze54 rfl rfl r0 (sub3_lt (x := upH vx ((x.take i).length + (x.drop j).length)) (by show _ < vx.c; omega)) (Nat.le_refl _) (by show _ ≤ vx.c; omega) ?_
 clear m w8; intro w10 m
 refine wpList_nil (n_then ?_)
 refine c_reg ?_
 refine s_ hs m (ok_move rfl) (b_ m (ok_assign rfl) (bn_ ?_))
 clear hs a; intro a hs
 refine wp_ret ?_
 refine leave hs (vs := [(upH vx ((x.take i).length + (x.drop j).length)).v]) rfl ⟨rfl, trivial⟩ ?_
 refine ⟨_, rfl, (upH vx ((x.take i).length + (x.drop j).length)), ?_, m.sub (.c r0 .n)⟩
 rfl
theorem delFdb_c (vx : SH) (x : List TFdb) (i : Nat) (j : Nat) (w0 : World) (R : Hh) (A1 : i < j) (A2 : j ≤ x.length) (m : Hp w0 R [Sv 7 56 vx.v (x.map cFdb)] w0) : Calls Tryz.prog 182 ⟨[vx.v, .int .i64 (i : Int), .int .i64 (j : Int)]⟩ w0 fun e w' => ∃ v, e = .returned v ∧ (∃ x0 : SH, v = (x0.v) ∧ Hp w0 R [Sv 7 56 x0.v ((x.take i ++ x.drop j).map cFdb)] w') := by
 have cx := m.ncapM r0
 have lvx := (m.rdv r0).bd
 refine enter (n := 33) Tryz.func182 rfl rfl rfl fun a (hs : St 33 [(0, vx.v), (1, .int .i64 (i : Int)), (2, .int .i64 (j : Int))] a) => ?_
 refine c_reg ?_
 refine s_ hs m (ok_assign rfl) (bn_ (bc_ (b_ m (ok_move rfl) (b_ m (ok_move rfl) (b_ m (ok_move rfl) (b_ m (ok_move rfl) (b_ m (ok_len (r := (x.length : Int)) m rfl sl27 (rc_own r0) (by simp)) ?_)))))))
 clear hs a; intro a hs
 have hc1 := ((m.rdv r0)).ncapM
 refine s_ hs m (ok_sliceH (i := i) (j := j) (c := x.length) rfl sl27 ty56 ⟨_, rfl⟩ ⟨_, rfl⟩ ⟨_, rfl⟩ (fun h => by cases h) (by omega) (by omega) (by omega)) (bn_ ?_)
 clear hs a; intro a hs
 refine c_seq ?_
 refine c_reg ?_
 refine s_ hs m (ok_move rfl) (b_ m (ok_move rfl) (b_ m (ok_bin rfl rfl rfl) (bn_ ?_)))
 clear hs a; intro a hs
 refine c_false hs rfl (by simp; omega) ?_
 refine wp_skip ?_
 refine n_then ?_
 refine c_reg ?_
 refine s_ hs m (ok_move rfl) (b_ m (ok_len (r := (x.length : Int)) m rfl sl27 (rc_own r0) (by simp)) (b_ m (ok_assign rfl) (bn_ ?_)))
 clear hs a; intro a hs
 refine c_drawH (Hp w0 R []) m mo ?_; clear m; intro w3 m
 refine sh_ (i := 0) rfl hs (m.sub .n) (ok_move rfl) (bh_ (i := 1) rfl (m.sub .n) (ok_move rfl) ?_)
 clear hs a; intro a hs
 have hc4 := ((m.rdv r0)).ncapM
 refine sh_ (i := 2) rfl hs (m.sub .n) (ok_sliceH (i := 0) (j := i) (c := vx.c) rfl sl27 ty56 rfl ⟨_, rfl⟩ rfl (fun h => by cases h) (by omega) (by omega) (by omega)) ?_
 clear hs a; intro a hs
 rw [sub3_0] at hs
 refine sh_ (i := 3) rfl hs (m.sub .n) (ok_move rfl) (bh_ (i := 4) rfl (m.sub .n) (ok_move rfl) ?_)
 clear hs a; intro a hs
 have hc5 := ((m.rdv r0)).ncapM
 refine sh_ (i := 5) rfl hs (m.sub .n) (ok_sliceH (i := j) (j := x.length) (c := vx.c) rfl sl27 ty56 ⟨_, rfl⟩ (by show _ = _; omega) rfl (fun _ => rfl) (by omega) (by omega) (by omega)) ?_
 clear hs a; intro a hs
 have hu6 := ((m.rdv r0).win (lo := j) (hi := x.length) (mx := vx.c) (ys := x.drop j) (by omega) (by omega) (by omega) (by omega) (by simp))
 refine h_eff (i := 6) (by kernel_rfl) rfl ?_
 replace m := m.shrinkM (hi := i) s0 (by omega)
 refine r_appendFitM (c := cFdb) (x := upH vx i) (xs := x.take i) (es := x.drop j) hs m rfl rfl sl27 ni27 ty56 r0 hu6 (fun _ => rfl) (by show _ ≤ vx.c; simp; omega) (by simp; omega) rfl ?_
 clear m hu6 hs a w3; intro w8 m a hs
 rw [upH_up] at m hs
 have hl7 : (x.take i ++ x.drop j).length = x.length - (j - i) := by simp; omega
 refine wpList_nil (n_then ⟨(m.sub .n), ?_⟩)
 refine sh_ (i := 7) rfl hs (m.sub .n) (ok_assign rfl) ?_
 clear hs a; intro a hs
 refine h_done (by kernel_rfl) (n_then ?_)
 refine c_reg ?_
 refine s_ hs m (ok_move rfl) (b_ m (ok_move rfl) (b_ m (ok_len (r := ((x.take i ++ x.drop j).length : Int)) m rfl sl27 (rc_own r0) (by simp)) (b_ m (ok_move rfl) ?_)))
 clear hs a; intro a hs
 have hc9 : (upH vx ((x.take i).length + (x.drop j).length)).n = ((x.take i).length + (x.drop j).length) ∧ (upH vx ((x.take i).length + (x.drop j).length)).c = vx.c := ⟨rfl, rfl⟩
 refine s_ hs m (ok_sliceH (i := (x.take i ++ x.drop j).length) (j := x.length) (c := (upH vx ((x.take i).length + (x.drop j).length)).c) rfl sl27 ty56 ⟨_, rfl⟩ ⟨_, rfl⟩ rfl (fun h => by cases h) (by omega) (by omega) (by omega)) ?_
 clear hs a; intro a hs
 refine r_clearRoomM (c := cFdb) (x := upH vx ((x.take i).length + (x.drop j).length)) (xs := x.take i ++ x.drop j) (lo := (x.take i ++ x.drop j).length) (z := x.length - (x.take i ++ x.drop j).length) hs m rfl sl27 ty56 ze56 rfl rfl r0 (sub3_lt (x := upH vx ((x.take i).length + (x.drop j).length)) (by show _ < vx.c; omega)) (Nat.le_refl _) (by show _ ≤ vx.c; omega) ?_
 clear m w8; intro w10 m
 refine wpList_nil (n_then ?_)
 refine c_reg ?_
 refine s_ hs m (ok_move rfl) (b_ m (ok_assign rfl) (bn_ ?_))
 clear hs a; intro a hs
 refine wp_ret ?_
 refine leave hs (vs := [(upH vx ((x.take i).length + (x.drop j).length)).v]) rfl ⟨rfl, trivial⟩ ?_
 refine ⟨_, rfl, (upH vx ((x.take i).length + (x.drop j).length)), ?_, m.sub (.c r0 .n)⟩
 rfl
theorem delPrefix_c (vx : SH) (x : List TPrefix) (i : Nat) (j : Nat) (w0 : World) (R : Hh) (A1 : i < j) (A2 : j ≤ x.length) (m : Hp w0 R [Sv 2 44 vx.v (x.map cPrefix)] w0) : Calls Tryz.prog 170 ⟨[vx.v, .int .i64 (i : Int), .int .i64 (j : Int)]⟩ w0 fun e w' => ∃ v, e = .returned v ∧ (∃ x0 : SH, v = (x0.v) ∧ Hp w0 R [Sv 2 44 x0.v ((x.take i ++ x.drop j).map cPrefix)] w') := by
 have cx := m.ncapM r0
 have lvx := (m.rdv r0).bd
 refine enter (n := 33) Tryz.func170 rfl rfl rfl fun a (hs : St 33 [(0, vx.v), (1, .int .i64 (i : Int)), (2, .int .i64 (j : Int))] a) => ?_
 refine c_reg ?_
 refine s_ hs m (ok_assign rfl) (bn_ (bc_ (b_ m (ok_move rfl) (b_ m (ok_move rfl) (b_ m (ok_move rfl) (b_ m (ok_move rfl) (b_ m (ok_len (r := (x.length : Int)) m rfl sl82 (rc_own r0) (by simp)) ?_)))))))
 clear hs a; intro a hs
 have hc1 := ((m.rdv r0)).ncapM
 refine s_ hs m (ok_sliceH (i := i) (j := j) (c := x.length) rfl sl82 ty44 ⟨_, rfl⟩ ⟨_, rfl⟩ ⟨_, rfl⟩ (fun h => by cases h) (by omega) (by omega) (by omega)) (bn_ ?_)
 clear hs a; intro a hs
 refine c_seq ?_
 refine c_reg ?_
 refine s_ hs m (ok_move rfl) (b_ m (ok_move rfl) (b_ m (ok_bin rfl rfl rfl) (bn_ ?_)))
 clear hs a; intro a hs
 refine c_false hs rfl (by simp; omega) ?_
 refine wp_skip ?_
 refine n_then ?_
 refine c_reg ?_
 refine s_ hs m (ok_move rfl) (b_ m (ok_len (r := (x.length : Int)) m rfl sl82 (rc_own r0) (by simp)) (b_ m (ok_assign rfl) (bn_ ?_)))
 clear hs a; intro a hs
 refine c_drawH (Hp w0 R []) m mo ?_; clear m; intro w3 m
 refine sh_ (i := 0) rfl hs (m.sub .n) (ok_move rfl) (bh_ (i := 1) rfl (m.sub .n) (ok_move rfl) ?_)
 clear hs a; intro a hs
 have hc4 := ((m.rdv r0)).ncapM
 refine sh_ (i := 2) rfl hs (m.sub .n) (ok_sliceH (i := 0) (j := i) (c := vx.c) rfl sl82 ty44 rfl ⟨_, rfl⟩ rfl (fun h => by cases h) (by omega) (by omega) (by omega)) ?_
 clear hs a; intro a hs
 rw [sub3_0] at hs
 refine sh_ (i := 3) rfl hs (m.sub .n) (ok_move rfl) (bh_ (i := 4) rfl (m.sub .n) (ok_move rfl) ?_)
 clear hs a; intro a hs
 have hc5 := ((m.rdv r0)).ncapM
 refine sh_ (i := 5) rfl hs (m.sub .n) (ok_sliceH (i := j) (j := x.length) (c := vx.c) rfl sl82 ty44 ⟨_, rfl⟩ (by show _ = _; omega) rfl (fun _ => rfl) (by omega) (by omega) (by omega)) ?_
 clear hs a; intro a hs
 have hu6 := ((m.rdv r0).win (lo := j) (hi := x.length) (mx := vx.c) (ys := x.drop j) (by omega) (by omega) (by omega) (by omega) (by simp))
 refine h_eff (i := 6) (by kernel_rfl) rfl ?_
 replace m := m.shrinkM (hi := i) s0 (by omega)
 refine r_appendFitM (c := cPrefix) (x := upH vx i) (xs := x.take i) (es := x.drop j) hs m rfl rfl sl82 ni82 ty44 r0 hu6 (fun _ => rfl) (by show _ ≤ vx.c; simp; omega) (by simp; omega) rfl ?_
 clear m hu6 hs a w3; intro w8 m a hs
 rw [upH_up] at m hs
 have hl7 : (x.take i ++ x.drop j).length = x.length - (j - i) := by simp; omega
 refine wpList_nil (n_then ⟨(m.sub .n), ?_⟩)
 refine sh_ (i := 7) rfl hs (m.sub .n) (ok_assign rfl) ?_
 clear hs a; intro a hs
 refine h_done (by kernel_rfl) (n_then ?_)
 refine c_reg ?_
 refine s_ hs m (ok_move rfl) (b_ m (ok_move rfl) (b_ m (ok_len (r := ((x.take i ++ x.drop j).length : Int)) m rfl sl82 (rc_own r0) (by simp)) (b_ m (ok_move rfl) ?_)))
 clear hs a; intro a hs
 have hc9 : (upH vx ((x.take i).length + (x.drop j).length)).n = ((x.take i).length + (x.drop j).length) ∧ (upH vx ((x.take i).length + (x.drop j).length)).c = vx.c := ⟨rfl, rfl⟩
 refine s_ hs m (ok_sliceH (i := (x.take i ++ x.drop j).length) (j := x.length) (c := (upH vx ((x.take i).length + (x.drop j).length)).c) rfl sl82 ty44 ⟨_, rfl⟩ ⟨_, rfl⟩ rfl (fun h => by cases h) (by omega) (by omega) (by omega)) ?_
 clear hs a; intro a hs
 refine r_clearRoomM (c := cPrefix) (x := upH vx ((x.take i).length + (x.drop j).length)) (xs := x.take i ++ x.drop j) (lo := (x.take i ++ x.drop j).length) (z := x.length - (x.take i ++ x.drop j).length) hs m rfl sl82 ty44 ze44 rfl rfl r0 (sub3_lt (x := upH vx ((x.take i).length + (x.drop j).length)) (by show _ < vx.c; omega)) (Nat.le_refl _) (by show _ ≤ vx.c; omega) ?_
 clear m w8; intro w10 m
 refine wpList_nil (n_then ?_)
 refine c_reg ?_
 refine s_ hs m (ok_move rfl) (b_ m (ok_assign rfl) (bn_ ?_))
 clear hs a; intro a hs
 refine wp_ret ?_
 refine leave hs (vs := [(upH vx ((x.take i).length + (x.drop j).length)).v]) rfl ⟨rfl, trivial⟩ ?_
 refine ⟨_, rfl, (upH vx ((x.take i).length + (x.drop j).length)), ?_, m.sub (.c r0 .n)⟩
 rfl
theorem delLease_c (vx : SH) (x : List TLease) (i : Nat) (j : Nat) (w0 : World) (R : Hh) (A1 : i < j) (A2 : j ≤ x.length) (m : Hp w0 R [Sv 12 48 vx.v (x.map cLease)] w0) : Calls Tryz.prog 169 ⟨[vx.v, .int .i64 (i : Int), .int .i64 (j : Int)]⟩ w0 fun e w' => ∃ v, e = .returned v ∧ (∃ x0 : SH, v = (x0.v) ∧ Hp w0 R [Sv 12 48 x0.v ((x.take i ++ x.drop j).map cLease)] w') := by
 have cx := m.ncapM r0
 have lvx := (m.rdv r0).bd
 refine enter (n := 33) Tryz.func169 rfl rfl rfl fun a (hs : St 33 [(0, vx.v), (1, .int .i64 (i : Int)), (2, .int .i64 (j : Int))] a) => ?_
 refine c_reg ?_
 refine s_ hs m (ok_assign rfl) (bn_ (bc_ (b_ m (ok_move rfl) (b_ m (ok_move rfl) (b_ m (ok_move rfl) (b_ m (ok_move rfl) (b_ m (ok_len (r := (x.length : Int)) m rfl sl22 (rc_own r0) (by simp)) ?_)))))))
 clear hs a; intro a hs
 have hc1 := ((m.rdv r0)).ncapM
 refine s_ hs m (ok_sliceH (i := i) (j := j) (c := x.length) rfl sl22 ty48 ⟨_, rfl⟩ ⟨_, rfl⟩ ⟨_, rfl⟩ (fun h => by cases h) (by omega) (by omega) (by omega)) (bn_ ?_)
 clear hs a; intro a hs
 refine c_seq ?_
 refine c_reg ?_
 refine s_ hs m (ok_move rfl) (b_ m (ok_move rfl) (b_ m (ok_bin rfl rfl rfl) (bn_ ?_)))
 clear hs a; intro a hs
 refine c_false hs rfl (by simp; omega) ?_
 refine wp_skip ?_
 refine n_then ?_
 refine c_reg ?_
 refine s_ hs m (ok_move rfl) (b_ m (ok_len (r := (x.length : Int)) m rfl sl22 (rc_own r0) (by simp)) (b_ m (ok_assign rfl) (bn_ ?_)))
 clear hs a; intro a hs
 refine c_drawH (Hp w0 R []) m mo ?_; clear m; intro w3 m
 refine sh_ (i := 0) rfl hs (m.sub .n) (ok_move rfl) (bh_ (i := 1) rfl (m.sub .n) (ok_move rfl) ?_)
 clear hs a; intro a hs
 have hc4 := ((m.rdv r0)).ncapM
 refine sh_ (i := 2) rfl hs (m.sub .n) (ok_sliceH (i := 0) (j := i) (c := vx.c) rfl sl22 ty48 rfl ⟨_, rfl⟩ rfl (fun h => by cases h) (by omega) (by omega) (by omega)) ?_
 clear hs a; intro a hs
 rw [sub3_0] at hs
 refine sh_ (i := 3) rfl hs (m.sub .n) (ok_move rfl) (bh_ (i := 4) rfl (m.sub .n) (ok_move rfl) ?_)
 clear hs a; intro a hs
 have hc5 := ((m.rdv r0)).ncapM
 refine sh_ (i := 5) rfl hs (m.sub .n) (ok_sliceH (i := j) (j := x.length) (c := vx.c) rfl sl22 ty48 ⟨_, rfl⟩ (by show _ = _; omega) rfl (fun _ => rfl) (by omega) (by omega) (by omega)) ?_
 clear hs a; intro a hs
 have hu6 := ((m.rdv r0).win (lo := j) (hi := x.length) (mx := vx.c) (ys := x.drop j) (by omega) (by omega) (by omega) (by omega) (by simp))
 refine h_eff (i := 6) (by kernel_rfl) rfl ?_
 replace m := m.shrinkM (hi := i) s0 (by omega)
 refine r_appendFitM (c := cLease) (x := upH vx i) (xs := x.take i) (es := x.drop j) hs m rfl rfl sl22 ni22 ty48 r0 hu6 (fun _ => rfl) (by show _ ≤ vx.c; simp; omega) (by simp; omega) rfl ?_
 clear m hu6 hs a w3; intro w8 m a hs
 rw [upH_up] at m hs
 have hl7 : (x.take i ++ x.drop j).length = x.length - (j - i) := by simp; omega
 refine wpList_nil (n_then ⟨(m.sub .n), ?_⟩)
 refine sh_ (i := 7) rfl hs (m.sub .n) (ok_assign rfl) ?_
 clear hs a; intro a hs
 refine h_done (by kernel_rfl) (n_then ?_)
 refine c_reg ?_
 refine s_ hs m (ok_move rfl) (b_ m (ok_move rfl) (b_ m (ok_len (r := ((x.take i ++ x.drop j).length : Int)) m rfl sl22 (rc_own r0) (by simp)) (b_ m (ok_move rfl) ?_)))
 clear hs a; intro a hs
 have hc9 : (upH vx ((x.take i).length + (x.drop j).length)).n = ((x.take i).length + (x.drop j).length) ∧ (upH vx ((x.take i).length + (x.drop j).length)).c = vx.c := ⟨rfl, rfl⟩
 refine s_ hs m (ok_sliceH (i := (x.take i ++ x.drop j).length) (j := x.length) (c := (upH vx ((x.take i).length + (x.drop j).length)).c) rfl sl22 ty48 ⟨_, rfl⟩ ⟨_, rfl⟩ rfl (fun h => by cases h) (by omega) (by omega) (by omega)) ?_
 clear hs a; intro a hs
 refine r_clearRoomM (c := cLease) (x := upH vx ((x.take i).length + (x.drop j).length)) (xs := x.take i ++ x.drop j) (lo := (x.take i ++ x.drop j).length) (z := x.length - (x.take i ++ x.drop j).length) hs m rfl sl22 ty48 ze48 rfl rfl r0 (sub3_lt (x := upH vx ((x.take i).length + (x.drop j).length)) (by show _ < vx.c; omega)) (Nat.le_refl _) (by show _ ≤ vx.c; omega) ?_
 clear m w8; intro w10 m
 refine wpList_nil (n_then ?_)
 refine c_reg ?_
 refine s_ hs m (ok_move rfl) (b_ m (ok_assign rfl) (bn_ ?_))
 clear hs a; intro a hs
 refine wp_ret ?_
 refine leave hs (vs := [(upH vx ((x.take i).length + (x.drop j).length)).v]) rfl ⟨rfl, trivial⟩ ?_
 refine ⟨_, rfl, (upH vx ((x.take i).length + (x.drop j).length)), ?_, m.sub (.c r0 .n)⟩
 rfl
theorem cloneRoute_c (vx : SH) (x : List TRoute) (w0 : World) (hx : RdS (hh w0) 4 vx.v (x.map cRoute)) (A1 : x.length ≤ 2600000000000) : Calls Tryz.prog 126 ⟨[vx.v]⟩ w0 fun e w' => ∃ v, e = .returned v ∧ (∃ x0 : SH, v = (x0.v) ∧ Hp w0 (hh w0) [Sv 4 51 x0.v (x.map cRoute)] w') := by
 have lvx := hx.bd
 refine enter (n := 8) Tryz.func126 rfl rfl rfl fun a (hs : St 8 [(0, vx.v)] a) => ?_
 have m := Hp.start w0
 refine c_reg ?_
 refine s_ hs m (ok_assign rfl) (bn_ ?_)
 clear hs a; intro a hs
 refine c_seq ?_
 refine c_reg ?_
 refine s_ hs m (ok_move rfl) (b_ m (ok_isNilS rfl rfl sl25) (bn_ ?_))
 clear hs a; intro a hs
 refine c_cond hs rfl (fun h1 => ?_) (fun h1 => ?_)
 ·refine c_reg ?_
  refine s_ hs m (ok_assign rfl) (bn_ ?_)
  clear hs a; intro a hs
  refine wp_ret ?_
  refine ret_then (leave hs (vs := [nilH.v]) rfl ⟨rfl, trivial⟩ ?_)
  replace m := m.nilSvM cRoute 4 51
  have q3 : ([] : List TRoute) = x := by exact (hx.isnil (by assumption)).symm
  rw [q3] at m
  refine ⟨_, rfl, nilH, ?_, m.sub (.c r0 .n)⟩
  rfl
 refine wp_skip ?_
 refine n_then ?_
 refine c_reg ?_
 refine r_buildM (c := cRoute) (ys := ([] : List TRoute)) hs m sl25 ty51 ze51 rfl rfl rfl rfl rfl (fun _ => rfl) rfl rfl rfl ?_
 clear m hs a; intro v4 w5 m a hs
 refine s_ hs m (ok_move rfl) ?_
 clear hs a; intro a hs
 refine r_appendM (c := cRoute) (xs := ([] : List TRoute)) (ys := x) hs m rfl rfl sl25 ni25 ty51 ze51 rfl by51 rfl r0 (m.rd hx) (fun _ => rfl) (by (simp; omega)) rfl ?_
 clear m hs a w5; intro v6 w7 m a hs
 refine s_ hs m (ok_assign rfl) (bn_ ?_)
 clear hs a; intro a hs
 refine wp_ret ?_
 refine leave hs (vs := [v6.v]) rfl ⟨rfl, trivial⟩ ?_
 refine ⟨_, rfl, v6, ?_, m.sub (.c r0 .n)⟩
 rfl
theorem cloneNeigh_c (vx : SH) (x : List TNeigh) (w0 : World) (hx : RdS (hh w0) 7 vx.v (x.map cNeigh)) (A1 : x.length ≤ 2600000000000) : Calls Tryz.prog 127 ⟨[vx.v]⟩ w0 fun e w' => ∃ v, e = .returned v ∧ (∃ x0 : SH, v = (x0.v) ∧ Hp w0 (hh w0) [Sv 7 54 x0.v (x.map cNeigh)] w') := by
 have lvx := hx.bd
 refine enter (n := 8) Tryz.func127 rfl rfl rfl fun a (hs : St 8 [(0, vx.v)] a) => ?_
 have m := Hp.start w0
 refine c_reg ?_
 refine s_ hs m (ok_assign rfl) (bn_ ?_)
 clear hs a; intro a hs
 refine c_seq ?_
 refine c_reg ?_
 refine s_ hs m (ok_move rfl) (b_ m (ok_isNilS rfl rfl sl26) (bn_ ?_))
 clear hs a; intro a hs
 refine c_cond hs rfl (fun h1 => ?_) (fun h1 => ?_)
 ·refine c_reg ?_
  refine s_ hs m (ok_assign rfl) (bn_ ?_)
  clear hs a; intro a hs
  refine wp_ret ?_
  refine ret_then (leave hs (vs := [nilH.v]) rfl ⟨rfl, trivial⟩ ?_)
  replace m := m.nilSvM cNeigh 7 54
  have q3 : ([] : List TNeigh) = x := by exact (hx.isnil (by assumption)).symm
  rw [q3] at m
  refine ⟨_, rfl, nilH, ?_, m.sub (.c r0 .n)⟩
  rfl
 refine wp_skip ?_
 refine n_then ?_
 refine c_reg ?_
 refine r_buildM (c := cNeigh) (ys := ([] : List TNeigh)) hs m sl26 ty54 ze54 rfl rfl rfl rfl rfl (fun _ => rfl) rfl rfl rfl ?_
 clear m hs a; intro v4 w5 m a hs
 refine s_ hs m (ok_move rfl) ?_
 clear hs a; intro a hs
 refine r_appendM (c := cNeigh) (xs := ([] : List TNeigh)) (ys := x) hs m rfl rfl sl26 ni26 ty54 ze54 rfl by54 rfl r0 (m.rd hx) (fun _ => rfl) (by (simp; omega)) rfl ?_
 clear m hs a w5; intro v6 w7 m a hs
 refine s_ hs m (ok_assign rfl) (bn_ ?_)
 clear hs a; intro a hs
 refine wp_ret ?_
 refine leave hs (vs := [v6.v]) rfl ⟨rfl, trivial⟩ ?_
 refine ⟨_, rfl, v6, ?_, m.sub (.c r0 .n)⟩
 rfl
theorem cloneFdb_c (vx : SH) (x : List TFdb) (w0 : World) (hx : RdS (hh w0) 7 vx.v (x.map cFdb)) (A1 : x.length ≤ 2600000000000) : Calls Tryz.prog 128 ⟨[vx.v]⟩ w0 fun e w' => ∃ v, e = .returned v ∧ (∃ x0 : SH, v = (x0.v) ∧ Hp w0 (hh w0) [Sv 7 56 x0.v (x.map cFdb)] w') := by
 have lvx := hx.bd
 refine enter (n := 8) Tryz.func128 rfl rfl rfl fun a (hs : St 8 [(0, vx.v)] a) => ?_
 have m := Hp.start w0
 refine c_reg ?_
 refine s_ hs m (ok_assign rfl) (bn_ ?_)
 clear hs a; intro a hs
 refine c_seq ?_
 refine c_reg ?_
 refine s_ hs m (ok_move rfl) (b_ m (ok_isNilS rfl rfl sl27) (bn_ ?_))
 clear hs a; intro a hs
 refine c_cond hs rfl (fun h1 => ?_) (fun h1 => ?_)
 ·refine c_reg ?_
  refine s_ hs m (ok_assign rfl) (bn_ ?_)
  clear hs a; intro a hs
  refine wp_ret ?_
  refine ret_then (leave hs (vs := [nilH.v]) rfl ⟨rfl, trivial⟩ ?_)
  replace m := m.nilSvM cFdb 7 56
  have q3 : ([] : List TFdb) = x := by exact (hx.isnil (by assumption)).symm
  rw [q3] at m
  refine ⟨_, rfl, nilH, ?_, m.sub (.c r0 .n)⟩
  rfl
 refine wp_skip ?_
 refine n_then ?_
 refine c_reg ?_
 refine r_buildM (c := cFdb) (ys := ([] : List TFdb)) hs m sl27 ty56 ze56 rfl rfl rfl rfl rfl (fun _ => rfl) rfl rfl rfl ?_
 clear m hs a; intro v4 w5 m a hs
 refine s_ hs m (ok_move rfl) ?_
 clear hs a; intro a hs
 refine r_appendM (c := cFdb) (xs := ([] : List TFdb)) (ys := x) hs m rfl rfl sl27 ni27 ty56 ze56 rfl by56 rfl r0 (m.rd hx) (fun _ => rfl) (by (simp; omega)) rfl ?_
 clear m hs a w5; intro v6 w7 m a hs
 refine s_ hs m (ok_assign rfl) (bn_ ?_)
 clear hs a; intro a hs
 refine wp_ret ?_
 refine leave hs (vs := [v6.v]) rfl ⟨rfl, trivial⟩ ?_
 refine ⟨_, rfl, v6, ?_, m.sub (.c r0 .n)⟩
 rfl
theorem clonePrefix_c (vx : SH) (x : List TPrefix) (w0 : World) (hx : RdS (hh w0) 2 vx.v (x.map cPrefix)) (A1 : x.length ≤ 2600000000000) : Calls Tryz.prog 82 ⟨[vx.v]⟩ w0 fun e w' => ∃ v, e = .returned v ∧ (∃ x0 : SH, v = (x0.v) ∧ Hp w0 (hh w0) [Sv 2 44 x0.v (x.map cPrefix)] w') := by
 have lvx := hx.bd
 refine enter (n := 8) Tryz.func82 rfl rfl rfl fun a (hs : St 8 [(0, vx.v)] a) => ?_
 have m := Hp.start w0
 refine c_reg ?_
 refine s_ hs m (ok_assign rfl) (bn_ ?_)
 clear hs a; intro a hs
 refine c_seq ?_
 refine c_reg ?_
 refine s_ hs m (ok_move rfl) (b_ m (ok_isNilS rfl rfl sl82) (bn_ ?_))
 clear hs a; intro a hs
 refine c_cond hs rfl (fun h1 => ?_) (fun h1 => ?_)
 ·refine c_reg ?_
  refine s_ hs m (ok_assign rfl) (bn_ ?_)
  clear hs a; intro a hs
  refine wp_ret ?_
  refine ret_then (leave hs (vs := [nilH.v]) rfl ⟨rfl, trivial⟩ ?_)
  replace m := m.nilSvM cPrefix 2 44
  have q3 : ([] : List TPrefix) = x := by exact (hx.isnil (by assumption)).symm
  rw [q3] at m
  refine ⟨_, rfl, nilH, ?_, m.sub (.c r0 .n)⟩
  rfl
 refine wp_skip ?_
 refine n_then ?_
 refine c_reg ?_
 refine r_buildM (c := cPrefix) (ys := ([] : List TPrefix)) hs m sl82 ty44 ze44 rfl rfl rfl rfl rfl (fun _ => rfl) rfl rfl rfl ?_
 clear m hs a; intro v4 w5 m a hs
 refine s_ hs m (ok_move rfl) ?_
 clear hs a; intro a hs
 refine r_appendM (c := cPrefix) (xs := ([] : List TPrefix)) (ys := x) hs m rfl rfl sl82 ni82 ty44 ze44 rfl by44 rfl r0 (m.rd hx) (fun _ => rfl) (by (simp; omega)) rfl ?_
 clear m hs a w5; intro v6 w7 m a hs
 refine s_ hs m (ok_assign rfl) (bn_ ?_)
 clear hs a; intro a hs
 refine wp_ret ?_
 refine leave hs (vs := [v6.v]) rfl ⟨rfl, trivial⟩ ?_
 refine ⟨_, rfl, v6, ?_, m.sub (.c r0 .n)⟩
 rfl
theorem cloneLease_c (vx : SH) (x : List TLease) (w0 : World) (hx : RdS (hh w0) 12 vx.v (x.map cLease)) (A1 : x.length ≤ 2500000000000) : Calls Tryz.prog 81 ⟨[vx.v]⟩ w0 fun e w' => ∃ v, e = .returned v ∧ (∃ x0 : SH, v = (x0.v) ∧ Hp w0 (hh w0) [Sv 12 48 x0.v (x.map cLease)] w') := by
 have lvx := hx.bd
 refine enter (n := 8) Tryz.func81 rfl rfl rfl fun a (hs : St 8 [(0, vx.v)] a) => ?_
 have m := Hp.start w0
 refine c_reg ?_
 refine s_ hs m (ok_assign rfl) (bn_ ?_)
 clear hs a; intro a hs
 refine c_seq ?_
 refine c_reg ?_
 refine s_ hs m (ok_move rfl) (b_ m (ok_isNilS rfl rfl sl22) (bn_ ?_))
 clear hs a; intro a hs
 refine c_cond hs rfl (fun h1 => ?_) (fun h1 => ?_)
 ·refine c_reg ?_
  refine s_ hs m (ok_assign rfl) (bn_ ?_)
  clear hs a; intro a hs
  refine wp_ret ?_
  refine ret_then (leave hs (vs := [nilH.v]) rfl ⟨rfl, trivial⟩ ?_)
  replace m := m.nilSvM cLease 12 48
  have q3 : ([] : List TLease) = x := by exact (hx.isnil (by assumption)).symm
  rw [q3] at m
  refine ⟨_, rfl, nilH, ?_, m.sub (.c r0 .n)⟩
  rfl
 refine wp_skip ?_
 refine n_then ?_
 refine c_reg ?_
 refine r_buildM (c := cLease) (ys := ([] : List TLease)) hs m sl22 ty48 ze48 rfl rfl rfl rfl rfl (fun _ => rfl) rfl rfl rfl ?_
 clear m hs a; intro v4 w5 m a hs
 refine s_ hs m (ok_move rfl) ?_
 clear hs a; intro a hs
 refine r_appendM (c := cLease) (xs := ([] : List TLease)) (ys := x) hs m rfl rfl sl22 ni22 ty48 ze48 rfl by48 rfl r0 (m.rd hx) (fun _ => rfl) (by (simp; omega)) rfl ?_
 clear m hs a w5; intro v6 w7 m a hs
 refine s_ hs m (ok_assign rfl) (bn_ ?_)
 clear hs a; intro a hs
 refine wp_ret ?_
 refine leave hs (vs := [v6.v]) rfl ⟨rfl, trivial⟩ ?_
 refine ⟨_, rfl, v6, ?_, m.sub (.c r0 .n)⟩
 rfl
end Go.Proofs.YtnbpodjbemfpbaaGreat.Fw
set_option linter.all false
set_option maxHeartbeats 4000000
set_option maxRecDepth 100000
namespace Go.Proofs.YtnbpodjbemfpbaaGreat.Fw
open Go
theorem setRoute_c (vx : SH) (x : List TRoute) (t : TRoute) (w0 : World) (R : Hh) (A1 : x.length ≤ 2600000000000) (m : Hp w0 R [Sv 4 51 vx.v (x.map cRoute)] w0) : Calls Tryz.prog 44 ⟨[vx.v, .agg ⟨cRoute t⟩, .func (.func 45) ⟨[]⟩ ⟨[]⟩]⟩ w0 fun e w' => ∃ v, e = .returned v ∧ (∃ x0 : SH, v = (x0.v) ∧ Hp w0 R [Sv 4 51 x0.v ((setM cmpRoute x t).map cRoute)] w') := by
 have lvx := (m.rdv r0).bd
 refine enter (n := 27) Tryz.func44 rfl rfl rfl fun a (hs : St 27 [(0, vx.v), (1, .agg ⟨cRoute t⟩), (2, .func (.func 45) ⟨[]⟩ ⟨[]⟩)] a) => ?_
 refine c_reg ?_
 refine r_box (cs := cRoute t) hs m rfl rfl rfl ?_
 clear m hs a; intro p1 w2 m a hs
 refine s_ hs m (ok_assign rfl) (bn_ (bc_ (b_ m (ok_move rfl) (b_ m (ok_load_ag (vs := cRoute t) rfl ty51 (bx_at r0) rfl rfl) (b_ m (ok_move rfl) ?_)))))
 clear hs a; intro a hs
 refine r_callP hs m rfl rfl ca97 rfl (bsRoute_c vx x t _ (m.rdv r1) ) rfl ?_
 clear m hs a w2; intro w3 m a hs
 refine s_ hs m (ok_move rfl) (b_ m (ok_extract rfl rfl) (b_ m (ok_extract rfl rfl) (b_ m (ok_assign rfl) (b_ m (ok_assign rfl) (bn_ ?_)))))
 clear hs a; intro a hs
 refine c_seq ?_
 refine c_reg ?_
 refine s_ hs m (ok_move rfl) (bn_ ?_)
 clear hs a; intro a hs
 refine c_cond hs rfl (fun h4 => ?_) (fun h4 => ?_)
 ·refine c_reg ?_
  refine s_ hs m (ok_move rfl) (b_ m (ok_move rfl) (b_ m (ok_load_ag (vs := cRoute t) rfl ty51 (bx_at r0) rfl rfl) ?_))
  clear hs a; intro a hs
  obtain ⟨e5, he6⟩ := get_of_lt (l := x) (i := bsI (fun e => (cmpRoute e t).v) x) (by exact bsHit_lt (by assumption))
  refine elO (c := cRoute) (e := e5) hs m (x := (.tmp 17)) (ix := (.tmp 18)) rfl rfl sl25 ty51 r1 (by omega) he6 fun p7 hp8 ok9 => ?_
  refine s_ hs m (ok9 _ _ _ _ _) ?_
  clear hs a; intro a hs
  refine r_storeEl (c := cRoute) (e' := t) (vs := cRoute t) hs m rfl rfl r1 hp8 he6 ty51 rfl rfl rfl rfl rfl ?_
  clear m w3; intro w10 m
  replace m : Hp w0 R [Sv 4 51 vx.v ((x.set (bsI (fun e => (cmpRoute e t).v) x) t).map cRoute), Bx p1 51 (cRoute t)] w10 := m
  refine wpList_nil (n_then ?_)
  refine c_reg ?_
  refine s_ hs m (ok_move rfl) (b_ m (ok_assign rfl) (bn_ ?_))
  clear hs a; intro a hs
  refine wp_ret ?_
  refine ret_then (leave hs (vs := [vx.v]) rfl ⟨rfl, trivial⟩ ?_)
  have q11 : x.set (bsI (fun e => (cmpRoute e t).v) x) t = setM cmpRoute x t := by simp [setM, *]
  rw [q11] at m
  refine ⟨_, rfl, vx, ?_, m.sub (.c r0 .n)⟩
  rfl
 refine wp_skip ?_
 refine n_then ?_
 refine c_reg ?_
 refine s_ hs m (ok_move rfl) (b_ m (ok_move rfl) (b_ m (ok_load_ag (vs := cRoute t) rfl ty51 (bx_at r0) rfl rfl) ?_))
 clear hs a; intro a hs
 refine r_buildM (c := cRoute) (ys := [t]) hs m sl25 ty51 ze51 rfl rfl rfl rfl rfl (fun _ => rfl) rfl rfl rfl ?_
 clear m hs a w3; intro v12 w13 m a hs
 obtain ⟨R1, hR, hR2, ⟨y1, sy, ly⟩, mc, back⟩ := Hp.split (Pc := [Sv 4 51 vx.v (x.map cRoute), Sv 4 51 v12.v ([t].map cRoute)]) (Ps := [Bx p1 51 (cRoute t)]) (m.sub (.c r2 (.c r0 (.c r0 .n))))
 refine r_call hs rfl rfl ca98 rfl (insRoute_c vx x (bsI (fun e => (cmpRoute e t).v) x) v12 [t] _ R1  (by rfl) (by exact bsI_le _ _) (by omega) mc) rfl ?_
 clear hs a; rintro _ w15 ⟨v14, rfl, hm⟩ a hs
 replace m : Hp w0 R [Sv 4 51 v14.v ((x.take (bsI (fun e => (cmpRoute e t).v) x) ++ [t] ++ x.drop (bsI (fun e => (cmpRoute e t).v) x)).map cRoute), Bx p1 51 (cRoute t)] w15 := back _ _ hm
 clear hm back mc sy ly hR2 hR y1 R1 w13
 refine s_ hs m (ok_assign rfl) (bn_ ?_)
 clear hs a; intro a hs
 refine wp_ret ?_
 refine leave hs (vs := [v14.v]) rfl ⟨rfl, trivial⟩ ?_
 have q16 : x.take (bsI (fun e => (cmpRoute e t).v) x) ++ [t] ++ x.drop (bsI (fun e => (cmpRoute e t).v) x) = setM cmpRoute x t := by simp [setM, *]
 rw [q16] at m
 refine ⟨_, rfl, v14, ?_, m.sub (.c r0 .n)⟩
 rfl
theorem setNeigh_c (vx : SH) (x : List TNeigh) (t : TNeigh) (w0 : World) (R : Hh) (A1 : x.length ≤ 2600000000000) (m : Hp w0 R [Sv 7 54 vx.v (x.map cNeigh)] w0) : Calls Tryz.prog 46 ⟨[vx.v, .agg ⟨cNeigh t⟩, .func (.func 47) ⟨[]⟩ ⟨[]⟩]⟩ w0 fun e w' => ∃ v, e = .returned v ∧ (∃ x0 : SH, v = (x0.v) ∧ Hp w0 R [Sv 7 54 x0.v ((setM cmpNeigh x t).map cNeigh)] w') := by
 have lvx := (m.rdv r0).bd
 refine enter (n := 27) Tryz.func46 rfl rfl rfl fun a (hs : St 27 [(0, vx.v), (1, .agg ⟨cNeigh t⟩), (2, .func (.func 47) ⟨[]⟩ ⟨[]⟩)] a) => ?_
 refine c_reg ?_
 refine r_box (cs := cNeigh t) hs m rfl rfl rfl ?_
 clear m hs a; intro p1 w2 m a hs
 refine s_ hs m (ok_assign rfl) (bn_ (bc_ (b_ m (ok_move rfl) (b_ m (ok_load_ag (vs := cNeigh t) rfl ty54 (bx_at r0) rfl rfl) (b_ m (ok_move rfl) ?_)))))
 clear hs a; intro a hs
 refine r_callP hs m rfl rfl ca100 rfl (bsNeigh_c vx x t _ (m.rdv r1) ) rfl ?_
 clear m hs a w2; intro w3 m a hs
 refine s_ hs m (ok_move rfl) (b_ m (ok_extract rfl rfl) (b_ m (ok_extract rfl rfl) (b_ m (ok_assign rfl) (b_ m (ok_assign rfl) (bn_ ?_)))))
 clear hs a; intro a hs
 refine c_seq ?_
 refine c_reg ?_
 refine s_ hs m (ok_move rfl) (bn_ ?_)
 clear hs a; intro a hs
 refine c_cond hs rfl (fun h4 => ?_) (fun h4 => ?_)
 ·refine c_reg ?_
  refine s_ hs m (ok_move rfl) (b_ m (ok_move rfl) (b_ m (ok_load_ag (vs := cNeigh t) rfl ty54 (bx_at r0) rfl rfl) ?_))
  clear hs a; intro a hs
  obtain ⟨e5, he6⟩ := get_of_lt (l := x) (i := bsI (fun e => (cmpNeigh e t).v) x) (by exact bsHit_lt (by assumption))
  refine elO (c := cNeigh) (e := e5) hs m (x := (.tmp 17)) (ix := (.tmp 18)) rfl rfl sl26 ty54 r1 (by omega) he6 fun p7 hp8 ok9 => ?_
  refine s_ hs m (ok9 _ _ _ _ _) ?_
  clear hs a; intro a hs
  refine r_storeEl (c := cNeigh) (e' := t) (vs := cNeigh t) hs m rfl rfl r1 hp8 he6 ty54 rfl rfl rfl rfl rfl ?_
  clear m w3; intro w10 m
  replace m : Hp w0 R [Sv 7 54 vx.v ((x.set (bsI (fun e => (cmpNeigh e t).v) x) t).map cNeigh), Bx p1 54 (cNeigh t)] w10 := m
  refine wpList_nil (n_then ?_)
  refine c_reg ?_
  refine s_ hs m (ok_move rfl) (b_ m (ok_assign rfl) (bn_ ?_))
  clear hs a; intro a hs
  refine wp_ret ?_
  refine ret_then (leave hs (vs := [vx.v]) rfl ⟨rfl, trivial⟩ ?_)
  have q11 : x.set (bsI (fun e => (cmpNeigh e t).v) x) t = setM cmpNeigh x t := by simp [setM, *]
  rw [q11] at m
  refine ⟨_, rfl, vx, ?_, m.sub (.c r0 .n)⟩
  rfl
 refine wp_skip ?_
 refine n_then ?_
 refine c_reg ?_
 refine s_ hs m (ok_move rfl) (b_ m (ok_move rfl) (b_ m (ok_load_ag (vs := cNeigh t) rfl ty54 (bx_at r0) rfl rfl) ?_))
 clear hs a; intro a hs
 refine r_buildM (c := cNeigh) (ys := [t]) hs m sl26 ty54 ze54 rfl rfl rfl rfl rfl (fun _ => rfl) rfl rfl rfl ?_
 clear m hs a w3; intro v12 w13 m a hs
 obtain ⟨R1, hR, hR2, ⟨y1, sy, ly⟩, mc, back⟩ := Hp.split (Pc := [Sv 7 54 vx.v (x.map cNeigh), Sv 7 54 v12.v ([t].map cNeigh)]) (Ps := [Bx p1 54 (cNeigh t)]) (m.sub (.c r2 (.c r0 (.c r0 .n))))
 refine r_call hs rfl rfl ca101 rfl (insNeigh_c vx x (bsI (fun e => (cmpNeigh e t).v) x) v12 [t] _ R1  (by rfl) (by exact bsI_le _ _) (by omega) mc) rfl ?_
 clear hs a; rintro _ w15 ⟨v14, rfl, hm⟩ a hs
 replace m : Hp w0 R [Sv 7 54 v14.v ((x.take (bsI (fun e => (cmpNeigh e t).v) x) ++ [t] ++ x.drop (bsI (fun e => (cmpNeigh e t).v) x)).map cNeigh), Bx p1 54 (cNeigh t)] w15 := back _ _ hm
 clear hm back mc sy ly hR2 hR y1 R1 w13
 refine s_ hs m (ok_assign rfl) (bn_ ?_)
 clear hs a; intro a hs
 refine wp_ret ?_
 refine leave hs (vs := [v14.v]) rfl ⟨rfl, trivial⟩ ?_
 have q16 : x.take (bsI (fun e => (cmpNeigh e t).v) x) ++ [t] ++ x.drop (bsI (fun e => (cmpNeigh e t).v) x) = setM cmpNeigh x t := by simp [setM, *]
 rw [q16] at m
 refine ⟨_, rfl, v14, ?_, m.sub (.c r0 .n)⟩
 rfl
theorem setFdb_c (vx : SH) (x : List TFdb) (t : TFdb) (w0 : World) (R : Hh) (A1 : x.length ≤ 2600000000000) (m : Hp w0 R [Sv 7 56 vx.v (x.map cFdb)] w0) : Calls Tryz.prog 48 ⟨[vx.v, .agg ⟨cFdb t⟩, .func (.func 49) ⟨[]⟩ ⟨[]⟩]⟩ w0 fun e w' => ∃ v, e = .returned v ∧ (∃ x0 : SH, v = (x0.v) ∧ Hp w0 R [Sv 7 56 x0.v ((setM cmpFdb x t).map cFdb)] w') := by
 have lvx := (m.rdv r0).bd
 refine enter (n := 27) Tryz.func48 rfl rfl rfl fun a (hs : St 27 [(0, vx.v), (1, .agg ⟨cFdb t⟩), (2, .func (.func 49) ⟨[]⟩ ⟨[]⟩)] a) => ?_
 refine c_reg ?_
 refine r_box (cs := cFdb t) hs m rfl rfl rfl ?_
 clear m hs a; intro p1 w2 m a hs
 refine s_ hs m (ok_assign rfl) (bn_ (bc_ (b_ m (ok_move rfl) (b_ m (ok_load_ag (vs := cFdb t) rfl ty56 (bx_at r0) rfl rfl) (b_ m (ok_move rfl) ?_)))))
 clear hs a; intro a hs
 refine r_callP hs m rfl rfl ca103 rfl (bsFdb_c vx x t _ (m.rdv r1) ) rfl ?_
 clear m hs a w2; intro w3 m a hs
 refine s_ hs m (ok_move rfl) (b_ m (ok_extract rfl rfl) (b_ m (ok_extract rfl rfl) (b_ m (ok_assign rfl) (b_ m (ok_assign rfl) (bn_ ?_)))))
 clear hs a; intro a hs
 refine c_seq ?_
 refine c_reg ?_
 refine s_ hs m (ok_move rfl) (bn_ ?_)
 clear hs a; intro a hs
 refine c_cond hs rfl (fun h4 => ?_) (fun h4 => ?_)
 ·refine c_reg ?_
  refine s_ hs m (ok_move rfl) (b_ m (ok_move rfl) (b_ m (ok_load_ag (vs := cFdb t) rfl ty56 (bx_at r0) rfl rfl) ?_))
  clear hs a; intro a hs
  obtain ⟨e5, he6⟩ := get_of_lt (l := x) (i := bsI (fun e => (cmpFdb e t).v) x) (by exact bsHit_lt (by assumption))
  refine elO (c := cFdb) (e := e5) hs m (x := (.tmp 17)) (ix := (.tmp 18)) rfl rfl sl27 ty56 r1 (by omega) he6 fun p7 hp8 ok9 => ?_
  refine s_ hs m (ok9 _ _ _ _ _) ?_
  clear hs a; intro a hs
  refine r_storeEl (c := cFdb) (e' := t) (vs := cFdb t) hs m rfl rfl r1 hp8 he6 ty56 rfl rfl rfl rfl rfl ?_
  clear m w3; intro w10 m
  replace m : Hp w0 R [Sv 7 56 vx.v ((x.set (bsI (fun e => (cmpFdb e t).v) x) t).map cFdb), Bx p1 56 (cFdb t)] w10 := m
  refine wpList_nil (n_then ?_)
  refine c_reg ?_
  refine s_ hs m (ok_move rfl) (b_ m (ok_assign rfl) (bn_ ?_))
  clear hs a; intro a hs
  refine wp_ret ?_
  refine ret_then (leave hs (vs := [vx.v]) rfl ⟨rfl, trivial⟩ ?_)
  have q11 : x.set (bsI (fun e => (cmpFdb e t).v) x) t = setM cmpFdb x t := by simp [setM, *]
  rw [q11] at m
  refine ⟨_, rfl, vx, ?_, m.sub (.c r0 .n)⟩
  rfl
 refine wp_skip ?_
 refine n_then ?_
 refine c_reg ?_
 refine s_ hs m (ok_move rfl) (b_ m (ok_move rfl) (b_ m (ok_load_ag (vs := cFdb t) rfl ty56 (bx_at r0) rfl rfl) ?_))
 clear hs a; intro a hs
 refine r_buildM (c := cFdb) (ys := [t]) hs m sl27 ty56 ze56 rfl rfl rfl rfl rfl (fun _ => rfl) rfl rfl rfl ?_
 clear m hs a w3; intro v12 w13 m a hs
 obtain ⟨R1, hR, hR2, ⟨y1, sy, ly⟩, mc, back⟩ := Hp.split (Pc := [Sv 7 56 vx.v (x.map cFdb), Sv 7 56 v12.v ([t].map cFdb)]) (Ps := [Bx p1 56 (cFdb t)]) (m.sub (.c r2 (.c r0 (.c r0 .n))))
 refine r_call hs rfl rfl ca104 rfl (insFdb_c vx x (bsI (fun e => (cmpFdb e t).v) x) v12 [t] _ R1  (by rfl) (by exact bsI_le _ _) (by omega) mc) rfl ?_
 clear hs a; rintro _ w15 ⟨v14, rfl, hm⟩ a hs
 replace m : Hp w0 R [Sv 7 56 v14.v ((x.take (bsI (fun e => (cmpFdb e t).v) x) ++ [t] ++ x.drop (bsI (fun e => (cmpFdb e t).v) x)).map cFdb), Bx p1 56 (cFdb t)] w15 := back _ _ hm
 clear hm back mc sy ly hR2 hR y1 R1 w13
 refine s_ hs m (ok_assign rfl) (bn_ ?_)
 clear hs a; intro a hs
 refine wp_ret ?_
 refine leave hs (vs := [v14.v]) rfl ⟨rfl, trivial⟩ ?_
 have q16 : x.take (bsI (fun e => (cmpFdb e t).v) x) ++ [t] ++ x.drop (bsI (fun e => (cmpFdb e t).v) x) = setM cmpFdb x t := by simp [setM, *]
 rw [q16] at m
 refine ⟨_, rfl, v14, ?_, m.sub (.c r0 .n)⟩
 rfl
theorem setPrefix_c (vx : SH) (x : List TPrefix) (t : TPrefix) (w0 : World) (R : Hh) (A1 : x.length ≤ 2600000000000) (m : Hp w0 R [Sv 2 44 vx.v (x.map cPrefix)] w0) : Calls Tryz.prog 135 ⟨[vx.v, .agg ⟨cPrefix t⟩, .func (.func 99) ⟨[]⟩ ⟨[]⟩]⟩ w0 fun e w' => ∃ v, e = .returned v ∧ (∃ x0 : SH, v = (x0.v) ∧ Hp w0 R [Sv 2 44 x0.v ((setM cmpPrefix x t).map cPrefix)] w') := by
 have lvx := (m.rdv r0).bd
 refine enter (n := 27) Tryz.func135 rfl rfl rfl fun a (hs : St 27 [(0, vx.v), (1, .agg ⟨cPrefix t⟩), (2, .func (.func 99) ⟨[]⟩ ⟨[]⟩)] a) => ?_
 refine c_reg ?_
 refine r_box (cs := cPrefix t) hs m rfl rfl rfl ?_
 clear m hs a; intro p1 w2 m a hs
 refine s_ hs m (ok_assign rfl) (bn_ (bc_ (b_ m (ok_move rfl) (b_ m (ok_load_ag (vs := cPrefix t) rfl ty44 (bx_at r0) rfl rfl) (b_ m (ok_move rfl) ?_)))))
 clear hs a; intro a hs
 refine r_callP hs m rfl rfl ca131 rfl (bsPrefix_c vx x t _ (m.rdv r1) ) rfl ?_
 clear m hs a w2; intro w3 m a hs
 refine s_ hs m (ok_move rfl) (b_ m (ok_extract rfl rfl) (b_ m (ok_extract rfl rfl) (b_ m (ok_assign rfl) (b_ m (ok_assign rfl) (bn_ ?_)))))
 clear hs a; intro a hs
 refine c_seq ?_
 refine c_reg ?_
 refine s_ hs m (ok_move rfl) (bn_ ?_)
 clear hs a; intro a hs
 refine c_cond hs rfl (fun h4 => ?_) (fun h4 => ?_)
 ·refine c_reg ?_
  refine s_ hs m (ok_move rfl) (b_ m (ok_move rfl) (b_ m (ok_load_ag (vs := cPrefix t) rfl ty44 (bx_at r0) rfl rfl) ?_))
  clear hs a; intro a hs
  obtain ⟨e5, he6⟩ := get_of_lt (l := x) (i := bsI (fun e => (cmpPrefix e t).v) x) (by exact bsHit_lt (by assumption))
  refine elO (c := cPrefix) (e := e5) hs m (x := (.tmp 17)) (ix := (.tmp 18)) rfl rfl sl82 ty44 r1 (by omega) he6 fun p7 hp8 ok9 => ?_
  refine s_ hs m (ok9 _ _ _ _ _) ?_
  clear hs a; intro a hs
  refine r_storeEl (c := cPrefix) (e' := t) (vs := cPrefix t) hs m rfl rfl r1 hp8 he6 ty44 rfl rfl rfl rfl rfl ?_
  clear m w3; intro w10 m
  replace m : Hp w0 R [Sv 2 44 vx.v ((x.set (bsI (fun e => (cmpPrefix e t).v) x) t).map cPrefix), Bx p1 44 (cPrefix t)] w10 := m
  refine wpList_nil (n_then ?_)
  refine c_reg ?_
  refine s_ hs m (ok_move rfl) (b_ m (ok_assign rfl) (bn_ ?_))
  clear hs a; intro a hs
  refine wp_ret ?_
  refine ret_then (leave hs (vs := [vx.v]) rfl ⟨rfl, trivial⟩ ?_)
  have q11 : x.set (bsI (fun e => (cmpPrefix e t).v) x) t = setM cmpPrefix x t := by simp [setM, *]
  rw [q11] at m
  refine ⟨_, rfl, vx, ?_, m.sub (.c r0 .n)⟩
  rfl
 refine wp_skip ?_
 refine n_then ?_
 refine c_reg ?_
 refine s_ hs m (ok_move rfl) (b_ m (ok_move rfl) (b_ m (ok_load_ag (vs := cPrefix t) rfl ty44 (bx_at r0) rfl rfl) ?_))
 clear hs a; intro a hs
 refine r_buildM (c := cPrefix) (ys := [t]) hs m sl82 ty44 ze44 rfl rfl rfl rfl rfl (fun _ => rfl) rfl rfl rfl ?_
 clear m hs a w3; intro v12 w13 m a hs
 obtain ⟨R1, hR, hR2, ⟨y1, sy, ly⟩, mc, back⟩ := Hp.split (Pc := [Sv 2 44 vx.v (x.map cPrefix), Sv 2 44 v12.v ([t].map cPrefix)]) (Ps := [Bx p1 44 (cPrefix t)]) (m.sub (.c r2 (.c r0 (.c r0 .n))))
 refine r_call hs rfl rfl ca166 rfl (insPrefix_c vx x (bsI (fun e => (cmpPrefix e t).v) x) v12 [t] _ R1  (by rfl) (by exact bsI_le _ _) (by omega) mc) rfl ?_
 clear hs a; rintro _ w15 ⟨v14, rfl, hm⟩ a hs
 replace m : Hp w0 R [Sv 2 44 v14.v ((x.take (bsI (fun e => (cmpPrefix e t).v) x) ++ [t] ++ x.drop (bsI (fun e => (cmpPrefix e t).v) x)).map cPrefix), Bx p1 44 (cPrefix t)] w15 := back _ _ hm
 clear hm back mc sy ly hR2 hR y1 R1 w13
 refine s_ hs m (ok_assign rfl) (bn_ ?_)
 clear hs a; intro a hs
 refine wp_ret ?_
 refine leave hs (vs := [v14.v]) rfl ⟨rfl, trivial⟩ ?_
 have q16 : x.take (bsI (fun e => (cmpPrefix e t).v) x) ++ [t] ++ x.drop (bsI (fun e => (cmpPrefix e t).v) x) = setM cmpPrefix x t := by simp [setM, *]
 rw [q16] at m
 refine ⟨_, rfl, v14, ?_, m.sub (.c r0 .n)⟩
 rfl
theorem setLease_c (vx : SH) (x : List TLease) (t : TLease) (w0 : World) (R : Hh) (A1 : x.length ≤ 2500000000000) (m : Hp w0 R [Sv 12 48 vx.v (x.map cLease)] w0) : Calls Tryz.prog 137 ⟨[vx.v, .agg ⟨cLease t⟩, .func (.func 133) ⟨[]⟩ ⟨[]⟩]⟩ w0 fun e w' => ∃ v, e = .returned v ∧ (∃ x0 : SH, v = (x0.v) ∧ Hp w0 R [Sv 12 48 x0.v ((setM cmpLease x t).map cLease)] w') := by
 have lvx := (m.rdv r0).bd
 refine enter (n := 27) Tryz.func137 rfl rfl rfl fun a (hs : St 27 [(0, vx.v), (1, .agg ⟨cLease t⟩), (2, .func (.func 133) ⟨[]⟩ ⟨[]⟩)] a) => ?_
 refine c_reg ?_
 refine r_box (cs := cLease t) hs m rfl rfl rfl ?_
 clear m hs a; intro p1 w2 m a hs
 refine s_ hs m (ok_assign rfl) (bn_ (bc_ (b_ m (ok_move rfl) (b_ m (ok_load_ag (vs := cLease t) rfl ty48 (bx_at r0) rfl rfl) (b_ m (ok_move rfl) ?_)))))
 clear hs a; intro a hs
 refine r_callP hs m rfl rfl ca167 rfl (bsLease_c vx x t _ (m.rdv r1) ) rfl ?_
 clear m hs a w2; intro w3 m a hs
 refine s_ hs m (ok_move rfl) (b_ m (ok_extract rfl rfl) (b_ m (ok_extract rfl rfl) (b_ m (ok_assign rfl) (b_ m (ok_assign rfl) (bn_ ?_)))))
 clear hs a; intro a hs
 refine c_seq ?_
 refine c_reg ?_
 refine s_ hs m (ok_move rfl) (bn_ ?_)
 clear hs a; intro a hs
 refine c_cond hs rfl (fun h4 => ?_) (fun h4 => ?_)
 ·refine c_reg ?_
  refine s_ hs m (ok_move rfl) (b_ m (ok_move rfl) (b_ m (ok_load_ag (vs := cLease t) rfl ty48 (bx_at r0) rfl rfl) ?_))
  clear hs a; intro a hs
  obtain ⟨e5, he6⟩ := get_of_lt (l := x) (i := bsI (fun e => (cmpLease e t).v) x) (by exact bsHit_lt (by assumption))
  refine elO (c := cLease) (e := e5) hs m (x := (.tmp 17)) (ix := (.tmp 18)) rfl rfl sl22 ty48 r1 (by omega) he6 fun p7 hp8 ok9 => ?_
  refine s_ hs m (ok9 _ _ _ _ _) ?_
  clear hs a; intro a hs
  refine r_storeEl (c := cLease) (e' := t) (vs := cLease t) hs m rfl rfl r1 hp8 he6 ty48 rfl rfl rfl rfl rfl ?_
  clear m w3; intro w10 m
  replace m : Hp w0 R [Sv 12 48 vx.v ((x.set (bsI (fun e => (cmpLease e t).v) x) t).map cLease), Bx p1 48 (cLease t)] w10 := m
  refine wpList_nil (n_then ?_)
  refine c_reg ?_
  refine s_ hs m (ok_move rfl) (b_ m (ok_assign rfl) (bn_ ?_))
  clear hs a; intro a hs
  refine wp_ret ?_
  refine ret_then (leave hs (vs := [vx.v]) rfl ⟨rfl, trivial⟩ ?_)
  have q11 : x.set (bsI (fun e => (cmpLease e t).v) x) t = setM cmpLease x t := by simp [setM, *]
  rw [q11] at m
  refine ⟨_, rfl, vx, ?_, m.sub (.c r0 .n)⟩
  rfl
 refine wp_skip ?_
 refine n_then ?_
 refine c_reg ?_
 refine s_ hs m (ok_move rfl) (b_ m (ok_move rfl) (b_ m (ok_load_ag (vs := cLease t) rfl ty48 (bx_at r0) rfl rfl) ?_))
 clear hs a; intro a hs
 refine r_buildM (c := cLease) (ys := [t]) hs m sl22 ty48 ze48 rfl rfl rfl rfl rfl (fun _ => rfl) rfl rfl rfl ?_
 clear m hs a w3; intro v12 w13 m a hs
 obtain ⟨R1, hR, hR2, ⟨y1, sy, ly⟩, mc, back⟩ := Hp.split (Pc := [Sv 12 48 vx.v (x.map cLease), Sv 12 48 v12.v ([t].map cLease)]) (Ps := [Bx p1 48 (cLease t)]) (m.sub (.c r2 (.c r0 (.c r0 .n))))
 refine r_call hs rfl rfl ca168 rfl (insLease_c vx x (bsI (fun e => (cmpLease e t).v) x) v12 [t] _ R1  (by rfl) (by exact bsI_le _ _) (by omega) mc) rfl ?_
 clear hs a; rintro _ w15 ⟨v14, rfl, hm⟩ a hs
 replace m : Hp w0 R [Sv 12 48 v14.v ((x.take (bsI (fun e => (cmpLease e t).v) x) ++ [t] ++ x.drop (bsI (fun e => (cmpLease e t).v) x)).map cLease), Bx p1 48 (cLease t)] w15 := back _ _ hm
 clear hm back mc sy ly hR2 hR y1 R1 w13
 refine s_ hs m (ok_assign rfl) (bn_ ?_)
 clear hs a; intro a hs
 refine wp_ret ?_
 refine leave hs (vs := [v14.v]) rfl ⟨rfl, trivial⟩ ?_
 have q16 : x.take (bsI (fun e => (cmpLease e t).v) x) ++ [t] ++ x.drop (bsI (fun e => (cmpLease e t).v) x) = setM cmpLease x t := by simp [setM, *]
 rw [q16] at m
 refine ⟨_, rfl, v14, ?_, m.sub (.c r0 .n)⟩
 rfl
theorem unsetRoute_c (vx : SH) (x : List TRoute) (t : TRoute) (w0 : World) (R : Hh) (m : Hp w0 R [Sv 4 51 vx.v (x.map cRoute)] w0) : Calls Tryz.prog 163 ⟨[vx.v, .agg ⟨cRoute t⟩, .func (.func 45) ⟨[]⟩ ⟨[]⟩]⟩ w0 fun e w' => ∃ v, e = .returned v ∧ (∃ x0 : SH, v = (x0.v) ∧ Hp w0 R [Sv 4 51 x0.v ((unsetM cmpRoute x t).map cRoute)] w') := by
 have lvx := (m.rdv r0).bd
 refine enter (n := 23) Tryz.func163 rfl rfl rfl fun a (hs : St 23 [(0, vx.v), (1, .agg ⟨cRoute t⟩), (2, .func (.func 45) ⟨[]⟩ ⟨[]⟩)] a) => ?_
 refine c_reg ?_
 refine r_box (cs := cRoute t) hs m rfl rfl rfl ?_
 clear m hs a; intro p1 w2 m a hs
 refine s_ hs m (ok_assign rfl) (bn_ (bc_ (b_ m (ok_move rfl) (b_ m (ok_load_ag (vs := cRoute t) rfl ty51 (bx_at r0) rfl rfl) (b_ m (ok_move rfl) ?_)))))
 clear hs a; intro a hs
 refine r_callP hs m rfl rfl ca97 rfl (bsRoute_c vx x t _ (m.rdv r1) ) rfl ?_
 clear m hs a w2; intro w3 m a hs
 refine s_ hs m (ok_move rfl) (b_ m (ok_extract rfl rfl) (b_ m (ok_extract rfl rfl) (b_ m (ok_assign rfl) (b_ m (ok_assign rfl) (bn_ ?_)))))
 clear hs a; intro a hs
 refine c_seq ?_
 refine c_reg ?_
 refine s_ hs m (ok_move rfl) (bn_ ?_)
 clear hs a; intro a hs
 refine c_cond hs rfl (fun h4 => ?_) (fun h4 => ?_)
 ·refine c_reg ?_
  refine s_ hs m (ok_move rfl) (b_ m (ok_move rfl) (b_ m (ok_move rfl) (b_ m (ok_add (r := ((bsI (fun e => (cmpRoute e t).v) x + 1 : Nat) : Int)) rfl rfl (by have hq := bsI_le (fun e => (cmpRoute e t).v) x; rw [wrap_i64 (by omega) (by omega)]; omega)) ?_)))
  clear hs a; intro a hs
  obtain ⟨R1, hR, hR2, ⟨y1, sy, ly⟩, mc, back⟩ := Hp.split (Pc := [Sv 4 51 vx.v (x.map cRoute)]) (Ps := [Bx p1 51 (cRoute t)]) (m.sub (.c r1 (.c r0 .n)))
  refine r_call hs rfl rfl ca180 rfl (delRoute_c vx x (bsI (fun e => (cmpRoute e t).v) x) (bsI (fun e => (cmpRoute e t).v) x + 1) _ R1  (by omega) (by (have := bsHit_lt (by assumption); omega)) mc) rfl ?_
  clear hs a; rintro _ w6 ⟨v5, rfl, hm⟩ a hs
  replace m : Hp w0 R [Sv 4 51 v5.v ((x.take (bsI (fun e => (cmpRoute e t).v) x) ++ x.drop (bsI (fun e => (cmpRoute e t).v) x + 1)).map cRoute), Bx p1 51 (cRoute t)] w6 := back _ _ hm
  clear hm back mc sy ly hR2 hR y1 R1 w3
  refine s_ hs m (ok_assign rfl) (bn_ ?_)
  clear hs a; intro a hs
  refine wp_ret ?_
  refine ret_then (leave hs (vs := [v5.v]) rfl ⟨rfl, trivial⟩ ?_)
  have q7 : x.take (bsI (fun e => (cmpRoute e t).v) x) ++ x.drop (bsI (fun e => (cmpRoute e t).v) x + 1) = unsetM cmpRoute x t := by simp [unsetM, *]
  rw [q7] at m
  refine ⟨_, rfl, v5, ?_, m.sub (.c r0 .n)⟩
  rfl
 refine wp_skip ?_
 refine n_then ?_
 refine c_reg ?_
 refine s_ hs m (ok_move rfl) (b_ m (ok_assign rfl) (bn_ ?_))
 clear hs a; intro a hs
 refine wp_ret ?_
 refine leave hs (vs := [vx.v]) rfl ⟨rfl, trivial⟩ ?_
 have q8 : x = unsetM cmpRoute x t := by simp [unsetM, *]
 rw [q8] at m
 refine ⟨_, rfl, vx, ?_, m.sub (.c r1 .n)⟩
 rfl
theorem unsetNeigh_c (vx : SH) (x : List TNeigh) (t : TNeigh) (w0 : World) (R : Hh) (m : Hp w0 R [Sv 7 54 vx.v (x.map cNeigh)] w0) : Calls Tryz.prog 164 ⟨[vx.v, .agg ⟨cNeigh t⟩, .func (.func 47) ⟨[]⟩ ⟨[]⟩]⟩ w0 fun e w' => ∃ v, e = .returned v ∧ (∃ x0 : SH, v = (x0.v) ∧ Hp w0 R [Sv 7 54 x0.v ((unsetM cmpNeigh x t).map cNeigh)] w') := by
 have lvx := (m.rdv r0).bd
 refine enter (n := 23) Tryz.func164 rfl rfl rfl fun a (hs : St 23 [(0, vx.v), (1, .agg ⟨cNeigh t⟩), (2, .func (.func 47) ⟨[]⟩ ⟨[]⟩)] a) => ?_
 refine c_reg ?_
 refine r_box (cs := cNeigh t) hs m rfl rfl rfl ?_
 clear m hs a; intro p1 w2 m a hs
 refine s_ hs m (ok_assign rfl) (bn_ (bc_ (b_ m (ok_move rfl) (b_ m (ok_load_ag (vs := cNeigh t) rfl ty54 (bx_at r0) rfl rfl) (b_ m (ok_move rfl) ?_)))))
 clear hs a; intro a hs
 refine r_callP hs m rfl rfl ca100 rfl (bsNeigh_c vx x t _ (m.rdv r1) ) rfl ?_
 clear m hs a w2; intro w3 m a hs
 refine s_ hs m (ok_move rfl) (b_ m (ok_extract rfl rfl) (b_ m (ok_extract rfl rfl) (b_ m (ok_assign rfl) (b_ m (ok_assign rfl) (bn_ ?_)))))
 clear hs a; intro a hs
 refine c_seq ?_
 refine c_reg ?_
 refine s_ hs m (ok_move rfl) (bn_ ?_)
 clear hs a; intro a hs
 refine c_cond hs rfl (fun h4 => ?_) (fun h4 => ?_)
 ·refine c_reg ?_
  refine s_ hs m (ok_move rfl) (b_ m (ok_move rfl) (b_ m (ok_move rfl) (b_ m (ok_add (r := ((bsI (fun e => (cmpNeigh e t).v) x + 1 : Nat) : Int)) rfl rfl (by have hq := bsI_le (fun e => (cmpNeigh e t).v) x; rw [wrap_i64 (by omega) (by omega)]; omega)) ?_)))
  clear hs a; intro a hs
  obtain ⟨R1, hR, hR2, ⟨y1, sy, ly⟩, mc, back⟩ := Hp.split (Pc := [Sv 7 54 vx.v (x.map cNeigh)]) (Ps := [Bx p1 54 (cNeigh t)]) (m.sub (.c r1 (.c r0 .n)))
  refine r_call hs rfl rfl ca181 rfl (delNeigh_c vx x (bsI (fun e => (cmpNeigh e t).v) x) (bsI (fun e => (cmpNeigh e t).v) x + 1) _ R1  (by omega) (by (have := bsHit_lt (by assumption); omega)) mc) rfl ?_
  clear hs a; rintro _ w6 ⟨v5, rfl, hm⟩ a hs
  replace m : Hp w0 R [Sv 7 54 v5.v ((x.take (bsI (fun e => (cmpNeigh e t).v) x) ++ x.drop (bsI (fun e => (cmpNeigh e t).v) x + 1)).map cNeigh), Bx p1 54 (cNeigh t)] w6 := back _ _ hm
  clear hm back mc sy ly hR2 hR y1 R1 w3
  refine s_ hs m (ok_assign rfl) (bn_ ?_)
  clear hs a; intro a hs
  refine wp_ret ?_
  refine ret_then (leave hs (vs := [v5.v]) rfl ⟨rfl, trivial⟩ ?_)
  have q7 : x.take (bsI (fun e => (cmpNeigh e t).v) x) ++ x.drop (bsI (fun e => (cmpNeigh e t).v) x + 1) = unsetM cmpNeigh x t := by simp [unsetM, *]
  rw [q7] at m
  refine ⟨_, rfl, v5, ?_, m.sub (.c r0 .n)⟩
  rfl
 refine wp_skip ?_
 refine n_then ?_
 refine c_reg ?_
 refine s_ hs m (ok_move rfl) (b_ m (ok_assign rfl) (bn_ ?_))
 clear hs a; intro a hs
 refine wp_ret ?_
 refine leave hs (vs := [vx.v]) rfl ⟨rfl, trivial⟩ ?_
 have q8 : x = unsetM cmpNeigh x t := by simp [unsetM, *]
 rw [q8] at m
 refine ⟨_, rfl, vx, ?_, m.sub (.c r1 .n)⟩
 rfl
theorem unsetFdb_c (vx : SH) (x : List TFdb) (t : TFdb) (w0 : World) (R : Hh) (m : Hp w0 R [Sv 7 56 vx.v (x.map cFdb)] w0) : Calls Tryz.prog 165 ⟨[vx.v, .agg ⟨cFdb t⟩, .func (.func 49) ⟨[]⟩ ⟨[]⟩]⟩ w0 fun e w' => ∃ v, e = .returned v ∧ (∃ x0 : SH, v = (x0.v) ∧ Hp w0 R [Sv 7 56 x0.v ((unsetM cmpFdb x t).map cFdb)] w') := by
 have lvx := (m.rdv r0).bd
 refine enter (n := 23) Tryz.func165 rfl rfl rfl fun a (hs : St 23 [(0, vx.v), (1, .agg ⟨cFdb t⟩), (2, .func (.func 49) ⟨[]⟩ ⟨[]⟩)] a) => ?_
 refine c_reg ?_
 refine r_box (cs := cFdb t) hs m rfl rfl rfl ?_
 clear m hs a; intro p1 w2 m a hs
 refine s_ hs m (ok_assign rfl) (bn_ (bc_ (b_ m (ok_move rfl) (b_ m (ok_load_ag (vs := cFdb t) rfl ty56 (bx_at r0) rfl rfl) (b_ m (ok_move rfl) ?_)))))
 clear hs a; intro a hs
 refine r_callP hs m rfl rfl ca103 rfl (bsFdb_c vx x t _ (m.rdv r1) ) rfl ?_
 clear m hs a w2; intro w3 m a hs
 refine s_ hs m (ok_move rfl) (b_ m (ok_extract rfl rfl) (b_ m (ok_extract rfl rfl) (b_ m (ok_assign rfl) (b_ m (ok_assign rfl) (bn_ ?_)))))
 clear hs a; intro a hs
 refine c_seq ?_
 refine c_reg ?_
 refine s_ hs m (ok_move rfl) (bn_ ?_)
 clear hs a; intro a hs
 refine c_cond hs rfl (fun h4 => ?_) (fun h4 => ?_)
 ·refine c_reg ?_
  refine s_ hs m (ok_move rfl) (b_ m (ok_move rfl) (b_ m (ok_move rfl) (b_ m (ok_add (r := ((bsI (fun e => (cmpFdb e t).v) x + 1 : Nat) : Int)) rfl rfl (by have hq := bsI_le (fun e => (cmpFdb e t).v) x; rw [wrap_i64 (by omega) (by omega)]; omega)) ?_)))
  clear hs a; intro a hs
  obtain ⟨R1, hR, hR2, ⟨y1, sy, ly⟩, mc, back⟩ := Hp.split (Pc := [Sv 7 56 vx.v (x.map cFdb)]) (Ps := [Bx p1 56 (cFdb t)]) (m.sub (.c r1 (.c r0 .n)))
  refine r_call hs rfl rfl ca182 rfl (delFdb_c vx x (bsI (fun e => (cmpFdb e t).v) x) (bsI (fun e => (cmpFdb e t).v) x + 1) _ R1  (by omega) (by (have := bsHit_lt (by assumption); omega)) mc) rfl ?_
  clear hs a; rintro _ w6 ⟨v5, rfl, hm⟩ a hs
  replace m : Hp w0 R [Sv 7 56 v5.v ((x.take (bsI (fun e => (cmpFdb e t).v) x) ++ x.drop (bsI (fun e => (cmpFdb e t).v) x + 1)).map cFdb), Bx p1 56 (cFdb t)] w6 := back _ _ hm
  clear hm back mc sy ly hR2 hR y1 R1 w3
  refine s_ hs m (ok_assign rfl) (bn_ ?_)
  clear hs a; intro a hs
  refine wp_ret ?_
  refine ret_then (leave hs (vs := [v5.v]) rfl ⟨rfl, trivial⟩ ?_)
  have q7 : x.take (bsI (fun e => (cmpFdb e t).v) x) ++ x.drop (bsI (fun e => (cmpFdb e t).v) x + 1) = unsetM cmpFdb x t := by simp [unsetM, *]
  rw [q7] at m
  refine ⟨_, rfl, v5, ?_, m.sub (.c r0 .n)⟩
  rfl
 refine wp_skip ?_
 refine n_then ?_
 refine c_reg ?_
 refine s_ hs m (ok_move rfl) (b_ m (ok_assign rfl) (bn_ ?_))
 clear hs a; intro a hs
 refine wp_ret ?_
 refine leave hs (vs := [vx.v]) rfl ⟨rfl, trivial⟩ ?_
 have q8 : x = unsetM cmpFdb x t := by simp [unsetM, *]
 rw [q8] at m
 refine ⟨_, rfl, vx, ?_, m.sub (.c r1 .n)⟩
 rfl
theorem unsetPrefix_c (vx : SH) (x : List TPrefix) (t : TPrefix) (w0 : World) (R : Hh) (m : Hp w0 R [Sv 2 44 vx.v (x.map cPrefix)] w0) : Calls Tryz.prog 139 ⟨[vx.v, .agg ⟨cPrefix t⟩, .func (.func 99) ⟨[]⟩ ⟨[]⟩]⟩ w0 fun e w' => ∃ v, e = .returned v ∧ (∃ x0 : SH, v = (x0.v) ∧ Hp w0 R [Sv 2 44 x0.v ((unsetM cmpPrefix x t).map cPrefix)] w') := by
 have lvx := (m.rdv r0).bd
 refine enter (n := 23) Tryz.func139 rfl rfl rfl fun a (hs : St 23 [(0, vx.v), (1, .agg ⟨cPrefix t⟩), (2, .func (.func 99) ⟨[]⟩ ⟨[]⟩)] a) => ?_
 refine c_reg ?_
 refine r_box (cs := cPrefix t) hs m rfl rfl rfl ?_
 clear m hs a; intro p1 w2 m a hs
 refine s_ hs m (ok_assign rfl) (bn_ (bc_ (b_ m (ok_move rfl) (b_ m (ok_load_ag (vs := cPrefix t) rfl ty44 (bx_at r0) rfl rfl) (b_ m (ok_move rfl) ?_)))))
 clear hs a; intro a hs
 refine r_callP hs m rfl rfl ca131 rfl (bsPrefix_c vx x t _ (m.rdv r1) ) rfl ?_
 clear m hs a w2; intro w3 m a hs
 refine s_ hs m (ok_move rfl) (b_ m (ok_extract rfl rfl) (b_ m (ok_extract rfl rfl) (b_ m (ok_assign rfl) (b_ m (ok_assign rfl) (bn_ ?_)))))
 clear hs a; intro a hs
 refine c_seq ?_
 refine c_reg ?_
 refine s_ hs m (ok_move rfl) (bn_ ?_)
 clear hs a; intro a hs
 refine c_cond hs rfl (fun h4 => ?_) (fun h4 => ?_)
 ·refine c_reg ?_
  refine s_ hs m (ok_move rfl) (b_ m (ok_move rfl) (b_ m (ok_move rfl) (b_ m (ok_add (r := ((bsI (fun e => (cmpPrefix e t).v) x + 1 : Nat) : Int)) rfl rfl (by have hq := bsI_le (fun e => (cmpPrefix e t).v) x; rw [wrap_i64 (by omega) (by omega)]; omega)) ?_)))
  clear hs a; intro a hs
  obtain ⟨R1, hR, hR2, ⟨y1, sy, ly⟩, mc, back⟩ := Hp.split (Pc := [Sv 2 44 vx.v (x.map cPrefix)]) (Ps := [Bx p1 44 (cPrefix t)]) (m.sub (.c r1 (.c r0 .n)))
  refine r_call hs rfl rfl ca170 rfl (delPrefix_c vx x (bsI (fun e => (cmpPrefix e t).v) x) (bsI (fun e => (cmpPrefix e t).v) x + 1) _ R1  (by omega) (by (have := bsHit_lt (by assumption); omega)) mc) rfl ?_
  clear hs a; rintro _ w6 ⟨v5, rfl, hm⟩ a hs
  replace m : Hp w0 R [Sv 2 44 v5.v ((x.take (bsI (fun e => (cmpPrefix e t).v) x) ++ x.drop (bsI (fun e => (cmpPrefix e t).v) x + 1)).map cPrefix), Bx p1 44 (cPrefix t)] w6 := back _ _ hm
  clear hm back mc sy ly hR2 hR y1 R1 w3
  refine s_ hs m (ok_assign rfl) (bn_ ?_)
  clear hs a; intro a hs
  refine wp_ret ?_
  refine ret_then (leave hs (vs := [v5.v]) rfl ⟨rfl, trivial⟩ ?_)
  have q7 : x.take (bsI (fun e => (cmpPrefix e t).v) x) ++ x.drop (bsI (fun e => (cmpPrefix e t).v) x + 1) = unsetM cmpPrefix x t := by simp [unsetM, *]
  rw [q7] at m
  refine ⟨_, rfl, v5, ?_, m.sub (.c r0 .n)⟩
  rfl
 refine wp_skip ?_
 refine n_then ?_
 refine c_reg ?_
 refine s_ hs m (ok_move rfl) (b_ m (ok_assign rfl) (bn_ ?_))
 clear hs a; intro a hs
 refine wp_ret ?_
 refine leave hs (vs := [vx.v]) rfl ⟨rfl, trivial⟩ ?_
 have q8 : x = unsetM cmpPrefix x t := by simp [unsetM, *]
 rw [q8] at m
 refine ⟨_, rfl, vx, ?_, m.sub (.c r1 .n)⟩
 rfl
theorem unsetLease_c (vx : SH) (x : List TLease) (t : TLease) (w0 : World) (R : Hh) (m : Hp w0 R [Sv 12 48 vx.v (x.map cLease)] w0) : Calls Tryz.prog 138 ⟨[vx.v, .agg ⟨cLease t⟩, .func (.func 133) ⟨[]⟩ ⟨[]⟩]⟩ w0 fun e w' => ∃ v, e = .returned v ∧ (∃ x0 : SH, v = (x0.v) ∧ Hp w0 R [Sv 12 48 x0.v ((unsetM cmpLease x t).map cLease)] w') := by
 have lvx := (m.rdv r0).bd
 refine enter (n := 23) Tryz.func138 rfl rfl rfl fun a (hs : St 23 [(0, vx.v), (1, .agg ⟨cLease t⟩), (2, .func (.func 133) ⟨[]⟩ ⟨[]⟩)] a) => ?_
 refine c_reg ?_
 refine r_box (cs := cLease t) hs m rfl rfl rfl ?_
 clear m hs a; intro p1 w2 m a hs
 refine s_ hs m (ok_assign rfl) (bn_ (bc_ (b_ m (ok_move rfl) (b_ m (ok_load_ag (vs := cLease t) rfl ty48 (bx_at r0) rfl rfl) (b_ m (ok_move rfl) ?_)))))
 clear hs a; intro a hs
 refine r_callP hs m rfl rfl ca167 rfl (bsLease_c vx x t _ (m.rdv r1) ) rfl ?_
 clear m hs a w2; intro w3 m a hs
 refine s_ hs m (ok_move rfl) (b_ m (ok_extract rfl rfl) (b_ m (ok_extract rfl rfl) (b_ m (ok_assign rfl) (b_ m (ok_assign rfl) (bn_ ?_)))))
 clear hs a; intro a hs
 refine c_seq ?_
 refine c_reg ?_
 refine s_ hs m (ok_move rfl) (bn_ ?_)
 clear hs a; intro a hs
 refine c_cond hs rfl (fun h4 => ?_) (fun h4 => ?_)
 ·refine c_reg ?_
  refine s_ hs m (ok_move rfl) (b_ m (ok_move rfl) (b_ m (ok_move rfl) (b_ m (ok_add (r := ((bsI (fun e => (cmpLease e t).v) x + 1 : Nat) : Int)) rfl rfl (by have hq := bsI_le (fun e => (cmpLease e t).v) x; rw [wrap_i64 (by omega) (by omega)]; omega)) ?_)))
  clear hs a; intro a hs
  obtain ⟨R1, hR, hR2, ⟨y1, sy, ly⟩, mc, back⟩ := Hp.split (Pc := [Sv 12 48 vx.v (x.map cLease)]) (Ps := [Bx p1 48 (cLease t)]) (m.sub (.c r1 (.c r0 .n)))
  refine r_call hs rfl rfl ca169 rfl (delLease_c vx x (bsI (fun e => (cmpLease e t).v) x) (bsI (fun e => (cmpLease e t).v) x + 1) _ R1  (by omega) (by (have := bsHit_lt (by assumption); omega)) mc) rfl ?_
  clear hs a; rintro _ w6 ⟨v5, rfl, hm⟩ a hs
  replace m : Hp w0 R [Sv 12 48 v5.v ((x.take (bsI (fun e => (cmpLease e t).v) x) ++ x.drop (bsI (fun e => (cmpLease e t).v) x + 1)).map cLease), Bx p1 48 (cLease t)] w6 := back _ _ hm
  clear hm back mc sy ly hR2 hR y1 R1 w3
  refine s_ hs m (ok_assign rfl) (bn_ ?_)
  clear hs a; intro a hs
  refine wp_ret ?_
  refine ret_then (leave hs (vs := [v5.v]) rfl ⟨rfl, trivial⟩ ?_)
  have q7 : x.take (bsI (fun e => (cmpLease e t).v) x) ++ x.drop (bsI (fun e => (cmpLease e t).v) x + 1) = unsetM cmpLease x t := by simp [unsetM, *]
  rw [q7] at m
  refine ⟨_, rfl, v5, ?_, m.sub (.c r0 .n)⟩
  rfl
 refine wp_skip ?_
 refine n_then ?_
 refine c_reg ?_
 refine s_ hs m (ok_move rfl) (b_ m (ok_assign rfl) (bn_ ?_))
 clear hs a; intro a hs
 refine wp_ret ?_
 refine leave hs (vs := [vx.v]) rfl ⟨rfl, trivial⟩ ?_
 have q8 : x = unsetM cmpLease x t := by simp [unsetM, *]
 rw [q8] at m
 refine ⟨_, rfl, vx, ?_, m.sub (.c r1 .n)⟩
 rfl
end Go.Proofs.YtnbpodjbemfpbaaGreat.Fw
