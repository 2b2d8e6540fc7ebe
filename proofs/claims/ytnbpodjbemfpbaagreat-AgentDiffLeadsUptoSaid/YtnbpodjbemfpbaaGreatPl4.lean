/-
  Plain functions of Diff.
-/
import Derived.Test.YtnbpodjbemfpbaaGreatPl3
set_option linter.all false
namespace Go.Proofs.YtnbpodjbemfpbaaGreat.Fw
open Go
def validAt (l : List TRoute) (i : Nat) : Bool := match l[i]? with
  | some r => validM r.Dst
  | none => true
theorem validAt_t {l : List TRoute} {k : Nat} {e : TRoute} (h : l[k]? = some e) (hv : (!validM e.Dst) = false) : validAt l k = true := by
  simp only [validAt, h]
  simpa using hv
def inOrderM (r : List TRoute) (n : List TNeigh) (f : List TFdb) : Bool := allK (validAt r) r.length && (risesM cmpRoute r && risesM cmpNeigh n && risesM cmpFdb f)
theorem inOrder_f {r : List TRoute} {n : List TNeigh} {f : List TFdb} {k : Nat} {e : TRoute} (hk : k < r.length) (h : r[k]? = some e) (hv : (!validM e.Dst) = true) : false = inOrderM r n f := by
  have : validAt r k = false := by
    simp only [validAt, h]
    simpa using hv
  simp [inOrderM, allK_false hk this]
theorem inOrder_t {r : List TRoute} {n : List TNeigh} {f : List TFdb} {k : Nat} (hk : r.length ≤ k ∧ k ≤ r.length) (h : allK (validAt r) k = true) : (risesM cmpRoute r && risesM cmpNeigh n && risesM cmpFdb f) = inOrderM r n f := by
  have : r.length = k := by omega
  subst this
  simp [inOrderM, h]
def wayM (n : List TNeigh) (f : List TFdb) (r : TRoute) : Tagent_way :=
  if bsHit cmpNeigh n ⟨r.Via, zMAC⟩ then
    ⟨true, bsHit cmpFdb f ⟨(getM cmpNeigh zNeigh n ⟨r.Via, zMAC⟩).MAC, ⟨0, rfl⟩⟩, (getM cmpNeigh zNeigh n ⟨r.Via, zMAC⟩).MAC, (getM cmpFdb zFdb f ⟨(getM cmpNeigh zNeigh n ⟨r.Via, zMAC⟩).MAC, ⟨0, rfl⟩⟩).To⟩
  else ⟨false, false, zMAC, ⟨0, rfl⟩⟩
theorem wayM_f {n : List TNeigh} {f : List TFdb} {r : TRoute} (h : (!bsHit cmpNeigh n ⟨r.Via, zMAC⟩) = true) : (⟨false, false, zMAC, ⟨0, rfl⟩⟩ : Tagent_way) = wayM n f r := by
  have : bsHit cmpNeigh n ⟨r.Via, zMAC⟩ = false := by simpa using h
  simp [wayM, this]
theorem wayM_t {n : List TNeigh} {f : List TFdb} {r : TRoute} (h : (!bsHit cmpNeigh n ⟨r.Via, zMAC⟩) = false) : (⟨true, bsHit cmpFdb f ⟨(getM cmpNeigh zNeigh n ⟨r.Via, zMAC⟩).MAC, ⟨0, rfl⟩⟩, (getM cmpNeigh zNeigh n ⟨r.Via, zMAC⟩).MAC, (getM cmpFdb zFdb f ⟨(getM cmpNeigh zNeigh n ⟨r.Via, zMAC⟩).MAC, ⟨0, rfl⟩⟩).To⟩ : Tagent_way) = wayM n f r := by
  have : bsHit cmpNeigh n ⟨r.Via, zMAC⟩ = true := by simpa using h
  simp [wayM, this]
def staysM (n1 : List TNeigh) (f1 : List TFdb) (r2 : List TRoute) (n2 : List TNeigh) (f2 : List TFdb) (r : TRoute) : Bool :=
  bsHit cmpRoute r2 r && decide (getM cmpRoute zRoute r2 r = r) && (r.Local || decide (wayM n1 f1 r = wayM n2 f2 r))
/-! the changes -/
def pickM {α : Type} (p : α → Bool) (g : α → TOp) (l : List α) : List TOp := l.filterMap fun e => if p e then some (g e) else none
section
variable {α : Type} {p : α → Bool} {g : α → TOp} {l : List α} {k : Nat} {e : α} {A : List TOp}
theorem pickM_0 : A ++ pickM p g (l.take 0) = A := by simp [pickM]
theorem pickM_t (h : l[k]? = some e) (hp : p e = true) : A ++ pickM p g (l.take k) ++ [g e] = A ++ pickM p g (l.take (k + 1)) := by
  rw [List.take_add_one, h]
  simp [pickM, List.filterMap_append, hp]
theorem pickM_f (h : l[k]? = some e) (hp : p e = false) : A ++ pickM p g (l.take k) = A ++ pickM p g (l.take (k + 1)) := by
  rw [List.take_add_one, h]
  simp [pickM, List.filterMap_append, hp]
theorem pickM_add : (A ++ pickM p g (l.take (k + 1))).length ≤ (A ++ pickM p g (l.take k)).length + 1 := by
  cases h : l[k]? with
  | none =>
    rw [List.take_add_one, h]
    simp
  | some e =>
    cases hp : p e with
    | true => rw [← pickM_t h hp]; simp; omega
    | false => rw [← pickM_f h hp]; omega
theorem pickM_len : (pickM p g l).length ≤ l.length := List.length_filterMap_le _ _
end
def delR (r : TRoute) : TOp := ⟨⟨2, rfl⟩, r, zNeigh, zFdb⟩
def delN (x : TNeigh) : TOp := ⟨⟨4, rfl⟩, zRoute, x, zFdb⟩
def delF (x : TFdb) : TOp := ⟨⟨6, rfl⟩, zRoute, zNeigh, x⟩
def putF (x : TFdb) : TOp := ⟨⟨5, rfl⟩, zRoute, zNeigh, x⟩
def putNe (x : TNeigh) : TOp := ⟨⟨3, rfl⟩, zRoute, x, zFdb⟩
def putR (r : TRoute) : TOp := ⟨⟨1, rfl⟩, r, zNeigh, zFdb⟩
def diffL (r1 : List TRoute) (n1 : List TNeigh) (f1 : List TFdb) (r2 : List TRoute) (n2 : List TNeigh) (f2 : List TFdb) : List TOp :=
  pickM (fun e => (e.Local == true) && !staysM n1 f1 r2 n2 f2 e) delR r1 ++ pickM (fun e => (e.Local == false) && !staysM n1 f1 r2 n2 f2 e) delR r1 ++ pickM (fun e => lacksM cmpNeigh zNeigh n2 e) delN n1 ++ pickM (fun e => lacksM cmpFdb zFdb f2 e) delF f1
    ++ pickM (fun e => lacksM cmpFdb zFdb f1 e) putF f2 ++ pickM (fun e => lacksM cmpNeigh zNeigh n1 e) putNe n2 ++ pickM (fun e => lacksM cmpRoute zRoute r1 e || !staysM n1 f1 r2 n2 f2 e) putR r2
def diffBad (r1 : List TRoute) (n1 : List TNeigh) (f1 : List TFdb) (r2 : List TRoute) (n2 : List TNeigh) (f2 : List TFdb) : Bool := !inOrderM r1 n1 f1 || !inOrderM r2 n2 f2
def diffM (r1 : List TRoute) (n1 : List TNeigh) (f1 : List TFdb) (r2 : List TRoute) (n2 : List TNeigh) (f2 : List TFdb) : List TOp := if diffBad r1 n1 f1 r2 n2 f2 then [] else diffL r1 n1 f1 r2 n2 f2
def diffE (r1 : List TRoute) (n1 : List TNeigh) (f1 : List TFdb) (r2 : List TRoute) (n2 : List TNeigh) (f2 : List TFdb) : Int := if diffBad r1 n1 f1 r2 n2 f2 then 161 else 0
end Go.Proofs.YtnbpodjbemfpbaaGreat.Fw
