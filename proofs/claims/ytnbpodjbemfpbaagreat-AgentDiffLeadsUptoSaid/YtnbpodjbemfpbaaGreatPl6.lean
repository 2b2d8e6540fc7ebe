/-
  Plain laws of AgentPlanWhole: a plan is in order and whole, a route for each valid subnet, the last lease of a key decides.
-/
import Derived.Test.YtnbpodjbemfpbaaGreatPl5
set_option linter.all false
namespace Go.Proofs.YtnbpodjbemfpbaaGreat.Fw
open Go
/-! tables made of lists -/
section
variable {α κ : Type} [DecidableEq κ] {lt : κ → κ → Bool} (O : KO κ lt) (key : α → κ)
include O in
include O in
include O in
include O in
theorem srt_nodup [DecidableEq α] {l : List α} (h : Srt lt key l) : l.Nodup := by
  refine List.Pairwise.imp (fun {a b} hab => ?_) h
  rintro rfl
  rw [O.irr] at hab
  cases hab
end
/-! the plan as tables -/
def wholeN (f : List TFdb) (e : TRoute) (x : TNeigh) : Bool := (x.IP.v == e.Via.v) && f.any fun y => decide (y.MAC = x.MAC)
def wholeE (n : List TNeigh) (f : List TFdb) (e : TRoute) : Bool := e.Local || n.any (wholeN f e)
def wholeM (r : List TRoute) (n : List TNeigh) (f : List TFdb) : Bool := r.all (wholeE n f)
/-! the last lease of a key -/
/-! the walk's words -/
section
variable {l : List TLease} {host : Int} {x e : TLease} {p : TLease → Bool} {i j k k4 : Nat} {b b0 c : Bool} {N : List TNeigh} {F : List TFdb} {cr cn cn4 : Int}
end
section
variable {α : Type} {l : List α} {p : α → Bool} {k : Nat} {e : α}
theorem any_take_succ (h : l[k]? = some e) : (l.take (k + 1)).any p = ((l.take k).any p || p e) := by
  rw [List.take_add_one, h]
  simp
theorem all_take_succ (h : l[k]? = some e) : (l.take (k + 1)).all p = ((l.take k).all p && p e) := by
  rw [List.take_add_one, h]
  simp
theorem any_take_end (hk : l.length ≤ k) : (l.take k).any p = l.any p := by rw [List.take_of_length_le hk]
theorem all_take_end (hk : l.length ≤ k) : (l.take k).all p = l.all p := by rw [List.take_of_length_le hk]
theorem all_false (h : l[k]? = some e) (hp : p e = false) : l.all p = false := by
  rw [List.all_eq_false]
  exact ⟨e, List.mem_of_getElem? h, by simp [hp]⟩
end
theorem shl_pow {n : Int} (h0 : 0 ≤ n) (h1 : n ≤ 32) : IntKind.i64.wrap (1 * 2 ^ (min n.toNat 64)) = (2 ^ n.toNat : Int) := by
  rw [show min n.toNat 64 = n.toNat by omega, Int.one_mul]
  have h2 : (2 : Int) ^ n.toNat ≤ 2 ^ 32 := by
    have := Nat.pow_le_pow_right (n := 2) (by omega) (show n.toNat ≤ 32 by omega)
    exact_mod_cast this
  have h3 : (0 : Int) < (2 : Int) ^ n.toNat := Int.pow_pos (by omega)
  exact wrap_i64 (by omega) (by omega)
theorem tm_eq (a : Int) : (a == 0) = ((if a ≠ 0 then (12 : Int) else 0) == 0) := by
  by_cases h : a = 0 <;> simp [h]
end Go.Proofs.YtnbpodjbemfpbaaGreat.Fw
