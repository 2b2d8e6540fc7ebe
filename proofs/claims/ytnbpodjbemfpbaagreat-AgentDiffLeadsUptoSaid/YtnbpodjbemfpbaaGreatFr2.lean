/-
  Rows: bulk, structs with slices in them. By the session; nothing here is trusted.
-/
import Derived.Test.YtnbpodjbemfpbaaGreatFr1
import Derived.Test.YtnbpodjbemfpbaaGreatRows
set_option linter.all false
namespace Go.Proofs.YtnbpodjbemfpbaaGreat.Fw
open Go Go.ChangeShapes Go.WideShapes Go.ChangeAt Go.RowKit
theorem bulk_len {H : Type} : ∀ (l : List (DataW H)), l.length ≤ Rows.uptoBulkAll l
  | [] => Nat.le_refl _
  | d :: r => by
    have := bulk_len r
    have h1 : 1 ≤ Rows.uptoBulk d := by
      cases d with
      | lit l => cases l <;> simp [Rows.uptoBulk]
      | _ => simp [Rows.uptoBulk]
    simp only [Rows.uptoBulkAll, List.length_cons]
    omega
theorem bulk_mem {H : Type} {d : DataW H} : ∀ {l : List (DataW H)}, d ∈ l → Rows.uptoBulk d ≤ Rows.uptoBulkAll l
  | e :: r, h => by
    simp only [Rows.uptoBulkAll]
    rcases List.mem_cons.1 h with rfl | h
    · omega
    · have := bulk_mem h
      omega
section
variable {H : Type} {enc : TypeId × Value → H} {P : Program} {w : World} {base : Nat} {spare : Nat → Bool} {held : Bool} {fuel : Nat} {t : TypeId} {cs : List Value} {x : DataW H × List MemPlace}
theorem trod_fdB {i o n : Nat} {U : TypeId} {ag : Bool} (hf : fdI P t i = some (o, U)) (hu : tyI P U = some (ag, n)) (h : DataW.trod enc P w base spare held fuel t cs = some x) : ∃ m y, DataW.trod enc P w base spare held m U ((cs.drop o).take n) = some y ∧ Rows.uptoBulk y.1 < Rows.uptoBulk x.1 := by
  obtain ⟨fs, f, h1, h2, rfl, rfl⟩ := fdI_spec hf
  obtain ⟨xs, m, _, hx1, _, hx, hall⟩ := DataW.trod_struct h1 h
  have := hall i f h2
  rw [cellsOf_ty hu] at this
  have hi : i < xs.length := by
    rw [hx]
    exact (Array.getElem?_eq_some_iff.1 h2).1
  refine ⟨m, xs[i], by rw [this, List.getElem?_eq_getElem hi], ?_⟩
  rw [hx1]
  simp only [Rows.uptoBulk]
  have := bulk_mem (List.mem_map_of_mem (f := (·.1)) (List.getElem_mem hi))
  omega
theorem rd_sliceB {α : Type} {c : α → List Value} {E : TypeId} {ag : Bool} {k B : Nat} (ht : slI P t = some E) (hE : tyI P E = some (ag, k)) (hk : Nat.ble 1 k = true)
    (hel : ∀ (m : Nat) (es : List Value) (y : DataW H × List MemPlace), DataW.trod enc P w base spare held m E es = some y → ∃ z : α, es = c z) (hck : ∀ z : α, (c z).length = k)
    (h : DataW.trod enc P w base spare held fuel t cs = some x) (hB : Rows.uptoBulk x.1 ≤ B) (hB2 : Nat.ble B 140737488355328 = true) :
    ∃ (v : SH) (xs : List α), cs = [v.v] ∧ xs.length ≤ B ∧ RdS (hh w) k v.v (xs.map c) := by
  obtain ⟨v, xs, h1, h2, h3⟩ := rd_slice (c := c) ht hE hk hel hck h
  have hB3 : B ≤ 140737488355328 := Nat.le_of_ble_eq_true hB2
  have hl : xs.length ≤ B := by
    rcases h2 with ⟨_, rfl⟩ | ⟨els, sp, h4, h5⟩
    · simp
    · rw [h4] at hB
      simp only [Rows.uptoBulk] at hB
      have := bulk_len els
      omega
  exact ⟨v, xs, h1, hl, h3 (by omega)⟩
end
end Go.Proofs.YtnbpodjbemfpbaaGreat.Fw
