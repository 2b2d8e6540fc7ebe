/-
  Readings of tables, as arguments.
-/
import Derived.Test.YtnbpodjbemfpbaaGreatFr2
import Derived.Test.YtnbpodjbemfpbaaGreatRo
set_option linter.all false
namespace Go.Proofs.YtnbpodjbemfpbaaGreat.Fw
open Go Go.ChangeShapes Go.WideShapes
section
variable {H : Type} {enc : TypeId × Value → H} {w : World} {base : Nat} {spare : Nat → Bool} {held : Bool} {fuel : Nat} {cs : List Value} {x : DataW H × List MemPlace}
theorem rd_tables {B : Nat} (h : DataW.trod enc Tryz.prog w base spare held fuel 29 cs = some x) (hB : Rows.uptoBulk x.1 ≤ B) (hB2 : Nat.ble B 140737488355328 = true) :
    ∃ (v1 : SH) (r : List TRoute) (v2 : SH) (n : List TNeigh) (v3 : SH) (f : List TFdb), cs = [v1.v, v2.v, v3.v] ∧ r.length ≤ B ∧ n.length ≤ B ∧ f.length ≤ B ∧ RdS (hh w) 4 v1.v (r.map cRoute) ∧ RdS (hh w) 7 v2.v (n.map cNeigh) ∧ RdS (hh w) 7 v3.v (f.map cFdb) := by
  have hl := trod_len st29 ty29 h
  obtain ⟨m0, x0, h0, b0⟩ := trod_fdB fd29_0 ty25 h
  obtain ⟨m1, x1, h1, b1⟩ := trod_fdB fd29_1 ty26 h
  obtain ⟨m2, x2, h2, b2⟩ := trod_fdB fd29_2 ty27 h
  obtain ⟨v1, r, e1, l1, R1⟩ := rd_sliceB (c := cRoute) (B := B) sl25 ty51 (by kernel_rfl) (fun m es y h => open51 h) lRoute h0 (by omega) hB2
  obtain ⟨v2, n, e2, l2, R2⟩ := rd_sliceB (c := cNeigh) (B := B) sl26 ty54 (by kernel_rfl) (fun m es y h => open54 h) lNeigh h1 (by omega) hB2
  obtain ⟨v3, f, e3, l3, R3⟩ := rd_sliceB (c := cFdb) (B := B) sl27 ty56 (by kernel_rfl) (fun m es y h => open56 h) lFdb h2 (by omega) hB2
  refine ⟨v1, r, v2, n, v3, f, ?_, l1, l2, l3, R1, R2, R3⟩
  match cs, hl with
  | [a0, a1, a2], _ =>
    simp only [List.drop, List.take, List.cons.injEq, and_true] at e1 e2 e3
    rw [e1, e2, e3]
end
end Go.Proofs.YtnbpodjbemfpbaaGreat.Fw
