/-
  Readings of arguments as model values: written by wip/tool/mkseat.py.
-/
import Derived.Test.YtnbpodjbemfpbaaGreatFr1
import Derived.Test.YtnbpodjbemfpbaaGreatTy
set_option linter.all false
namespace Go.Proofs.YtnbpodjbemfpbaaGreat.Fw
open Go
section
variable {H : Type} {enc : TypeId × Value → H} {w : World} {base : Nat} {spare : Nat → Bool} {held : Bool} {fuel : Nat} {cs : List Value} {x : DataW H × List MemPlace}
theorem open44 (h : DataW.trod enc Tryz.prog w base spare held fuel 44 cs = some x) : ∃ y : TPrefix, cs = cPrefix y := by
  have hl := trod_len st44 ty44 h
  obtain ⟨m0, x0, h0⟩ := trod_fd fd44_0 ty42 h
  obtain ⟨y0, e0⟩ := trod_fx in42 h0
  obtain ⟨m1, x1, h1⟩ := trod_fd fd44_1 ty3 h
  obtain ⟨y1, e1⟩ := trod_fx in3 h1
  match cs, hl with
  | [a0, a1], _ =>
    simp only [List.drop, List.take, List.cons.injEq, and_true] at e0 e1
    exact ⟨⟨y0, y1⟩, by simp [cPrefix, e0, e1]⟩
theorem open46 (h : DataW.trod enc Tryz.prog w base spare held fuel 46 cs = some x) : ∃ y : TMAC, cs = cMAC y := by
  have hl := trod_lenA ar46 ty46 h
  obtain ⟨m0, x0, h0⟩ := trod_el (i := 0) ar46 ty5 rfl h
  obtain ⟨y0, e0⟩ := trod_fx in5 h0
  obtain ⟨m1, x1, h1⟩ := trod_el (i := 1) ar46 ty5 rfl h
  obtain ⟨y1, e1⟩ := trod_fx in5 h1
  obtain ⟨m2, x2, h2⟩ := trod_el (i := 2) ar46 ty5 rfl h
  obtain ⟨y2, e2⟩ := trod_fx in5 h2
  obtain ⟨m3, x3, h3⟩ := trod_el (i := 3) ar46 ty5 rfl h
  obtain ⟨y3, e3⟩ := trod_fx in5 h3
  obtain ⟨m4, x4, h4⟩ := trod_el (i := 4) ar46 ty5 rfl h
  obtain ⟨y4, e4⟩ := trod_fx in5 h4
  obtain ⟨m5, x5, h5⟩ := trod_el (i := 5) ar46 ty5 rfl h
  obtain ⟨y5, e5⟩ := trod_fx in5 h5
  match cs, hl with
  | [a0, a1, a2, a3, a4, a5], _ =>
    simp only [List.drop, List.take, List.cons.injEq, and_true] at e0 e1 e2 e3 e4 e5
    exact ⟨⟨y0, y1, y2, y3, y4, y5⟩, by simp [cMAC, e0, e1, e2, e3, e4, e5]⟩
theorem open51 (h : DataW.trod enc Tryz.prog w base spare held fuel 51 cs = some x) : ∃ y : TRoute, cs = cRoute y := by
  have hl := trod_len st51 ty51 h
  obtain ⟨m0, x0, h0⟩ := trod_fd fd51_0 ty44 h
  obtain ⟨y0, e0⟩ := open44 h0
  obtain ⟨m1, x1, h1⟩ := trod_fd fd51_1 ty42 h
  obtain ⟨y1, e1⟩ := trod_fx in42 h1
  obtain ⟨m2, x2, h2⟩ := trod_fd fd51_2 ty4 h
  obtain ⟨y2, e2⟩ := trod_bo ub4 h2
  match cs, hl with
  | [a0, a1, a2, a3], _ =>
    simp only [List.drop, List.take, cPrefix, List.cons.injEq, and_true] at e0 e1 e2
    exact ⟨⟨y0, y1, y2⟩, by simp [cRoute, e0, e1, e2]⟩
theorem open54 (h : DataW.trod enc Tryz.prog w base spare held fuel 54 cs = some x) : ∃ y : TNeigh, cs = cNeigh y := by
  have hl := trod_len st54 ty54 h
  obtain ⟨m0, x0, h0⟩ := trod_fd fd54_0 ty42 h
  obtain ⟨y0, e0⟩ := trod_fx in42 h0
  obtain ⟨m1, x1, h1⟩ := trod_fd fd54_1 ty46 h
  obtain ⟨y1, e1⟩ := open46 h1
  match cs, hl with
  | [a0, a1, a2, a3, a4, a5, a6], _ =>
    simp only [List.drop, List.take, cMAC, List.cons.injEq, and_true] at e0 e1
    exact ⟨⟨y0, y1⟩, by simp [cNeigh, e0, e1]⟩
theorem open56 (h : DataW.trod enc Tryz.prog w base spare held fuel 56 cs = some x) : ∃ y : TFdb, cs = cFdb y := by
  have hl := trod_len st56 ty56 h
  obtain ⟨m0, x0, h0⟩ := trod_fd fd56_0 ty46 h
  obtain ⟨y0, e0⟩ := open46 h0
  obtain ⟨m1, x1, h1⟩ := trod_fd fd56_1 ty42 h
  obtain ⟨y1, e1⟩ := trod_fx in42 h1
  match cs, hl with
  | [a0, a1, a2, a3, a4, a5, a6], _ =>
    simp only [List.drop, List.take, cMAC, List.cons.injEq, and_true] at e0 e1
    exact ⟨⟨y0, y1⟩, by simp [cFdb, e0, e1]⟩
end
end Go.Proofs.YtnbpodjbemfpbaaGreat.Fw
