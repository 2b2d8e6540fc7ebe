/-
  Readings of arguments as model values: written by wip/tool/mkseat.py.
-/
import Derived.Test.YtnbpodjbemfpbaaGreatFr1
import Derived.Test.YtnbpodjbemfpbaaGreatTy
set_option linter.all false
namespace Go.Proofs.YtnbpodjbemfpbaaGreat.Fw
open Go
section
variable {H : Type} {enc : TypeId × Value → H} {w : World} {base : Nat} {spare : Nat → Bool} {held : Bool} {fuel : Nat} {cs : List Value} {x : DataW H × List MemPlace}
theorem open44 (h : DataW.trod enc Tryz.prog w base spare held fuel 44 cs = some x) : ∃ y : TPrefix, cs = cPrefix y := by
  have hl := trod_len st44 ty44 h
  obtain ⟨m0, x0, h0⟩ := trod_fd fd44_0 ty42 h
  obtain ⟨y0, e0⟩ := trod_fx in42 h0
  obtain ⟨m1, x1, h1⟩ := trod_fd fd44_1 ty3 h
  obtain ⟨y1, e1⟩ := trod_fx in3 h1
  match cs, hl with
  | [a0, a1], _ =>
    simp only [List.drop, List.take, List.cons.injEq, and_true] at e0 e1
    exact ⟨⟨y0, y1⟩, by simp [cPrefix, e0, e1]⟩
theorem open46 (h : DataW.trod enc Tryz.prog w base spare held fuel 46 cs = some x) : ∃ y : TMAC, cs = cMAC y := by
  have hl := trod_lenA ar46 ty46 h
  obtain ⟨m0, x0, h0⟩ := trod_el (i := 0) ar46 ty5 rfl h
  obtain ⟨y0, e0⟩ := trod_fx in5 h0
  obtain ⟨m1, x1, h1⟩ := trod_el (i := 1) ar46 ty5 rfl h
  obtain ⟨y1, e1⟩ := trod_fx in5 h1
  obtain ⟨m2, x2, h2⟩ := trod_el (i := 2) ar46 ty5 rfl h
  obtain ⟨y2, e2⟩ := trod_fx in5 h2
  obtain ⟨m3, x3, h3⟩ := trod_el (i := 3) ar46 ty5 rfl h
  obtain ⟨y3, e3⟩ := trod_fx in5 h3
  obtain ⟨m4, x4, h4⟩ := trod_el (i := 4) ar46 ty5 rfl h
  obtain ⟨y4, e4⟩ := trod_fx in5 h4
  obtain ⟨m5, x5, h5⟩ := trod_el (i := 5) ar46 ty5 rfl h
  obtain ⟨y5, e5⟩ := trod_fx in5 h5
  match cs, hl with
  | [a0, a1, a2, a3, a4, a5], _ =>
    simp only [List.drop, List.take, List.cons.injEq, and_true] at e0 e1 e2 e3 e4 e5
    exact ⟨⟨y0, y1, y2, y3, y4, y5⟩, by simp [cMAC, e0, e1, e2, e3, e4, e5]⟩
theorem open48 (h : DataW.trod enc Tryz.prog w base spare held fuel 48 cs = some x) : ∃ y : TLease, cs = cLease y := by
  have hl := trod_len st48 ty48 h
  obtain ⟨m0, x0, h0⟩ := trod_fd fd48_0 ty3 h
  obtain ⟨y0, e0⟩ := trod_fx in3 h0
  obtain ⟨m1, x1, h1⟩ := trod_fd fd48_1 ty44 h
  obtain ⟨y1, e1⟩ := open44 h1
  obtain ⟨m2, x2, h2⟩ := trod_fd fd48_2 ty42 h
  obtain ⟨y2, e2⟩ := trod_fx in42 h2
  obtain ⟨m3, x3, h3⟩ := trod_fd fd48_3 ty46 h
  obtain ⟨y3, e3⟩ := open46 h3
  obtain ⟨m4, x4, h4⟩ := trod_fd fd48_4 ty2 h
  obtain ⟨y4, e4⟩ := trod_fx in2 h4
  obtain ⟨m5, x5, h5⟩ := trod_fd fd48_5 ty2 h
  obtain ⟨y5, e5⟩ := trod_fx in2 h5
  match cs, hl with
  | [a0, a1, a2, a3, a4, a5, a6, a7, a8, a9, a10, a11], _ =>
    simp only [List.drop, List.take, cMAC, cPrefix, List.cons.injEq, and_true] at e0 e1 e2 e3 e4 e5
    exact ⟨⟨y0, y1, y2, y3, y4, y5⟩, by simp [cLease, e0, e1, e2, e3, e4, e5]⟩
end
end Go.Proofs.YtnbpodjbemfpbaaGreat.Fw
