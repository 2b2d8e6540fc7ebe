/-
  Own work: walks and laws, joined by wip/tool/compact.py.
-/
import Derived.Test.YtdallmabajeajaaGreatDoorG6

set_option linter.all false
set_option linter.all false
set_option maxRecDepth 100000
namespace Go.Proofs.YtdallmabajeajaaGreatDoor.Fw
open Go
section
variable {H : Type} {enc : TypeId × Value → H} {w : World} {base : Nat} {spare : Nat → Bool} {held : Bool} {fuel : Nat} {cs : List Value} {x : DataW H × List MemPlace}
theorem o_weftlaw11_Op (h : DataW.trod enc Tryz.prog w base spare held fuel 97 cs = some x) : ∃ y : Qweftlaw11_Op, cs = cweftlaw11_Op y ∧ Rweftlaw11_Op y := by
  have hl := trod_len (stt rfl) (tt rfl) h
  obtain ⟨m0, x0, h0⟩ := trod_fd (i := 0) (ft rfl rfl) (tt rfl) h
  obtain ⟨y0, e0, g0⟩ := trod_i (int_ rfl) h0
  obtain ⟨m1, x1, h1⟩ := trod_fd (i := 1) (ft rfl rfl) (tt rfl) h
  obtain ⟨y1, e1, g1⟩ := trod_i (int_ rfl) h1
  obtain ⟨m2, x2, h2⟩ := trod_fd (i := 2) (ft rfl rfl) (tt rfl) h
  obtain ⟨y2, e2, g2⟩ := o_Cmd h2
  obtain ⟨m3, x3, h3⟩ := trod_fd (i := 3) (ft rfl rfl) (tt rfl) h
  obtain ⟨y3, e3, g3⟩ := trod_i (int_ rfl) h3
  obtain ⟨m4, x4, h4⟩ := trod_fd (i := 4) (ft rfl rfl) (tt rfl) h
  obtain ⟨y4, e4, g4⟩ := trod_i (int_ rfl) h4
  obtain ⟨m5, x5, h5⟩ := trod_fd (i := 5) (ft rfl rfl) (tt rfl) h
  obtain ⟨y5, e5, g5⟩ := trod_i (int_ rfl) h5
  match cs, hl with
  | [a0, a1, a2, a3, a4, a5, a6, a7, a8, a9, a10, a11, a12, a13, a14, a15, a16], _ =>
    simp only [List.drop, List.take, cCmd, List.cons.injEq, and_true] at e0 e1 e2 e3 e4 e5
    exact ⟨⟨y0, y1, y2, y3, y4, y5⟩, by simp [cweftlaw11_Op, e0, e1, e2, e3, e4, e5], (And.intro g0 (And.intro g1 (And.intro g2 (And.intro g3 (And.intro g4 g5)))))⟩
end
end Go.Proofs.YtdallmabajeajaaGreatDoor.Fw
