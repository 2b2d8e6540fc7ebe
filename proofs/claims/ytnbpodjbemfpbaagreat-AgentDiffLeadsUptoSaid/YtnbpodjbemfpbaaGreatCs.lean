/-
  AgentDiffLeads: the row.
-/
import Derived.Test.YtnbpodjbemfpbaaGreatWw
import Derived.Test.YtnbpodjbemfpbaaGreatRo2
import Derived.Test.YtnbpodjbemfpbaaGreatRows
import Derived.Test.YtnbpodjbemfpbaaGreatChecked
import Derived.WalkKit
set_option linter.all false
set_option maxRecDepth 100000
namespace Go.Proofs.YtnbpodjbemfpbaaGreat.agentDiffLeads
open Go Go.ChangeShapes Go.WideShapes Go.ChangeAt Go.RowKit Go.Proofs.YtnbpodjbemfpbaaGreat.Fw
theorem own : ownKnob Tryz.prog.godebug = none := by kernel_rfl
theorem laid : laidOutB Tryz.prog = true := by kernel_rfl
theorem contract (H : Type) (enc : TypeId × Value → H) (W : World) (base : Nat) (args : Array Value) (ds gs : List (DataW H)) (before : List MemPlace)
    (hk : Rows.uptoSmall H (ds ++ gs) = true)
    (hval : ∀ (j : Nat) t v, Tryz.f6.params[j]? = some t → args[j]? = some v → Value.okWide Tryz.prog W .any base t v)
    (hW : DataW.Whole enc Tryz.prog Tryz.f6.params.toList Rows.agentDiffLeadsSpec.vars false W args.toList ds gs before) :
    Calls Tryz.prog 6 args W fun e W' => ∃ v, e = .returned v ∧ Rows.agentDiffLeadsSpec.post enc Tryz.prog Tryz.f6 false true false false W args v W' := by
  have hW' := hW
  obtain ⟨p, q, hA0, hV, rfl, hfz, hnd⟩ := hW
  have hA : DataW.TrodAll enc Tryz.prog W 0 (fun _ => true) true Tryz.f6.params.toList args.toList ds p := hA0
  have hp : Tryz.f6.params = #[29, 29] := by kernel_rfl
  rw [hp] at hA hval
  have hA1 := hA
  obtain ⟨v0, vs0, d0, ds0, p0, q0, hargs, rfl, rfl, h0, r0⟩ := trodAll_cons hA
  obtain ⟨v1, vs1, d1, ds1, p1, q1, rfl, rfl, rfl, h1, r1⟩ := trodAll_cons r0
  obtain ⟨rfl, rfl, rfl⟩ := trodAll_nil r1
  obtain rfl : args = #[v0, v1] := by cases args; simp_all
  obtain ⟨rfl, rfl⟩ := trodVars_none hV
  have hk' : Rows.uptoBulkAll ([d0, d1] ++ []) ≤ 1048576 := of_decide_eq_true hk
  simp only [List.cons_append, List.nil_append, Rows.uptoBulkAll] at hk'
  obtain ⟨fs0, g0, _⟩ := stI_spec st29
  obtain ⟨⟨c0⟩, rfl, _⟩ := okWide_struct g0 (hval 0 29 v0 rfl rfl)
  obtain ⟨⟨c1⟩, rfl, _⟩ := okWide_struct g0 (hval 1 29 v1 rfl rfl)
  obtain ⟨fuel0, f0⟩ := h0
  obtain ⟨fuel1, f1⟩ := h1
  obtain ⟨u1, r1, u2, n1, u3, m1, e0, a1, a2, a3, b1, b2, b3⟩ := rd_tables (B := 1048576) f0 (by simp only; omega) (by kernel_rfl)
  obtain ⟨u4, r2, u5, n2, u6, m2, e1, a4, a5, a6, b4, b5, b6⟩ := rd_tables (B := 1048576) f1 (by simp only; omega) (by kernel_rfl)
  simp only [Value.cells] at e0 e1
  subst e0 e1
  refine (agentDiffLeads_c u1 r1 u2 n1 u3 m1 u4 r2 u5 n2 u6 m2 W b1 b2 b3 b4 b5 b6 a1 a2 a3 a4 a5 a6).mono fun e W' ⟨he, hg⟩ => ?_
  subst he
  have hb := hg.below
  refine ⟨_, rfl, post_kept (pa := p0 ++ (p1 ++ [])) (pv := []) hW' hb (fun _ _ _ => trodAll_cons_mk (shut_bool ub4 _) trodAll_mk0) (fun sp hsp => ?_) (fun _ _ => rfl) (by simp) (ok_one (by kernel_rfl) rfl (okWide_bool_mk ub4 _))⟩
  rw [hp]
  exact trodAll_kept laid hb (by simp only [List.mem_cons, List.not_mem_nil, or_false]; rintro t (rfl | rfl); exact ⟨by kernel_rfl, of_decide_eq_true (by kernel_rfl)⟩; exact ⟨by kernel_rfl, of_decide_eq_true (by kernel_rfl)⟩) (fun y hy => hW'.lt y (by simpa using hy)) (fun y hy => hsp y (by simpa using hy)) hA1
set_option maxRecDepth 100000 in
theorem lifted (os : Os) (started : os.Started) (H : Type) (enc : TypeId × Value → H) (F : Stop.Interp) :
    ReturnsInHanded {} Tryz.checked os 6 .any ((Rows.OpenSpec.upto Rows.agentDiffLeadsSpec).pre6 enc Tryz.prog Tryz.f6 Rows.agentDiffLeadsUptoRow.domain false) (((Rows.OpenSpec.upto Rows.agentDiffLeadsSpec).at F).post enc Tryz.prog Tryz.f6 false true false false) := by
  refine returnsInHanded_of_cond (C := Tryz.checked) (s := Rows.OpenSpec.upto Rows.agentDiffLeadsSpec) (k := Rows.uptoSmall) rfl own started (by kernel_rfl) Tryz.func6
    (OpenSpec.witness (enc := enc) (C := Tryz.checked) (s := Rows.OpenSpec.upto Rows.agentDiffLeadsSpec) (k := Rows.uptoSmall) rfl false ⟨#[], #[.agg #[.slice none 0 0, .slice none 0 0, .slice none 0 0], .agg #[.slice none 0 0, .slice none 0 0, .slice none 0 0]], []⟩ 8 (by kernel_rfl) (by kernel_rfl) (by kernel_rfl)
      (x := ([.agg [.nil, .nil, .nil], .agg [.nil, .nil, .nil]], [], [])) (by kernel_rfl) rfl (by kernel_rfl)) ?_
  intro W base args ds gs before hval hW _ hk _
  exact contract H enc W base args ds gs before hk hval hW
theorem over : Rows.agentDiffLeadsUptoRow.holds Tryz.pinned (Rows.OpenSpec.upto Rows.agentDiffLeadsSpec) :=
  OpenClaim.holds_of_cond 6 Tryz.f6 rfl rfl rfl rfl rfl rfl rfl ⟨rfl, rfl, rfl, rfl, rfl⟩ rfl rfl rfl rfl rfl (by kernel_rfl) Tryz.func6 (by kernel_rfl)
    (of_decide_eq_true (by kernel_rfl)) (by unfold Func.isWrapper; rw [if_neg (of_decide_eq_false (by kernel_rfl))]; exact ⟨rfl, rfl⟩)
    (fun os started H enc _ F => lifted os started H enc F)
theorem proved : Rows.AgentDiffLeadsUptoSaid :=
  over
end Go.Proofs.YtnbpodjbemfpbaaGreat.agentDiffLeads
