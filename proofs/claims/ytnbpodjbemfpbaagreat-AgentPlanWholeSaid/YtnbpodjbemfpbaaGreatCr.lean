/-
  AgentPlanWhole: the row.
-/
import Derived.Test.YtnbpodjbemfpbaaGreatWu
import Derived.Test.YtnbpodjbemfpbaaGreatRo2
import Derived.Test.YtnbpodjbemfpbaaGreatRows
import Derived.Test.YtnbpodjbemfpbaaGreatChecked
import Derived.WalkKit
import Derived.HandedShaped
set_option linter.all false
set_option maxRecDepth 100000
namespace Go.Proofs.YtnbpodjbemfpbaaGreat.agentPlanWhole
open Go Go.ChangeShapes Go.WideShapes Go.ChangeAt Go.RowKit Go.Proofs.YtnbpodjbemfpbaaGreat.Fw
theorem own : ownKnob Tryz.prog.godebug = none := by kernel_rfl
theorem laid : laidOutB Tryz.prog = true := by kernel_rfl
theorem contract (H : Type) (enc : TypeId × Value → H) (W : World) (base : Nat) (args : Array Value) (ds gs : List (DataW H)) (before : List MemPlace)
    (hk : (DataW.weightsEach Tryz.prog (Tryz.f5.params.toList ++ Rows.agentPlanWholeSpec.plain.varTypes Tryz.prog) (ds ++ gs)).all (· ≤ reachBytes) = true)
    (hval : ∀ (j : Nat) t v, Tryz.f5.params[j]? = some t → args[j]? = some v → Value.okWide Tryz.prog W .any base t v)
    (hW : DataW.Whole enc Tryz.prog Tryz.f5.params.toList Rows.agentPlanWholeSpec.vars false W args.toList ds gs before) :
    Calls Tryz.prog 5 args W fun e W' => ∃ v, e = .returned v ∧ Rows.agentPlanWholeSpec.post enc Tryz.prog Tryz.f5 false true false false W args v W' := by
  have hW' := hW
  obtain ⟨p, q, hA0, hV, rfl, hfz, hnd⟩ := hW
  have hA : DataW.TrodAll enc Tryz.prog W 0 (fun _ => true) true Tryz.f5.params.toList args.toList ds p := hA0
  have hp : Tryz.f5.params = #[22, 3] := by kernel_rfl
  rw [hp] at hA hval
  have hA1 := hA
  obtain ⟨v0, vs0, d0, ds0, p0, q0, hargs, rfl, rfl, h0, r0⟩ := trodAll_cons hA
  obtain ⟨v1, vs1, d1, ds1, p1, q1, rfl, rfl, rfl, h1, r1⟩ := trodAll_cons r0
  obtain ⟨rfl, rfl, rfl⟩ := trodAll_nil r1
  obtain rfl : args = #[v0, v1] := by cases args; simp_all
  obtain ⟨rfl, rfl⟩ := trodVars_none hV
  obtain ⟨host, rfl, rfl, rfl, w1⟩ := open_int (inI_spec in3) (hval 1 3 v1 rfl rfl) h1
  obtain ⟨a0, l0, c0, rfl⟩ := okWide_slice (slI_spec sl22) (hval 0 22 v0 rfl rfl)
  obtain ⟨fuel, hf⟩ := h0
  obtain ⟨x, leases, e1, e2, hrd⟩ := rd_slice (c := cLease) (E := 48) (k := 12) sl22 ty48 (by kernel_rfl) (fun m es y h => open48 h) lLease hf
  have hv : Value.slice a0 l0 c0 = x.v := by simpa [Value.cells] using e1
  have hlen : leases.length ≤ 2599999999990 := by
    rcases e2 with ⟨_, rfl⟩ | ⟨els, sp, h1, h2⟩
    · simp
    · simp only at h1
      subst h1
      rw [hp] at hk
      have hu : Tryz.prog.underlying 22 = some (.slice 48) := slI_spec sl22
      have hby : Tryz.prog.bytesOf 48 = 56 := by
        have := by48
        unfold byI at this
        unfold Program.bytesOf
        cases hi : Tryz.prog.info? 48 with
        | none => rw [hi] at this; cases this
        | some i => rw [hi] at this; simp only [Option.map_some, Option.some.injEq] at this ⊢; simpa using this
      simp only [List.cons_append, List.nil_append, DataW.weightsEach, DataW.weights, hu, List.all_cons, List.cons_append, Bool.and_eq_true, decide_eq_true_eq, hby, reachBytes] at hk
      have hk1 := of_decide_eq_true hk.1
      omega
  rw [hv] at hA1 hW' ⊢
  refine (agentPlanWhole_c x leases host W (hrd (by omega)) hlen).mono fun e W' ⟨he, hg⟩ => ?_
  subst he
  have hb := hg.below
  refine ⟨_, rfl, post_kept (pa := p0 ++ ([] ++ [])) (pv := []) hW' hb (fun _ _ _ => trodAll_cons_mk (shut_bool ub4 _) trodAll_mk0) (fun sp hsp => ?_) (fun _ _ => rfl) (by simp) (ok_one (by kernel_rfl) rfl (okWide_bool_mk ub4 _))⟩
  rw [hp]
  exact trodAll_kept laid hb (by simp only [List.mem_cons, List.not_mem_nil, or_false]; rintro t (rfl | rfl); exact ⟨by kernel_rfl, of_decide_eq_true (by kernel_rfl)⟩; exact ⟨by kernel_rfl, of_decide_eq_true (by kernel_rfl)⟩) (fun y hy => hW'.lt y (by simpa using hy)) (fun y hy => hsp y (by simpa using hy)) hA1
set_option maxRecDepth 100000 in
theorem lifted (os : Os) (started : os.Started) (H : Type) (enc : TypeId × Value → H) :
    ReturnsInHanded {} Tryz.checked os 5 .any (Rows.agentPlanWholeSpec.pre6 enc Tryz.prog Tryz.f5 Rows.agentPlanWholeRow.domain false) (Rows.agentPlanWholeSpec.post enc Tryz.prog Tryz.f5 false true false false) := by
  refine returnsInHanded_of_change_shaped (C := Tryz.checked) own started (by kernel_rfl) Tryz.func5
    (ChangeSpec.witness6 (enc := enc) (C := Tryz.checked) false ⟨#[], #[.slice none 0 0, .int .i64 0], []⟩ 8 (by kernel_rfl) (by kernel_rfl) (by kernel_rfl) (by kernel_rfl)) ?_
  intro W base args ds gs before hval hW _ hk _ _
  exact contract H enc W base args ds gs before hk hval hW
theorem over : Rows.agentPlanWholeRow.holds Tryz.pinned (OpenSpec.ofChange Rows.agentPlanWholeSpec) :=
  OpenClaim.holds_of_wide 5 Tryz.f5 rfl rfl rfl rfl rfl rfl rfl ⟨rfl, rfl, rfl, rfl, rfl⟩ rfl rfl rfl rfl rfl (by kernel_rfl) Tryz.func5 (by kernel_rfl)
    (of_decide_eq_true (by kernel_rfl)) (by unfold Func.isWrapper; rw [if_neg (of_decide_eq_false (by kernel_rfl))]; exact ⟨rfl, rfl⟩)
    (fun os started H enc _ => lifted os started H enc)
theorem proved : Rows.AgentPlanWholeSaid :=
  over
end Go.Proofs.YtnbpodjbemfpbaaGreat.agentPlanWhole
