/-
  Own work: walks and laws, joined by wip/tool/compact.py.
-/
import Derived.Test.YtdallmabajeajaaGreatDoorG10
import Derived.Test.YtdallmabajeajaaGreatDoorG9
import Derived.Test.YtdallmabajeajaaGreatDoorCards
import Derived.Test.YtdallmabajeajaaGreatDoorTie
import Derived.WalkKit
set_option linter.all false
set_option linter.all false
set_option maxRecDepth 100000
set_option maxHeartbeats 4000000
namespace Go.Proofs.YtdallmabajeajaaGreatDoor.leaseImages
open Go Go.ChangeShapes Go.WideShapes Go.ChangeAt Go.RowKit Go.Proofs.YtdallmabajeajaaGreatDoor.Fw Go.Proofs.YtdallmabajeajaaGreatDoor
theorem own : ownKnob Tryz.prog.godebug = none := by kernel_rfl
theorem laid : laidOutB Tryz.prog = true := by kernel_rfl
theorem contract (H : Type) (enc : TypeId × Value → H) (W : World) (base : Nat) (args : Array Value) (ds gs : List (DataW H)) (before : List MemPlace) (vt : List TypeId)
    (hk : (DataW.weightsEach Tryz.prog (Tryz.f14.params.toList ++ vt) (ds ++ gs)).all (· ≤ reachBytes) = true)
    (hval : ∀ (j : Nat) t v, Tryz.f14.params[j]? = some t → args[j]? = some v → Value.okWide Tryz.prog W .any base t v)
    (hW : DataW.Whole enc Tryz.prog Tryz.f14.params.toList Rows.leaseImagesSpec.vars false W args.toList ds gs before) (hL : laidMetH Tryz.prog Rows.leaseImagesRow.laid W) :
    Calls Tryz.prog 14 args W fun e W' => ∃ v, e = .returned v ∧ Rows.leaseImagesSpec.post enc Tryz.prog Tryz.f14 false true false false W args v W' := by
  obtain ⟨X, hC⟩ := cls_of_laid hL
  have hW' := hW
  obtain ⟨p, q, hA0, hV, rfl, hfz, hnd⟩ := hW
  have hA : DataW.TrodAll enc Tryz.prog W 0 (fun _ => true) true Tryz.f14.params.toList args.toList ds p := hA0
  have hp : Tryz.f14.params = #[79, 80] := by kernel_rfl
  rw [hp] at hA hval hk
  have hA1 := hA
  obtain ⟨v0, vs0, d0, ds0, p0, q0, hargs, rfl, rfl, h0, t0⟩ := trodAll_cons hA
  obtain ⟨v1, vs1, d1, ds1, p1, q1, rfl, rfl, rfl, h1, t1⟩ := trodAll_cons t0
  obtain ⟨rfl, rfl, rfl⟩ := trodAll_nil t1
  obtain rfl : args = #[v0, v1] := by cases args; simp_all
  obtain ⟨rfl, rfl⟩ := trodVars_none hV
  obtain ⟨⟨c0⟩, rfl, _⟩ := okWide_arr (arI_spec (P := Tryz.prog) (T := 79) (art rfl)) (hval 0 79 v0 rfl rfl)
  obtain ⟨fuel0, f0⟩ := h0
  obtain ⟨k0, k1, rs0, rs1, e0, ⟨ca1, ca2, ca3, ca4⟩, ⟨cb1, cb2, cb3, cb4⟩⟩ := o_two f0
  have hla : rs0.length * 24 ≤ 140737488351232 := by
    rcases ca3 with rfl | ⟨n, hn, hl⟩
    · simp
    · have := w_le hk (w_each (i := 0) rfl rfl hn); omega
  have hlb : rs1.length * 24 ≤ 140737488351232 := by
    rcases cb3 with rfl | ⟨n, hn, hl⟩
    · simp
    · have := w_le hk (w_each (i := 0) rfl rfl hn); omega
  simp only [Value.cells] at e0
  subst e0
  obtain ⟨ad1, ln1, cp1, rfl⟩ := okWide_slice (slI_spec (P := Tryz.prog) (T := 80) (slt rfl)) (hval 1 80 v1 rfl rfl)
  obtain ⟨fuel1, f1⟩ := h1
  obtain ⟨x1, l1, e1, b1, bq1, br1⟩ := rd_slW (c := cweftlaw11_Op) (slt rfl) (tt rfl) (byt rfl) (by kernel_rfl) (by kernel_rfl) (fun m es y h => o_weftlaw11_Op h) (fun _ => rfl) f1
  have hl1 : l1.length ≤ 140737488355328 := by
    rcases b1 with rfl | ⟨n, hn, hl⟩
    · simp
    · have := w_le hk (w_each (i := 1) rfl rfl hn); omega
  have hv1 : Value.slice ad1 ln1 cp1 = x1.v := by simpa [Value.cells] using e1
  rw [hv1] at hA1 hW' ⊢
  refine (ctp_start (leaseImages_c k0 k1 rs0 rs1 X (hh W) hC ⟨cfg_rng ca1, fun r hr => u32_rng (ca2 r hr).2.1, hla, ca4 (by omega)⟩ ⟨cfg_rng cb1, fun r hr => u32_rng (cb2 r hr).2.1, hlb, cb4 (by omega)⟩ x1 l1 (br1 hl1) bq1)).mono fun e W' ⟨he, hb⟩ => ?_
  subst he
  refine ⟨_, rfl, post_kept (pa := p0 ++ (p1 ++ [])) (pv := []) hW' hb (fun _ _ _ => trodAll_cons_mk (shut_bool (bot (T := 4) rfl) _) trodAll_mk0) (fun sp hsp => ?_) (fun _ _ => rfl) (by simp) (ok_one (by kernel_rfl) rfl (okWide_bool_mk (bot (T := 4) rfl) _))⟩
  rw [hp]
  exact trodAll_kept laid hb (by simp only [List.mem_cons, List.not_mem_nil, or_false]; rintro t (rfl | rfl) <;> exact ⟨by kernel_rfl, of_decide_eq_true (by kernel_rfl)⟩) (fun y hy => hW'.lt y (by simpa using hy)) (fun y hy => hsp y (by simpa using hy)) hA1
def args0 : Array Value := #[.agg #[.int .u32 0, .int .i64 0, .int .i64 0, .int .u32 0, .int .u32 0, .int .i64 0, .int .i64 0, .int .i64 0, .int .i64 0, .int .i64 0, .int .i64 0, .int .i64 0, .int .u32 0, .int .i64 0, .int .i64 0, .int .i64 0, .int .i64 0, .slice none 0 0, .int .u32 0, .int .i64 0, .int .i64 0, .int .u32 0, .int .u32 0, .int .i64 0, .int .i64 0, .int .i64 0, .int .i64 0, .int .i64 0, .int .i64 0, .int .i64 0, .int .u32 0, .int .i64 0, .int .i64 0, .int .i64 0, .int .i64 0, .slice none 0 0], .slice none 0 0]
theorem laid_met (os : Os) : laidMetH Tryz.prog Rows.leaseImagesRow.laid ((World.doorLaid Tryz.prog 400 os).forCall (fun _ _ => 0) ⟨#[], args0, []⟩).memory :=
  laidMetH_of_parts3 (fuel := 8) (laidMet_of_run' 8 (by kernel_rfl) (by kernel_rfl)) (by kernel_rfl) (by kernel_rfl)
theorem reads (os : Os) {H : Type} (enc : TypeId × Value → H) : ∃ places, DataW.whole enc Tryz.prog ((World.doorLaid Tryz.prog 400 os).forCall (fun _ _ => 0) ⟨#[], args0, []⟩).memory Tryz.f14.params.toList Rows.leaseImagesSpec.vars false args0.toList 8 = some ([.agg [.agg [.agg [.lit (.int .u32 0), .lit (.int .i64 0)], .lit (.int .i64 0), .lit (.int .u32 0), .lit (.int .u32 0), .lit (.int .i64 0), .lit (.int .i64 0), .lit (.int .i64 0), .lit (.int .i64 0), .lit (.int .i64 0), .lit (.int .i64 0), .lit (.int .i64 0), .lit (.int .u32 0), .lit (.int .i64 0), .lit (.int .i64 0), .lit (.int .i64 0), .lit (.int .i64 0), .nil], .agg [.agg [.lit (.int .u32 0), .lit (.int .i64 0)], .lit (.int .i64 0), .lit (.int .u32 0), .lit (.int .u32 0), .lit (.int .i64 0), .lit (.int .i64 0), .lit (.int .i64 0), .lit (.int .i64 0), .lit (.int .i64 0), .lit (.int .i64 0), .lit (.int .i64 0), .lit (.int .u32 0), .lit (.int .i64 0), .lit (.int .i64 0), .lit (.int .i64 0), .lit (.int .i64 0), .nil]], .nil], [], places) :=
  ⟨[], by kernel_rfl⟩
theorem lifted (os : Os) (started : os.Started) (H : Type) (enc : TypeId × Value → H) (F : Stop.Interp) :
    ReturnsInHanded {} Tryz.checked os 14 .any ((OpenSpec.ofChange Rows.leaseImagesSpec).preRow enc Tryz.prog Tryz.f14 Rows.leaseImagesRow.domain false Rows.leaseImagesRow.laid) (((OpenSpec.ofChange Rows.leaseImagesSpec).at F).post enc Tryz.prog Tryz.f14 false true false false) := by
  obtain ⟨places, hx⟩ := reads os enc
  refine returnsInHanded_of_row (C := Tryz.checked) (s := OpenSpec.ofChange Rows.leaseImagesSpec) own started (by kernel_rfl) Tryz.func14
    (witness_row_atRef (enc := enc) (C := Tryz.checked) false (World.doorLaid Tryz.prog 400 os) args0 rfl (by kernel_rfl) (by kernel_rfl) (by kernel_rfl)
      (OpenSpec.preRow_of_cond 8 hx (by kernel_rfl) (fun k hk => by cases hk) (by kernel_rfl) (laid_met os))) ?_
  intro W base args ds gs before hval hW _ _ hk hL _ _
  exact contract H enc W base args ds gs before _ hk hval hW hL
theorem said : Rows.LeaseImagesSaid :=
  OpenClaim.holds_of_cond 14 Tryz.f14 rfl rfl rfl rfl rfl rfl rfl ⟨rfl, rfl, rfl, rfl, rfl⟩ rfl rfl rfl rfl rfl nam Tryz.func14 closed
    (of_decide_eq_true (by kernel_rfl)) (by unfold Func.isWrapper; rw [if_neg (of_decide_eq_false (by kernel_rfl))]; exact ⟨rfl, rfl⟩)
    (fun os started H enc _ F => by rw [OpenClaim.pre_eq_preRow]; exact lifted os started H enc F)
theorem plain (f : FuncId) (fn : Func) (hf : Tryz.pinned.checked.prog.funcNamed "weft/weftlaw11.LeaseImages" = some f) (hfn : Tryz.pinned.checked.prog.funcs[f]? = some fn) :
    false = Tryz.pinned.checked.prog.looks [] ∧ ∀ (j : Nat) t, fn.params[j]? = some t → Tryz.pinned.checked.prog.wantsStandIn t = false := by
  obtain rfl : f = 14 := Option.some.inj ((show Tryz.prog.funcNamed "weft/weftlaw11.LeaseImages" = some 14 by kernel_rfl).symm.trans hf) |>.symm
  obtain rfl : fn = Tryz.f14 := (Option.some.inj (Tryz.func14.symm.trans hfn)).symm
  refine ⟨by kernel_rfl, fun j t ht => ?_⟩
  have hp : Tryz.f14.params = #[79, 80] := by kernel_rfl
  rw [hp] at ht
  have hm : t ∈ [79, 80] := by simpa using Array.mem_of_getElem? ht
  have hall : ([79, 80].all fun u => !Tryz.prog.wantsStandIn u) = true := by kernel_rfl
  exact (show Tryz.prog.wantsStandIn t = false by simpa using List.all_eq_true.1 hall t hm)
theorem proved : Rows.LeaseImagesCardSaid :=
  Claim7.holds_tied_plain_at .later [] _ _ _ _ said (fun _ h => by cases h) (by kernel_rfl) (fun _ h => by cases h) leaseImages_row_tie rfl ⟨rfl, rfl⟩ (by kernel_rfl) rfl plain (by kernel_rfl)
end Go.Proofs.YtdallmabajeajaaGreatDoor.leaseImages
