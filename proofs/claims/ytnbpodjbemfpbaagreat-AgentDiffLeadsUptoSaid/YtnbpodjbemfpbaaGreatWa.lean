/-
  Walks: printed by wip/tool/agent.py.
-/
import Derived.Test.YtnbpodjbemfpbaaGreatTy
import Derived.Test.YtnbpodjbemfpbaaGreatPl
import Derived.KernelRfl
set_option linter.all false
set_option maxHeartbeats 4000000
set_option maxRecDepth 100000
namespace Go.Proofs.YtnbpodjbemfpbaaGreat.Fw
open Go
theorem mask_c (n : Int) (w0 : World) (h0 : 0 ≤ n) (h1 : n ≤ 32) : Pure Tryz.prog 144 [.int .i64 n] (.int .u32 (maskM n)) w0 := by
  refine enter (n := 8) Tryz.func144 rfl rfl rfl fun a (hs : St 8 [(0, .int .i64 n)] a) => ?_
  have m := Hp.start w0
  refine c_reg ?_
  refine r_ok hs m (ok_assign rfl) rfl ?_
  clear hs a; intro a hs
  refine wpList_nil (n_then ?_)
  refine c_seq ?_
  refine c_reg ?_
  refine r_ok hs m (ok_move rfl) rfl ?_
  clear hs a; intro a hs
  refine r_ok hs m (ok_bin rfl rfl rfl) rfl ?_
  clear hs a; intro a hs
  refine wpList_nil (n_then ?_)
  refine c_cond hs rfl (fun h1 => ?_) (fun h1 => ?_)
  · have h1p := eq_of_beq h1
    refine c_reg ?_
    refine r_ok hs m (ok_assign rfl) rfl ?_
    clear hs a; intro a hs
    refine wpList_nil (n_then ?_)
    refine wp_ret ?_
    refine ret_then (leave hs (vs := [.int .u32 0]) rfl ⟨rfl, trivial⟩ ?_)
    refine ⟨?_, m.sub .n⟩
    have q2 : (0 : Int) = maskM n := by clear hs m; simp [maskM, *]
    first | (rw [q2]; done) | (rw [q2]; rfl) | (rw [q2]; rfl) | (simp only [q2, pack]; done)
  have h1p := ne_of_beq_false h1
  refine wp_skip ?_
  refine n_then ?_
  refine c_reg ?_
  refine r_ok hs m (ok_move rfl) rfl ?_
  clear hs a; intro a hs
  refine r_ok hs m (ok_sub (r := 32 - n) rfl rfl (wrap_i64 (by omega) (by omega))) rfl ?_
  clear hs a; intro a hs
  refine r_ok hs m (ok_shl rfl rfl (by omega) rfl) rfl ?_
  clear hs a; intro a hs
  refine r_ok hs m (ok_assign rfl) rfl ?_
  clear hs a; intro a hs
  refine wpList_nil (n_then ?_)
  refine wp_ret ?_
  refine leave hs (vs := [.int .u32 (IntKind.u32.wrap (4294967295 * 2 ^ (min (32 - n).toNat 32)))]) rfl ⟨rfl, trivial⟩ ?_
  refine ⟨?_, m.sub .n⟩
  have q3 : (IntKind.u32.wrap (4294967295 * 2 ^ (min (32 - n).toNat 32)) : Int) = maskM n := by clear hs m; simp [maskM, *]
  first | (rw [q3]; done) | (rw [q3]; rfl) | (rw [q3]; rfl) | (simp only [q3, pack]; done)
theorem fault_c (p : TPrefix) (w0 : World) : Pure Tryz.prog 96 [.agg ⟨cPrefix p⟩] (.int .i64 (faultM p)) w0 := by
  have hl := p.Len.i64
  refine enter (n := 20) Tryz.func96 rfl rfl rfl fun a (hs : St 20 [(0, .agg ⟨cPrefix p⟩)] a) => ?_
  have m := Hp.start w0
  refine c_reg ?_
  refine r_box (cs := cPrefix p) hs m rfl rfl rfl ?_
  clear m hs a; intro p1 w2 m a hs
  refine r_ok hs m (ok_assign rfl) rfl ?_
  clear hs a; intro a hs
  refine wpList_nil (n_then ?_)
  refine c_seq ?_
  refine wp_block ?_
  refine c_reg ?_
  refine r_ok hs m (ok_fieldAddr (r := 1) rfl fd44_1 ty3 rfl) rfl ?_
  clear hs a; intro a hs
  refine r_ok hs m (ok_load_sc rfl ty3 (bx_at r0) rfl) rfl ?_
  clear hs a; intro a hs
  refine r_ok hs m (ok_bin rfl rfl rfl) rfl ?_
  clear hs a; intro a hs
  refine r_ok hs m (ok_move rfl) rfl ?_
  clear hs a; intro a hs
  refine l_cut (.c (.c (.c (.c (.n))))) (fun a w => St 20 [(1, .pointer (some (padd p1 0))), (11, .bool ((decide (p.Len.v < 0)) || (decide (p.Len.v > 32))))] a ∧ Hp w0 (hh w0) [Bx p1 44 (cPrefix p)] w) ?_ ?_
  · rcases Bool.eq_false_or_eq_true (decide (p.Len.v < 0)) with hb3 | hb3
    · have hb3p := of_decide_eq_true hb3
      refine g_out hs rfl rfl hb3 rfl ?_
      clear hs a; intro a hs
      refine g_out hs rfl rfl hb3 rfl ?_
      clear hs a; intro a hs
      refine g_out hs rfl rfl hb3 rfl ?_
      clear hs a; intro a hs
      refine r_ok hs m (ok_pick (r := .bool ((decide (p.Len.v < 0)) || (decide (p.Len.v > 32)))) rfl rfl rfl (by rw [hb3]; rfl)) rfl ?_
      clear hs a; intro a hs
      exact wpList_nil (n_then ⟨hs.to ⟨rfl, rfl, trivial⟩, m⟩)
    · have hb3p := of_decide_eq_false hb3
      refine r_okg hs rfl rfl hb3 m (ok_fieldAddr (r := 1) rfl fd44_1 ty3 rfl) rfl ?_
      clear hs a; intro a hs
      refine r_okg hs rfl rfl hb3 m (ok_load_sc rfl ty3 (bx_at r0) rfl) rfl ?_
      clear hs a; intro a hs
      refine r_okg hs rfl rfl hb3 m (ok_bin rfl rfl rfl) rfl ?_
      clear hs a; intro a hs
      refine r_ok hs m (ok_pick (r := .bool ((decide (p.Len.v < 0)) || (decide (p.Len.v > 32)))) rfl rfl rfl (by rw [hb3]; rfl)) rfl ?_
      clear hs a; intro a hs
      exact wpList_nil (n_then ⟨hs.to ⟨rfl, rfl, trivial⟩, m⟩)
  clear hs m a w2; rintro a w4 ⟨hs, m⟩
  refine r_ok hs m (ok_assign rfl) rfl ?_
  clear hs a; intro a hs
  refine wpList_nil (n_then ?_)
  refine c_cond hs rfl (fun h5 => ?_) (fun h5 => ?_)
  · have h5p := h5; simp only [Bool.or_eq_true, Bool.or_eq_false_iff, Bool.and_eq_true, Bool.and_eq_false_iff, Bool.not_eq_true', Bool.not_eq_false', decide_eq_true_eq, decide_eq_false_iff_not, beq_iff_eq, bne_iff_ne, beq_eq_false_iff_ne, bne_eq_false_iff_eq, ne_eq, gt_iff_lt, ge_iff_le, Int.not_lt, Int.not_le] at h5p
    refine c_reg ?_
    refine r_ok hs m (ok_assign rfl) rfl ?_
    clear hs a; intro a hs
    refine wpList_nil (n_then ?_)
    refine wp_ret ?_
    refine ret_block (ret_then (leave hs (vs := [.int .i64 11]) rfl ⟨rfl, trivial⟩ ?_))
    refine ⟨?_, m.sub .n⟩
    have q6 : (11 : Int) = faultM p := by clear hs m; simp [faultM, *] <;> omega
    first | (rw [q6]; done) | (rw [q6]; rfl) | (rw [q6]; rfl) | (simp only [q6, pack]; done)
  have h5p := h5; simp only [Bool.or_eq_true, Bool.or_eq_false_iff, Bool.and_eq_true, Bool.and_eq_false_iff, Bool.not_eq_true', Bool.not_eq_false', decide_eq_true_eq, decide_eq_false_iff_not, beq_iff_eq, bne_iff_ne, beq_eq_false_iff_ne, bne_eq_false_iff_eq, ne_eq, gt_iff_lt, ge_iff_le, Int.not_lt, Int.not_le] at h5p
  refine c_draw m mo (by kernel_rfl) ?_
  refine q_ok hs (ok_fieldAddr (r := 0) rfl fd44_0 ty42 rfl) rfl ?_
  clear hs a; intro a hs
  refine q_ok hs (ok_load_sc rfl ty42 (bx_at r0) rfl) rfl ?_
  clear hs a; intro a hs
  refine q_ok hs (ok_fieldAddr (r := 1) rfl fd44_1 ty3 rfl) rfl ?_
  clear hs a; intro a hs
  refine q_ok hs (ok_load_sc rfl ty3 (bx_at r0) rfl) rfl ?_
  clear hs a; intro a hs
  refine q_callP hs rfl rfl ca144 rfl (fun w m => mask_c p.Len.v w  (by first | omega | rfl | exact bsI_le _ _ | assumption | decide) (by first | omega | rfl | exact bsI_le _ _ | assumption | decide)) rfl ?_
  clear hs a; intro a hs
  refine q_ok hs (ok_bin rfl rfl rfl) rfl ?_
  clear hs a; intro a hs
  refine q_ok hs (ok_bin rfl rfl rfl) rfl ?_
  clear hs a; intro a hs
  refine q_ok hs (ok_assign rfl) rfl ?_
  clear hs a; intro a hs
  refine wpQuiet_nil ?_; clear m w4; intro w7 m
  refine c_cond hs rfl (fun h8 => ?_) (fun h8 => ?_)
  · have h8p := ne_of_bne h8
    refine c_reg ?_
    refine r_ok hs m (ok_assign rfl) rfl ?_
    clear hs a; intro a hs
    refine wpList_nil (n_then ?_)
    refine wp_ret ?_
    refine ret_block (ret_then (leave hs (vs := [.int .i64 12]) rfl ⟨rfl, trivial⟩ ?_))
    refine ⟨?_, m.sub .n⟩
    have q9 : (12 : Int) = faultM p := by clear hs m; simp [faultM, *] <;> omega
    first | (rw [q9]; done) | (rw [q9]; rfl) | (rw [q9]; rfl) | (simp only [q9, pack]; done)
  have h8p := eq_of_bne_false h8
  refine wp_skip ?_
  refine n_block (n_then ?_)
  refine c_reg ?_
  refine r_ok hs m (ok_assign rfl) rfl ?_
  clear hs a; intro a hs
  refine wpList_nil (n_then ?_)
  refine wp_ret ?_
  refine leave hs (vs := [.int .i64 0]) rfl ⟨rfl, trivial⟩ ?_
  refine ⟨?_, m.sub .n⟩
  have q10 : (0 : Int) = faultM p := by clear hs m; simp [faultM, *] <;> omega
  first | (rw [q10]; done) | (rw [q10]; rfl) | (rw [q10]; rfl) | (simp only [q10, pack]; done)
theorem valid_c (p : TPrefix) (w0 : World) : Pure Tryz.prog 43 [.agg ⟨cPrefix p⟩] (.bool (validM p)) w0 := by
  refine enter (n := 6) Tryz.func43 rfl rfl rfl fun a (hs : St 6 [(0, .agg ⟨cPrefix p⟩)] a) => ?_
  have m := Hp.start w0
  refine c_reg ?_
  refine r_box (cs := cPrefix p) hs m rfl rfl rfl ?_
  clear m hs a; intro p1 w2 m a hs
  refine r_ok hs m (ok_assign rfl) rfl ?_
  clear hs a; intro a hs
  refine wpList_nil (n_then ?_)
  refine c_reg ?_
  refine r_ok hs m (ok_load_ag (vs := cPrefix p) rfl ty44 (bx_at r0) rfl rfl) rfl ?_
  clear hs a; intro a hs
  refine r_callP hs m rfl rfl ca96 rfl (fault_c p _  ) rfl ?_
  clear m hs a w2; intro w3 m a hs
  refine r_ok hs m (ok_bin rfl rfl rfl) rfl ?_
  clear hs a; intro a hs
  refine r_ok hs m (ok_assign rfl) rfl ?_
  clear hs a; intro a hs
  refine wpList_nil (n_then ?_)
  refine wp_ret ?_
  refine leave hs (vs := [.bool ((faultM p) == 0)]) rfl ⟨rfl, trivial⟩ ?_
  refine ⟨?_, m.sub .n⟩
  have q4 : ((faultM p) == 0 : Bool) = validM p := by clear hs m; simp [validM]
  first | (rw [q4]; done) | (rw [q4]; rfl) | (rw [q4]; rfl) | (simp only [q4, pack]; done)
theorem isNaNA_c (x : Int) (w0 : World) : Pure Tryz.prog 151 [.int .u32 x] (.bool false) w0 := by
  refine enter (n := 6) Tryz.func151 rfl rfl rfl fun a (hs : St 6 [(0, .int .u32 x)] a) => ?_
  have m := Hp.start w0
  refine c_reg ?_
  refine r_ok hs m (ok_assign rfl) rfl ?_
  clear hs a; intro a hs
  refine wpList_nil (n_then ?_)
  refine c_reg ?_
  refine r_ok hs m (ok_move rfl) rfl ?_
  clear hs a; intro a hs
  refine r_ok hs m (ok_move rfl) rfl ?_
  clear hs a; intro a hs
  refine r_ok hs m (ok_bin rfl rfl rfl) rfl ?_
  clear hs a; intro a hs
  refine r_ok hs m (ok_assign rfl) rfl ?_
  clear hs a; intro a hs
  refine wpList_nil (n_then ?_)
  refine wp_ret ?_
  refine leave hs (vs := [.bool (x != x)]) rfl ⟨rfl, trivial⟩ ?_
  refine ⟨?_, m.sub .n⟩
  have q1 : (x != x : Bool) = false := by clear hs m; simp
  first | (rw [q1]; done) | (rw [q1]; rfl) | (rw [q1]; rfl) | (simp only [q1, pack]; done)
theorem isNaNI_c (x : Int) (w0 : World) : Pure Tryz.prog 174 [.int .i64 x] (.bool false) w0 := by
  refine enter (n := 6) Tryz.func174 rfl rfl rfl fun a (hs : St 6 [(0, .int .i64 x)] a) => ?_
  have m := Hp.start w0
  refine c_reg ?_
  refine r_ok hs m (ok_assign rfl) rfl ?_
  clear hs a; intro a hs
  refine wpList_nil (n_then ?_)
  refine c_reg ?_
  refine r_ok hs m (ok_move rfl) rfl ?_
  clear hs a; intro a hs
  refine r_ok hs m (ok_move rfl) rfl ?_
  clear hs a; intro a hs
  refine r_ok hs m (ok_bin rfl rfl rfl) rfl ?_
  clear hs a; intro a hs
  refine r_ok hs m (ok_assign rfl) rfl ?_
  clear hs a; intro a hs
  refine wpList_nil (n_then ?_)
  refine wp_ret ?_
  refine leave hs (vs := [.bool (x != x)]) rfl ⟨rfl, trivial⟩ ?_
  refine ⟨?_, m.sub .n⟩
  have q1 : (x != x : Bool) = false := by clear hs m; simp
  first | (rw [q1]; done) | (rw [q1]; rfl) | (rw [q1]; rfl) | (simp only [q1, pack]; done)
theorem compareA_c (x : Int) (y : Int) (w0 : World) : Pure Tryz.prog 102 [.int .u32 x, .int .u32 y] (.int .i64 ((cmpF x y).v)) w0 := by
  refine enter (n := 20) Tryz.func102 rfl rfl rfl fun a (hs : St 20 [(0, .int .u32 x), (1, .int .u32 y)] a) => ?_
  have m := Hp.start w0
  refine c_reg ?_
  refine r_ok hs m (ok_assign rfl) rfl ?_
  clear hs a; intro a hs
  refine wpList_nil (n_then ?_)
  refine c_reg ?_
  refine r_ok hs m (ok_move rfl) rfl ?_
  clear hs a; intro a hs
  refine r_callP hs m rfl rfl ca151 rfl (isNaNA_c x _  ) rfl ?_
  clear m hs a; intro w1 m a hs
  refine r_ok hs m (ok_assign rfl) rfl ?_
  clear hs a; intro a hs
  refine wpList_nil (n_then ?_)
  refine c_reg ?_
  refine r_ok hs m (ok_move rfl) rfl ?_
  clear hs a; intro a hs
  refine r_callP hs m rfl rfl ca151 rfl (isNaNA_c y _  ) rfl ?_
  clear m hs a w1; intro w2 m a hs
  refine r_ok hs m (ok_assign rfl) rfl ?_
  clear hs a; intro a hs
  refine wpList_nil (n_then ?_)
  refine c_seq ?_
  refine c_reg ?_
  refine r_ok hs m (ok_move rfl) rfl ?_
  clear hs a; intro a hs
  refine wpList_nil (n_then ?_)
  refine c_false hs rfl rfl ?_
  refine wp_skip ?_
  refine n_then ?_
  refine c_seq ?_
  refine c_reg ?_
  refine r_ok hs m (ok_move rfl) rfl ?_
  clear hs a; intro a hs
  refine wpList_nil (n_then ?_)
  refine c_false hs rfl rfl ?_
  refine wp_skip ?_
  refine n_then ?_
  refine c_seq ?_
  refine c_reg ?_
  refine r_ok hs m (ok_move rfl) rfl ?_
  clear hs a; intro a hs
  refine r_ok hs m (ok_move rfl) rfl ?_
  clear hs a; intro a hs
  refine r_ok hs m (ok_bin rfl rfl rfl) rfl ?_
  clear hs a; intro a hs
  refine wpList_nil (n_then ?_)
  refine c_cond hs rfl (fun h5 => ?_) (fun h5 => ?_)
  · have h5p := of_decide_eq_true h5
    refine c_reg ?_
    refine r_ok hs m (ok_assign rfl) rfl ?_
    clear hs a; intro a hs
    refine wpList_nil (n_then ?_)
    refine wp_ret ?_
    refine ret_then (leave hs (vs := [.int .i64 (-1)]) rfl ⟨rfl, trivial⟩ ?_)
    refine ⟨?_, m.sub .n⟩
    have q6 : ((-1) : Int) = (cmpF x y).v := by clear hs m; simp [cmpF_v] <;> omega
    first | (rw [q6]; done) | (rw [q6]; rfl) | (rw [q6]; rfl) | (simp only [q6, pack]; done)
  have h5p := of_decide_eq_false h5
  refine wp_skip ?_
  refine n_then ?_
  refine c_seq ?_
  refine c_reg ?_
  refine r_ok hs m (ok_move rfl) rfl ?_
  clear hs a; intro a hs
  refine r_ok hs m (ok_move rfl) rfl ?_
  clear hs a; intro a hs
  refine r_ok hs m (ok_bin rfl rfl rfl) rfl ?_
  clear hs a; intro a hs
  refine wpList_nil (n_then ?_)
  refine c_cond hs rfl (fun h7 => ?_) (fun h7 => ?_)
  · have h7p := of_decide_eq_true h7
    refine c_reg ?_
    refine r_ok hs m (ok_assign rfl) rfl ?_
    clear hs a; intro a hs
    refine wpList_nil (n_then ?_)
    refine wp_ret ?_
    refine ret_then (leave hs (vs := [.int .i64 1]) rfl ⟨rfl, trivial⟩ ?_)
    refine ⟨?_, m.sub .n⟩
    have q8 : (1 : Int) = (cmpF x y).v := by clear hs m; simp [cmpF_v] <;> omega
    first | (rw [q8]; done) | (rw [q8]; rfl) | (rw [q8]; rfl) | (simp only [q8, pack]; done)
  have h7p := of_decide_eq_false h7
  refine wp_skip ?_
  refine n_then ?_
  refine c_reg ?_
  refine r_ok hs m (ok_assign rfl) rfl ?_
  clear hs a; intro a hs
  refine wpList_nil (n_then ?_)
  refine wp_ret ?_
  refine leave hs (vs := [.int .i64 0]) rfl ⟨rfl, trivial⟩ ?_
  refine ⟨?_, m.sub .n⟩
  have q9 : (0 : Int) = (cmpF x y).v := by clear hs m; simp [cmpF_v] <;> omega
  first | (rw [q9]; done) | (rw [q9]; rfl) | (rw [q9]; rfl) | (simp only [q9, pack]; done)
theorem compareI_c (x : Int) (y : Int) (w0 : World) : Pure Tryz.prog 148 [.int .i64 x, .int .i64 y] (.int .i64 ((cmpF x y).v)) w0 := by
  refine enter (n := 20) Tryz.func148 rfl rfl rfl fun a (hs : St 20 [(0, .int .i64 x), (1, .int .i64 y)] a) => ?_
  have m := Hp.start w0
  refine c_reg ?_
  refine r_ok hs m (ok_assign rfl) rfl ?_
  clear hs a; intro a hs
  refine wpList_nil (n_then ?_)
  refine c_reg ?_
  refine r_ok hs m (ok_move rfl) rfl ?_
  clear hs a; intro a hs
  refine r_callP hs m rfl rfl ca174 rfl (isNaNI_c x _  ) rfl ?_
  clear m hs a; intro w1 m a hs
  refine r_ok hs m (ok_assign rfl) rfl ?_
  clear hs a; intro a hs
  refine wpList_nil (n_then ?_)
  refine c_reg ?_
  refine r_ok hs m (ok_move rfl) rfl ?_
  clear hs a; intro a hs
  refine r_callP hs m rfl rfl ca174 rfl (isNaNI_c y _  ) rfl ?_
  clear m hs a w1; intro w2 m a hs
  refine r_ok hs m (ok_assign rfl) rfl ?_
  clear hs a; intro a hs
  refine wpList_nil (n_then ?_)
  refine c_seq ?_
  refine c_reg ?_
  refine r_ok hs m (ok_move rfl) rfl ?_
  clear hs a; intro a hs
  refine wpList_nil (n_then ?_)
  refine c_false hs rfl rfl ?_
  refine wp_skip ?_
  refine n_then ?_
  refine c_seq ?_
  refine c_reg ?_
  refine r_ok hs m (ok_move rfl) rfl ?_
  clear hs a; intro a hs
  refine wpList_nil (n_then ?_)
  refine c_false hs rfl rfl ?_
  refine wp_skip ?_
  refine n_then ?_
  refine c_seq ?_
  refine c_reg ?_
  refine r_ok hs m (ok_move rfl) rfl ?_
  clear hs a; intro a hs
  refine r_ok hs m (ok_move rfl) rfl ?_
  clear hs a; intro a hs
  refine r_ok hs m (ok_bin rfl rfl rfl) rfl ?_
  clear hs a; intro a hs
  refine wpList_nil (n_then ?_)
  refine c_cond hs rfl (fun h5 => ?_) (fun h5 => ?_)
  · have h5p := of_decide_eq_true h5
    refine c_reg ?_
    refine r_ok hs m (ok_assign rfl) rfl ?_
    clear hs a; intro a hs
    refine wpList_nil (n_then ?_)
    refine wp_ret ?_
    refine ret_then (leave hs (vs := [.int .i64 (-1)]) rfl ⟨rfl, trivial⟩ ?_)
    refine ⟨?_, m.sub .n⟩
    have q6 : ((-1) : Int) = (cmpF x y).v := by clear hs m; simp [cmpF_v] <;> omega
    first | (rw [q6]; done) | (rw [q6]; rfl) | (rw [q6]; rfl) | (simp only [q6, pack]; done)
  have h5p := of_decide_eq_false h5
  refine wp_skip ?_
  refine n_then ?_
  refine c_seq ?_
  refine c_reg ?_
  refine r_ok hs m (ok_move rfl) rfl ?_
  clear hs a; intro a hs
  refine r_ok hs m (ok_move rfl) rfl ?_
  clear hs a; intro a hs
  refine r_ok hs m (ok_bin rfl rfl rfl) rfl ?_
  clear hs a; intro a hs
  refine wpList_nil (n_then ?_)
  refine c_cond hs rfl (fun h7 => ?_) (fun h7 => ?_)
  · have h7p := of_decide_eq_true h7
    refine c_reg ?_
    refine r_ok hs m (ok_assign rfl) rfl ?_
    clear hs a; intro a hs
    refine wpList_nil (n_then ?_)
    refine wp_ret ?_
    refine ret_then (leave hs (vs := [.int .i64 1]) rfl ⟨rfl, trivial⟩ ?_)
    refine ⟨?_, m.sub .n⟩
    have q8 : (1 : Int) = (cmpF x y).v := by clear hs m; simp [cmpF_v] <;> omega
    first | (rw [q8]; done) | (rw [q8]; rfl) | (rw [q8]; rfl) | (simp only [q8, pack]; done)
  have h7p := of_decide_eq_false h7
  refine wp_skip ?_
  refine n_then ?_
  refine c_reg ?_
  refine r_ok hs m (ok_assign rfl) rfl ?_
  clear hs a; intro a hs
  refine wpList_nil (n_then ?_)
  refine wp_ret ?_
  refine leave hs (vs := [.int .i64 0]) rfl ⟨rfl, trivial⟩ ?_
  refine ⟨?_, m.sub .n⟩
  have q9 : (0 : Int) = (cmpF x y).v := by clear hs m; simp [cmpF_v] <;> omega
  first | (rw [q9]; done) | (rw [q9]; rfl) | (rw [q9]; rfl) | (simp only [q9, pack]; done)
end Go.Proofs.YtnbpodjbemfpbaaGreat.Fw
