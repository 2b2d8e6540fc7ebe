/-
  Walks: printed by wip/tool/agent.py.
-/
import Derived.Test.YtnbpodjbemfpbaaGreatWp
import Derived.KernelRfl
set_option linter.all false
set_option maxHeartbeats 4000000
set_option maxRecDepth 100000
namespace Go.Proofs.YtnbpodjbemfpbaaGreat.Fw
open Go
theorem diffR_c (vx_Routes : SH) (x_Routes : List TRoute) (vx_Neighs : SH) (x_Neighs : List TNeigh) (vx_Fdbs : SH) (x_Fdbs : List TFdb) (vy_Routes : SH) (y_Routes : List TRoute) (vy_Neighs : SH) (y_Neighs : List TNeigh) (vy_Fdbs : SH) (y_Fdbs : List TFdb) (w0 : World) (hx_Routes : RdS (hh w0) 4 vx_Routes.v (x_Routes.map cRoute)) (hx_Neighs : RdS (hh w0) 7 vx_Neighs.v (x_Neighs.map cNeigh)) (hx_Fdbs : RdS (hh w0) 7 vx_Fdbs.v (x_Fdbs.map cFdb)) (hy_Routes : RdS (hh w0) 4 vy_Routes.v (y_Routes.map cRoute)) (hy_Neighs : RdS (hh w0) 7 vy_Neighs.v (y_Neighs.map cNeigh)) (hy_Fdbs : RdS (hh w0) 7 vy_Fdbs.v (y_Fdbs.map cFdb)) (A0 : x_Routes.length ≤ 16777216) (A1 : x_Neighs.length ≤ 16777216) (A2 : x_Fdbs.length ≤ 16777216) (A3 : y_Routes.length ≤ 16777216) (A4 : y_Neighs.length ≤ 16777216) (A5 : y_Fdbs.length ≤ 16777216) : Calls Tryz.prog 19 ⟨[.agg ⟨[vx_Routes.v, vx_Neighs.v, vx_Fdbs.v]⟩, .agg ⟨[vy_Routes.v, vy_Neighs.v, vy_Fdbs.v]⟩]⟩ w0 fun e w' => ∃ v, e = .returned v ∧ (∃ x0 : SH, v = (.tuple ⟨[x0.v, .int .i64 (diffRE x_Routes x_Neighs x_Fdbs y_Routes y_Neighs y_Fdbs)]⟩) ∧ Hp w0 (hh w0) [Sv 19 58 x0.v ((diffRM x_Routes x_Neighs x_Fdbs y_Routes y_Neighs y_Fdbs).map cOp)] w') := by
  have lvx_Routes := hx_Routes.bd
  have lvx_Neighs := hx_Neighs.bd
  have lvx_Fdbs := hx_Fdbs.bd
  have lvy_Routes := hy_Routes.bd
  have lvy_Neighs := hy_Neighs.bd
  have lvy_Fdbs := hy_Fdbs.bd
  refine enter (n := 206) Tryz.func19 rfl rfl rfl fun a (hs : St 206 [(0, .agg ⟨[vx_Routes.v, vx_Neighs.v, vx_Fdbs.v]⟩), (1, .agg ⟨[vy_Routes.v, vy_Neighs.v, vy_Fdbs.v]⟩)] a) => ?_
  have m := Hp.start w0
  refine c_reg ?_
  refine r_box (cs := [vx_Routes.v, vx_Neighs.v, vx_Fdbs.v]) hs m rfl rfl rfl ?_
  clear m hs a; intro p1 w2 m a hs
  refine r_box (cs := [vy_Routes.v, vy_Neighs.v, vy_Fdbs.v]) hs m rfl rfl rfl ?_
  clear m hs a w2; intro p3 w4 m a hs
  refine r_ok hs m (ok_assign rfl) rfl ?_
  clear hs a; intro a hs
  refine r_ok hs m (ok_assign rfl) rfl ?_
  clear hs a; intro a hs
  refine wpList_nil (n_then ?_)
  refine c_reg ?_
  refine r_ok hs m (ok_load_ag (vs := [vx_Routes.v, vx_Neighs.v, vx_Fdbs.v]) rfl ty29 (bx_at r1) rfl rfl) rfl ?_
  clear hs a; intro a hs
  refine r_callP hs m rfl rfl ca61 rfl (ordered_c vx_Routes x_Routes vx_Neighs x_Neighs vx_Fdbs x_Fdbs _ (m.rd hx_Routes) (m.rd hx_Neighs) (m.rd hx_Fdbs) ) rfl ?_
  clear m hs a w4; intro w5 m a hs
  refine r_ok hs m (ok_assign rfl) rfl ?_
  clear hs a; intro a hs
  refine wpList_nil (n_then ?_)
  refine c_reg ?_
  refine r_ok hs m (ok_load_ag (vs := [vy_Routes.v, vy_Neighs.v, vy_Fdbs.v]) rfl ty29 (bx_at r0) rfl rfl) rfl ?_
  clear hs a; intro a hs
  refine r_callP hs m rfl rfl ca61 rfl (ordered_c vy_Routes y_Routes vy_Neighs y_Neighs vy_Fdbs y_Fdbs _ (m.rd hy_Routes) (m.rd hy_Neighs) (m.rd hy_Fdbs) ) rfl ?_
  clear m hs a w5; intro w6 m a hs
  refine r_ok hs m (ok_assign rfl) rfl ?_
  clear hs a; intro a hs
  refine wpList_nil (n_then ?_)
  refine c_seq ?_
  refine c_reg ?_
  refine r_ok hs m (ok_move rfl) rfl ?_
  clear hs a; intro a hs
  refine r_ok hs m (ok_not rfl) rfl ?_
  clear hs a; intro a hs
  refine r_ok hs m (ok_move rfl) rfl ?_
  clear hs a; intro a hs
  refine l_cut (.c (.c (.c (.n)))) (fun a w => St 206 [(2, .pointer (some (padd p1 0))), (3, .pointer (some (padd p3 0))), (33, .bool ((!(orderedM x_Routes x_Neighs x_Fdbs)) || (!(orderedM y_Routes y_Neighs y_Fdbs))))] a ∧ Hp w0 (hh w0) [Bx p3 29 [vy_Routes.v, vy_Neighs.v, vy_Fdbs.v], Bx p1 29 [vx_Routes.v, vx_Neighs.v, vx_Fdbs.v]] w) ?_ ?_
  · rcases Bool.eq_false_or_eq_true (!(orderedM x_Routes x_Neighs x_Fdbs)) with hb7 | hb7
    · have hb7p := hb7; simp only [Bool.or_eq_true, Bool.or_eq_false_iff, Bool.and_eq_true, Bool.and_eq_false_iff, Bool.not_eq_true', Bool.not_eq_false', decide_eq_true_eq, decide_eq_false_iff_not, beq_iff_eq, bne_iff_ne, beq_eq_false_iff_ne, bne_eq_false_iff_eq, ne_eq, gt_iff_lt, ge_iff_le, Int.not_lt, Int.not_le] at hb7p
      refine g_out hs rfl rfl hb7 rfl ?_
      clear hs a; intro a hs
      refine g_out hs rfl rfl hb7 rfl ?_
      clear hs a; intro a hs
      refine r_ok hs m (ok_pick (r := .bool ((!(orderedM x_Routes x_Neighs x_Fdbs)) || (!(orderedM y_Routes y_Neighs y_Fdbs)))) rfl rfl rfl (by rw [hb7]; rfl)) rfl ?_
      clear hs a; intro a hs
      exact wpList_nil (n_then ⟨hs.to ⟨rfl, rfl, rfl, trivial⟩, m⟩)
    · have hb7p := hb7; simp only [Bool.or_eq_true, Bool.or_eq_false_iff, Bool.and_eq_true, Bool.and_eq_false_iff, Bool.not_eq_true', Bool.not_eq_false', decide_eq_true_eq, decide_eq_false_iff_not, beq_iff_eq, bne_iff_ne, beq_eq_false_iff_ne, bne_eq_false_iff_eq, ne_eq, gt_iff_lt, ge_iff_le, Int.not_lt, Int.not_le] at hb7p
      refine r_okg hs rfl rfl hb7 m (ok_move rfl) rfl ?_
      clear hs a; intro a hs
      refine r_okg hs rfl rfl hb7 m (ok_not rfl) rfl ?_
      clear hs a; intro a hs
      refine r_ok hs m (ok_pick (r := .bool ((!(orderedM x_Routes x_Neighs x_Fdbs)) || (!(orderedM y_Routes y_Neighs y_Fdbs)))) rfl rfl rfl (by rw [hb7]; rfl)) rfl ?_
      clear hs a; intro a hs
      exact wpList_nil (n_then ⟨hs.to ⟨rfl, rfl, rfl, trivial⟩, m⟩)
  clear hs m a w6; rintro a w8 ⟨hs, m⟩
  refine wpList_nil (n_then ?_)
  refine c_cond hs rfl (fun h9 => ?_) (fun h9 => ?_)
  · have h9p := h9; simp only [Bool.or_eq_true, Bool.or_eq_false_iff, Bool.and_eq_true, Bool.and_eq_false_iff, Bool.not_eq_true', Bool.not_eq_false', decide_eq_true_eq, decide_eq_false_iff_not, beq_iff_eq, bne_iff_ne, beq_eq_false_iff_ne, bne_eq_false_iff_eq, ne_eq, gt_iff_lt, ge_iff_le, Int.not_lt, Int.not_le] at h9p
    refine c_reg ?_
    refine r_ok hs m (ok_assign rfl) rfl ?_
    clear hs a; intro a hs
    refine r_ok hs m (ok_assign rfl) rfl ?_
    clear hs a; intro a hs
    refine wpList_nil (n_then ?_)
    refine wp_ret ?_
    refine ret_then (leave hs (vs := [nilH.v, .int .i64 161]) rfl ⟨rfl, rfl, trivial⟩ ?_)
    replace m := m.nilSvM cOp 19 58
    have q11 : ([] : List TOp) = diffRM x_Routes x_Neighs x_Fdbs y_Routes y_Neighs y_Fdbs := by first | exact diffRM_bad (by assumption) | exact diffRE_bad (by assumption) | exact diffRE_ok (by assumption) | exact diffRM_ok (by assumption) (by omega)
    rw [q11] at m
    refine ⟨_, rfl, nilH, ?_, m.sub (.c r0 .n)⟩
    have q12 : (161 : Int) = diffRE x_Routes x_Neighs x_Fdbs y_Routes y_Neighs y_Fdbs := by clear hs m; first | exact diffRM_bad (by assumption) | exact diffRE_bad (by assumption) | exact diffRE_ok (by assumption) | exact diffRM_ok (by assumption) (by omega)
    first | (rw [q12]; done) | (rw [q12]; rfl) | (rw [q12]; rfl) | (simp only [q12, pack]; done)
  have h9p := h9; simp only [Bool.or_eq_true, Bool.or_eq_false_iff, Bool.and_eq_true, Bool.and_eq_false_iff, Bool.not_eq_true', Bool.not_eq_false', decide_eq_true_eq, decide_eq_false_iff_not, beq_iff_eq, bne_iff_ne, beq_eq_false_iff_ne, bne_eq_false_iff_eq, ne_eq, gt_iff_lt, ge_iff_le, Int.not_lt, Int.not_le] at h9p
  refine wp_skip ?_
  refine n_then ?_
  refine c_reg ?_
  refine r_ok hs m (ok_assign rfl) rfl ?_
  clear hs a; intro a hs
  refine wpList_nil (n_then ?_)
  refine c_seq ?_
  refine c_reg ?_
  refine r_ok hs m (ok_assign rfl) rfl ?_
  clear hs a; intro a hs
  refine wpList_nil (n_then ?_)
  refine wp_block ?_
  refine wp_loop_rounds 3 ?_
  refine rounds_s ?_
  refine c_seq ?_
  refine c_reg ?_
  refine r_ok hs m (ok_move rfl) rfl ?_
  clear hs a; intro a hs
  refine r_ok hs m (ok_bin (v := .bool true) rfl rfl rfl) rfl ?_
  clear hs a; intro a hs
  refine wpList_nil (n_then ?_)
  refine c_true hs rfl rfl ?_
  refine wp_skip ?_
  refine n_then ?_
  refine c_seq ?_
  refine wp_block ?_
  refine c_reg ?_
  refine r_ok hs m (ok_assign rfl) rfl ?_
  clear hs a; intro a hs
  refine wpList_nil (n_then ?_)
  refine wp_block ?_
  replace m := m.nilSvM cOp 19 58
  have q16 : ([] : List TOp) = ([] : List TOp) ++ pickM (fun e => (!staysR x_Neighs x_Fdbs y_Routes y_Neighs y_Fdbs e) && (e.Local == true)) delR (x_Routes.take 0) := by first | exact pickM_0.symm | exact pickM_0 | exact pickM_t (by assumption) (by assumption) | exact pickM_f (by assumption) (by assumption)
  rw [q16] at m
  refine wp_loop_ghost (fun gn a w => ∃ k2t : Nat, ∃ v14 : SH, (k2t ≤ x_Routes.length) ∧ ((([] : List TOp) ++ pickM (fun e => (!staysR x_Neighs x_Fdbs y_Routes y_Neighs y_Fdbs e) && (e.Local == true)) delR (x_Routes.take k2t)).length ≤ 0 + k2t) ∧ gn = x_Routes.length - k2t ∧ St 206 [(2, .pointer (some (padd p1 0))), (3, .pointer (some (padd p3 0))), (8, v14.v), (9, .int .i64 0), (10, .int .i64 (k2t : Int))] a ∧ Hp w0 (hh w0) [Bx p1 29 [vx_Routes.v, vx_Neighs.v, vx_Fdbs.v], Bx p3 29 [vy_Routes.v, vy_Neighs.v, vy_Fdbs.v], Sv 19 58 v14.v ((([] : List TOp) ++ pickM (fun e => (!staysR x_Neighs x_Fdbs y_Routes y_Neighs y_Fdbs e) && (e.Local == true)) delR (x_Routes.take k2t)).map cOp)] w) (x_Routes.length - 0) ⟨0, nilH, by omega, by (rw [pickM_0]; first | (simp; done) | omega), rfl, hs.to ⟨rfl, rfl, rfl, rfl, rfl, trivial⟩, m.sub (.c r2 (.c r1 (.c r0 .n)))⟩ ?_
  clear hs m a w8
  rintro gn a w17 ⟨k2t, v14, hk, hl, rfl, hs, m⟩
  refine c_seq ?_
  refine c_reg ?_
  refine r_ok hs m (ok_move rfl) rfl ?_
  clear hs a; intro a hs
  refine r_ok hs m (ok_fieldAddr (r := 0) rfl fd29_0 ty25 rfl) rfl ?_
  clear hs a; intro a hs
  refine r_ok hs m (ok_load_sc rfl ty25 (bx_at r0) rfl) rfl ?_
  clear hs a; intro a hs
  refine r_ok hs m (ok_len (r := (x_Routes.length : Int)) m rfl sl25 (rc_fr hx_Routes) (by simp)) rfl ?_
  clear hs a; intro a hs
  refine r_ok hs m (ok_bin rfl rfl rfl) rfl ?_
  clear hs a; intro a hs
  refine wpList_nil (n_then ?_)
  refine c_cond hs rfl (fun h18 => ?_) (fun h18 => ?_)
  rotate_left
  · have h18p := of_decide_eq_false h18
    refine wp_exit ?_
    refine ex_then (ex_then (ex_hit (?_)))
    refine n_block (n_then ?_)
    refine c_last ?_
    refine r_ok hs m (ok_move rfl) rfl ?_
    clear hs a; intro a hs
    refine r_ok hs m (ok_add (r := 1) rfl rfl rfl) rfl ?_
    clear hs a; intro a hs
    refine r_ok hs m (ok_assign rfl) rfl ?_
    clear hs a; intro a hs
    refine wpList_nil (n_then ?_)
    refine rounds_s ?_
    refine c_seq ?_
    refine c_reg ?_
    refine r_ok hs m (ok_move rfl) rfl ?_
    clear hs a; intro a hs
    refine r_ok hs m (ok_bin (v := .bool true) rfl rfl rfl) rfl ?_
    clear hs a; intro a hs
    refine wpList_nil (n_then ?_)
    refine c_true hs rfl rfl ?_
    refine wp_skip ?_
    refine n_then ?_
    refine c_seq ?_
    refine wp_block ?_
    refine c_reg ?_
    refine r_ok hs m (ok_assign rfl) rfl ?_
    clear hs a; intro a hs
    refine wpList_nil (n_then ?_)
    refine wp_block ?_
    rw [show x_Routes.take k2t = x_Routes from List.take_of_length_le (by omega)] at m hl
    have q21 : ([] : List TOp) ++ pickM (fun e => (!staysR x_Neighs x_Fdbs y_Routes y_Neighs y_Fdbs e) && (e.Local == true)) delR x_Routes = (([] : List TOp) ++ pickM (fun e => (!staysR x_Neighs x_Fdbs y_Routes y_Neighs y_Fdbs e) && (e.Local == true)) delR x_Routes) ++ pickM (fun e => (!staysR x_Neighs x_Fdbs y_Routes y_Neighs y_Fdbs e) && (e.Local == false)) delR (x_Routes.take 0) := by first | exact pickM_0.symm | exact pickM_0 | exact pickM_t (by assumption) (by assumption) | exact pickM_f (by assumption) (by assumption)
    rw [q21] at m
    refine wp_loop_ghost (fun gn a w => ∃ k2f : Nat, ∃ v20 : SH, (k2f ≤ x_Routes.length) ∧ (((([] : List TOp) ++ pickM (fun e => (!staysR x_Neighs x_Fdbs y_Routes y_Neighs y_Fdbs e) && (e.Local == true)) delR x_Routes) ++ pickM (fun e => (!staysR x_Neighs x_Fdbs y_Routes y_Neighs y_Fdbs e) && (e.Local == false)) delR (x_Routes.take k2f)).length ≤ 16777216 + k2f) ∧ gn = x_Routes.length - k2f ∧ St 206 [(2, .pointer (some (padd p1 0))), (3, .pointer (some (padd p3 0))), (8, v20.v), (9, .int .i64 1), (10, .int .i64 (k2f : Int))] a ∧ Hp w0 (hh w0) [Bx p1 29 [vx_Routes.v, vx_Neighs.v, vx_Fdbs.v], Bx p3 29 [vy_Routes.v, vy_Neighs.v, vy_Fdbs.v], Sv 19 58 v20.v (((([] : List TOp) ++ pickM (fun e => (!staysR x_Neighs x_Fdbs y_Routes y_Neighs y_Fdbs e) && (e.Local == true)) delR x_Routes) ++ pickM (fun e => (!staysR x_Neighs x_Fdbs y_Routes y_Neighs y_Fdbs e) && (e.Local == false)) delR (x_Routes.take k2f)).map cOp)] w) (x_Routes.length - 0) ⟨0, v14, by omega, by (rw [pickM_0]; first | (simp; done) | omega), rfl, hs.to ⟨rfl, rfl, rfl, rfl, rfl, trivial⟩, m.sub (.c r0 (.c r0 (.c r0 .n)))⟩ ?_
    clear hs m a w17
    rintro gn a w22 ⟨k2f, v20, hk, hl, rfl, hs, m⟩
    refine c_seq ?_
    refine c_reg ?_
    refine r_ok hs m (ok_move rfl) rfl ?_
    clear hs a; intro a hs
    refine r_ok hs m (ok_fieldAddr (r := 0) rfl fd29_0 ty25 rfl) rfl ?_
    clear hs a; intro a hs
    refine r_ok hs m (ok_load_sc rfl ty25 (bx_at r0) rfl) rfl ?_
    clear hs a; intro a hs
    refine r_ok hs m (ok_len (r := (x_Routes.length : Int)) m rfl sl25 (rc_fr hx_Routes) (by simp)) rfl ?_
    clear hs a; intro a hs
    refine r_ok hs m (ok_bin rfl rfl rfl) rfl ?_
    clear hs a; intro a hs
    refine wpList_nil (n_then ?_)
    refine c_cond hs rfl (fun h23 => ?_) (fun h23 => ?_)
    rotate_left
    · have h23p := of_decide_eq_false h23
      refine wp_exit ?_
      refine ex_then (ex_then (ex_hit (?_)))
      refine n_block (n_then ?_)
      refine c_last ?_
      refine r_ok hs m (ok_move rfl) rfl ?_
      clear hs a; intro a hs
      refine r_ok hs m (ok_add (r := 2) rfl rfl rfl) rfl ?_
      clear hs a; intro a hs
      refine r_ok hs m (ok_assign rfl) rfl ?_
      clear hs a; intro a hs
      refine wpList_nil (n_then ?_)
      refine rounds_s ?_
      refine c_seq ?_
      refine c_reg ?_
      refine r_ok hs m (ok_move rfl) rfl ?_
      clear hs a; intro a hs
      refine r_ok hs m (ok_bin (v := .bool false) rfl rfl rfl) rfl ?_
      clear hs a; intro a hs
      refine wpList_nil (n_then ?_)
      refine c_false hs rfl rfl ?_
      refine wp_exit ?_
      refine ex_then (ex_then (ex_hit (?_)))
      refine n_then ?_
      refine c_seq ?_
      refine c_reg ?_
      refine r_ok hs m (ok_assign rfl) rfl ?_
      clear hs a; intro a hs
      refine wpList_nil (n_then ?_)
      refine wp_block ?_
      rw [show x_Routes.take k2f = x_Routes from List.take_of_length_le (by omega)] at m hl
      have q26 : (([] : List TOp) ++ pickM (fun e => (!staysR x_Neighs x_Fdbs y_Routes y_Neighs y_Fdbs e) && (e.Local == true)) delR x_Routes) ++ pickM (fun e => (!staysR x_Neighs x_Fdbs y_Routes y_Neighs y_Fdbs e) && (e.Local == false)) delR x_Routes = ((([] : List TOp) ++ pickM (fun e => (!staysR x_Neighs x_Fdbs y_Routes y_Neighs y_Fdbs e) && (e.Local == true)) delR x_Routes) ++ pickM (fun e => (!staysR x_Neighs x_Fdbs y_Routes y_Neighs y_Fdbs e) && (e.Local == false)) delR x_Routes) ++ pickM (fun e => !decide (e ∈ y_Neighs)) delN (x_Neighs.take 0) := by first | exact pickM_0.symm | exact pickM_0 | exact pickM_t (by assumption) (by assumption) | exact pickM_f (by assumption) (by assumption)
      rw [q26] at m
      refine wp_loop_ghost (fun gn a w => ∃ k4 : Nat, ∃ v25 : SH, (k4 ≤ x_Neighs.length) ∧ ((((([] : List TOp) ++ pickM (fun e => (!staysR x_Neighs x_Fdbs y_Routes y_Neighs y_Fdbs e) && (e.Local == true)) delR x_Routes) ++ pickM (fun e => (!staysR x_Neighs x_Fdbs y_Routes y_Neighs y_Fdbs e) && (e.Local == false)) delR x_Routes) ++ pickM (fun e => !decide (e ∈ y_Neighs)) delN (x_Neighs.take k4)).length ≤ 33554432 + k4) ∧ gn = x_Neighs.length - k4 ∧ St 206 [(2, .pointer (some (padd p1 0))), (3, .pointer (some (padd p3 0))), (8, v25.v), (13, .int .i64 (k4 : Int))] a ∧ Hp w0 (hh w0) [Bx p1 29 [vx_Routes.v, vx_Neighs.v, vx_Fdbs.v], Bx p3 29 [vy_Routes.v, vy_Neighs.v, vy_Fdbs.v], Sv 19 58 v25.v ((((([] : List TOp) ++ pickM (fun e => (!staysR x_Neighs x_Fdbs y_Routes y_Neighs y_Fdbs e) && (e.Local == true)) delR x_Routes) ++ pickM (fun e => (!staysR x_Neighs x_Fdbs y_Routes y_Neighs y_Fdbs e) && (e.Local == false)) delR x_Routes) ++ pickM (fun e => !decide (e ∈ y_Neighs)) delN (x_Neighs.take k4)).map cOp)] w) (x_Neighs.length - 0) ⟨0, v20, by omega, by (rw [pickM_0]; first | (simp; done) | omega), rfl, hs.to ⟨rfl, rfl, rfl, rfl, trivial⟩, m.sub (.c r0 (.c r0 (.c r0 .n)))⟩ ?_
      clear hs m a w22
      rintro gn a w27 ⟨k4, v25, hk, hl, rfl, hs, m⟩
      refine c_seq ?_
      refine c_reg ?_
      refine r_ok hs m (ok_move rfl) rfl ?_
      clear hs a; intro a hs
      refine r_ok hs m (ok_fieldAddr (r := 1) rfl fd29_1 ty26 rfl) rfl ?_
      clear hs a; intro a hs
      refine r_ok hs m (ok_load_sc rfl ty26 (bx_at r0) rfl) rfl ?_
      clear hs a; intro a hs
      refine r_ok hs m (ok_len (r := (x_Neighs.length : Int)) m rfl sl26 (rc_fr hx_Neighs) (by simp)) rfl ?_
      clear hs a; intro a hs
      refine r_ok hs m (ok_bin rfl rfl rfl) rfl ?_
      clear hs a; intro a hs
      refine wpList_nil (n_then ?_)
      refine c_cond hs rfl (fun h28 => ?_) (fun h28 => ?_)
      rotate_left
      · have h28p := of_decide_eq_false h28
        refine wp_exit ?_
        refine ex_then (ex_then (ex_hit (?_)))
        refine n_then ?_
        refine c_seq ?_
        refine c_reg ?_
        refine r_ok hs m (ok_assign rfl) rfl ?_
        clear hs a; intro a hs
        refine wpList_nil (n_then ?_)
        refine wp_block ?_
        rw [show x_Neighs.take k4 = x_Neighs from List.take_of_length_le (by omega)] at m hl
        have q30 : ((([] : List TOp) ++ pickM (fun e => (!staysR x_Neighs x_Fdbs y_Routes y_Neighs y_Fdbs e) && (e.Local == true)) delR x_Routes) ++ pickM (fun e => (!staysR x_Neighs x_Fdbs y_Routes y_Neighs y_Fdbs e) && (e.Local == false)) delR x_Routes) ++ pickM (fun e => !decide (e ∈ y_Neighs)) delN x_Neighs = (((([] : List TOp) ++ pickM (fun e => (!staysR x_Neighs x_Fdbs y_Routes y_Neighs y_Fdbs e) && (e.Local == true)) delR x_Routes) ++ pickM (fun e => (!staysR x_Neighs x_Fdbs y_Routes y_Neighs y_Fdbs e) && (e.Local == false)) delR x_Routes) ++ pickM (fun e => !decide (e ∈ y_Neighs)) delN x_Neighs) ++ pickM (fun e => !decide (e ∈ y_Fdbs)) delF (x_Fdbs.take 0) := by first | exact pickM_0.symm | exact pickM_0 | exact pickM_t (by assumption) (by assumption) | exact pickM_f (by assumption) (by assumption)
        rw [q30] at m
        refine wp_loop_ghost (fun gn a w => ∃ k6 : Nat, ∃ v29 : SH, (k6 ≤ x_Fdbs.length) ∧ (((((([] : List TOp) ++ pickM (fun e => (!staysR x_Neighs x_Fdbs y_Routes y_Neighs y_Fdbs e) && (e.Local == true)) delR x_Routes) ++ pickM (fun e => (!staysR x_Neighs x_Fdbs y_Routes y_Neighs y_Fdbs e) && (e.Local == false)) delR x_Routes) ++ pickM (fun e => !decide (e ∈ y_Neighs)) delN x_Neighs) ++ pickM (fun e => !decide (e ∈ y_Fdbs)) delF (x_Fdbs.take k6)).length ≤ 50331648 + k6) ∧ gn = x_Fdbs.length - k6 ∧ St 206 [(2, .pointer (some (padd p1 0))), (3, .pointer (some (padd p3 0))), (8, v29.v), (15, .int .i64 (k6 : Int))] a ∧ Hp w0 (hh w0) [Bx p1 29 [vx_Routes.v, vx_Neighs.v, vx_Fdbs.v], Bx p3 29 [vy_Routes.v, vy_Neighs.v, vy_Fdbs.v], Sv 19 58 v29.v (((((([] : List TOp) ++ pickM (fun e => (!staysR x_Neighs x_Fdbs y_Routes y_Neighs y_Fdbs e) && (e.Local == true)) delR x_Routes) ++ pickM (fun e => (!staysR x_Neighs x_Fdbs y_Routes y_Neighs y_Fdbs e) && (e.Local == false)) delR x_Routes) ++ pickM (fun e => !decide (e ∈ y_Neighs)) delN x_Neighs) ++ pickM (fun e => !decide (e ∈ y_Fdbs)) delF (x_Fdbs.take k6)).map cOp)] w) (x_Fdbs.length - 0) ⟨0, v25, by omega, by (rw [pickM_0]; first | (simp; done) | omega), rfl, hs.to ⟨rfl, rfl, rfl, rfl, trivial⟩, m.sub (.c r0 (.c r0 (.c r0 .n)))⟩ ?_
        clear hs m a w27
        rintro gn a w31 ⟨k6, v29, hk, hl, rfl, hs, m⟩
        refine c_seq ?_
        refine c_reg ?_
        refine r_ok hs m (ok_move rfl) rfl ?_
        clear hs a; intro a hs
        refine r_ok hs m (ok_fieldAddr (r := 2) rfl fd29_2 ty27 rfl) rfl ?_
        clear hs a; intro a hs
        refine r_ok hs m (ok_load_sc rfl ty27 (bx_at r0) rfl) rfl ?_
        clear hs a; intro a hs
        refine r_ok hs m (ok_len (r := (x_Fdbs.length : Int)) m rfl sl27 (rc_fr hx_Fdbs) (by simp)) rfl ?_
        clear hs a; intro a hs
        refine r_ok hs m (ok_bin rfl rfl rfl) rfl ?_
        clear hs a; intro a hs
        refine wpList_nil (n_then ?_)
        refine c_cond hs rfl (fun h32 => ?_) (fun h32 => ?_)
        rotate_left
        · have h32p := of_decide_eq_false h32
          refine wp_exit ?_
          refine ex_then (ex_then (ex_hit (?_)))
          refine n_then ?_
          refine c_seq ?_
          refine c_reg ?_
          refine r_ok hs m (ok_assign rfl) rfl ?_
          clear hs a; intro a hs
          refine wpList_nil (n_then ?_)
          refine wp_block ?_
          rw [show x_Fdbs.take k6 = x_Fdbs from List.take_of_length_le (by omega)] at m hl
          have q34 : (((([] : List TOp) ++ pickM (fun e => (!staysR x_Neighs x_Fdbs y_Routes y_Neighs y_Fdbs e) && (e.Local == true)) delR x_Routes) ++ pickM (fun e => (!staysR x_Neighs x_Fdbs y_Routes y_Neighs y_Fdbs e) && (e.Local == false)) delR x_Routes) ++ pickM (fun e => !decide (e ∈ y_Neighs)) delN x_Neighs) ++ pickM (fun e => !decide (e ∈ y_Fdbs)) delF x_Fdbs = ((((([] : List TOp) ++ pickM (fun e => (!staysR x_Neighs x_Fdbs y_Routes y_Neighs y_Fdbs e) && (e.Local == true)) delR x_Routes) ++ pickM (fun e => (!staysR x_Neighs x_Fdbs y_Routes y_Neighs y_Fdbs e) && (e.Local == false)) delR x_Routes) ++ pickM (fun e => !decide (e ∈ y_Neighs)) delN x_Neighs) ++ pickM (fun e => !decide (e ∈ y_Fdbs)) delF x_Fdbs) ++ pickM (fun e => !decide (e ∈ x_Fdbs)) putF (y_Fdbs.take 0) := by first | exact pickM_0.symm | exact pickM_0 | exact pickM_t (by assumption) (by assumption) | exact pickM_f (by assumption) (by assumption)
          rw [q34] at m
          refine wp_loop_ghost (fun gn a w => ∃ k8 : Nat, ∃ v33 : SH, (k8 ≤ y_Fdbs.length) ∧ ((((((([] : List TOp) ++ pickM (fun e => (!staysR x_Neighs x_Fdbs y_Routes y_Neighs y_Fdbs e) && (e.Local == true)) delR x_Routes) ++ pickM (fun e => (!staysR x_Neighs x_Fdbs y_Routes y_Neighs y_Fdbs e) && (e.Local == false)) delR x_Routes) ++ pickM (fun e => !decide (e ∈ y_Neighs)) delN x_Neighs) ++ pickM (fun e => !decide (e ∈ y_Fdbs)) delF x_Fdbs) ++ pickM (fun e => !decide (e ∈ x_Fdbs)) putF (y_Fdbs.take k8)).length ≤ 67108864 + k8) ∧ gn = y_Fdbs.length - k8 ∧ St 206 [(2, .pointer (some (padd p1 0))), (3, .pointer (some (padd p3 0))), (8, v33.v), (17, .int .i64 (k8 : Int))] a ∧ Hp w0 (hh w0) [Bx p1 29 [vx_Routes.v, vx_Neighs.v, vx_Fdbs.v], Bx p3 29 [vy_Routes.v, vy_Neighs.v, vy_Fdbs.v], Sv 19 58 v33.v ((((((([] : List TOp) ++ pickM (fun e => (!staysR x_Neighs x_Fdbs y_Routes y_Neighs y_Fdbs e) && (e.Local == true)) delR x_Routes) ++ pickM (fun e => (!staysR x_Neighs x_Fdbs y_Routes y_Neighs y_Fdbs e) && (e.Local == false)) delR x_Routes) ++ pickM (fun e => !decide (e ∈ y_Neighs)) delN x_Neighs) ++ pickM (fun e => !decide (e ∈ y_Fdbs)) delF x_Fdbs) ++ pickM (fun e => !decide (e ∈ x_Fdbs)) putF (y_Fdbs.take k8)).map cOp)] w) (y_Fdbs.length - 0) ⟨0, v29, by omega, by (rw [pickM_0]; first | (simp; done) | omega), rfl, hs.to ⟨rfl, rfl, rfl, rfl, trivial⟩, m.sub (.c r0 (.c r0 (.c r0 .n)))⟩ ?_
          clear hs m a w31
          rintro gn a w35 ⟨k8, v33, hk, hl, rfl, hs, m⟩
          refine c_seq ?_
          refine c_reg ?_
          refine r_ok hs m (ok_move rfl) rfl ?_
          clear hs a; intro a hs
          refine r_ok hs m (ok_fieldAddr (r := 2) rfl fd29_2 ty27 rfl) rfl ?_
          clear hs a; intro a hs
          refine r_ok hs m (ok_load_sc rfl ty27 (bx_at r1) rfl) rfl ?_
          clear hs a; intro a hs
          refine r_ok hs m (ok_len (r := (y_Fdbs.length : Int)) m rfl sl27 (rc_fr hy_Fdbs) (by simp)) rfl ?_
          clear hs a; intro a hs
          refine r_ok hs m (ok_bin rfl rfl rfl) rfl ?_
          clear hs a; intro a hs
          refine wpList_nil (n_then ?_)
          refine c_cond hs rfl (fun h36 => ?_) (fun h36 => ?_)
          rotate_left
          · have h36p := of_decide_eq_false h36
            refine wp_exit ?_
            refine ex_then (ex_then (ex_hit (?_)))
            refine n_then ?_
            refine c_seq ?_
            refine c_reg ?_
            refine r_ok hs m (ok_assign rfl) rfl ?_
            clear hs a; intro a hs
            refine wpList_nil (n_then ?_)
            refine wp_block ?_
            rw [show y_Fdbs.take k8 = y_Fdbs from List.take_of_length_le (by omega)] at m hl
            have q38 : ((((([] : List TOp) ++ pickM (fun e => (!staysR x_Neighs x_Fdbs y_Routes y_Neighs y_Fdbs e) && (e.Local == true)) delR x_Routes) ++ pickM (fun e => (!staysR x_Neighs x_Fdbs y_Routes y_Neighs y_Fdbs e) && (e.Local == false)) delR x_Routes) ++ pickM (fun e => !decide (e ∈ y_Neighs)) delN x_Neighs) ++ pickM (fun e => !decide (e ∈ y_Fdbs)) delF x_Fdbs) ++ pickM (fun e => !decide (e ∈ x_Fdbs)) putF y_Fdbs = (((((([] : List TOp) ++ pickM (fun e => (!staysR x_Neighs x_Fdbs y_Routes y_Neighs y_Fdbs e) && (e.Local == true)) delR x_Routes) ++ pickM (fun e => (!staysR x_Neighs x_Fdbs y_Routes y_Neighs y_Fdbs e) && (e.Local == false)) delR x_Routes) ++ pickM (fun e => !decide (e ∈ y_Neighs)) delN x_Neighs) ++ pickM (fun e => !decide (e ∈ y_Fdbs)) delF x_Fdbs) ++ pickM (fun e => !decide (e ∈ x_Fdbs)) putF y_Fdbs) ++ pickM (fun e => !decide (e ∈ x_Neighs)) putNe (y_Neighs.take 0) := by first | exact pickM_0.symm | exact pickM_0 | exact pickM_t (by assumption) (by assumption) | exact pickM_f (by assumption) (by assumption)
            rw [q38] at m
            refine wp_loop_ghost (fun gn a w => ∃ k10 : Nat, ∃ v37 : SH, (k10 ≤ y_Neighs.length) ∧ (((((((([] : List TOp) ++ pickM (fun e => (!staysR x_Neighs x_Fdbs y_Routes y_Neighs y_Fdbs e) && (e.Local == true)) delR x_Routes) ++ pickM (fun e => (!staysR x_Neighs x_Fdbs y_Routes y_Neighs y_Fdbs e) && (e.Local == false)) delR x_Routes) ++ pickM (fun e => !decide (e ∈ y_Neighs)) delN x_Neighs) ++ pickM (fun e => !decide (e ∈ y_Fdbs)) delF x_Fdbs) ++ pickM (fun e => !decide (e ∈ x_Fdbs)) putF y_Fdbs) ++ pickM (fun e => !decide (e ∈ x_Neighs)) putNe (y_Neighs.take k10)).length ≤ 83886080 + k10) ∧ gn = y_Neighs.length - k10 ∧ St 206 [(2, .pointer (some (padd p1 0))), (3, .pointer (some (padd p3 0))), (8, v37.v), (19, .int .i64 (k10 : Int))] a ∧ Hp w0 (hh w0) [Bx p1 29 [vx_Routes.v, vx_Neighs.v, vx_Fdbs.v], Bx p3 29 [vy_Routes.v, vy_Neighs.v, vy_Fdbs.v], Sv 19 58 v37.v (((((((([] : List TOp) ++ pickM (fun e => (!staysR x_Neighs x_Fdbs y_Routes y_Neighs y_Fdbs e) && (e.Local == true)) delR x_Routes) ++ pickM (fun e => (!staysR x_Neighs x_Fdbs y_Routes y_Neighs y_Fdbs e) && (e.Local == false)) delR x_Routes) ++ pickM (fun e => !decide (e ∈ y_Neighs)) delN x_Neighs) ++ pickM (fun e => !decide (e ∈ y_Fdbs)) delF x_Fdbs) ++ pickM (fun e => !decide (e ∈ x_Fdbs)) putF y_Fdbs) ++ pickM (fun e => !decide (e ∈ x_Neighs)) putNe (y_Neighs.take k10)).map cOp)] w) (y_Neighs.length - 0) ⟨0, v33, by omega, by (rw [pickM_0]; first | (simp; done) | omega), rfl, hs.to ⟨rfl, rfl, rfl, rfl, trivial⟩, m.sub (.c r0 (.c r0 (.c r0 .n)))⟩ ?_
            clear hs m a w35
            rintro gn a w39 ⟨k10, v37, hk, hl, rfl, hs, m⟩
            refine c_seq ?_
            refine c_reg ?_
            refine r_ok hs m (ok_move rfl) rfl ?_
            clear hs a; intro a hs
            refine r_ok hs m (ok_fieldAddr (r := 1) rfl fd29_1 ty26 rfl) rfl ?_
            clear hs a; intro a hs
            refine r_ok hs m (ok_load_sc rfl ty26 (bx_at r1) rfl) rfl ?_
            clear hs a; intro a hs
            refine r_ok hs m (ok_len (r := (y_Neighs.length : Int)) m rfl sl26 (rc_fr hy_Neighs) (by simp)) rfl ?_
            clear hs a; intro a hs
            refine r_ok hs m (ok_bin rfl rfl rfl) rfl ?_
            clear hs a; intro a hs
            refine wpList_nil (n_then ?_)
            refine c_cond hs rfl (fun h40 => ?_) (fun h40 => ?_)
            rotate_left
            · have h40p := of_decide_eq_false h40
              refine wp_exit ?_
              refine ex_then (ex_then (ex_hit (?_)))
              refine n_then ?_
              refine c_seq ?_
              refine c_reg ?_
              refine r_ok hs m (ok_assign rfl) rfl ?_
              clear hs a; intro a hs
              refine wpList_nil (n_then ?_)
              refine wp_block ?_
              rw [show y_Neighs.take k10 = y_Neighs from List.take_of_length_le (by omega)] at m hl
              have q42 : (((((([] : List TOp) ++ pickM (fun e => (!staysR x_Neighs x_Fdbs y_Routes y_Neighs y_Fdbs e) && (e.Local == true)) delR x_Routes) ++ pickM (fun e => (!staysR x_Neighs x_Fdbs y_Routes y_Neighs y_Fdbs e) && (e.Local == false)) delR x_Routes) ++ pickM (fun e => !decide (e ∈ y_Neighs)) delN x_Neighs) ++ pickM (fun e => !decide (e ∈ y_Fdbs)) delF x_Fdbs) ++ pickM (fun e => !decide (e ∈ x_Fdbs)) putF y_Fdbs) ++ pickM (fun e => !decide (e ∈ x_Neighs)) putNe y_Neighs = ((((((([] : List TOp) ++ pickM (fun e => (!staysR x_Neighs x_Fdbs y_Routes y_Neighs y_Fdbs e) && (e.Local == true)) delR x_Routes) ++ pickM (fun e => (!staysR x_Neighs x_Fdbs y_Routes y_Neighs y_Fdbs e) && (e.Local == false)) delR x_Routes) ++ pickM (fun e => !decide (e ∈ y_Neighs)) delN x_Neighs) ++ pickM (fun e => !decide (e ∈ y_Fdbs)) delF x_Fdbs) ++ pickM (fun e => !decide (e ∈ x_Fdbs)) putF y_Fdbs) ++ pickM (fun e => !decide (e ∈ x_Neighs)) putNe y_Neighs) ++ pickM (fun e => (!decide (e ∈ x_Routes)) || !staysR x_Neighs x_Fdbs y_Routes y_Neighs y_Fdbs e) putR (y_Routes.take 0) := by first | exact pickM_0.symm | exact pickM_0 | exact pickM_t (by assumption) (by assumption) | exact pickM_f (by assumption) (by assumption)
              rw [q42] at m
              refine wp_loop_ghost (fun gn a w => ∃ k12 : Nat, ∃ v41 : SH, (k12 ≤ y_Routes.length) ∧ ((((((((([] : List TOp) ++ pickM (fun e => (!staysR x_Neighs x_Fdbs y_Routes y_Neighs y_Fdbs e) && (e.Local == true)) delR x_Routes) ++ pickM (fun e => (!staysR x_Neighs x_Fdbs y_Routes y_Neighs y_Fdbs e) && (e.Local == false)) delR x_Routes) ++ pickM (fun e => !decide (e ∈ y_Neighs)) delN x_Neighs) ++ pickM (fun e => !decide (e ∈ y_Fdbs)) delF x_Fdbs) ++ pickM (fun e => !decide (e ∈ x_Fdbs)) putF y_Fdbs) ++ pickM (fun e => !decide (e ∈ x_Neighs)) putNe y_Neighs) ++ pickM (fun e => (!decide (e ∈ x_Routes)) || !staysR x_Neighs x_Fdbs y_Routes y_Neighs y_Fdbs e) putR (y_Routes.take k12)).length ≤ 100663296 + k12) ∧ gn = y_Routes.length - k12 ∧ St 206 [(2, .pointer (some (padd p1 0))), (3, .pointer (some (padd p3 0))), (8, v41.v), (21, .int .i64 (k12 : Int))] a ∧ Hp w0 (hh w0) [Bx p1 29 [vx_Routes.v, vx_Neighs.v, vx_Fdbs.v], Bx p3 29 [vy_Routes.v, vy_Neighs.v, vy_Fdbs.v], Sv 19 58 v41.v ((((((((([] : List TOp) ++ pickM (fun e => (!staysR x_Neighs x_Fdbs y_Routes y_Neighs y_Fdbs e) && (e.Local == true)) delR x_Routes) ++ pickM (fun e => (!staysR x_Neighs x_Fdbs y_Routes y_Neighs y_Fdbs e) && (e.Local == false)) delR x_Routes) ++ pickM (fun e => !decide (e ∈ y_Neighs)) delN x_Neighs) ++ pickM (fun e => !decide (e ∈ y_Fdbs)) delF x_Fdbs) ++ pickM (fun e => !decide (e ∈ x_Fdbs)) putF y_Fdbs) ++ pickM (fun e => !decide (e ∈ x_Neighs)) putNe y_Neighs) ++ pickM (fun e => (!decide (e ∈ x_Routes)) || !staysR x_Neighs x_Fdbs y_Routes y_Neighs y_Fdbs e) putR (y_Routes.take k12)).map cOp)] w) (y_Routes.length - 0) ⟨0, v37, by omega, by (rw [pickM_0]; first | (simp; done) | omega), rfl, hs.to ⟨rfl, rfl, rfl, rfl, trivial⟩, m.sub (.c r0 (.c r0 (.c r0 .n)))⟩ ?_
              clear hs m a w39
              rintro gn a w43 ⟨k12, v41, hk, hl, rfl, hs, m⟩
              refine c_seq ?_
              refine c_reg ?_
              refine r_ok hs m (ok_move rfl) rfl ?_
              clear hs a; intro a hs
              refine r_ok hs m (ok_fieldAddr (r := 0) rfl fd29_0 ty25 rfl) rfl ?_
              clear hs a; intro a hs
              refine r_ok hs m (ok_load_sc rfl ty25 (bx_at r1) rfl) rfl ?_
              clear hs a; intro a hs
              refine r_ok hs m (ok_len (r := (y_Routes.length : Int)) m rfl sl25 (rc_fr hy_Routes) (by simp)) rfl ?_
              clear hs a; intro a hs
              refine r_ok hs m (ok_bin rfl rfl rfl) rfl ?_
              clear hs a; intro a hs
              refine wpList_nil (n_then ?_)
              refine c_cond hs rfl (fun h44 => ?_) (fun h44 => ?_)
              rotate_left
              · have h44p := of_decide_eq_false h44
                refine wp_exit ?_
                refine ex_then (ex_then (ex_hit (?_)))
                refine n_then ?_
                refine c_reg ?_
                refine r_ok hs m (ok_move rfl) rfl ?_
                clear hs a; intro a hs
                refine r_ok hs m (ok_assign rfl) rfl ?_
                clear hs a; intro a hs
                refine r_ok hs m (ok_assign rfl) rfl ?_
                clear hs a; intro a hs
                refine wpList_nil (n_then ?_)
                refine wp_ret ?_
                refine leave hs (vs := [v41.v, .int .i64 0]) rfl ⟨rfl, rfl, trivial⟩ ?_
                have q45 : ((((((([] : List TOp) ++ pickM (fun e => (!staysR x_Neighs x_Fdbs y_Routes y_Neighs y_Fdbs e) && (e.Local == true)) delR x_Routes) ++ pickM (fun e => (!staysR x_Neighs x_Fdbs y_Routes y_Neighs y_Fdbs e) && (e.Local == false)) delR x_Routes) ++ pickM (fun e => !decide (e ∈ y_Neighs)) delN x_Neighs) ++ pickM (fun e => !decide (e ∈ y_Fdbs)) delF x_Fdbs) ++ pickM (fun e => !decide (e ∈ x_Fdbs)) putF y_Fdbs) ++ pickM (fun e => !decide (e ∈ x_Neighs)) putNe y_Neighs) ++ pickM (fun e => (!decide (e ∈ x_Routes)) || !staysR x_Neighs x_Fdbs y_Routes y_Neighs y_Fdbs e) putR (y_Routes.take k12) = diffRM x_Routes x_Neighs x_Fdbs y_Routes y_Neighs y_Fdbs := by first | exact diffRM_bad (by assumption) | exact diffRE_bad (by assumption) | exact diffRE_ok (by assumption) | exact diffRM_ok (by assumption) (by omega)
                rw [q45] at m
                refine ⟨_, rfl, v41, ?_, m.sub (.c r2 .n)⟩
                have q46 : (0 : Int) = diffRE x_Routes x_Neighs x_Fdbs y_Routes y_Neighs y_Fdbs := by clear hs m; first | exact diffRM_bad (by assumption) | exact diffRE_bad (by assumption) | exact diffRE_ok (by assumption) | exact diffRM_ok (by assumption) (by omega)
                first | (rw [q46]; done) | (rw [q46]; rfl) | (rw [q46]; rfl) | (simp only [q46, pack]; done)
              have h44p := of_decide_eq_true h44
              refine wp_skip ?_
              refine n_then ?_
              refine c_seq ?_
              refine wp_block ?_
              refine c_draw m mo (by kernel_rfl) ?_
              refine q_ok hs (ok_load_ag (vs := [vx_Routes.v, vx_Neighs.v, vx_Fdbs.v]) rfl ty29 (bx_at r0) rfl rfl) rfl ?_
              clear hs a; intro a hs
              refine q_ok hs (ok_fieldAddr (r := 0) rfl fd29_0 ty25 rfl) rfl ?_
              clear hs a; intro a hs
              refine q_ok hs (ok_load_sc rfl ty25 (bx_at r1) rfl) rfl ?_
              clear hs a; intro a hs
              refine q_ok hs (ok_move rfl) rfl ?_
              clear hs a; intro a hs
              obtain ⟨e47, he48⟩ := get_of_lt (l := y_Routes) (i := k12) (by omega)
              refine elF (c := cRoute) (e := e47) hs m (x := (.tmp 177)) (ix := (.tmp 178)) rfl rfl sl25 ty51 hy_Routes (by omega) he48 fun p49 hp50 ok51 => ?_
              refine q_ok hs (ok51 _ _ _ _ _) rfl ?_
              clear hs a; intro a hs
              refine q_ok hs (ok_load_ag (vs := cRoute e47) rfl ty51 (fr_at hp50) rfl rfl) rfl ?_
              clear hs a; intro a hs
              refine q_callP hs rfl rfl ca65 rfl (fun w m => hasRoute_c vx_Routes x_Routes vx_Neighs x_Neighs vx_Fdbs x_Fdbs e47 w (m.rd hx_Routes) (m.rd hx_Neighs) (m.rd hx_Fdbs) ) rfl ?_
              clear hs a; intro a hs
              refine q_ok hs (ok_assign rfl) rfl ?_
              clear hs a; intro a hs
              refine wpQuiet_nil ?_; clear m w43; intro w52 m
              refine c_draw m mo (by kernel_rfl) ?_
              refine q_ok hs (ok_load_ag (vs := [vx_Routes.v, vx_Neighs.v, vx_Fdbs.v]) rfl ty29 (bx_at r0) rfl rfl) rfl ?_
              clear hs a; intro a hs
              refine q_ok hs (ok_load_ag (vs := [vy_Routes.v, vy_Neighs.v, vy_Fdbs.v]) rfl ty29 (bx_at r1) rfl rfl) rfl ?_
              clear hs a; intro a hs
              refine q_ok hs (ok_fieldAddr (r := 0) rfl fd29_0 ty25 rfl) rfl ?_
              clear hs a; intro a hs
              refine q_ok hs (ok_load_sc rfl ty25 (bx_at r1) rfl) rfl ?_
              clear hs a; intro a hs
              refine q_ok hs (ok_move rfl) rfl ?_
              clear hs a; intro a hs
              refine elF (c := cRoute) (e := e47) hs m (x := (.tmp 185)) (ix := (.tmp 186)) rfl rfl sl25 ty51 hy_Routes (by omega) he48 fun p53 hp54 ok55 => ?_
              refine q_ok hs (ok55 _ _ _ _ _) rfl ?_
              clear hs a; intro a hs
              refine q_ok hs (ok_load_ag (vs := cRoute e47) rfl ty51 (fr_at hp54) rfl rfl) rfl ?_
              clear hs a; intro a hs
              refine q_callP hs rfl rfl ca62 rfl (fun w m => staysR_c vx_Routes x_Routes vx_Neighs x_Neighs vx_Fdbs x_Fdbs vy_Routes y_Routes vy_Neighs y_Neighs vy_Fdbs y_Fdbs e47 w (m.rd hx_Routes) (m.rd hx_Neighs) (m.rd hx_Fdbs) (m.rd hy_Routes) (m.rd hy_Neighs) (m.rd hy_Fdbs) ) rfl ?_
              clear hs a; intro a hs
              refine q_ok hs (ok_assign rfl) rfl ?_
              clear hs a; intro a hs
              refine wpQuiet_nil ?_; clear m w52; intro w56 m
              refine c_reg ?_
              refine r_ok hs m (ok_move rfl) rfl ?_
              clear hs a; intro a hs
              refine r_ok hs m (ok_not rfl) rfl ?_
              clear hs a; intro a hs
              refine r_ok hs m (ok_move rfl) rfl ?_
              clear hs a; intro a hs
              refine l_cut (.c (.c (.c (.n)))) (fun a w => St 206 [(2, .pointer (some (padd p1 0))), (3, .pointer (some (padd p3 0))), (8, v41.v), (21, .int .i64 (k12 : Int)), (195, .bool ((!(decide (e47 ∈ x_Routes))) || (!(staysR x_Neighs x_Fdbs y_Routes y_Neighs y_Fdbs e47))))] a ∧ Hp w0 (hh w0) [Bx p1 29 [vx_Routes.v, vx_Neighs.v, vx_Fdbs.v], Bx p3 29 [vy_Routes.v, vy_Neighs.v, vy_Fdbs.v], Sv 19 58 v41.v ((((((((([] : List TOp) ++ pickM (fun e => (!staysR x_Neighs x_Fdbs y_Routes y_Neighs y_Fdbs e) && (e.Local == true)) delR x_Routes) ++ pickM (fun e => (!staysR x_Neighs x_Fdbs y_Routes y_Neighs y_Fdbs e) && (e.Local == false)) delR x_Routes) ++ pickM (fun e => !decide (e ∈ y_Neighs)) delN x_Neighs) ++ pickM (fun e => !decide (e ∈ y_Fdbs)) delF x_Fdbs) ++ pickM (fun e => !decide (e ∈ x_Fdbs)) putF y_Fdbs) ++ pickM (fun e => !decide (e ∈ x_Neighs)) putNe y_Neighs) ++ pickM (fun e => (!decide (e ∈ x_Routes)) || !staysR x_Neighs x_Fdbs y_Routes y_Neighs y_Fdbs e) putR (y_Routes.take k12)).map cOp)] w) ?_ ?_
              · rcases Bool.eq_false_or_eq_true (!(decide (e47 ∈ x_Routes))) with hb57 | hb57
                · have hb57p := hb57; simp only [Bool.or_eq_true, Bool.or_eq_false_iff, Bool.and_eq_true, Bool.and_eq_false_iff, Bool.not_eq_true', Bool.not_eq_false', decide_eq_true_eq, decide_eq_false_iff_not, beq_iff_eq, bne_iff_ne, beq_eq_false_iff_ne, bne_eq_false_iff_eq, ne_eq, gt_iff_lt, ge_iff_le, Int.not_lt, Int.not_le] at hb57p
                  refine g_out hs rfl rfl hb57 rfl ?_
                  clear hs a; intro a hs
                  refine g_out hs rfl rfl hb57 rfl ?_
                  clear hs a; intro a hs
                  refine r_ok hs m (ok_pick (r := .bool ((!(decide (e47 ∈ x_Routes))) || (!(staysR x_Neighs x_Fdbs y_Routes y_Neighs y_Fdbs e47)))) rfl rfl rfl (by rw [hb57]; rfl)) rfl ?_
                  clear hs a; intro a hs
                  exact wpList_nil (n_then ⟨hs.to ⟨rfl, rfl, rfl, rfl, rfl, trivial⟩, m⟩)
                · have hb57p := hb57; simp only [Bool.or_eq_true, Bool.or_eq_false_iff, Bool.and_eq_true, Bool.and_eq_false_iff, Bool.not_eq_true', Bool.not_eq_false', decide_eq_true_eq, decide_eq_false_iff_not, beq_iff_eq, bne_iff_ne, beq_eq_false_iff_ne, bne_eq_false_iff_eq, ne_eq, gt_iff_lt, ge_iff_le, Int.not_lt, Int.not_le] at hb57p
                  refine r_okg hs rfl rfl hb57 m (ok_move rfl) rfl ?_
                  clear hs a; intro a hs
                  refine r_okg hs rfl rfl hb57 m (ok_not rfl) rfl ?_
                  clear hs a; intro a hs
                  refine r_ok hs m (ok_pick (r := .bool ((!(decide (e47 ∈ x_Routes))) || (!(staysR x_Neighs x_Fdbs y_Routes y_Neighs y_Fdbs e47)))) rfl rfl rfl (by rw [hb57]; rfl)) rfl ?_
                  clear hs a; intro a hs
                  exact wpList_nil (n_then ⟨hs.to ⟨rfl, rfl, rfl, rfl, rfl, trivial⟩, m⟩)
              clear hs m a w56; rintro a w58 ⟨hs, m⟩
              refine wpList_nil (n_then ?_)
              refine c_cond hs rfl (fun h59 => ?_) (fun h59 => ?_)
              · have h59p := h59; simp only [Bool.or_eq_true, Bool.or_eq_false_iff, Bool.and_eq_true, Bool.and_eq_false_iff, Bool.not_eq_true', Bool.not_eq_false', decide_eq_true_eq, decide_eq_false_iff_not, beq_iff_eq, bne_iff_ne, beq_eq_false_iff_ne, bne_eq_false_iff_eq, ne_eq, gt_iff_lt, ge_iff_le, Int.not_lt, Int.not_le] at h59p
                refine c_last ?_
                refine r_ok hs m (ok_move rfl) rfl ?_
                clear hs a; intro a hs
                refine r_ok hs m (ok_fieldAddr (r := 0) rfl fd29_0 ty25 rfl) rfl ?_
                clear hs a; intro a hs
                refine r_ok hs m (ok_load_sc rfl ty25 (bx_at r1) rfl) rfl ?_
                clear hs a; intro a hs
                refine r_ok hs m (ok_move rfl) rfl ?_
                clear hs a; intro a hs
                refine elF (c := cRoute) (e := e47) hs m (x := (.tmp 198)) (ix := (.tmp 199)) rfl rfl sl25 ty51 hy_Routes (by omega) he48 fun p60 hp61 ok62 => ?_
                refine r_ok hs m (ok62 _ _ _ _ _) rfl ?_
                clear hs a; intro a hs
                refine r_ok hs m (ok_load_ag (vs := cRoute e47) rfl ty51 (fr_at hp61) rfl rfl) rfl ?_
                clear hs a; intro a hs
                refine r_ok hs m (ok_build (cs := cOp (⟨⟨1, rfl⟩, e47, (⟨⟨0, rfl⟩, (⟨⟨0, rfl⟩, ⟨0, rfl⟩, ⟨0, rfl⟩, ⟨0, rfl⟩, ⟨0, rfl⟩, ⟨0, rfl⟩⟩ : TMAC)⟩ : TNeigh), (⟨(⟨⟨0, rfl⟩, ⟨0, rfl⟩, ⟨0, rfl⟩, ⟨0, rfl⟩, ⟨0, rfl⟩, ⟨0, rfl⟩⟩ : TMAC), ⟨0, rfl⟩⟩ : TFdb)⟩ : TOp)) st58 ze58 rfl rfl) rfl ?_
                clear hs a; intro a hs
                refine r_buildM (c := cOp) (ys := [(⟨⟨1, rfl⟩, e47, (⟨⟨0, rfl⟩, (⟨⟨0, rfl⟩, ⟨0, rfl⟩, ⟨0, rfl⟩, ⟨0, rfl⟩, ⟨0, rfl⟩, ⟨0, rfl⟩⟩ : TMAC)⟩ : TNeigh), (⟨(⟨⟨0, rfl⟩, ⟨0, rfl⟩, ⟨0, rfl⟩, ⟨0, rfl⟩, ⟨0, rfl⟩, ⟨0, rfl⟩⟩ : TMAC), ⟨0, rfl⟩⟩ : TFdb)⟩ : TOp)]) hs m sl35 ty58 ze58 rfl rfl rfl rfl rfl (fun _ => rfl) rfl rfl rfl ?_
                clear m hs a w58; intro v63 w64 m a hs
                refine r_appendM (c := cOp) (xs := ((((((([] : List TOp) ++ pickM (fun e => (!staysR x_Neighs x_Fdbs y_Routes y_Neighs y_Fdbs e) && (e.Local == true)) delR x_Routes) ++ pickM (fun e => (!staysR x_Neighs x_Fdbs y_Routes y_Neighs y_Fdbs e) && (e.Local == false)) delR x_Routes) ++ pickM (fun e => !decide (e ∈ y_Neighs)) delN x_Neighs) ++ pickM (fun e => !decide (e ∈ y_Fdbs)) delF x_Fdbs) ++ pickM (fun e => !decide (e ∈ x_Fdbs)) putF y_Fdbs) ++ pickM (fun e => !decide (e ∈ x_Neighs)) putNe y_Neighs) ++ pickM (fun e => (!decide (e ∈ x_Routes)) || !staysR x_Neighs x_Fdbs y_Routes y_Neighs y_Fdbs e) putR (y_Routes.take k12)) (ys := [(⟨⟨1, rfl⟩, e47, (⟨⟨0, rfl⟩, (⟨⟨0, rfl⟩, ⟨0, rfl⟩, ⟨0, rfl⟩, ⟨0, rfl⟩, ⟨0, rfl⟩, ⟨0, rfl⟩⟩ : TMAC)⟩ : TNeigh), (⟨(⟨⟨0, rfl⟩, ⟨0, rfl⟩, ⟨0, rfl⟩, ⟨0, rfl⟩, ⟨0, rfl⟩, ⟨0, rfl⟩⟩ : TMAC), ⟨0, rfl⟩⟩ : TFdb)⟩ : TOp)]) hs m rfl rfl sl35 ni35 ty58 ze58 rfl by58 rfl r3 (m.rdv r0) (fun _ => rfl) (by first | omega | (simp only [List.length_cons, List.length_nil]; omega)) rfl ?_
                clear m hs a w64; intro v65 w66 m a hs
                refine r_ok hs m (ok_assign rfl) rfl ?_
                clear hs a; intro a hs
                refine wpList_nil (n_block (n_then ?_))
                refine c_last ?_
                refine r_ok hs m (ok_move rfl) rfl ?_
                clear hs a; intro a hs
                refine r_ok hs m (ok_add (r := (k12 : Int) + 1) rfl rfl (wrap_i64 (by omega) (by omega))) rfl ?_
                clear hs a; intro a hs
                refine r_ok hs m (ok_assign rfl) rfl ?_
                clear hs a; intro a hs
                refine wpList_nil (n_then ?_)
                have q67 : ((((((([] : List TOp) ++ pickM (fun e => (!staysR x_Neighs x_Fdbs y_Routes y_Neighs y_Fdbs e) && (e.Local == true)) delR x_Routes) ++ pickM (fun e => (!staysR x_Neighs x_Fdbs y_Routes y_Neighs y_Fdbs e) && (e.Local == false)) delR x_Routes) ++ pickM (fun e => !decide (e ∈ y_Neighs)) delN x_Neighs) ++ pickM (fun e => !decide (e ∈ y_Fdbs)) delF x_Fdbs) ++ pickM (fun e => !decide (e ∈ x_Fdbs)) putF y_Fdbs) ++ pickM (fun e => !decide (e ∈ x_Neighs)) putNe y_Neighs) ++ pickM (fun e => (!decide (e ∈ x_Routes)) || !staysR x_Neighs x_Fdbs y_Routes y_Neighs y_Fdbs e) putR (y_Routes.take k12) ++ [(⟨⟨1, rfl⟩, e47, (⟨⟨0, rfl⟩, (⟨⟨0, rfl⟩, ⟨0, rfl⟩, ⟨0, rfl⟩, ⟨0, rfl⟩, ⟨0, rfl⟩, ⟨0, rfl⟩⟩ : TMAC)⟩ : TNeigh), (⟨(⟨⟨0, rfl⟩, ⟨0, rfl⟩, ⟨0, rfl⟩, ⟨0, rfl⟩, ⟨0, rfl⟩, ⟨0, rfl⟩⟩ : TMAC), ⟨0, rfl⟩⟩ : TFdb)⟩ : TOp)] = ((((((([] : List TOp) ++ pickM (fun e => (!staysR x_Neighs x_Fdbs y_Routes y_Neighs y_Fdbs e) && (e.Local == true)) delR x_Routes) ++ pickM (fun e => (!staysR x_Neighs x_Fdbs y_Routes y_Neighs y_Fdbs e) && (e.Local == false)) delR x_Routes) ++ pickM (fun e => !decide (e ∈ y_Neighs)) delN x_Neighs) ++ pickM (fun e => !decide (e ∈ y_Fdbs)) delF x_Fdbs) ++ pickM (fun e => !decide (e ∈ x_Fdbs)) putF y_Fdbs) ++ pickM (fun e => !decide (e ∈ x_Neighs)) putNe y_Neighs) ++ pickM (fun e => (!decide (e ∈ x_Routes)) || !staysR x_Neighs x_Fdbs y_Routes y_Neighs y_Fdbs e) putR (y_Routes.take (k12 + 1)) := by first | exact pickM_0.symm | exact pickM_0 | exact pickM_t (by assumption) (by assumption) | exact pickM_f (by assumption) (by assumption)
                rw [q67] at m
                exact ⟨y_Routes.length - (k12 + 1), by omega, k12 + 1, v65, by omega, by exact Nat.le_trans pickM_add (by omega), rfl, hs.to ⟨rfl, rfl, rfl, rfl, trivial⟩, m.sub (.c r2 (.c r2 (.c r0 .n)))⟩
              have h59p := h59; simp only [Bool.or_eq_true, Bool.or_eq_false_iff, Bool.and_eq_true, Bool.and_eq_false_iff, Bool.not_eq_true', Bool.not_eq_false', decide_eq_true_eq, decide_eq_false_iff_not, beq_iff_eq, bne_iff_ne, beq_eq_false_iff_ne, bne_eq_false_iff_eq, ne_eq, gt_iff_lt, ge_iff_le, Int.not_lt, Int.not_le] at h59p
              refine wp_skip ?_
              refine n_block (n_then ?_)
              refine c_last ?_
              refine r_ok hs m (ok_move rfl) rfl ?_
              clear hs a; intro a hs
              refine r_ok hs m (ok_add (r := (k12 : Int) + 1) rfl rfl (wrap_i64 (by omega) (by omega))) rfl ?_
              clear hs a; intro a hs
              refine r_ok hs m (ok_assign rfl) rfl ?_
              clear hs a; intro a hs
              refine wpList_nil (n_then ?_)
              have q68 : ((((((([] : List TOp) ++ pickM (fun e => (!staysR x_Neighs x_Fdbs y_Routes y_Neighs y_Fdbs e) && (e.Local == true)) delR x_Routes) ++ pickM (fun e => (!staysR x_Neighs x_Fdbs y_Routes y_Neighs y_Fdbs e) && (e.Local == false)) delR x_Routes) ++ pickM (fun e => !decide (e ∈ y_Neighs)) delN x_Neighs) ++ pickM (fun e => !decide (e ∈ y_Fdbs)) delF x_Fdbs) ++ pickM (fun e => !decide (e ∈ x_Fdbs)) putF y_Fdbs) ++ pickM (fun e => !decide (e ∈ x_Neighs)) putNe y_Neighs) ++ pickM (fun e => (!decide (e ∈ x_Routes)) || !staysR x_Neighs x_Fdbs y_Routes y_Neighs y_Fdbs e) putR (y_Routes.take k12) = ((((((([] : List TOp) ++ pickM (fun e => (!staysR x_Neighs x_Fdbs y_Routes y_Neighs y_Fdbs e) && (e.Local == true)) delR x_Routes) ++ pickM (fun e => (!staysR x_Neighs x_Fdbs y_Routes y_Neighs y_Fdbs e) && (e.Local == false)) delR x_Routes) ++ pickM (fun e => !decide (e ∈ y_Neighs)) delN x_Neighs) ++ pickM (fun e => !decide (e ∈ y_Fdbs)) delF x_Fdbs) ++ pickM (fun e => !decide (e ∈ x_Fdbs)) putF y_Fdbs) ++ pickM (fun e => !decide (e ∈ x_Neighs)) putNe y_Neighs) ++ pickM (fun e => (!decide (e ∈ x_Routes)) || !staysR x_Neighs x_Fdbs y_Routes y_Neighs y_Fdbs e) putR (y_Routes.take (k12 + 1)) := by first | exact pickM_0.symm | exact pickM_0 | exact pickM_t (by assumption) (by assumption) | exact pickM_f (by assumption) (by assumption)
              rw [q68] at m
              exact ⟨y_Routes.length - (k12 + 1), by omega, k12 + 1, v41, by omega, by exact Nat.le_trans pickM_add (by omega), rfl, hs.to ⟨rfl, rfl, rfl, rfl, trivial⟩, m.sub (.c r0 (.c r0 (.c r0 .n)))⟩
            have h40p := of_decide_eq_true h40
            refine wp_skip ?_
            refine n_then ?_
            refine c_seq ?_
            refine wp_block ?_
            refine c_draw m mo (by kernel_rfl) ?_
            refine q_ok hs (ok_load_ag (vs := [vx_Routes.v, vx_Neighs.v, vx_Fdbs.v]) rfl ty29 (bx_at r0) rfl rfl) rfl ?_
            clear hs a; intro a hs
            refine q_ok hs (ok_fieldAddr (r := 1) rfl fd29_1 ty26 rfl) rfl ?_
            clear hs a; intro a hs
            refine q_ok hs (ok_load_sc rfl ty26 (bx_at r1) rfl) rfl ?_
            clear hs a; intro a hs
            refine q_ok hs (ok_move rfl) rfl ?_
            clear hs a; intro a hs
            obtain ⟨e69, he70⟩ := get_of_lt (l := y_Neighs) (i := k10) (by omega)
            refine elF (c := cNeigh) (e := e69) hs m (x := (.tmp 152)) (ix := (.tmp 153)) rfl rfl sl26 ty54 hy_Neighs (by omega) he70 fun p71 hp72 ok73 => ?_
            refine q_ok hs (ok73 _ _ _ _ _) rfl ?_
            clear hs a; intro a hs
            refine q_ok hs (ok_load_ag (vs := cNeigh e69) rfl ty54 (fr_at hp72) rfl rfl) rfl ?_
            clear hs a; intro a hs
            refine q_callP hs rfl rfl ca63 rfl (fun w m => hasNeigh_c vx_Routes x_Routes vx_Neighs x_Neighs vx_Fdbs x_Fdbs e69 w (m.rd hx_Routes) (m.rd hx_Neighs) (m.rd hx_Fdbs) ) rfl ?_
            clear hs a; intro a hs
            refine q_ok hs (ok_assign rfl) rfl ?_
            clear hs a; intro a hs
            refine wpQuiet_nil ?_; clear m w39; intro w74 m
            refine c_reg ?_
            refine r_ok hs m (ok_move rfl) rfl ?_
            clear hs a; intro a hs
            refine r_ok hs m (ok_not rfl) rfl ?_
            clear hs a; intro a hs
            refine wpList_nil (n_then ?_)
            refine c_cond hs rfl (fun h75 => ?_) (fun h75 => ?_)
            · have h75p := h75; simp only [Bool.or_eq_true, Bool.or_eq_false_iff, Bool.and_eq_true, Bool.and_eq_false_iff, Bool.not_eq_true', Bool.not_eq_false', decide_eq_true_eq, decide_eq_false_iff_not, beq_iff_eq, bne_iff_ne, beq_eq_false_iff_ne, bne_eq_false_iff_eq, ne_eq, gt_iff_lt, ge_iff_le, Int.not_lt, Int.not_le] at h75p
              refine c_last ?_
              refine r_ok hs m (ok_move rfl) rfl ?_
              clear hs a; intro a hs
              refine r_ok hs m (ok_fieldAddr (r := 1) rfl fd29_1 ty26 rfl) rfl ?_
              clear hs a; intro a hs
              refine r_ok hs m (ok_load_sc rfl ty26 (bx_at r1) rfl) rfl ?_
              clear hs a; intro a hs
              refine r_ok hs m (ok_move rfl) rfl ?_
              clear hs a; intro a hs
              refine elF (c := cNeigh) (e := e69) hs m (x := (.tmp 161)) (ix := (.tmp 162)) rfl rfl sl26 ty54 hy_Neighs (by omega) he70 fun p76 hp77 ok78 => ?_
              refine r_ok hs m (ok78 _ _ _ _ _) rfl ?_
              clear hs a; intro a hs
              refine r_ok hs m (ok_load_ag (vs := cNeigh e69) rfl ty54 (fr_at hp77) rfl rfl) rfl ?_
              clear hs a; intro a hs
              refine r_ok hs m (ok_build (cs := cOp (⟨⟨3, rfl⟩, (⟨(⟨⟨0, rfl⟩, ⟨0, rfl⟩⟩ : TPrefix), ⟨0, rfl⟩, false⟩ : TRoute), e69, (⟨(⟨⟨0, rfl⟩, ⟨0, rfl⟩, ⟨0, rfl⟩, ⟨0, rfl⟩, ⟨0, rfl⟩, ⟨0, rfl⟩⟩ : TMAC), ⟨0, rfl⟩⟩ : TFdb)⟩ : TOp)) st58 ze58 rfl rfl) rfl ?_
              clear hs a; intro a hs
              refine r_buildM (c := cOp) (ys := [(⟨⟨3, rfl⟩, (⟨(⟨⟨0, rfl⟩, ⟨0, rfl⟩⟩ : TPrefix), ⟨0, rfl⟩, false⟩ : TRoute), e69, (⟨(⟨⟨0, rfl⟩, ⟨0, rfl⟩, ⟨0, rfl⟩, ⟨0, rfl⟩, ⟨0, rfl⟩, ⟨0, rfl⟩⟩ : TMAC), ⟨0, rfl⟩⟩ : TFdb)⟩ : TOp)]) hs m sl35 ty58 ze58 rfl rfl rfl rfl rfl (fun _ => rfl) rfl rfl rfl ?_
              clear m hs a w74; intro v79 w80 m a hs
              refine r_appendM (c := cOp) (xs := (((((([] : List TOp) ++ pickM (fun e => (!staysR x_Neighs x_Fdbs y_Routes y_Neighs y_Fdbs e) && (e.Local == true)) delR x_Routes) ++ pickM (fun e => (!staysR x_Neighs x_Fdbs y_Routes y_Neighs y_Fdbs e) && (e.Local == false)) delR x_Routes) ++ pickM (fun e => !decide (e ∈ y_Neighs)) delN x_Neighs) ++ pickM (fun e => !decide (e ∈ y_Fdbs)) delF x_Fdbs) ++ pickM (fun e => !decide (e ∈ x_Fdbs)) putF y_Fdbs) ++ pickM (fun e => !decide (e ∈ x_Neighs)) putNe (y_Neighs.take k10)) (ys := [(⟨⟨3, rfl⟩, (⟨(⟨⟨0, rfl⟩, ⟨0, rfl⟩⟩ : TPrefix), ⟨0, rfl⟩, false⟩ : TRoute), e69, (⟨(⟨⟨0, rfl⟩, ⟨0, rfl⟩, ⟨0, rfl⟩, ⟨0, rfl⟩, ⟨0, rfl⟩, ⟨0, rfl⟩⟩ : TMAC), ⟨0, rfl⟩⟩ : TFdb)⟩ : TOp)]) hs m rfl rfl sl35 ni35 ty58 ze58 rfl by58 rfl r3 (m.rdv r0) (fun _ => rfl) (by first | omega | (simp only [List.length_cons, List.length_nil]; omega)) rfl ?_
              clear m hs a w80; intro v81 w82 m a hs
              refine r_ok hs m (ok_assign rfl) rfl ?_
              clear hs a; intro a hs
              refine wpList_nil (n_block (n_then ?_))
              refine c_last ?_
              refine r_ok hs m (ok_move rfl) rfl ?_
              clear hs a; intro a hs
              refine r_ok hs m (ok_add (r := (k10 : Int) + 1) rfl rfl (wrap_i64 (by omega) (by omega))) rfl ?_
              clear hs a; intro a hs
              refine r_ok hs m (ok_assign rfl) rfl ?_
              clear hs a; intro a hs
              refine wpList_nil (n_then ?_)
              have q83 : (((((([] : List TOp) ++ pickM (fun e => (!staysR x_Neighs x_Fdbs y_Routes y_Neighs y_Fdbs e) && (e.Local == true)) delR x_Routes) ++ pickM (fun e => (!staysR x_Neighs x_Fdbs y_Routes y_Neighs y_Fdbs e) && (e.Local == false)) delR x_Routes) ++ pickM (fun e => !decide (e ∈ y_Neighs)) delN x_Neighs) ++ pickM (fun e => !decide (e ∈ y_Fdbs)) delF x_Fdbs) ++ pickM (fun e => !decide (e ∈ x_Fdbs)) putF y_Fdbs) ++ pickM (fun e => !decide (e ∈ x_Neighs)) putNe (y_Neighs.take k10) ++ [(⟨⟨3, rfl⟩, (⟨(⟨⟨0, rfl⟩, ⟨0, rfl⟩⟩ : TPrefix), ⟨0, rfl⟩, false⟩ : TRoute), e69, (⟨(⟨⟨0, rfl⟩, ⟨0, rfl⟩, ⟨0, rfl⟩, ⟨0, rfl⟩, ⟨0, rfl⟩, ⟨0, rfl⟩⟩ : TMAC), ⟨0, rfl⟩⟩ : TFdb)⟩ : TOp)] = (((((([] : List TOp) ++ pickM (fun e => (!staysR x_Neighs x_Fdbs y_Routes y_Neighs y_Fdbs e) && (e.Local == true)) delR x_Routes) ++ pickM (fun e => (!staysR x_Neighs x_Fdbs y_Routes y_Neighs y_Fdbs e) && (e.Local == false)) delR x_Routes) ++ pickM (fun e => !decide (e ∈ y_Neighs)) delN x_Neighs) ++ pickM (fun e => !decide (e ∈ y_Fdbs)) delF x_Fdbs) ++ pickM (fun e => !decide (e ∈ x_Fdbs)) putF y_Fdbs) ++ pickM (fun e => !decide (e ∈ x_Neighs)) putNe (y_Neighs.take (k10 + 1)) := by first | exact pickM_0.symm | exact pickM_0 | exact pickM_t (by assumption) (by assumption) | exact pickM_f (by assumption) (by assumption)
              rw [q83] at m
              exact ⟨y_Neighs.length - (k10 + 1), by omega, k10 + 1, v81, by omega, by exact Nat.le_trans pickM_add (by omega), rfl, hs.to ⟨rfl, rfl, rfl, rfl, trivial⟩, m.sub (.c r2 (.c r2 (.c r0 .n)))⟩
            have h75p := h75; simp only [Bool.or_eq_true, Bool.or_eq_false_iff, Bool.and_eq_true, Bool.and_eq_false_iff, Bool.not_eq_true', Bool.not_eq_false', decide_eq_true_eq, decide_eq_false_iff_not, beq_iff_eq, bne_iff_ne, beq_eq_false_iff_ne, bne_eq_false_iff_eq, ne_eq, gt_iff_lt, ge_iff_le, Int.not_lt, Int.not_le] at h75p
            refine wp_skip ?_
            refine n_block (n_then ?_)
            refine c_last ?_
            refine r_ok hs m (ok_move rfl) rfl ?_
            clear hs a; intro a hs
            refine r_ok hs m (ok_add (r := (k10 : Int) + 1) rfl rfl (wrap_i64 (by omega) (by omega))) rfl ?_
            clear hs a; intro a hs
            refine r_ok hs m (ok_assign rfl) rfl ?_
            clear hs a; intro a hs
            refine wpList_nil (n_then ?_)
            have q84 : (((((([] : List TOp) ++ pickM (fun e => (!staysR x_Neighs x_Fdbs y_Routes y_Neighs y_Fdbs e) && (e.Local == true)) delR x_Routes) ++ pickM (fun e => (!staysR x_Neighs x_Fdbs y_Routes y_Neighs y_Fdbs e) && (e.Local == false)) delR x_Routes) ++ pickM (fun e => !decide (e ∈ y_Neighs)) delN x_Neighs) ++ pickM (fun e => !decide (e ∈ y_Fdbs)) delF x_Fdbs) ++ pickM (fun e => !decide (e ∈ x_Fdbs)) putF y_Fdbs) ++ pickM (fun e => !decide (e ∈ x_Neighs)) putNe (y_Neighs.take k10) = (((((([] : List TOp) ++ pickM (fun e => (!staysR x_Neighs x_Fdbs y_Routes y_Neighs y_Fdbs e) && (e.Local == true)) delR x_Routes) ++ pickM (fun e => (!staysR x_Neighs x_Fdbs y_Routes y_Neighs y_Fdbs e) && (e.Local == false)) delR x_Routes) ++ pickM (fun e => !decide (e ∈ y_Neighs)) delN x_Neighs) ++ pickM (fun e => !decide (e ∈ y_Fdbs)) delF x_Fdbs) ++ pickM (fun e => !decide (e ∈ x_Fdbs)) putF y_Fdbs) ++ pickM (fun e => !decide (e ∈ x_Neighs)) putNe (y_Neighs.take (k10 + 1)) := by first | exact pickM_0.symm | exact pickM_0 | exact pickM_t (by assumption) (by assumption) | exact pickM_f (by assumption) (by assumption)
            rw [q84] at m
            exact ⟨y_Neighs.length - (k10 + 1), by omega, k10 + 1, v37, by omega, by exact Nat.le_trans pickM_add (by omega), rfl, hs.to ⟨rfl, rfl, rfl, rfl, trivial⟩, m.sub (.c r0 (.c r0 (.c r0 .n)))⟩
          have h36p := of_decide_eq_true h36
          refine wp_skip ?_
          refine n_then ?_
          refine c_seq ?_
          refine wp_block ?_
          refine c_draw m mo (by kernel_rfl) ?_
          refine q_ok hs (ok_load_ag (vs := [vx_Routes.v, vx_Neighs.v, vx_Fdbs.v]) rfl ty29 (bx_at r0) rfl rfl) rfl ?_
          clear hs a; intro a hs
          refine q_ok hs (ok_fieldAddr (r := 2) rfl fd29_2 ty27 rfl) rfl ?_
          clear hs a; intro a hs
          refine q_ok hs (ok_load_sc rfl ty27 (bx_at r1) rfl) rfl ?_
          clear hs a; intro a hs
          refine q_ok hs (ok_move rfl) rfl ?_
          clear hs a; intro a hs
          obtain ⟨e85, he86⟩ := get_of_lt (l := y_Fdbs) (i := k8) (by omega)
          refine elF (c := cFdb) (e := e85) hs m (x := (.tmp 127)) (ix := (.tmp 128)) rfl rfl sl27 ty56 hy_Fdbs (by omega) he86 fun p87 hp88 ok89 => ?_
          refine q_ok hs (ok89 _ _ _ _ _) rfl ?_
          clear hs a; intro a hs
          refine q_ok hs (ok_load_ag (vs := cFdb e85) rfl ty56 (fr_at hp88) rfl rfl) rfl ?_
          clear hs a; intro a hs
          refine q_callP hs rfl rfl ca64 rfl (fun w m => hasFdb_c vx_Routes x_Routes vx_Neighs x_Neighs vx_Fdbs x_Fdbs e85 w (m.rd hx_Routes) (m.rd hx_Neighs) (m.rd hx_Fdbs) ) rfl ?_
          clear hs a; intro a hs
          refine q_ok hs (ok_assign rfl) rfl ?_
          clear hs a; intro a hs
          refine wpQuiet_nil ?_; clear m w35; intro w90 m
          refine c_reg ?_
          refine r_ok hs m (ok_move rfl) rfl ?_
          clear hs a; intro a hs
          refine r_ok hs m (ok_not rfl) rfl ?_
          clear hs a; intro a hs
          refine wpList_nil (n_then ?_)
          refine c_cond hs rfl (fun h91 => ?_) (fun h91 => ?_)
          · have h91p := h91; simp only [Bool.or_eq_true, Bool.or_eq_false_iff, Bool.and_eq_true, Bool.and_eq_false_iff, Bool.not_eq_true', Bool.not_eq_false', decide_eq_true_eq, decide_eq_false_iff_not, beq_iff_eq, bne_iff_ne, beq_eq_false_iff_ne, bne_eq_false_iff_eq, ne_eq, gt_iff_lt, ge_iff_le, Int.not_lt, Int.not_le] at h91p
            refine c_last ?_
            refine r_ok hs m (ok_move rfl) rfl ?_
            clear hs a; intro a hs
            refine r_ok hs m (ok_fieldAddr (r := 2) rfl fd29_2 ty27 rfl) rfl ?_
            clear hs a; intro a hs
            refine r_ok hs m (ok_load_sc rfl ty27 (bx_at r1) rfl) rfl ?_
            clear hs a; intro a hs
            refine r_ok hs m (ok_move rfl) rfl ?_
            clear hs a; intro a hs
            refine elF (c := cFdb) (e := e85) hs m (x := (.tmp 136)) (ix := (.tmp 137)) rfl rfl sl27 ty56 hy_Fdbs (by omega) he86 fun p92 hp93 ok94 => ?_
            refine r_ok hs m (ok94 _ _ _ _ _) rfl ?_
            clear hs a; intro a hs
            refine r_ok hs m (ok_load_ag (vs := cFdb e85) rfl ty56 (fr_at hp93) rfl rfl) rfl ?_
            clear hs a; intro a hs
            refine r_ok hs m (ok_build (cs := cOp (⟨⟨5, rfl⟩, (⟨(⟨⟨0, rfl⟩, ⟨0, rfl⟩⟩ : TPrefix), ⟨0, rfl⟩, false⟩ : TRoute), (⟨⟨0, rfl⟩, (⟨⟨0, rfl⟩, ⟨0, rfl⟩, ⟨0, rfl⟩, ⟨0, rfl⟩, ⟨0, rfl⟩, ⟨0, rfl⟩⟩ : TMAC)⟩ : TNeigh), e85⟩ : TOp)) st58 ze58 rfl rfl) rfl ?_
            clear hs a; intro a hs
            refine r_buildM (c := cOp) (ys := [(⟨⟨5, rfl⟩, (⟨(⟨⟨0, rfl⟩, ⟨0, rfl⟩⟩ : TPrefix), ⟨0, rfl⟩, false⟩ : TRoute), (⟨⟨0, rfl⟩, (⟨⟨0, rfl⟩, ⟨0, rfl⟩, ⟨0, rfl⟩, ⟨0, rfl⟩, ⟨0, rfl⟩, ⟨0, rfl⟩⟩ : TMAC)⟩ : TNeigh), e85⟩ : TOp)]) hs m sl35 ty58 ze58 rfl rfl rfl rfl rfl (fun _ => rfl) rfl rfl rfl ?_
            clear m hs a w90; intro v95 w96 m a hs
            refine r_appendM (c := cOp) (xs := ((((([] : List TOp) ++ pickM (fun e => (!staysR x_Neighs x_Fdbs y_Routes y_Neighs y_Fdbs e) && (e.Local == true)) delR x_Routes) ++ pickM (fun e => (!staysR x_Neighs x_Fdbs y_Routes y_Neighs y_Fdbs e) && (e.Local == false)) delR x_Routes) ++ pickM (fun e => !decide (e ∈ y_Neighs)) delN x_Neighs) ++ pickM (fun e => !decide (e ∈ y_Fdbs)) delF x_Fdbs) ++ pickM (fun e => !decide (e ∈ x_Fdbs)) putF (y_Fdbs.take k8)) (ys := [(⟨⟨5, rfl⟩, (⟨(⟨⟨0, rfl⟩, ⟨0, rfl⟩⟩ : TPrefix), ⟨0, rfl⟩, false⟩ : TRoute), (⟨⟨0, rfl⟩, (⟨⟨0, rfl⟩, ⟨0, rfl⟩, ⟨0, rfl⟩, ⟨0, rfl⟩, ⟨0, rfl⟩, ⟨0, rfl⟩⟩ : TMAC)⟩ : TNeigh), e85⟩ : TOp)]) hs m rfl rfl sl35 ni35 ty58 ze58 rfl by58 rfl r3 (m.rdv r0) (fun _ => rfl) (by first | omega | (simp only [List.length_cons, List.length_nil]; omega)) rfl ?_
            clear m hs a w96; intro v97 w98 m a hs
            refine r_ok hs m (ok_assign rfl) rfl ?_
            clear hs a; intro a hs
            refine wpList_nil (n_block (n_then ?_))
            refine c_last ?_
            refine r_ok hs m (ok_move rfl) rfl ?_
            clear hs a; intro a hs
            refine r_ok hs m (ok_add (r := (k8 : Int) + 1) rfl rfl (wrap_i64 (by omega) (by omega))) rfl ?_
            clear hs a; intro a hs
            refine r_ok hs m (ok_assign rfl) rfl ?_
            clear hs a; intro a hs
            refine wpList_nil (n_then ?_)
            have q99 : ((((([] : List TOp) ++ pickM (fun e => (!staysR x_Neighs x_Fdbs y_Routes y_Neighs y_Fdbs e) && (e.Local == true)) delR x_Routes) ++ pickM (fun e => (!staysR x_Neighs x_Fdbs y_Routes y_Neighs y_Fdbs e) && (e.Local == false)) delR x_Routes) ++ pickM (fun e => !decide (e ∈ y_Neighs)) delN x_Neighs) ++ pickM (fun e => !decide (e ∈ y_Fdbs)) delF x_Fdbs) ++ pickM (fun e => !decide (e ∈ x_Fdbs)) putF (y_Fdbs.take k8) ++ [(⟨⟨5, rfl⟩, (⟨(⟨⟨0, rfl⟩, ⟨0, rfl⟩⟩ : TPrefix), ⟨0, rfl⟩, false⟩ : TRoute), (⟨⟨0, rfl⟩, (⟨⟨0, rfl⟩, ⟨0, rfl⟩, ⟨0, rfl⟩, ⟨0, rfl⟩, ⟨0, rfl⟩, ⟨0, rfl⟩⟩ : TMAC)⟩ : TNeigh), e85⟩ : TOp)] = ((((([] : List TOp) ++ pickM (fun e => (!staysR x_Neighs x_Fdbs y_Routes y_Neighs y_Fdbs e) && (e.Local == true)) delR x_Routes) ++ pickM (fun e => (!staysR x_Neighs x_Fdbs y_Routes y_Neighs y_Fdbs e) && (e.Local == false)) delR x_Routes) ++ pickM (fun e => !decide (e ∈ y_Neighs)) delN x_Neighs) ++ pickM (fun e => !decide (e ∈ y_Fdbs)) delF x_Fdbs) ++ pickM (fun e => !decide (e ∈ x_Fdbs)) putF (y_Fdbs.take (k8 + 1)) := by first | exact pickM_0.symm | exact pickM_0 | exact pickM_t (by assumption) (by assumption) | exact pickM_f (by assumption) (by assumption)
            rw [q99] at m
            exact ⟨y_Fdbs.length - (k8 + 1), by omega, k8 + 1, v97, by omega, by exact Nat.le_trans pickM_add (by omega), rfl, hs.to ⟨rfl, rfl, rfl, rfl, trivial⟩, m.sub (.c r2 (.c r2 (.c r0 .n)))⟩
          have h91p := h91; simp only [Bool.or_eq_true, Bool.or_eq_false_iff, Bool.and_eq_true, Bool.and_eq_false_iff, Bool.not_eq_true', Bool.not_eq_false', decide_eq_true_eq, decide_eq_false_iff_not, beq_iff_eq, bne_iff_ne, beq_eq_false_iff_ne, bne_eq_false_iff_eq, ne_eq, gt_iff_lt, ge_iff_le, Int.not_lt, Int.not_le] at h91p
          refine wp_skip ?_
          refine n_block (n_then ?_)
          refine c_last ?_
          refine r_ok hs m (ok_move rfl) rfl ?_
          clear hs a; intro a hs
          refine r_ok hs m (ok_add (r := (k8 : Int) + 1) rfl rfl (wrap_i64 (by omega) (by omega))) rfl ?_
          clear hs a; intro a hs
          refine r_ok hs m (ok_assign rfl) rfl ?_
          clear hs a; intro a hs
          refine wpList_nil (n_then ?_)
          have q100 : ((((([] : List TOp) ++ pickM (fun e => (!staysR x_Neighs x_Fdbs y_Routes y_Neighs y_Fdbs e) && (e.Local == true)) delR x_Routes) ++ pickM (fun e => (!staysR x_Neighs x_Fdbs y_Routes y_Neighs y_Fdbs e) && (e.Local == false)) delR x_Routes) ++ pickM (fun e => !decide (e ∈ y_Neighs)) delN x_Neighs) ++ pickM (fun e => !decide (e ∈ y_Fdbs)) delF x_Fdbs) ++ pickM (fun e => !decide (e ∈ x_Fdbs)) putF (y_Fdbs.take k8) = ((((([] : List TOp) ++ pickM (fun e => (!staysR x_Neighs x_Fdbs y_Routes y_Neighs y_Fdbs e) && (e.Local == true)) delR x_Routes) ++ pickM (fun e => (!staysR x_Neighs x_Fdbs y_Routes y_Neighs y_Fdbs e) && (e.Local == false)) delR x_Routes) ++ pickM (fun e => !decide (e ∈ y_Neighs)) delN x_Neighs) ++ pickM (fun e => !decide (e ∈ y_Fdbs)) delF x_Fdbs) ++ pickM (fun e => !decide (e ∈ x_Fdbs)) putF (y_Fdbs.take (k8 + 1)) := by first | exact pickM_0.symm | exact pickM_0 | exact pickM_t (by assumption) (by assumption) | exact pickM_f (by assumption) (by assumption)
          rw [q100] at m
          exact ⟨y_Fdbs.length - (k8 + 1), by omega, k8 + 1, v33, by omega, by exact Nat.le_trans pickM_add (by omega), rfl, hs.to ⟨rfl, rfl, rfl, rfl, trivial⟩, m.sub (.c r0 (.c r0 (.c r0 .n)))⟩
        have h32p := of_decide_eq_true h32
        refine wp_skip ?_
        refine n_then ?_
        refine c_seq ?_
        refine wp_block ?_
        refine c_draw m mo (by kernel_rfl) ?_
        refine q_ok hs (ok_load_ag (vs := [vy_Routes.v, vy_Neighs.v, vy_Fdbs.v]) rfl ty29 (bx_at r1) rfl rfl) rfl ?_
        clear hs a; intro a hs
        refine q_ok hs (ok_fieldAddr (r := 2) rfl fd29_2 ty27 rfl) rfl ?_
        clear hs a; intro a hs
        refine q_ok hs (ok_load_sc rfl ty27 (bx_at r0) rfl) rfl ?_
        clear hs a; intro a hs
        refine q_ok hs (ok_move rfl) rfl ?_
        clear hs a; intro a hs
        obtain ⟨e101, he102⟩ := get_of_lt (l := x_Fdbs) (i := k6) (by omega)
        refine elF (c := cFdb) (e := e101) hs m (x := (.tmp 102)) (ix := (.tmp 103)) rfl rfl sl27 ty56 hx_Fdbs (by omega) he102 fun p103 hp104 ok105 => ?_
        refine q_ok hs (ok105 _ _ _ _ _) rfl ?_
        clear hs a; intro a hs
        refine q_ok hs (ok_load_ag (vs := cFdb e101) rfl ty56 (fr_at hp104) rfl rfl) rfl ?_
        clear hs a; intro a hs
        refine q_callP hs rfl rfl ca64 rfl (fun w m => hasFdb_c vy_Routes y_Routes vy_Neighs y_Neighs vy_Fdbs y_Fdbs e101 w (m.rd hy_Routes) (m.rd hy_Neighs) (m.rd hy_Fdbs) ) rfl ?_
        clear hs a; intro a hs
        refine q_ok hs (ok_assign rfl) rfl ?_
        clear hs a; intro a hs
        refine wpQuiet_nil ?_; clear m w31; intro w106 m
        refine c_reg ?_
        refine r_ok hs m (ok_move rfl) rfl ?_
        clear hs a; intro a hs
        refine r_ok hs m (ok_not rfl) rfl ?_
        clear hs a; intro a hs
        refine wpList_nil (n_then ?_)
        refine c_cond hs rfl (fun h107 => ?_) (fun h107 => ?_)
        · have h107p := h107; simp only [Bool.or_eq_true, Bool.or_eq_false_iff, Bool.and_eq_true, Bool.and_eq_false_iff, Bool.not_eq_true', Bool.not_eq_false', decide_eq_true_eq, decide_eq_false_iff_not, beq_iff_eq, bne_iff_ne, beq_eq_false_iff_ne, bne_eq_false_iff_eq, ne_eq, gt_iff_lt, ge_iff_le, Int.not_lt, Int.not_le] at h107p
          refine c_last ?_
          refine r_ok hs m (ok_move rfl) rfl ?_
          clear hs a; intro a hs
          refine r_ok hs m (ok_fieldAddr (r := 2) rfl fd29_2 ty27 rfl) rfl ?_
          clear hs a; intro a hs
          refine r_ok hs m (ok_load_sc rfl ty27 (bx_at r0) rfl) rfl ?_
          clear hs a; intro a hs
          refine r_ok hs m (ok_move rfl) rfl ?_
          clear hs a; intro a hs
          refine elF (c := cFdb) (e := e101) hs m (x := (.tmp 111)) (ix := (.tmp 112)) rfl rfl sl27 ty56 hx_Fdbs (by omega) he102 fun p108 hp109 ok110 => ?_
          refine r_ok hs m (ok110 _ _ _ _ _) rfl ?_
          clear hs a; intro a hs
          refine r_ok hs m (ok_load_ag (vs := cFdb e101) rfl ty56 (fr_at hp109) rfl rfl) rfl ?_
          clear hs a; intro a hs
          refine r_ok hs m (ok_build (cs := cOp (⟨⟨6, rfl⟩, (⟨(⟨⟨0, rfl⟩, ⟨0, rfl⟩⟩ : TPrefix), ⟨0, rfl⟩, false⟩ : TRoute), (⟨⟨0, rfl⟩, (⟨⟨0, rfl⟩, ⟨0, rfl⟩, ⟨0, rfl⟩, ⟨0, rfl⟩, ⟨0, rfl⟩, ⟨0, rfl⟩⟩ : TMAC)⟩ : TNeigh), e101⟩ : TOp)) st58 ze58 rfl rfl) rfl ?_
          clear hs a; intro a hs
          refine r_buildM (c := cOp) (ys := [(⟨⟨6, rfl⟩, (⟨(⟨⟨0, rfl⟩, ⟨0, rfl⟩⟩ : TPrefix), ⟨0, rfl⟩, false⟩ : TRoute), (⟨⟨0, rfl⟩, (⟨⟨0, rfl⟩, ⟨0, rfl⟩, ⟨0, rfl⟩, ⟨0, rfl⟩, ⟨0, rfl⟩, ⟨0, rfl⟩⟩ : TMAC)⟩ : TNeigh), e101⟩ : TOp)]) hs m sl35 ty58 ze58 rfl rfl rfl rfl rfl (fun _ => rfl) rfl rfl rfl ?_
          clear m hs a w106; intro v111 w112 m a hs
          refine r_appendM (c := cOp) (xs := (((([] : List TOp) ++ pickM (fun e => (!staysR x_Neighs x_Fdbs y_Routes y_Neighs y_Fdbs e) && (e.Local == true)) delR x_Routes) ++ pickM (fun e => (!staysR x_Neighs x_Fdbs y_Routes y_Neighs y_Fdbs e) && (e.Local == false)) delR x_Routes) ++ pickM (fun e => !decide (e ∈ y_Neighs)) delN x_Neighs) ++ pickM (fun e => !decide (e ∈ y_Fdbs)) delF (x_Fdbs.take k6)) (ys := [(⟨⟨6, rfl⟩, (⟨(⟨⟨0, rfl⟩, ⟨0, rfl⟩⟩ : TPrefix), ⟨0, rfl⟩, false⟩ : TRoute), (⟨⟨0, rfl⟩, (⟨⟨0, rfl⟩, ⟨0, rfl⟩, ⟨0, rfl⟩, ⟨0, rfl⟩, ⟨0, rfl⟩, ⟨0, rfl⟩⟩ : TMAC)⟩ : TNeigh), e101⟩ : TOp)]) hs m rfl rfl sl35 ni35 ty58 ze58 rfl by58 rfl r3 (m.rdv r0) (fun _ => rfl) (by first | omega | (simp only [List.length_cons, List.length_nil]; omega)) rfl ?_
          clear m hs a w112; intro v113 w114 m a hs
          refine r_ok hs m (ok_assign rfl) rfl ?_
          clear hs a; intro a hs
          refine wpList_nil (n_block (n_then ?_))
          refine c_last ?_
          refine r_ok hs m (ok_move rfl) rfl ?_
          clear hs a; intro a hs
          refine r_ok hs m (ok_add (r := (k6 : Int) + 1) rfl rfl (wrap_i64 (by omega) (by omega))) rfl ?_
          clear hs a; intro a hs
          refine r_ok hs m (ok_assign rfl) rfl ?_
          clear hs a; intro a hs
          refine wpList_nil (n_then ?_)
          have q115 : (((([] : List TOp) ++ pickM (fun e => (!staysR x_Neighs x_Fdbs y_Routes y_Neighs y_Fdbs e) && (e.Local == true)) delR x_Routes) ++ pickM (fun e => (!staysR x_Neighs x_Fdbs y_Routes y_Neighs y_Fdbs e) && (e.Local == false)) delR x_Routes) ++ pickM (fun e => !decide (e ∈ y_Neighs)) delN x_Neighs) ++ pickM (fun e => !decide (e ∈ y_Fdbs)) delF (x_Fdbs.take k6) ++ [(⟨⟨6, rfl⟩, (⟨(⟨⟨0, rfl⟩, ⟨0, rfl⟩⟩ : TPrefix), ⟨0, rfl⟩, false⟩ : TRoute), (⟨⟨0, rfl⟩, (⟨⟨0, rfl⟩, ⟨0, rfl⟩, ⟨0, rfl⟩, ⟨0, rfl⟩, ⟨0, rfl⟩, ⟨0, rfl⟩⟩ : TMAC)⟩ : TNeigh), e101⟩ : TOp)] = (((([] : List TOp) ++ pickM (fun e => (!staysR x_Neighs x_Fdbs y_Routes y_Neighs y_Fdbs e) && (e.Local == true)) delR x_Routes) ++ pickM (fun e => (!staysR x_Neighs x_Fdbs y_Routes y_Neighs y_Fdbs e) && (e.Local == false)) delR x_Routes) ++ pickM (fun e => !decide (e ∈ y_Neighs)) delN x_Neighs) ++ pickM (fun e => !decide (e ∈ y_Fdbs)) delF (x_Fdbs.take (k6 + 1)) := by first | exact pickM_0.symm | exact pickM_0 | exact pickM_t (by assumption) (by assumption) | exact pickM_f (by assumption) (by assumption)
          rw [q115] at m
          exact ⟨x_Fdbs.length - (k6 + 1), by omega, k6 + 1, v113, by omega, by exact Nat.le_trans pickM_add (by omega), rfl, hs.to ⟨rfl, rfl, rfl, rfl, trivial⟩, m.sub (.c r2 (.c r2 (.c r0 .n)))⟩
        have h107p := h107; simp only [Bool.or_eq_true, Bool.or_eq_false_iff, Bool.and_eq_true, Bool.and_eq_false_iff, Bool.not_eq_true', Bool.not_eq_false', decide_eq_true_eq, decide_eq_false_iff_not, beq_iff_eq, bne_iff_ne, beq_eq_false_iff_ne, bne_eq_false_iff_eq, ne_eq, gt_iff_lt, ge_iff_le, Int.not_lt, Int.not_le] at h107p
        refine wp_skip ?_
        refine n_block (n_then ?_)
        refine c_last ?_
        refine r_ok hs m (ok_move rfl) rfl ?_
        clear hs a; intro a hs
        refine r_ok hs m (ok_add (r := (k6 : Int) + 1) rfl rfl (wrap_i64 (by omega) (by omega))) rfl ?_
        clear hs a; intro a hs
        refine r_ok hs m (ok_assign rfl) rfl ?_
        clear hs a; intro a hs
        refine wpList_nil (n_then ?_)
        have q116 : (((([] : List TOp) ++ pickM (fun e => (!staysR x_Neighs x_Fdbs y_Routes y_Neighs y_Fdbs e) && (e.Local == true)) delR x_Routes) ++ pickM (fun e => (!staysR x_Neighs x_Fdbs y_Routes y_Neighs y_Fdbs e) && (e.Local == false)) delR x_Routes) ++ pickM (fun e => !decide (e ∈ y_Neighs)) delN x_Neighs) ++ pickM (fun e => !decide (e ∈ y_Fdbs)) delF (x_Fdbs.take k6) = (((([] : List TOp) ++ pickM (fun e => (!staysR x_Neighs x_Fdbs y_Routes y_Neighs y_Fdbs e) && (e.Local == true)) delR x_Routes) ++ pickM (fun e => (!staysR x_Neighs x_Fdbs y_Routes y_Neighs y_Fdbs e) && (e.Local == false)) delR x_Routes) ++ pickM (fun e => !decide (e ∈ y_Neighs)) delN x_Neighs) ++ pickM (fun e => !decide (e ∈ y_Fdbs)) delF (x_Fdbs.take (k6 + 1)) := by first | exact pickM_0.symm | exact pickM_0 | exact pickM_t (by assumption) (by assumption) | exact pickM_f (by assumption) (by assumption)
        rw [q116] at m
        exact ⟨x_Fdbs.length - (k6 + 1), by omega, k6 + 1, v29, by omega, by exact Nat.le_trans pickM_add (by omega), rfl, hs.to ⟨rfl, rfl, rfl, rfl, trivial⟩, m.sub (.c r0 (.c r0 (.c r0 .n)))⟩
      have h28p := of_decide_eq_true h28
      refine wp_skip ?_
      refine n_then ?_
      refine c_seq ?_
      refine wp_block ?_
      refine c_draw m mo (by kernel_rfl) ?_
      refine q_ok hs (ok_load_ag (vs := [vy_Routes.v, vy_Neighs.v, vy_Fdbs.v]) rfl ty29 (bx_at r1) rfl rfl) rfl ?_
      clear hs a; intro a hs
      refine q_ok hs (ok_fieldAddr (r := 1) rfl fd29_1 ty26 rfl) rfl ?_
      clear hs a; intro a hs
      refine q_ok hs (ok_load_sc rfl ty26 (bx_at r0) rfl) rfl ?_
      clear hs a; intro a hs
      refine q_ok hs (ok_move rfl) rfl ?_
      clear hs a; intro a hs
      obtain ⟨e117, he118⟩ := get_of_lt (l := x_Neighs) (i := k4) (by omega)
      refine elF (c := cNeigh) (e := e117) hs m (x := (.tmp 77)) (ix := (.tmp 78)) rfl rfl sl26 ty54 hx_Neighs (by omega) he118 fun p119 hp120 ok121 => ?_
      refine q_ok hs (ok121 _ _ _ _ _) rfl ?_
      clear hs a; intro a hs
      refine q_ok hs (ok_load_ag (vs := cNeigh e117) rfl ty54 (fr_at hp120) rfl rfl) rfl ?_
      clear hs a; intro a hs
      refine q_callP hs rfl rfl ca63 rfl (fun w m => hasNeigh_c vy_Routes y_Routes vy_Neighs y_Neighs vy_Fdbs y_Fdbs e117 w (m.rd hy_Routes) (m.rd hy_Neighs) (m.rd hy_Fdbs) ) rfl ?_
      clear hs a; intro a hs
      refine q_ok hs (ok_assign rfl) rfl ?_
      clear hs a; intro a hs
      refine wpQuiet_nil ?_; clear m w27; intro w122 m
      refine c_reg ?_
      refine r_ok hs m (ok_move rfl) rfl ?_
      clear hs a; intro a hs
      refine r_ok hs m (ok_not rfl) rfl ?_
      clear hs a; intro a hs
      refine wpList_nil (n_then ?_)
      refine c_cond hs rfl (fun h123 => ?_) (fun h123 => ?_)
      · have h123p := h123; simp only [Bool.or_eq_true, Bool.or_eq_false_iff, Bool.and_eq_true, Bool.and_eq_false_iff, Bool.not_eq_true', Bool.not_eq_false', decide_eq_true_eq, decide_eq_false_iff_not, beq_iff_eq, bne_iff_ne, beq_eq_false_iff_ne, bne_eq_false_iff_eq, ne_eq, gt_iff_lt, ge_iff_le, Int.not_lt, Int.not_le] at h123p
        refine c_last ?_
        refine r_ok hs m (ok_move rfl) rfl ?_
        clear hs a; intro a hs
        refine r_ok hs m (ok_fieldAddr (r := 1) rfl fd29_1 ty26 rfl) rfl ?_
        clear hs a; intro a hs
        refine r_ok hs m (ok_load_sc rfl ty26 (bx_at r0) rfl) rfl ?_
        clear hs a; intro a hs
        refine r_ok hs m (ok_move rfl) rfl ?_
        clear hs a; intro a hs
        refine elF (c := cNeigh) (e := e117) hs m (x := (.tmp 86)) (ix := (.tmp 87)) rfl rfl sl26 ty54 hx_Neighs (by omega) he118 fun p124 hp125 ok126 => ?_
        refine r_ok hs m (ok126 _ _ _ _ _) rfl ?_
        clear hs a; intro a hs
        refine r_ok hs m (ok_load_ag (vs := cNeigh e117) rfl ty54 (fr_at hp125) rfl rfl) rfl ?_
        clear hs a; intro a hs
        refine r_ok hs m (ok_build (cs := cOp (⟨⟨4, rfl⟩, (⟨(⟨⟨0, rfl⟩, ⟨0, rfl⟩⟩ : TPrefix), ⟨0, rfl⟩, false⟩ : TRoute), e117, (⟨(⟨⟨0, rfl⟩, ⟨0, rfl⟩, ⟨0, rfl⟩, ⟨0, rfl⟩, ⟨0, rfl⟩, ⟨0, rfl⟩⟩ : TMAC), ⟨0, rfl⟩⟩ : TFdb)⟩ : TOp)) st58 ze58 rfl rfl) rfl ?_
        clear hs a; intro a hs
        refine r_buildM (c := cOp) (ys := [(⟨⟨4, rfl⟩, (⟨(⟨⟨0, rfl⟩, ⟨0, rfl⟩⟩ : TPrefix), ⟨0, rfl⟩, false⟩ : TRoute), e117, (⟨(⟨⟨0, rfl⟩, ⟨0, rfl⟩, ⟨0, rfl⟩, ⟨0, rfl⟩, ⟨0, rfl⟩, ⟨0, rfl⟩⟩ : TMAC), ⟨0, rfl⟩⟩ : TFdb)⟩ : TOp)]) hs m sl35 ty58 ze58 rfl rfl rfl rfl rfl (fun _ => rfl) rfl rfl rfl ?_
        clear m hs a w122; intro v127 w128 m a hs
        refine r_appendM (c := cOp) (xs := ((([] : List TOp) ++ pickM (fun e => (!staysR x_Neighs x_Fdbs y_Routes y_Neighs y_Fdbs e) && (e.Local == true)) delR x_Routes) ++ pickM (fun e => (!staysR x_Neighs x_Fdbs y_Routes y_Neighs y_Fdbs e) && (e.Local == false)) delR x_Routes) ++ pickM (fun e => !decide (e ∈ y_Neighs)) delN (x_Neighs.take k4)) (ys := [(⟨⟨4, rfl⟩, (⟨(⟨⟨0, rfl⟩, ⟨0, rfl⟩⟩ : TPrefix), ⟨0, rfl⟩, false⟩ : TRoute), e117, (⟨(⟨⟨0, rfl⟩, ⟨0, rfl⟩, ⟨0, rfl⟩, ⟨0, rfl⟩, ⟨0, rfl⟩, ⟨0, rfl⟩⟩ : TMAC), ⟨0, rfl⟩⟩ : TFdb)⟩ : TOp)]) hs m rfl rfl sl35 ni35 ty58 ze58 rfl by58 rfl r3 (m.rdv r0) (fun _ => rfl) (by first | omega | (simp only [List.length_cons, List.length_nil]; omega)) rfl ?_
        clear m hs a w128; intro v129 w130 m a hs
        refine r_ok hs m (ok_assign rfl) rfl ?_
        clear hs a; intro a hs
        refine wpList_nil (n_block (n_then ?_))
        refine c_last ?_
        refine r_ok hs m (ok_move rfl) rfl ?_
        clear hs a; intro a hs
        refine r_ok hs m (ok_add (r := (k4 : Int) + 1) rfl rfl (wrap_i64 (by omega) (by omega))) rfl ?_
        clear hs a; intro a hs
        refine r_ok hs m (ok_assign rfl) rfl ?_
        clear hs a; intro a hs
        refine wpList_nil (n_then ?_)
        have q131 : ((([] : List TOp) ++ pickM (fun e => (!staysR x_Neighs x_Fdbs y_Routes y_Neighs y_Fdbs e) && (e.Local == true)) delR x_Routes) ++ pickM (fun e => (!staysR x_Neighs x_Fdbs y_Routes y_Neighs y_Fdbs e) && (e.Local == false)) delR x_Routes) ++ pickM (fun e => !decide (e ∈ y_Neighs)) delN (x_Neighs.take k4) ++ [(⟨⟨4, rfl⟩, (⟨(⟨⟨0, rfl⟩, ⟨0, rfl⟩⟩ : TPrefix), ⟨0, rfl⟩, false⟩ : TRoute), e117, (⟨(⟨⟨0, rfl⟩, ⟨0, rfl⟩, ⟨0, rfl⟩, ⟨0, rfl⟩, ⟨0, rfl⟩, ⟨0, rfl⟩⟩ : TMAC), ⟨0, rfl⟩⟩ : TFdb)⟩ : TOp)] = ((([] : List TOp) ++ pickM (fun e => (!staysR x_Neighs x_Fdbs y_Routes y_Neighs y_Fdbs e) && (e.Local == true)) delR x_Routes) ++ pickM (fun e => (!staysR x_Neighs x_Fdbs y_Routes y_Neighs y_Fdbs e) && (e.Local == false)) delR x_Routes) ++ pickM (fun e => !decide (e ∈ y_Neighs)) delN (x_Neighs.take (k4 + 1)) := by first | exact pickM_0.symm | exact pickM_0 | exact pickM_t (by assumption) (by assumption) | exact pickM_f (by assumption) (by assumption)
        rw [q131] at m
        exact ⟨x_Neighs.length - (k4 + 1), by omega, k4 + 1, v129, by omega, by exact Nat.le_trans pickM_add (by omega), rfl, hs.to ⟨rfl, rfl, rfl, rfl, trivial⟩, m.sub (.c r2 (.c r2 (.c r0 .n)))⟩
      have h123p := h123; simp only [Bool.or_eq_true, Bool.or_eq_false_iff, Bool.and_eq_true, Bool.and_eq_false_iff, Bool.not_eq_true', Bool.not_eq_false', decide_eq_true_eq, decide_eq_false_iff_not, beq_iff_eq, bne_iff_ne, beq_eq_false_iff_ne, bne_eq_false_iff_eq, ne_eq, gt_iff_lt, ge_iff_le, Int.not_lt, Int.not_le] at h123p
      refine wp_skip ?_
      refine n_block (n_then ?_)
      refine c_last ?_
      refine r_ok hs m (ok_move rfl) rfl ?_
      clear hs a; intro a hs
      refine r_ok hs m (ok_add (r := (k4 : Int) + 1) rfl rfl (wrap_i64 (by omega) (by omega))) rfl ?_
      clear hs a; intro a hs
      refine r_ok hs m (ok_assign rfl) rfl ?_
      clear hs a; intro a hs
      refine wpList_nil (n_then ?_)
      have q132 : ((([] : List TOp) ++ pickM (fun e => (!staysR x_Neighs x_Fdbs y_Routes y_Neighs y_Fdbs e) && (e.Local == true)) delR x_Routes) ++ pickM (fun e => (!staysR x_Neighs x_Fdbs y_Routes y_Neighs y_Fdbs e) && (e.Local == false)) delR x_Routes) ++ pickM (fun e => !decide (e ∈ y_Neighs)) delN (x_Neighs.take k4) = ((([] : List TOp) ++ pickM (fun e => (!staysR x_Neighs x_Fdbs y_Routes y_Neighs y_Fdbs e) && (e.Local == true)) delR x_Routes) ++ pickM (fun e => (!staysR x_Neighs x_Fdbs y_Routes y_Neighs y_Fdbs e) && (e.Local == false)) delR x_Routes) ++ pickM (fun e => !decide (e ∈ y_Neighs)) delN (x_Neighs.take (k4 + 1)) := by first | exact pickM_0.symm | exact pickM_0 | exact pickM_t (by assumption) (by assumption) | exact pickM_f (by assumption) (by assumption)
      rw [q132] at m
      exact ⟨x_Neighs.length - (k4 + 1), by omega, k4 + 1, v25, by omega, by exact Nat.le_trans pickM_add (by omega), rfl, hs.to ⟨rfl, rfl, rfl, rfl, trivial⟩, m.sub (.c r0 (.c r0 (.c r0 .n)))⟩
    have h23p := of_decide_eq_true h23
    refine wp_skip ?_
    refine n_then ?_
    refine c_seq ?_
    refine wp_block ?_
    refine c_reg ?_
    refine r_ok hs m (ok_fieldAddr (r := 0) rfl fd29_0 ty25 rfl) rfl ?_
    clear hs a; intro a hs
    refine r_ok hs m (ok_load_sc rfl ty25 (bx_at r0) rfl) rfl ?_
    clear hs a; intro a hs
    refine r_ok hs m (ok_move rfl) rfl ?_
    clear hs a; intro a hs
    obtain ⟨e133, he134⟩ := get_of_lt (l := x_Routes) (i := k2f) (by omega)
    refine elF (c := cRoute) (e := e133) hs m (x := (.tmp 46)) (ix := (.tmp 47)) rfl rfl sl25 ty51 hx_Routes (by omega) he134 fun p135 hp136 ok137 => ?_
    refine r_ok hs m (ok137 _ _ _ _ _) rfl ?_
    clear hs a; intro a hs
    refine r_ok hs m (ok_load_ag (vs := cRoute e133) rfl ty51 (fr_at hp136) rfl rfl) rfl ?_
    clear hs a; intro a hs
    refine r_alloc hs m ze51 rfl ?_
    clear m hs a w22; intro p138 w139 m a hs
    refine r_store (cs' := cRoute e133) (vs := cRoute e133) hs m rfl rfl ty51 s0 rfl rfl rfl rfl rfl ?_
    clear m w139; intro w140 m
    refine wpList_nil (n_then ?_)
    refine c_reg ?_
    refine r_ok hs m (ok_load_ag (vs := [vx_Routes.v, vx_Neighs.v, vx_Fdbs.v]) rfl ty29 (bx_at r1) rfl rfl) rfl ?_
    clear hs a; intro a hs
    refine r_ok hs m (ok_load_ag (vs := [vy_Routes.v, vy_Neighs.v, vy_Fdbs.v]) rfl ty29 (bx_at r2) rfl rfl) rfl ?_
    clear hs a; intro a hs
    refine r_ok hs m (ok_load_ag (vs := cRoute e133) rfl ty51 (bx_at r0) rfl rfl) rfl ?_
    clear hs a; intro a hs
    refine r_callP hs m rfl rfl ca62 rfl (staysR_c vx_Routes x_Routes vx_Neighs x_Neighs vx_Fdbs x_Fdbs vy_Routes y_Routes vy_Neighs y_Neighs vy_Fdbs y_Fdbs e133 _ (m.rd hx_Routes) (m.rd hx_Neighs) (m.rd hx_Fdbs) (m.rd hy_Routes) (m.rd hy_Neighs) (m.rd hy_Fdbs) ) rfl ?_
    clear m hs a w140; intro w141 m a hs
    refine r_ok hs m (ok_assign rfl) rfl ?_
    clear hs a; intro a hs
    refine wpList_nil (n_then ?_)
    refine c_reg ?_
    refine r_ok hs m (ok_move rfl) rfl ?_
    clear hs a; intro a hs
    refine r_ok hs m (ok_not rfl) rfl ?_
    clear hs a; intro a hs
    refine r_ok hs m (ok_move rfl) rfl ?_
    clear hs a; intro a hs
    refine l_cut (.c (.c (.c (.c (.c (.c (.n))))))) (fun a w => St 206 [(2, .pointer (some (padd p1 0))), (3, .pointer (some (padd p3 0))), (8, v20.v), (9, .int .i64 1), (10, .int .i64 (k2f : Int)), (11, .pointer (some (padd p138 0))), (62, .bool ((!(staysR x_Neighs x_Fdbs y_Routes y_Neighs y_Fdbs e133)) && (e133.Local == false)))] a ∧ Hp w0 (hh w0) [Bx p138 51 (cRoute e133), Bx p1 29 [vx_Routes.v, vx_Neighs.v, vx_Fdbs.v], Bx p3 29 [vy_Routes.v, vy_Neighs.v, vy_Fdbs.v], Sv 19 58 v20.v (((([] : List TOp) ++ pickM (fun e => (!staysR x_Neighs x_Fdbs y_Routes y_Neighs y_Fdbs e) && (e.Local == true)) delR x_Routes) ++ pickM (fun e => (!staysR x_Neighs x_Fdbs y_Routes y_Neighs y_Fdbs e) && (e.Local == false)) delR (x_Routes.take k2f)).map cOp)] w) ?_ ?_
    · rcases Bool.eq_false_or_eq_true (!(staysR x_Neighs x_Fdbs y_Routes y_Neighs y_Fdbs e133)) with hb142 | hb142
      · have hb142p := hb142; simp only [Bool.or_eq_true, Bool.or_eq_false_iff, Bool.and_eq_true, Bool.and_eq_false_iff, Bool.not_eq_true', Bool.not_eq_false', decide_eq_true_eq, decide_eq_false_iff_not, beq_iff_eq, bne_iff_ne, beq_eq_false_iff_ne, bne_eq_false_iff_eq, ne_eq, gt_iff_lt, ge_iff_le, Int.not_lt, Int.not_le] at hb142p
        refine r_okg hs rfl rfl hb142 m (ok_fieldAddr (r := 3) rfl fd51_2 ty4 rfl) rfl ?_
        clear hs a; intro a hs
        refine r_okg hs rfl rfl hb142 m (ok_load_sc rfl ty4 (bx_at r0) rfl) rfl ?_
        clear hs a; intro a hs
        refine r_okg hs rfl rfl hb142 m (ok_move rfl) rfl ?_
        clear hs a; intro a hs
        refine r_okg hs rfl rfl hb142 m (ok_bin (v := .bool false) rfl rfl rfl) rfl ?_
        clear hs a; intro a hs
        refine r_okg hs rfl rfl hb142 m (ok_eqB rfl rfl ub4) rfl ?_
        clear hs a; intro a hs
        refine r_ok hs m (ok_pick (r := .bool ((!(staysR x_Neighs x_Fdbs y_Routes y_Neighs y_Fdbs e133)) && (e133.Local == false))) rfl rfl rfl (by rw [hb142]; rfl)) rfl ?_
        clear hs a; intro a hs
        exact wpList_nil (n_then ⟨hs.to ⟨rfl, rfl, rfl, rfl, rfl, rfl, rfl, trivial⟩, m⟩)
      · have hb142p := hb142; simp only [Bool.or_eq_true, Bool.or_eq_false_iff, Bool.and_eq_true, Bool.and_eq_false_iff, Bool.not_eq_true', Bool.not_eq_false', decide_eq_true_eq, decide_eq_false_iff_not, beq_iff_eq, bne_iff_ne, beq_eq_false_iff_ne, bne_eq_false_iff_eq, ne_eq, gt_iff_lt, ge_iff_le, Int.not_lt, Int.not_le] at hb142p
        refine g_out hs rfl rfl hb142 rfl ?_
        clear hs a; intro a hs
        refine g_out hs rfl rfl hb142 rfl ?_
        clear hs a; intro a hs
        refine g_out hs rfl rfl hb142 rfl ?_
        clear hs a; intro a hs
        refine g_out hs rfl rfl hb142 rfl ?_
        clear hs a; intro a hs
        refine g_out hs rfl rfl hb142 rfl ?_
        clear hs a; intro a hs
        refine r_ok hs m (ok_pick (r := .bool ((!(staysR x_Neighs x_Fdbs y_Routes y_Neighs y_Fdbs e133)) && (e133.Local == false))) rfl rfl rfl (by rw [hb142]; rfl)) rfl ?_
        clear hs a; intro a hs
        exact wpList_nil (n_then ⟨hs.to ⟨rfl, rfl, rfl, rfl, rfl, rfl, rfl, trivial⟩, m⟩)
    clear hs m a w141; rintro a w143 ⟨hs, m⟩
    refine wpList_nil (n_then ?_)
    refine c_cond hs rfl (fun h144 => ?_) (fun h144 => ?_)
    · have h144p := h144; simp only [Bool.or_eq_true, Bool.or_eq_false_iff, Bool.and_eq_true, Bool.and_eq_false_iff, Bool.not_eq_true', Bool.not_eq_false', decide_eq_true_eq, decide_eq_false_iff_not, beq_iff_eq, bne_iff_ne, beq_eq_false_iff_ne, bne_eq_false_iff_eq, ne_eq, gt_iff_lt, ge_iff_le, Int.not_lt, Int.not_le] at h144p
      refine c_last ?_
      refine r_ok hs m (ok_move rfl) rfl ?_
      clear hs a; intro a hs
      refine r_ok hs m (ok_load_ag (vs := cRoute e133) rfl ty51 (bx_at r0) rfl rfl) rfl ?_
      clear hs a; intro a hs
      refine r_ok hs m (ok_build (cs := cOp (⟨⟨2, rfl⟩, e133, (⟨⟨0, rfl⟩, (⟨⟨0, rfl⟩, ⟨0, rfl⟩, ⟨0, rfl⟩, ⟨0, rfl⟩, ⟨0, rfl⟩, ⟨0, rfl⟩⟩ : TMAC)⟩ : TNeigh), (⟨(⟨⟨0, rfl⟩, ⟨0, rfl⟩, ⟨0, rfl⟩, ⟨0, rfl⟩, ⟨0, rfl⟩, ⟨0, rfl⟩⟩ : TMAC), ⟨0, rfl⟩⟩ : TFdb)⟩ : TOp)) st58 ze58 rfl rfl) rfl ?_
      clear hs a; intro a hs
      refine r_buildM (c := cOp) (ys := [(⟨⟨2, rfl⟩, e133, (⟨⟨0, rfl⟩, (⟨⟨0, rfl⟩, ⟨0, rfl⟩, ⟨0, rfl⟩, ⟨0, rfl⟩, ⟨0, rfl⟩, ⟨0, rfl⟩⟩ : TMAC)⟩ : TNeigh), (⟨(⟨⟨0, rfl⟩, ⟨0, rfl⟩, ⟨0, rfl⟩, ⟨0, rfl⟩, ⟨0, rfl⟩, ⟨0, rfl⟩⟩ : TMAC), ⟨0, rfl⟩⟩ : TFdb)⟩ : TOp)]) hs m sl35 ty58 ze58 rfl rfl rfl rfl rfl (fun _ => rfl) rfl rfl rfl ?_
      clear m hs a w143; intro v145 w146 m a hs
      refine r_appendM (c := cOp) (xs := (([] : List TOp) ++ pickM (fun e => (!staysR x_Neighs x_Fdbs y_Routes y_Neighs y_Fdbs e) && (e.Local == true)) delR x_Routes) ++ pickM (fun e => (!staysR x_Neighs x_Fdbs y_Routes y_Neighs y_Fdbs e) && (e.Local == false)) delR (x_Routes.take k2f)) (ys := [(⟨⟨2, rfl⟩, e133, (⟨⟨0, rfl⟩, (⟨⟨0, rfl⟩, ⟨0, rfl⟩, ⟨0, rfl⟩, ⟨0, rfl⟩, ⟨0, rfl⟩, ⟨0, rfl⟩⟩ : TMAC)⟩ : TNeigh), (⟨(⟨⟨0, rfl⟩, ⟨0, rfl⟩, ⟨0, rfl⟩, ⟨0, rfl⟩, ⟨0, rfl⟩, ⟨0, rfl⟩⟩ : TMAC), ⟨0, rfl⟩⟩ : TFdb)⟩ : TOp)]) hs m rfl rfl sl35 ni35 ty58 ze58 rfl by58 rfl r4 (m.rdv r0) (fun _ => rfl) (by first | omega | (simp only [List.length_cons, List.length_nil]; omega)) rfl ?_
      clear m hs a w146; intro v147 w148 m a hs
      refine r_ok hs m (ok_assign rfl) rfl ?_
      clear hs a; intro a hs
      refine wpList_nil (n_block (n_then ?_))
      refine c_last ?_
      refine r_ok hs m (ok_move rfl) rfl ?_
      clear hs a; intro a hs
      refine r_ok hs m (ok_add (r := (k2f : Int) + 1) rfl rfl (wrap_i64 (by omega) (by omega))) rfl ?_
      clear hs a; intro a hs
      refine r_ok hs m (ok_assign rfl) rfl ?_
      clear hs a; intro a hs
      refine wpList_nil (n_then ?_)
      have q149 : (([] : List TOp) ++ pickM (fun e => (!staysR x_Neighs x_Fdbs y_Routes y_Neighs y_Fdbs e) && (e.Local == true)) delR x_Routes) ++ pickM (fun e => (!staysR x_Neighs x_Fdbs y_Routes y_Neighs y_Fdbs e) && (e.Local == false)) delR (x_Routes.take k2f) ++ [(⟨⟨2, rfl⟩, e133, (⟨⟨0, rfl⟩, (⟨⟨0, rfl⟩, ⟨0, rfl⟩, ⟨0, rfl⟩, ⟨0, rfl⟩, ⟨0, rfl⟩, ⟨0, rfl⟩⟩ : TMAC)⟩ : TNeigh), (⟨(⟨⟨0, rfl⟩, ⟨0, rfl⟩, ⟨0, rfl⟩, ⟨0, rfl⟩, ⟨0, rfl⟩, ⟨0, rfl⟩⟩ : TMAC), ⟨0, rfl⟩⟩ : TFdb)⟩ : TOp)] = (([] : List TOp) ++ pickM (fun e => (!staysR x_Neighs x_Fdbs y_Routes y_Neighs y_Fdbs e) && (e.Local == true)) delR x_Routes) ++ pickM (fun e => (!staysR x_Neighs x_Fdbs y_Routes y_Neighs y_Fdbs e) && (e.Local == false)) delR (x_Routes.take (k2f + 1)) := by first | exact pickM_0.symm | exact pickM_0 | exact pickM_t (by assumption) (by assumption) | exact pickM_f (by assumption) (by assumption)
      rw [q149] at m
      exact ⟨x_Routes.length - (k2f + 1), by omega, k2f + 1, v147, by omega, by exact Nat.le_trans pickM_add (by omega), rfl, hs.to ⟨rfl, rfl, rfl, rfl, rfl, trivial⟩, m.sub (.c r3 (.c r3 (.c r0 .n)))⟩
    have h144p := h144; simp only [Bool.or_eq_true, Bool.or_eq_false_iff, Bool.and_eq_true, Bool.and_eq_false_iff, Bool.not_eq_true', Bool.not_eq_false', decide_eq_true_eq, decide_eq_false_iff_not, beq_iff_eq, bne_iff_ne, beq_eq_false_iff_ne, bne_eq_false_iff_eq, ne_eq, gt_iff_lt, ge_iff_le, Int.not_lt, Int.not_le] at h144p
    refine wp_skip ?_
    refine n_block (n_then ?_)
    refine c_last ?_
    refine r_ok hs m (ok_move rfl) rfl ?_
    clear hs a; intro a hs
    refine r_ok hs m (ok_add (r := (k2f : Int) + 1) rfl rfl (wrap_i64 (by omega) (by omega))) rfl ?_
    clear hs a; intro a hs
    refine r_ok hs m (ok_assign rfl) rfl ?_
    clear hs a; intro a hs
    refine wpList_nil (n_then ?_)
    have q150 : (([] : List TOp) ++ pickM (fun e => (!staysR x_Neighs x_Fdbs y_Routes y_Neighs y_Fdbs e) && (e.Local == true)) delR x_Routes) ++ pickM (fun e => (!staysR x_Neighs x_Fdbs y_Routes y_Neighs y_Fdbs e) && (e.Local == false)) delR (x_Routes.take k2f) = (([] : List TOp) ++ pickM (fun e => (!staysR x_Neighs x_Fdbs y_Routes y_Neighs y_Fdbs e) && (e.Local == true)) delR x_Routes) ++ pickM (fun e => (!staysR x_Neighs x_Fdbs y_Routes y_Neighs y_Fdbs e) && (e.Local == false)) delR (x_Routes.take (k2f + 1)) := by first | exact pickM_0.symm | exact pickM_0 | exact pickM_t (by assumption) (by assumption) | exact pickM_f (by assumption) (by assumption)
    rw [q150] at m
    exact ⟨x_Routes.length - (k2f + 1), by omega, k2f + 1, v20, by omega, by exact Nat.le_trans pickM_add (by omega), rfl, hs.to ⟨rfl, rfl, rfl, rfl, rfl, trivial⟩, m.sub (.c r1 (.c r1 (.c r1 .n)))⟩
  have h18p := of_decide_eq_true h18
  refine wp_skip ?_
  refine n_then ?_
  refine c_seq ?_
  refine wp_block ?_
  refine c_reg ?_
  refine r_ok hs m (ok_fieldAddr (r := 0) rfl fd29_0 ty25 rfl) rfl ?_
  clear hs a; intro a hs
  refine r_ok hs m (ok_load_sc rfl ty25 (bx_at r0) rfl) rfl ?_
  clear hs a; intro a hs
  refine r_ok hs m (ok_move rfl) rfl ?_
  clear hs a; intro a hs
  obtain ⟨e151, he152⟩ := get_of_lt (l := x_Routes) (i := k2t) (by omega)
  refine elF (c := cRoute) (e := e151) hs m (x := (.tmp 46)) (ix := (.tmp 47)) rfl rfl sl25 ty51 hx_Routes (by omega) he152 fun p153 hp154 ok155 => ?_
  refine r_ok hs m (ok155 _ _ _ _ _) rfl ?_
  clear hs a; intro a hs
  refine r_ok hs m (ok_load_ag (vs := cRoute e151) rfl ty51 (fr_at hp154) rfl rfl) rfl ?_
  clear hs a; intro a hs
  refine r_alloc hs m ze51 rfl ?_
  clear m hs a w17; intro p156 w157 m a hs
  refine r_store (cs' := cRoute e151) (vs := cRoute e151) hs m rfl rfl ty51 s0 rfl rfl rfl rfl rfl ?_
  clear m w157; intro w158 m
  refine wpList_nil (n_then ?_)
  refine c_reg ?_
  refine r_ok hs m (ok_load_ag (vs := [vx_Routes.v, vx_Neighs.v, vx_Fdbs.v]) rfl ty29 (bx_at r1) rfl rfl) rfl ?_
  clear hs a; intro a hs
  refine r_ok hs m (ok_load_ag (vs := [vy_Routes.v, vy_Neighs.v, vy_Fdbs.v]) rfl ty29 (bx_at r2) rfl rfl) rfl ?_
  clear hs a; intro a hs
  refine r_ok hs m (ok_load_ag (vs := cRoute e151) rfl ty51 (bx_at r0) rfl rfl) rfl ?_
  clear hs a; intro a hs
  refine r_callP hs m rfl rfl ca62 rfl (staysR_c vx_Routes x_Routes vx_Neighs x_Neighs vx_Fdbs x_Fdbs vy_Routes y_Routes vy_Neighs y_Neighs vy_Fdbs y_Fdbs e151 _ (m.rd hx_Routes) (m.rd hx_Neighs) (m.rd hx_Fdbs) (m.rd hy_Routes) (m.rd hy_Neighs) (m.rd hy_Fdbs) ) rfl ?_
  clear m hs a w158; intro w159 m a hs
  refine r_ok hs m (ok_assign rfl) rfl ?_
  clear hs a; intro a hs
  refine wpList_nil (n_then ?_)
  refine c_reg ?_
  refine r_ok hs m (ok_move rfl) rfl ?_
  clear hs a; intro a hs
  refine r_ok hs m (ok_not rfl) rfl ?_
  clear hs a; intro a hs
  refine r_ok hs m (ok_move rfl) rfl ?_
  clear hs a; intro a hs
  refine l_cut (.c (.c (.c (.c (.c (.c (.n))))))) (fun a w => St 206 [(2, .pointer (some (padd p1 0))), (3, .pointer (some (padd p3 0))), (8, v14.v), (9, .int .i64 0), (10, .int .i64 (k2t : Int)), (11, .pointer (some (padd p156 0))), (62, .bool ((!(staysR x_Neighs x_Fdbs y_Routes y_Neighs y_Fdbs e151)) && (e151.Local == true)))] a ∧ Hp w0 (hh w0) [Bx p156 51 (cRoute e151), Bx p1 29 [vx_Routes.v, vx_Neighs.v, vx_Fdbs.v], Bx p3 29 [vy_Routes.v, vy_Neighs.v, vy_Fdbs.v], Sv 19 58 v14.v ((([] : List TOp) ++ pickM (fun e => (!staysR x_Neighs x_Fdbs y_Routes y_Neighs y_Fdbs e) && (e.Local == true)) delR (x_Routes.take k2t)).map cOp)] w) ?_ ?_
  · rcases Bool.eq_false_or_eq_true (!(staysR x_Neighs x_Fdbs y_Routes y_Neighs y_Fdbs e151)) with hb160 | hb160
    · have hb160p := hb160; simp only [Bool.or_eq_true, Bool.or_eq_false_iff, Bool.and_eq_true, Bool.and_eq_false_iff, Bool.not_eq_true', Bool.not_eq_false', decide_eq_true_eq, decide_eq_false_iff_not, beq_iff_eq, bne_iff_ne, beq_eq_false_iff_ne, bne_eq_false_iff_eq, ne_eq, gt_iff_lt, ge_iff_le, Int.not_lt, Int.not_le] at hb160p
      refine r_okg hs rfl rfl hb160 m (ok_fieldAddr (r := 3) rfl fd51_2 ty4 rfl) rfl ?_
      clear hs a; intro a hs
      refine r_okg hs rfl rfl hb160 m (ok_load_sc rfl ty4 (bx_at r0) rfl) rfl ?_
      clear hs a; intro a hs
      refine r_okg hs rfl rfl hb160 m (ok_move rfl) rfl ?_
      clear hs a; intro a hs
      refine r_okg hs rfl rfl hb160 m (ok_bin (v := .bool true) rfl rfl rfl) rfl ?_
      clear hs a; intro a hs
      refine r_okg hs rfl rfl hb160 m (ok_eqB rfl rfl ub4) rfl ?_
      clear hs a; intro a hs
      refine r_ok hs m (ok_pick (r := .bool ((!(staysR x_Neighs x_Fdbs y_Routes y_Neighs y_Fdbs e151)) && (e151.Local == true))) rfl rfl rfl (by rw [hb160]; rfl)) rfl ?_
      clear hs a; intro a hs
      exact wpList_nil (n_then ⟨hs.to ⟨rfl, rfl, rfl, rfl, rfl, rfl, rfl, trivial⟩, m⟩)
    · have hb160p := hb160; simp only [Bool.or_eq_true, Bool.or_eq_false_iff, Bool.and_eq_true, Bool.and_eq_false_iff, Bool.not_eq_true', Bool.not_eq_false', decide_eq_true_eq, decide_eq_false_iff_not, beq_iff_eq, bne_iff_ne, beq_eq_false_iff_ne, bne_eq_false_iff_eq, ne_eq, gt_iff_lt, ge_iff_le, Int.not_lt, Int.not_le] at hb160p
      refine g_out hs rfl rfl hb160 rfl ?_
      clear hs a; intro a hs
      refine g_out hs rfl rfl hb160 rfl ?_
      clear hs a; intro a hs
      refine g_out hs rfl rfl hb160 rfl ?_
      clear hs a; intro a hs
      refine g_out hs rfl rfl hb160 rfl ?_
      clear hs a; intro a hs
      refine g_out hs rfl rfl hb160 rfl ?_
      clear hs a; intro a hs
      refine r_ok hs m (ok_pick (r := .bool ((!(staysR x_Neighs x_Fdbs y_Routes y_Neighs y_Fdbs e151)) && (e151.Local == true))) rfl rfl rfl (by rw [hb160]; rfl)) rfl ?_
      clear hs a; intro a hs
      exact wpList_nil (n_then ⟨hs.to ⟨rfl, rfl, rfl, rfl, rfl, rfl, rfl, trivial⟩, m⟩)
  clear hs m a w159; rintro a w161 ⟨hs, m⟩
  refine wpList_nil (n_then ?_)
  refine c_cond hs rfl (fun h162 => ?_) (fun h162 => ?_)
  · have h162p := h162; simp only [Bool.or_eq_true, Bool.or_eq_false_iff, Bool.and_eq_true, Bool.and_eq_false_iff, Bool.not_eq_true', Bool.not_eq_false', decide_eq_true_eq, decide_eq_false_iff_not, beq_iff_eq, bne_iff_ne, beq_eq_false_iff_ne, bne_eq_false_iff_eq, ne_eq, gt_iff_lt, ge_iff_le, Int.not_lt, Int.not_le] at h162p
    refine c_last ?_
    refine r_ok hs m (ok_move rfl) rfl ?_
    clear hs a; intro a hs
    refine r_ok hs m (ok_load_ag (vs := cRoute e151) rfl ty51 (bx_at r0) rfl rfl) rfl ?_
    clear hs a; intro a hs
    refine r_ok hs m (ok_build (cs := cOp (⟨⟨2, rfl⟩, e151, (⟨⟨0, rfl⟩, (⟨⟨0, rfl⟩, ⟨0, rfl⟩, ⟨0, rfl⟩, ⟨0, rfl⟩, ⟨0, rfl⟩, ⟨0, rfl⟩⟩ : TMAC)⟩ : TNeigh), (⟨(⟨⟨0, rfl⟩, ⟨0, rfl⟩, ⟨0, rfl⟩, ⟨0, rfl⟩, ⟨0, rfl⟩, ⟨0, rfl⟩⟩ : TMAC), ⟨0, rfl⟩⟩ : TFdb)⟩ : TOp)) st58 ze58 rfl rfl) rfl ?_
    clear hs a; intro a hs
    refine r_buildM (c := cOp) (ys := [(⟨⟨2, rfl⟩, e151, (⟨⟨0, rfl⟩, (⟨⟨0, rfl⟩, ⟨0, rfl⟩, ⟨0, rfl⟩, ⟨0, rfl⟩, ⟨0, rfl⟩, ⟨0, rfl⟩⟩ : TMAC)⟩ : TNeigh), (⟨(⟨⟨0, rfl⟩, ⟨0, rfl⟩, ⟨0, rfl⟩, ⟨0, rfl⟩, ⟨0, rfl⟩, ⟨0, rfl⟩⟩ : TMAC), ⟨0, rfl⟩⟩ : TFdb)⟩ : TOp)]) hs m sl35 ty58 ze58 rfl rfl rfl rfl rfl (fun _ => rfl) rfl rfl rfl ?_
    clear m hs a w161; intro v163 w164 m a hs
    refine r_appendM (c := cOp) (xs := ([] : List TOp) ++ pickM (fun e => (!staysR x_Neighs x_Fdbs y_Routes y_Neighs y_Fdbs e) && (e.Local == true)) delR (x_Routes.take k2t)) (ys := [(⟨⟨2, rfl⟩, e151, (⟨⟨0, rfl⟩, (⟨⟨0, rfl⟩, ⟨0, rfl⟩, ⟨0, rfl⟩, ⟨0, rfl⟩, ⟨0, rfl⟩, ⟨0, rfl⟩⟩ : TMAC)⟩ : TNeigh), (⟨(⟨⟨0, rfl⟩, ⟨0, rfl⟩, ⟨0, rfl⟩, ⟨0, rfl⟩, ⟨0, rfl⟩, ⟨0, rfl⟩⟩ : TMAC), ⟨0, rfl⟩⟩ : TFdb)⟩ : TOp)]) hs m rfl rfl sl35 ni35 ty58 ze58 rfl by58 rfl r4 (m.rdv r0) (fun _ => rfl) (by first | omega | (simp only [List.length_cons, List.length_nil]; omega)) rfl ?_
    clear m hs a w164; intro v165 w166 m a hs
    refine r_ok hs m (ok_assign rfl) rfl ?_
    clear hs a; intro a hs
    refine wpList_nil (n_block (n_then ?_))
    refine c_last ?_
    refine r_ok hs m (ok_move rfl) rfl ?_
    clear hs a; intro a hs
    refine r_ok hs m (ok_add (r := (k2t : Int) + 1) rfl rfl (wrap_i64 (by omega) (by omega))) rfl ?_
    clear hs a; intro a hs
    refine r_ok hs m (ok_assign rfl) rfl ?_
    clear hs a; intro a hs
    refine wpList_nil (n_then ?_)
    have q167 : ([] : List TOp) ++ pickM (fun e => (!staysR x_Neighs x_Fdbs y_Routes y_Neighs y_Fdbs e) && (e.Local == true)) delR (x_Routes.take k2t) ++ [(⟨⟨2, rfl⟩, e151, (⟨⟨0, rfl⟩, (⟨⟨0, rfl⟩, ⟨0, rfl⟩, ⟨0, rfl⟩, ⟨0, rfl⟩, ⟨0, rfl⟩, ⟨0, rfl⟩⟩ : TMAC)⟩ : TNeigh), (⟨(⟨⟨0, rfl⟩, ⟨0, rfl⟩, ⟨0, rfl⟩, ⟨0, rfl⟩, ⟨0, rfl⟩, ⟨0, rfl⟩⟩ : TMAC), ⟨0, rfl⟩⟩ : TFdb)⟩ : TOp)] = ([] : List TOp) ++ pickM (fun e => (!staysR x_Neighs x_Fdbs y_Routes y_Neighs y_Fdbs e) && (e.Local == true)) delR (x_Routes.take (k2t + 1)) := by first | exact pickM_0.symm | exact pickM_0 | exact pickM_t (by assumption) (by assumption) | exact pickM_f (by assumption) (by assumption)
    rw [q167] at m
    exact ⟨x_Routes.length - (k2t + 1), by omega, k2t + 1, v165, by omega, by exact Nat.le_trans pickM_add (by omega), rfl, hs.to ⟨rfl, rfl, rfl, rfl, rfl, trivial⟩, m.sub (.c r3 (.c r3 (.c r0 .n)))⟩
  have h162p := h162; simp only [Bool.or_eq_true, Bool.or_eq_false_iff, Bool.and_eq_true, Bool.and_eq_false_iff, Bool.not_eq_true', Bool.not_eq_false', decide_eq_true_eq, decide_eq_false_iff_not, beq_iff_eq, bne_iff_ne, beq_eq_false_iff_ne, bne_eq_false_iff_eq, ne_eq, gt_iff_lt, ge_iff_le, Int.not_lt, Int.not_le] at h162p
  refine wp_skip ?_
  refine n_block (n_then ?_)
  refine c_last ?_
  refine r_ok hs m (ok_move rfl) rfl ?_
  clear hs a; intro a hs
  refine r_ok hs m (ok_add (r := (k2t : Int) + 1) rfl rfl (wrap_i64 (by omega) (by omega))) rfl ?_
  clear hs a; intro a hs
  refine r_ok hs m (ok_assign rfl) rfl ?_
  clear hs a; intro a hs
  refine wpList_nil (n_then ?_)
  have q168 : ([] : List TOp) ++ pickM (fun e => (!staysR x_Neighs x_Fdbs y_Routes y_Neighs y_Fdbs e) && (e.Local == true)) delR (x_Routes.take k2t) = ([] : List TOp) ++ pickM (fun e => (!staysR x_Neighs x_Fdbs y_Routes y_Neighs y_Fdbs e) && (e.Local == true)) delR (x_Routes.take (k2t + 1)) := by first | exact pickM_0.symm | exact pickM_0 | exact pickM_t (by assumption) (by assumption) | exact pickM_f (by assumption) (by assumption)
  rw [q168] at m
  exact ⟨x_Routes.length - (k2t + 1), by omega, k2t + 1, v14, by omega, by exact Nat.le_trans pickM_add (by omega), rfl, hs.to ⟨rfl, rfl, rfl, rfl, rfl, trivial⟩, m.sub (.c r1 (.c r1 (.c r1 .n)))⟩
end Go.Proofs.YtnbpodjbemfpbaaGreat.Fw
