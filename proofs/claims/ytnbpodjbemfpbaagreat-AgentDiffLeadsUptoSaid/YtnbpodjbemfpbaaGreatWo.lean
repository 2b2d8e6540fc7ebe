/-
  Walks: printed by wip/tool/agent.py.
-/
import Derived.Test.YtnbpodjbemfpbaaGreatWn
import Derived.Test.YtnbpodjbemfpbaaGreatFw16
import Derived.Test.YtnbpodjbemfpbaaGreatPl5
import Derived.KernelRfl
set_option linter.all false
set_option maxHeartbeats 4000000
set_option maxRecDepth 100000
namespace Go.Proofs.YtnbpodjbemfpbaaGreat.Fw
open Go
theorem diff_c (vx_Routes : SH) (x_Routes : List TRoute) (vx_Neighs : SH) (x_Neighs : List TNeigh) (vx_Fdbs : SH) (x_Fdbs : List TFdb) (vy_Routes : SH) (y_Routes : List TRoute) (vy_Neighs : SH) (y_Neighs : List TNeigh) (vy_Fdbs : SH) (y_Fdbs : List TFdb) (w0 : World) (hx_Routes : RdS (hh w0) 4 vx_Routes.v (x_Routes.map cRoute)) (hx_Neighs : RdS (hh w0) 7 vx_Neighs.v (x_Neighs.map cNeigh)) (hx_Fdbs : RdS (hh w0) 7 vx_Fdbs.v (x_Fdbs.map cFdb)) (hy_Routes : RdS (hh w0) 4 vy_Routes.v (y_Routes.map cRoute)) (hy_Neighs : RdS (hh w0) 7 vy_Neighs.v (y_Neighs.map cNeigh)) (hy_Fdbs : RdS (hh w0) 7 vy_Fdbs.v (y_Fdbs.map cFdb)) (A0 : x_Routes.length ≤ 16777216) (A1 : x_Neighs.length ≤ 16777216) (A2 : x_Fdbs.length ≤ 16777216) (A3 : y_Routes.length ≤ 16777216) (A4 : y_Neighs.length ≤ 16777216) (A5 : y_Fdbs.length ≤ 16777216) : Calls Tryz.prog 17 ⟨[.agg ⟨[vx_Routes.v, vx_Neighs.v, vx_Fdbs.v]⟩, .agg ⟨[vy_Routes.v, vy_Neighs.v, vy_Fdbs.v]⟩]⟩ w0 fun e w' => ∃ v, e = .returned v ∧ (∃ x0 : SH, v = (.tuple ⟨[x0.v, .int .i64 (diffE x_Routes x_Neighs x_Fdbs y_Routes y_Neighs y_Fdbs)]⟩) ∧ Hp w0 (hh w0) [Sv 19 58 x0.v ((diffM x_Routes x_Neighs x_Fdbs y_Routes y_Neighs y_Fdbs).map cOp)] w') := by
  have lvx_Routes := hx_Routes.bd
  have lvx_Neighs := hx_Neighs.bd
  have lvx_Fdbs := hx_Fdbs.bd
  have lvy_Routes := hy_Routes.bd
  have lvy_Neighs := hy_Neighs.bd
  have lvy_Fdbs := hy_Fdbs.bd
  refine enter (n := 151) Tryz.func17 rfl rfl rfl fun a (hs : St 151 [(0, .agg ⟨[vx_Routes.v, vx_Neighs.v, vx_Fdbs.v]⟩), (1, .agg ⟨[vy_Routes.v, vy_Neighs.v, vy_Fdbs.v]⟩)] a) => ?_
  have m := Hp.start w0
  refine c_reg ?_
  refine r_box (cs := [vx_Routes.v, vx_Neighs.v, vx_Fdbs.v]) hs m rfl rfl rfl ?_
  clear m hs a; intro p1 w2 m a hs
  refine r_box (cs := [vy_Routes.v, vy_Neighs.v, vy_Fdbs.v]) hs m rfl rfl rfl ?_
  clear m hs a w2; intro p3 w4 m a hs
  refine r_ok hs m (ok_assign rfl) rfl ?_
  clear hs a; intro a hs
  refine r_ok hs m (ok_assign rfl) rfl ?_
  clear hs a; intro a hs
  refine wpList_nil (n_then ?_)
  refine c_seq ?_
  refine c_reg ?_
  refine r_ok hs m (ok_load_ag (vs := [vx_Routes.v, vx_Neighs.v, vx_Fdbs.v]) rfl ty29 (bx_at r1) rfl rfl) rfl ?_
  clear hs a; intro a hs
  refine r_callP hs m rfl rfl ca56 rfl (inOrder_c vx_Routes x_Routes vx_Neighs x_Neighs vx_Fdbs x_Fdbs _ (m.rd hx_Routes) (m.rd hx_Neighs) (m.rd hx_Fdbs) ) rfl ?_
  clear m hs a w4; intro w5 m a hs
  refine r_ok hs m (ok_not rfl) rfl ?_
  clear hs a; intro a hs
  refine r_ok hs m (ok_move rfl) rfl ?_
  clear hs a; intro a hs
  refine l_cut (.c (.c (.c (.c (.n))))) (fun a w => St 151 [(2, .pointer (some (padd p1 0))), (3, .pointer (some (padd p3 0))), (28, .bool ((!(inOrderM x_Routes x_Neighs x_Fdbs)) || (!(inOrderM y_Routes y_Neighs y_Fdbs))))] a ∧ Hp w0 (hh w0) [Bx p3 29 [vy_Routes.v, vy_Neighs.v, vy_Fdbs.v], Bx p1 29 [vx_Routes.v, vx_Neighs.v, vx_Fdbs.v]] w) ?_ ?_
  · rcases Bool.eq_false_or_eq_true (!(inOrderM x_Routes x_Neighs x_Fdbs)) with hb6 | hb6
    · have hb6p := hb6; simp only [Bool.or_eq_true, Bool.or_eq_false_iff, Bool.and_eq_true, Bool.and_eq_false_iff, Bool.not_eq_true', Bool.not_eq_false', decide_eq_true_eq, decide_eq_false_iff_not, beq_iff_eq, bne_iff_ne, beq_eq_false_iff_ne, bne_eq_false_iff_eq, ne_eq, gt_iff_lt, ge_iff_le, Int.not_lt, Int.not_le] at hb6p
      refine g_out hs rfl rfl hb6 rfl ?_
      clear hs a; intro a hs
      refine g_out hs rfl rfl hb6 rfl ?_
      clear hs a; intro a hs
      refine g_out hs rfl rfl hb6 rfl ?_
      clear hs a; intro a hs
      refine r_ok hs m (ok_pick (r := .bool ((!(inOrderM x_Routes x_Neighs x_Fdbs)) || (!(inOrderM y_Routes y_Neighs y_Fdbs)))) rfl rfl rfl (by rw [hb6]; rfl)) rfl ?_
      clear hs a; intro a hs
      exact wpList_nil (n_then ⟨hs.to ⟨rfl, rfl, rfl, trivial⟩, m⟩)
    · have hb6p := hb6; simp only [Bool.or_eq_true, Bool.or_eq_false_iff, Bool.and_eq_true, Bool.and_eq_false_iff, Bool.not_eq_true', Bool.not_eq_false', decide_eq_true_eq, decide_eq_false_iff_not, beq_iff_eq, bne_iff_ne, beq_eq_false_iff_ne, bne_eq_false_iff_eq, ne_eq, gt_iff_lt, ge_iff_le, Int.not_lt, Int.not_le] at hb6p
      refine r_okg hs rfl rfl hb6 m (ok_load_ag (vs := [vy_Routes.v, vy_Neighs.v, vy_Fdbs.v]) rfl ty29 (bx_at r0) rfl rfl) rfl ?_
      clear hs a; intro a hs
      refine r_callPg hs rfl rfl hb6 m rfl rfl ca56 rfl (inOrder_c vy_Routes y_Routes vy_Neighs y_Neighs vy_Fdbs y_Fdbs _ (m.rd hy_Routes) (m.rd hy_Neighs) (m.rd hy_Fdbs) ) rfl ?_
      clear m hs a w5; intro w7 m a hs
      refine r_okg hs rfl rfl hb6 m (ok_not rfl) rfl ?_
      clear hs a; intro a hs
      refine r_ok hs m (ok_pick (r := .bool ((!(inOrderM x_Routes x_Neighs x_Fdbs)) || (!(inOrderM y_Routes y_Neighs y_Fdbs)))) rfl rfl rfl (by rw [hb6]; rfl)) rfl ?_
      clear hs a; intro a hs
      exact wpList_nil (n_then ⟨hs.to ⟨rfl, rfl, rfl, trivial⟩, m⟩)
  clear hs m a w5; rintro a w8 ⟨hs, m⟩
  refine wpList_nil (n_then ?_)
  refine c_cond hs rfl (fun h9 => ?_) (fun h9 => ?_)
  · have h9p := h9; simp only [Bool.or_eq_true, Bool.or_eq_false_iff, Bool.and_eq_true, Bool.and_eq_false_iff, Bool.not_eq_true', Bool.not_eq_false', decide_eq_true_eq, decide_eq_false_iff_not, beq_iff_eq, bne_iff_ne, beq_eq_false_iff_ne, bne_eq_false_iff_eq, ne_eq, gt_iff_lt, ge_iff_le, Int.not_lt, Int.not_le] at h9p
    refine c_reg ?_
    refine r_ok hs m (ok_assign rfl) rfl ?_
    clear hs a; intro a hs
    refine r_ok hs m (ok_assign rfl) rfl ?_
    clear hs a; intro a hs
    refine wpList_nil (n_then ?_)
    refine wp_ret ?_
    refine ret_then (leave hs (vs := [nilH.v, .int .i64 161]) rfl ⟨rfl, rfl, trivial⟩ ?_)
    replace m := m.nilSvM cOp 19 58
    have q11 : ([] : List TOp) = diffM x_Routes x_Neighs x_Fdbs y_Routes y_Neighs y_Fdbs := by first | exact diffM_bad (by assumption) | exact diffE_bad (by assumption) | exact diffE_ok (by assumption) | exact diffM_ok (by assumption) (by omega)
    rw [q11] at m
    refine ⟨_, rfl, nilH, ?_, m.sub (.c r0 .n)⟩
    have q12 : (161 : Int) = diffE x_Routes x_Neighs x_Fdbs y_Routes y_Neighs y_Fdbs := by clear hs m; first | exact diffM_bad (by assumption) | exact diffE_bad (by assumption) | exact diffE_ok (by assumption) | exact diffM_ok (by assumption) (by omega)
    first | (rw [q12]; done) | (rw [q12]; rfl) | (rw [q12]; rfl) | (simp only [q12, pack]; done)
  have h9p := h9; simp only [Bool.or_eq_true, Bool.or_eq_false_iff, Bool.and_eq_true, Bool.and_eq_false_iff, Bool.not_eq_true', Bool.not_eq_false', decide_eq_true_eq, decide_eq_false_iff_not, beq_iff_eq, bne_iff_ne, beq_eq_false_iff_ne, bne_eq_false_iff_eq, ne_eq, gt_iff_lt, ge_iff_le, Int.not_lt, Int.not_le] at h9p
  refine wp_skip ?_
  refine n_then ?_
  refine c_reg ?_
  refine r_ok hs m (ok_assign rfl) rfl ?_
  clear hs a; intro a hs
  refine wpList_nil (n_then ?_)
  refine c_seq ?_
  refine c_reg ?_
  refine r_ok hs m (ok_buildArr (cs := [.bool true, .bool false]) ar120 ty4 ze120 rfl rfl) rfl ?_
  clear hs a; intro a hs
  refine r_ok hs m (ok_move rfl) rfl ?_
  clear hs a; intro a hs
  refine wpList_nil (n_then ?_)
  refine wp_block ?_
  refine wp_loop_rounds 3 ?_
  refine rounds_s ?_
  refine c_reg ?_
  refine r_ok hs m (ok_bin (v := .bool true) rfl rfl rfl) rfl ?_
  clear hs a; intro a hs
  refine wpList_nil (n_then ?_)
  refine c_seq ?_
  refine c_true hs rfl rfl ?_
  refine wp_skip ?_
  refine n_then ?_
  refine c_seq ?_
  refine wp_block ?_
  refine c_reg ?_
  refine r_ok hs m (ok_index_sc (v := .bool true) rfl rfl ar120 ty4 (by omega) (by omega) rfl) rfl ?_
  clear hs a; intro a hs
  refine r_ok hs m (ok_assign rfl) rfl ?_
  clear hs a; intro a hs
  refine wpList_nil (n_then ?_)
  refine c_reg ?_
  refine r_ok hs m (ok_fieldAddr (r := 0) rfl fd29_0 ty25 rfl) rfl ?_
  clear hs a; intro a hs
  refine r_ok hs m (ok_load_sc rfl ty25 (bx_at r1) rfl) rfl ?_
  clear hs a; intro a hs
  refine r_ok hs m (ok_len (r := (x_Routes.length : Int)) m rfl sl25 (rc_fr hx_Routes) (by simp)) rfl ?_
  clear hs a; intro a hs
  refine r_ok hs m (ok_move rfl) rfl ?_
  clear hs a; intro a hs
  refine wpList_nil (n_then ?_)
  refine wp_block ?_
  replace m := m.nilSvM cOp 19 58
  have q16 : ([] : List TOp) = ([] : List TOp) ++ pickM (fun e => (e.Local == true) && !staysM x_Neighs x_Fdbs y_Routes y_Neighs y_Fdbs e) delR (x_Routes.take 0) := by first | exact pickM_0.symm | exact pickM_0 | exact pickM_t (by assumption) (by assumption) | exact pickM_f (by assumption) (by assumption)
  rw [q16] at m
  refine wp_loop_ghost (fun gn a w => ∃ k2t : Nat, ∃ v14 : SH, (k2t ≤ x_Routes.length) ∧ ((([] : List TOp) ++ pickM (fun e => (e.Local == true) && !staysM x_Neighs x_Fdbs y_Routes y_Neighs y_Fdbs e) delR (x_Routes.take k2t)).length ≤ 0 + k2t) ∧ gn = x_Routes.length - k2t ∧ St 151 [(2, .pointer (some (padd p1 0))), (3, .pointer (some (padd p3 0))), (6, v14.v), (8, .bool true), (29, .agg ⟨[.bool true, .bool false]⟩), (30, .int .i64 0), (34, vx_Routes.v), (35, .int .i64 (x_Routes.length : Int)), (36, .int .i64 (k2t : Int))] a ∧ Hp w0 (hh w0) [Bx p1 29 [vx_Routes.v, vx_Neighs.v, vx_Fdbs.v], Bx p3 29 [vy_Routes.v, vy_Neighs.v, vy_Fdbs.v], Sv 19 58 v14.v ((([] : List TOp) ++ pickM (fun e => (e.Local == true) && !staysM x_Neighs x_Fdbs y_Routes y_Neighs y_Fdbs e) delR (x_Routes.take k2t)).map cOp)] w) (x_Routes.length - 0) ⟨0, nilH, by omega, by (rw [pickM_0]; first | (simp; done) | omega), rfl, hs.to ⟨rfl, rfl, rfl, rfl, rfl, rfl, rfl, rfl, rfl, trivial⟩, m.sub (.c r2 (.c r1 (.c r0 .n)))⟩ ?_
  clear hs m a w8
  rintro gn a w17 ⟨k2t, v14, hk, hl, rfl, hs, m⟩
  refine c_reg ?_
  refine r_ok hs m (ok_bin rfl rfl rfl) rfl ?_
  clear hs a; intro a hs
  refine wpList_nil (n_then ?_)
  refine c_seq ?_
  refine c_cond hs rfl (fun h18 => ?_) (fun h18 => ?_)
  rotate_left
  · have h18p := of_decide_eq_false h18
    refine wp_exit ?_
    refine ex_then (ex_then (ex_hit (?_)))
    refine n_block (n_then ?_)
    refine c_last ?_
    refine r_ok hs m (ok_add (r := 1) rfl rfl rfl) rfl ?_
    clear hs a; intro a hs
    refine r_ok hs m (ok_move rfl) rfl ?_
    clear hs a; intro a hs
    refine wpList_nil (n_then ?_)
    refine rounds_s ?_
    refine c_reg ?_
    refine r_ok hs m (ok_bin (v := .bool true) rfl rfl rfl) rfl ?_
    clear hs a; intro a hs
    refine wpList_nil (n_then ?_)
    refine c_seq ?_
    refine c_true hs rfl rfl ?_
    refine wp_skip ?_
    refine n_then ?_
    refine c_seq ?_
    refine wp_block ?_
    refine c_reg ?_
    refine r_ok hs m (ok_index_sc (v := .bool false) rfl rfl ar120 ty4 (by omega) (by omega) rfl) rfl ?_
    clear hs a; intro a hs
    refine r_ok hs m (ok_assign rfl) rfl ?_
    clear hs a; intro a hs
    refine wpList_nil (n_then ?_)
    refine c_reg ?_
    refine r_ok hs m (ok_fieldAddr (r := 0) rfl fd29_0 ty25 rfl) rfl ?_
    clear hs a; intro a hs
    refine r_ok hs m (ok_load_sc rfl ty25 (bx_at r0) rfl) rfl ?_
    clear hs a; intro a hs
    refine r_ok hs m (ok_len (r := (x_Routes.length : Int)) m rfl sl25 (rc_fr hx_Routes) (by simp)) rfl ?_
    clear hs a; intro a hs
    refine r_ok hs m (ok_move rfl) rfl ?_
    clear hs a; intro a hs
    refine wpList_nil (n_then ?_)
    refine wp_block ?_
    rw [show x_Routes.take k2t = x_Routes from List.take_of_length_le (by omega)] at m hl
    have q21 : ([] : List TOp) ++ pickM (fun e => (e.Local == true) && !staysM x_Neighs x_Fdbs y_Routes y_Neighs y_Fdbs e) delR x_Routes = (([] : List TOp) ++ pickM (fun e => (e.Local == true) && !staysM x_Neighs x_Fdbs y_Routes y_Neighs y_Fdbs e) delR x_Routes) ++ pickM (fun e => (e.Local == false) && !staysM x_Neighs x_Fdbs y_Routes y_Neighs y_Fdbs e) delR (x_Routes.take 0) := by first | exact pickM_0.symm | exact pickM_0 | exact pickM_t (by assumption) (by assumption) | exact pickM_f (by assumption) (by assumption)
    rw [q21] at m
    refine wp_loop_ghost (fun gn a w => ∃ k2f : Nat, ∃ v20 : SH, (k2f ≤ x_Routes.length) ∧ (((([] : List TOp) ++ pickM (fun e => (e.Local == true) && !staysM x_Neighs x_Fdbs y_Routes y_Neighs y_Fdbs e) delR x_Routes) ++ pickM (fun e => (e.Local == false) && !staysM x_Neighs x_Fdbs y_Routes y_Neighs y_Fdbs e) delR (x_Routes.take k2f)).length ≤ 16777216 + k2f) ∧ gn = x_Routes.length - k2f ∧ St 151 [(2, .pointer (some (padd p1 0))), (3, .pointer (some (padd p3 0))), (6, v20.v), (8, .bool false), (29, .agg ⟨[.bool true, .bool false]⟩), (30, .int .i64 1), (34, vx_Routes.v), (35, .int .i64 (x_Routes.length : Int)), (36, .int .i64 (k2f : Int))] a ∧ Hp w0 (hh w0) [Bx p1 29 [vx_Routes.v, vx_Neighs.v, vx_Fdbs.v], Bx p3 29 [vy_Routes.v, vy_Neighs.v, vy_Fdbs.v], Sv 19 58 v20.v (((([] : List TOp) ++ pickM (fun e => (e.Local == true) && !staysM x_Neighs x_Fdbs y_Routes y_Neighs y_Fdbs e) delR x_Routes) ++ pickM (fun e => (e.Local == false) && !staysM x_Neighs x_Fdbs y_Routes y_Neighs y_Fdbs e) delR (x_Routes.take k2f)).map cOp)] w) (x_Routes.length - 0) ⟨0, v14, by omega, by (rw [pickM_0]; first | (simp; done) | omega), rfl, hs.to ⟨rfl, rfl, rfl, rfl, rfl, rfl, rfl, rfl, rfl, trivial⟩, m.sub (.c r0 (.c r0 (.c r0 .n)))⟩ ?_
    clear hs m a w17
    rintro gn a w22 ⟨k2f, v20, hk, hl, rfl, hs, m⟩
    refine c_reg ?_
    refine r_ok hs m (ok_bin rfl rfl rfl) rfl ?_
    clear hs a; intro a hs
    refine wpList_nil (n_then ?_)
    refine c_seq ?_
    refine c_cond hs rfl (fun h23 => ?_) (fun h23 => ?_)
    rotate_left
    · have h23p := of_decide_eq_false h23
      refine wp_exit ?_
      refine ex_then (ex_then (ex_hit (?_)))
      refine n_block (n_then ?_)
      refine c_last ?_
      refine r_ok hs m (ok_add (r := 2) rfl rfl rfl) rfl ?_
      clear hs a; intro a hs
      refine r_ok hs m (ok_move rfl) rfl ?_
      clear hs a; intro a hs
      refine wpList_nil (n_then ?_)
      refine rounds_s ?_
      refine c_reg ?_
      refine r_ok hs m (ok_bin (v := .bool false) rfl rfl rfl) rfl ?_
      clear hs a; intro a hs
      refine wpList_nil (n_then ?_)
      refine c_seq ?_
      refine c_false hs rfl rfl ?_
      refine wp_exit ?_
      refine ex_then (ex_then (ex_hit (?_)))
      refine n_then ?_
      refine c_seq ?_
      refine c_reg ?_
      refine r_ok hs m (ok_fieldAddr (r := 1) rfl fd29_1 ty26 rfl) rfl ?_
      clear hs a; intro a hs
      refine r_ok hs m (ok_load_sc rfl ty26 (bx_at r0) rfl) rfl ?_
      clear hs a; intro a hs
      refine r_ok hs m (ok_len (r := (x_Neighs.length : Int)) m rfl sl26 (rc_fr hx_Neighs) (by simp)) rfl ?_
      clear hs a; intro a hs
      refine r_ok hs m (ok_move rfl) rfl ?_
      clear hs a; intro a hs
      refine wpList_nil (n_then ?_)
      refine wp_block ?_
      rw [show x_Routes.take k2f = x_Routes from List.take_of_length_le (by omega)] at m hl
      have q26 : (([] : List TOp) ++ pickM (fun e => (e.Local == true) && !staysM x_Neighs x_Fdbs y_Routes y_Neighs y_Fdbs e) delR x_Routes) ++ pickM (fun e => (e.Local == false) && !staysM x_Neighs x_Fdbs y_Routes y_Neighs y_Fdbs e) delR x_Routes = ((([] : List TOp) ++ pickM (fun e => (e.Local == true) && !staysM x_Neighs x_Fdbs y_Routes y_Neighs y_Fdbs e) delR x_Routes) ++ pickM (fun e => (e.Local == false) && !staysM x_Neighs x_Fdbs y_Routes y_Neighs y_Fdbs e) delR x_Routes) ++ pickM (fun e => lacksM cmpNeigh zNeigh y_Neighs e) delN (x_Neighs.take 0) := by first | exact pickM_0.symm | exact pickM_0 | exact pickM_t (by assumption) (by assumption) | exact pickM_f (by assumption) (by assumption)
      rw [q26] at m
      refine wp_loop_ghost (fun gn a w => ∃ k4 : Nat, ∃ v25 : SH, (k4 ≤ x_Neighs.length) ∧ ((((([] : List TOp) ++ pickM (fun e => (e.Local == true) && !staysM x_Neighs x_Fdbs y_Routes y_Neighs y_Fdbs e) delR x_Routes) ++ pickM (fun e => (e.Local == false) && !staysM x_Neighs x_Fdbs y_Routes y_Neighs y_Fdbs e) delR x_Routes) ++ pickM (fun e => lacksM cmpNeigh zNeigh y_Neighs e) delN (x_Neighs.take k4)).length ≤ 33554432 + k4) ∧ gn = x_Neighs.length - k4 ∧ St 151 [(2, .pointer (some (padd p1 0))), (3, .pointer (some (padd p3 0))), (6, v25.v), (59, vx_Neighs.v), (60, .int .i64 (x_Neighs.length : Int)), (61, .int .i64 (k4 : Int))] a ∧ Hp w0 (hh w0) [Bx p1 29 [vx_Routes.v, vx_Neighs.v, vx_Fdbs.v], Bx p3 29 [vy_Routes.v, vy_Neighs.v, vy_Fdbs.v], Sv 19 58 v25.v ((((([] : List TOp) ++ pickM (fun e => (e.Local == true) && !staysM x_Neighs x_Fdbs y_Routes y_Neighs y_Fdbs e) delR x_Routes) ++ pickM (fun e => (e.Local == false) && !staysM x_Neighs x_Fdbs y_Routes y_Neighs y_Fdbs e) delR x_Routes) ++ pickM (fun e => lacksM cmpNeigh zNeigh y_Neighs e) delN (x_Neighs.take k4)).map cOp)] w) (x_Neighs.length - 0) ⟨0, v20, by omega, by (rw [pickM_0]; first | (simp; done) | omega), rfl, hs.to ⟨rfl, rfl, rfl, rfl, rfl, rfl, trivial⟩, m.sub (.c r0 (.c r0 (.c r0 .n)))⟩ ?_
      clear hs m a w22
      rintro gn a w27 ⟨k4, v25, hk, hl, rfl, hs, m⟩
      refine c_reg ?_
      refine r_ok hs m (ok_bin rfl rfl rfl) rfl ?_
      clear hs a; intro a hs
      refine wpList_nil (n_then ?_)
      refine c_seq ?_
      refine c_cond hs rfl (fun h28 => ?_) (fun h28 => ?_)
      rotate_left
      · have h28p := of_decide_eq_false h28
        refine wp_exit ?_
        refine ex_then (ex_then (ex_hit (?_)))
        refine n_then ?_
        refine c_seq ?_
        refine c_reg ?_
        refine r_ok hs m (ok_fieldAddr (r := 2) rfl fd29_2 ty27 rfl) rfl ?_
        clear hs a; intro a hs
        refine r_ok hs m (ok_load_sc rfl ty27 (bx_at r0) rfl) rfl ?_
        clear hs a; intro a hs
        refine r_ok hs m (ok_len (r := (x_Fdbs.length : Int)) m rfl sl27 (rc_fr hx_Fdbs) (by simp)) rfl ?_
        clear hs a; intro a hs
        refine r_ok hs m (ok_move rfl) rfl ?_
        clear hs a; intro a hs
        refine wpList_nil (n_then ?_)
        refine wp_block ?_
        rw [show x_Neighs.take k4 = x_Neighs from List.take_of_length_le (by omega)] at m hl
        have q30 : ((([] : List TOp) ++ pickM (fun e => (e.Local == true) && !staysM x_Neighs x_Fdbs y_Routes y_Neighs y_Fdbs e) delR x_Routes) ++ pickM (fun e => (e.Local == false) && !staysM x_Neighs x_Fdbs y_Routes y_Neighs y_Fdbs e) delR x_Routes) ++ pickM (fun e => lacksM cmpNeigh zNeigh y_Neighs e) delN x_Neighs = (((([] : List TOp) ++ pickM (fun e => (e.Local == true) && !staysM x_Neighs x_Fdbs y_Routes y_Neighs y_Fdbs e) delR x_Routes) ++ pickM (fun e => (e.Local == false) && !staysM x_Neighs x_Fdbs y_Routes y_Neighs y_Fdbs e) delR x_Routes) ++ pickM (fun e => lacksM cmpNeigh zNeigh y_Neighs e) delN x_Neighs) ++ pickM (fun e => lacksM cmpFdb zFdb y_Fdbs e) delF (x_Fdbs.take 0) := by first | exact pickM_0.symm | exact pickM_0 | exact pickM_t (by assumption) (by assumption) | exact pickM_f (by assumption) (by assumption)
        rw [q30] at m
        refine wp_loop_ghost (fun gn a w => ∃ k6 : Nat, ∃ v29 : SH, (k6 ≤ x_Fdbs.length) ∧ (((((([] : List TOp) ++ pickM (fun e => (e.Local == true) && !staysM x_Neighs x_Fdbs y_Routes y_Neighs y_Fdbs e) delR x_Routes) ++ pickM (fun e => (e.Local == false) && !staysM x_Neighs x_Fdbs y_Routes y_Neighs y_Fdbs e) delR x_Routes) ++ pickM (fun e => lacksM cmpNeigh zNeigh y_Neighs e) delN x_Neighs) ++ pickM (fun e => lacksM cmpFdb zFdb y_Fdbs e) delF (x_Fdbs.take k6)).length ≤ 50331648 + k6) ∧ gn = x_Fdbs.length - k6 ∧ St 151 [(2, .pointer (some (padd p1 0))), (3, .pointer (some (padd p3 0))), (6, v29.v), (76, vx_Fdbs.v), (77, .int .i64 (x_Fdbs.length : Int)), (78, .int .i64 (k6 : Int))] a ∧ Hp w0 (hh w0) [Bx p1 29 [vx_Routes.v, vx_Neighs.v, vx_Fdbs.v], Bx p3 29 [vy_Routes.v, vy_Neighs.v, vy_Fdbs.v], Sv 19 58 v29.v (((((([] : List TOp) ++ pickM (fun e => (e.Local == true) && !staysM x_Neighs x_Fdbs y_Routes y_Neighs y_Fdbs e) delR x_Routes) ++ pickM (fun e => (e.Local == false) && !staysM x_Neighs x_Fdbs y_Routes y_Neighs y_Fdbs e) delR x_Routes) ++ pickM (fun e => lacksM cmpNeigh zNeigh y_Neighs e) delN x_Neighs) ++ pickM (fun e => lacksM cmpFdb zFdb y_Fdbs e) delF (x_Fdbs.take k6)).map cOp)] w) (x_Fdbs.length - 0) ⟨0, v25, by omega, by (rw [pickM_0]; first | (simp; done) | omega), rfl, hs.to ⟨rfl, rfl, rfl, rfl, rfl, rfl, trivial⟩, m.sub (.c r0 (.c r0 (.c r0 .n)))⟩ ?_
        clear hs m a w27
        rintro gn a w31 ⟨k6, v29, hk, hl, rfl, hs, m⟩
        refine c_reg ?_
        refine r_ok hs m (ok_bin rfl rfl rfl) rfl ?_
        clear hs a; intro a hs
        refine wpList_nil (n_then ?_)
        refine c_seq ?_
        refine c_cond hs rfl (fun h32 => ?_) (fun h32 => ?_)
        rotate_left
        · have h32p := of_decide_eq_false h32
          refine wp_exit ?_
          refine ex_then (ex_then (ex_hit (?_)))
          refine n_then ?_
          refine c_seq ?_
          refine c_reg ?_
          refine r_ok hs m (ok_fieldAddr (r := 2) rfl fd29_2 ty27 rfl) rfl ?_
          clear hs a; intro a hs
          refine r_ok hs m (ok_load_sc rfl ty27 (bx_at r1) rfl) rfl ?_
          clear hs a; intro a hs
          refine r_ok hs m (ok_len (r := (y_Fdbs.length : Int)) m rfl sl27 (rc_fr hy_Fdbs) (by simp)) rfl ?_
          clear hs a; intro a hs
          refine r_ok hs m (ok_move rfl) rfl ?_
          clear hs a; intro a hs
          refine wpList_nil (n_then ?_)
          refine wp_block ?_
          rw [show x_Fdbs.take k6 = x_Fdbs from List.take_of_length_le (by omega)] at m hl
          have q34 : (((([] : List TOp) ++ pickM (fun e => (e.Local == true) && !staysM x_Neighs x_Fdbs y_Routes y_Neighs y_Fdbs e) delR x_Routes) ++ pickM (fun e => (e.Local == false) && !staysM x_Neighs x_Fdbs y_Routes y_Neighs y_Fdbs e) delR x_Routes) ++ pickM (fun e => lacksM cmpNeigh zNeigh y_Neighs e) delN x_Neighs) ++ pickM (fun e => lacksM cmpFdb zFdb y_Fdbs e) delF x_Fdbs = ((((([] : List TOp) ++ pickM (fun e => (e.Local == true) && !staysM x_Neighs x_Fdbs y_Routes y_Neighs y_Fdbs e) delR x_Routes) ++ pickM (fun e => (e.Local == false) && !staysM x_Neighs x_Fdbs y_Routes y_Neighs y_Fdbs e) delR x_Routes) ++ pickM (fun e => lacksM cmpNeigh zNeigh y_Neighs e) delN x_Neighs) ++ pickM (fun e => lacksM cmpFdb zFdb y_Fdbs e) delF x_Fdbs) ++ pickM (fun e => lacksM cmpFdb zFdb x_Fdbs e) putF (y_Fdbs.take 0) := by first | exact pickM_0.symm | exact pickM_0 | exact pickM_t (by assumption) (by assumption) | exact pickM_f (by assumption) (by assumption)
          rw [q34] at m
          refine wp_loop_ghost (fun gn a w => ∃ k8 : Nat, ∃ v33 : SH, (k8 ≤ y_Fdbs.length) ∧ ((((((([] : List TOp) ++ pickM (fun e => (e.Local == true) && !staysM x_Neighs x_Fdbs y_Routes y_Neighs y_Fdbs e) delR x_Routes) ++ pickM (fun e => (e.Local == false) && !staysM x_Neighs x_Fdbs y_Routes y_Neighs y_Fdbs e) delR x_Routes) ++ pickM (fun e => lacksM cmpNeigh zNeigh y_Neighs e) delN x_Neighs) ++ pickM (fun e => lacksM cmpFdb zFdb y_Fdbs e) delF x_Fdbs) ++ pickM (fun e => lacksM cmpFdb zFdb x_Fdbs e) putF (y_Fdbs.take k8)).length ≤ 67108864 + k8) ∧ gn = y_Fdbs.length - k8 ∧ St 151 [(2, .pointer (some (padd p1 0))), (3, .pointer (some (padd p3 0))), (6, v33.v), (93, vy_Fdbs.v), (94, .int .i64 (y_Fdbs.length : Int)), (95, .int .i64 (k8 : Int))] a ∧ Hp w0 (hh w0) [Bx p1 29 [vx_Routes.v, vx_Neighs.v, vx_Fdbs.v], Bx p3 29 [vy_Routes.v, vy_Neighs.v, vy_Fdbs.v], Sv 19 58 v33.v ((((((([] : List TOp) ++ pickM (fun e => (e.Local == true) && !staysM x_Neighs x_Fdbs y_Routes y_Neighs y_Fdbs e) delR x_Routes) ++ pickM (fun e => (e.Local == false) && !staysM x_Neighs x_Fdbs y_Routes y_Neighs y_Fdbs e) delR x_Routes) ++ pickM (fun e => lacksM cmpNeigh zNeigh y_Neighs e) delN x_Neighs) ++ pickM (fun e => lacksM cmpFdb zFdb y_Fdbs e) delF x_Fdbs) ++ pickM (fun e => lacksM cmpFdb zFdb x_Fdbs e) putF (y_Fdbs.take k8)).map cOp)] w) (y_Fdbs.length - 0) ⟨0, v29, by omega, by (rw [pickM_0]; first | (simp; done) | omega), rfl, hs.to ⟨rfl, rfl, rfl, rfl, rfl, rfl, trivial⟩, m.sub (.c r0 (.c r0 (.c r0 .n)))⟩ ?_
          clear hs m a w31
          rintro gn a w35 ⟨k8, v33, hk, hl, rfl, hs, m⟩
          refine c_reg ?_
          refine r_ok hs m (ok_bin rfl rfl rfl) rfl ?_
          clear hs a; intro a hs
          refine wpList_nil (n_then ?_)
          refine c_seq ?_
          refine c_cond hs rfl (fun h36 => ?_) (fun h36 => ?_)
          rotate_left
          · have h36p := of_decide_eq_false h36
            refine wp_exit ?_
            refine ex_then (ex_then (ex_hit (?_)))
            refine n_then ?_
            refine c_seq ?_
            refine c_reg ?_
            refine r_ok hs m (ok_fieldAddr (r := 1) rfl fd29_1 ty26 rfl) rfl ?_
            clear hs a; intro a hs
            refine r_ok hs m (ok_load_sc rfl ty26 (bx_at r1) rfl) rfl ?_
            clear hs a; intro a hs
            refine r_ok hs m (ok_len (r := (y_Neighs.length : Int)) m rfl sl26 (rc_fr hy_Neighs) (by simp)) rfl ?_
            clear hs a; intro a hs
            refine r_ok hs m (ok_move rfl) rfl ?_
            clear hs a; intro a hs
            refine wpList_nil (n_then ?_)
            refine wp_block ?_
            rw [show y_Fdbs.take k8 = y_Fdbs from List.take_of_length_le (by omega)] at m hl
            have q38 : ((((([] : List TOp) ++ pickM (fun e => (e.Local == true) && !staysM x_Neighs x_Fdbs y_Routes y_Neighs y_Fdbs e) delR x_Routes) ++ pickM (fun e => (e.Local == false) && !staysM x_Neighs x_Fdbs y_Routes y_Neighs y_Fdbs e) delR x_Routes) ++ pickM (fun e => lacksM cmpNeigh zNeigh y_Neighs e) delN x_Neighs) ++ pickM (fun e => lacksM cmpFdb zFdb y_Fdbs e) delF x_Fdbs) ++ pickM (fun e => lacksM cmpFdb zFdb x_Fdbs e) putF y_Fdbs = (((((([] : List TOp) ++ pickM (fun e => (e.Local == true) && !staysM x_Neighs x_Fdbs y_Routes y_Neighs y_Fdbs e) delR x_Routes) ++ pickM (fun e => (e.Local == false) && !staysM x_Neighs x_Fdbs y_Routes y_Neighs y_Fdbs e) delR x_Routes) ++ pickM (fun e => lacksM cmpNeigh zNeigh y_Neighs e) delN x_Neighs) ++ pickM (fun e => lacksM cmpFdb zFdb y_Fdbs e) delF x_Fdbs) ++ pickM (fun e => lacksM cmpFdb zFdb x_Fdbs e) putF y_Fdbs) ++ pickM (fun e => lacksM cmpNeigh zNeigh x_Neighs e) putNe (y_Neighs.take 0) := by first | exact pickM_0.symm | exact pickM_0 | exact pickM_t (by assumption) (by assumption) | exact pickM_f (by assumption) (by assumption)
            rw [q38] at m
            refine wp_loop_ghost (fun gn a w => ∃ k10 : Nat, ∃ v37 : SH, (k10 ≤ y_Neighs.length) ∧ (((((((([] : List TOp) ++ pickM (fun e => (e.Local == true) && !staysM x_Neighs x_Fdbs y_Routes y_Neighs y_Fdbs e) delR x_Routes) ++ pickM (fun e => (e.Local == false) && !staysM x_Neighs x_Fdbs y_Routes y_Neighs y_Fdbs e) delR x_Routes) ++ pickM (fun e => lacksM cmpNeigh zNeigh y_Neighs e) delN x_Neighs) ++ pickM (fun e => lacksM cmpFdb zFdb y_Fdbs e) delF x_Fdbs) ++ pickM (fun e => lacksM cmpFdb zFdb x_Fdbs e) putF y_Fdbs) ++ pickM (fun e => lacksM cmpNeigh zNeigh x_Neighs e) putNe (y_Neighs.take k10)).length ≤ 83886080 + k10) ∧ gn = y_Neighs.length - k10 ∧ St 151 [(2, .pointer (some (padd p1 0))), (3, .pointer (some (padd p3 0))), (6, v37.v), (110, vy_Neighs.v), (111, .int .i64 (y_Neighs.length : Int)), (112, .int .i64 (k10 : Int))] a ∧ Hp w0 (hh w0) [Bx p1 29 [vx_Routes.v, vx_Neighs.v, vx_Fdbs.v], Bx p3 29 [vy_Routes.v, vy_Neighs.v, vy_Fdbs.v], Sv 19 58 v37.v (((((((([] : List TOp) ++ pickM (fun e => (e.Local == true) && !staysM x_Neighs x_Fdbs y_Routes y_Neighs y_Fdbs e) delR x_Routes) ++ pickM (fun e => (e.Local == false) && !staysM x_Neighs x_Fdbs y_Routes y_Neighs y_Fdbs e) delR x_Routes) ++ pickM (fun e => lacksM cmpNeigh zNeigh y_Neighs e) delN x_Neighs) ++ pickM (fun e => lacksM cmpFdb zFdb y_Fdbs e) delF x_Fdbs) ++ pickM (fun e => lacksM cmpFdb zFdb x_Fdbs e) putF y_Fdbs) ++ pickM (fun e => lacksM cmpNeigh zNeigh x_Neighs e) putNe (y_Neighs.take k10)).map cOp)] w) (y_Neighs.length - 0) ⟨0, v33, by omega, by (rw [pickM_0]; first | (simp; done) | omega), rfl, hs.to ⟨rfl, rfl, rfl, rfl, rfl, rfl, trivial⟩, m.sub (.c r0 (.c r0 (.c r0 .n)))⟩ ?_
            clear hs m a w35
            rintro gn a w39 ⟨k10, v37, hk, hl, rfl, hs, m⟩
            refine c_reg ?_
            refine r_ok hs m (ok_bin rfl rfl rfl) rfl ?_
            clear hs a; intro a hs
            refine wpList_nil (n_then ?_)
            refine c_seq ?_
            refine c_cond hs rfl (fun h40 => ?_) (fun h40 => ?_)
            rotate_left
            · have h40p := of_decide_eq_false h40
              refine wp_exit ?_
              refine ex_then (ex_then (ex_hit (?_)))
              refine n_then ?_
              refine c_seq ?_
              refine c_reg ?_
              refine r_ok hs m (ok_fieldAddr (r := 0) rfl fd29_0 ty25 rfl) rfl ?_
              clear hs a; intro a hs
              refine r_ok hs m (ok_load_sc rfl ty25 (bx_at r1) rfl) rfl ?_
              clear hs a; intro a hs
              refine r_ok hs m (ok_len (r := (y_Routes.length : Int)) m rfl sl25 (rc_fr hy_Routes) (by simp)) rfl ?_
              clear hs a; intro a hs
              refine r_ok hs m (ok_move rfl) rfl ?_
              clear hs a; intro a hs
              refine wpList_nil (n_then ?_)
              refine wp_block ?_
              rw [show y_Neighs.take k10 = y_Neighs from List.take_of_length_le (by omega)] at m hl
              have q42 : (((((([] : List TOp) ++ pickM (fun e => (e.Local == true) && !staysM x_Neighs x_Fdbs y_Routes y_Neighs y_Fdbs e) delR x_Routes) ++ pickM (fun e => (e.Local == false) && !staysM x_Neighs x_Fdbs y_Routes y_Neighs y_Fdbs e) delR x_Routes) ++ pickM (fun e => lacksM cmpNeigh zNeigh y_Neighs e) delN x_Neighs) ++ pickM (fun e => lacksM cmpFdb zFdb y_Fdbs e) delF x_Fdbs) ++ pickM (fun e => lacksM cmpFdb zFdb x_Fdbs e) putF y_Fdbs) ++ pickM (fun e => lacksM cmpNeigh zNeigh x_Neighs e) putNe y_Neighs = ((((((([] : List TOp) ++ pickM (fun e => (e.Local == true) && !staysM x_Neighs x_Fdbs y_Routes y_Neighs y_Fdbs e) delR x_Routes) ++ pickM (fun e => (e.Local == false) && !staysM x_Neighs x_Fdbs y_Routes y_Neighs y_Fdbs e) delR x_Routes) ++ pickM (fun e => lacksM cmpNeigh zNeigh y_Neighs e) delN x_Neighs) ++ pickM (fun e => lacksM cmpFdb zFdb y_Fdbs e) delF x_Fdbs) ++ pickM (fun e => lacksM cmpFdb zFdb x_Fdbs e) putF y_Fdbs) ++ pickM (fun e => lacksM cmpNeigh zNeigh x_Neighs e) putNe y_Neighs) ++ pickM (fun e => lacksM cmpRoute zRoute x_Routes e || !staysM x_Neighs x_Fdbs y_Routes y_Neighs y_Fdbs e) putR (y_Routes.take 0) := by first | exact pickM_0.symm | exact pickM_0 | exact pickM_t (by assumption) (by assumption) | exact pickM_f (by assumption) (by assumption)
              rw [q42] at m
              refine wp_loop_ghost (fun gn a w => ∃ k12 : Nat, ∃ v41 : SH, (k12 ≤ y_Routes.length) ∧ ((((((((([] : List TOp) ++ pickM (fun e => (e.Local == true) && !staysM x_Neighs x_Fdbs y_Routes y_Neighs y_Fdbs e) delR x_Routes) ++ pickM (fun e => (e.Local == false) && !staysM x_Neighs x_Fdbs y_Routes y_Neighs y_Fdbs e) delR x_Routes) ++ pickM (fun e => lacksM cmpNeigh zNeigh y_Neighs e) delN x_Neighs) ++ pickM (fun e => lacksM cmpFdb zFdb y_Fdbs e) delF x_Fdbs) ++ pickM (fun e => lacksM cmpFdb zFdb x_Fdbs e) putF y_Fdbs) ++ pickM (fun e => lacksM cmpNeigh zNeigh x_Neighs e) putNe y_Neighs) ++ pickM (fun e => lacksM cmpRoute zRoute x_Routes e || !staysM x_Neighs x_Fdbs y_Routes y_Neighs y_Fdbs e) putR (y_Routes.take k12)).length ≤ 100663296 + k12) ∧ gn = y_Routes.length - k12 ∧ St 151 [(2, .pointer (some (padd p1 0))), (3, .pointer (some (padd p3 0))), (6, v41.v), (127, vy_Routes.v), (128, .int .i64 (y_Routes.length : Int)), (129, .int .i64 (k12 : Int))] a ∧ Hp w0 (hh w0) [Bx p1 29 [vx_Routes.v, vx_Neighs.v, vx_Fdbs.v], Bx p3 29 [vy_Routes.v, vy_Neighs.v, vy_Fdbs.v], Sv 19 58 v41.v ((((((((([] : List TOp) ++ pickM (fun e => (e.Local == true) && !staysM x_Neighs x_Fdbs y_Routes y_Neighs y_Fdbs e) delR x_Routes) ++ pickM (fun e => (e.Local == false) && !staysM x_Neighs x_Fdbs y_Routes y_Neighs y_Fdbs e) delR x_Routes) ++ pickM (fun e => lacksM cmpNeigh zNeigh y_Neighs e) delN x_Neighs) ++ pickM (fun e => lacksM cmpFdb zFdb y_Fdbs e) delF x_Fdbs) ++ pickM (fun e => lacksM cmpFdb zFdb x_Fdbs e) putF y_Fdbs) ++ pickM (fun e => lacksM cmpNeigh zNeigh x_Neighs e) putNe y_Neighs) ++ pickM (fun e => lacksM cmpRoute zRoute x_Routes e || !staysM x_Neighs x_Fdbs y_Routes y_Neighs y_Fdbs e) putR (y_Routes.take k12)).map cOp)] w) (y_Routes.length - 0) ⟨0, v37, by omega, by (rw [pickM_0]; first | (simp; done) | omega), rfl, hs.to ⟨rfl, rfl, rfl, rfl, rfl, rfl, trivial⟩, m.sub (.c r0 (.c r0 (.c r0 .n)))⟩ ?_
              clear hs m a w39
              rintro gn a w43 ⟨k12, v41, hk, hl, rfl, hs, m⟩
              refine c_reg ?_
              refine r_ok hs m (ok_bin rfl rfl rfl) rfl ?_
              clear hs a; intro a hs
              refine wpList_nil (n_then ?_)
              refine c_seq ?_
              refine c_cond hs rfl (fun h44 => ?_) (fun h44 => ?_)
              rotate_left
              · have h44p := of_decide_eq_false h44
                refine wp_exit ?_
                refine ex_then (ex_then (ex_hit (?_)))
                refine n_then ?_
                refine c_reg ?_
                refine r_ok hs m (ok_move rfl) rfl ?_
                clear hs a; intro a hs
                refine r_ok hs m (ok_assign rfl) rfl ?_
                clear hs a; intro a hs
                refine r_ok hs m (ok_assign rfl) rfl ?_
                clear hs a; intro a hs
                refine wpList_nil (n_then ?_)
                refine wp_ret ?_
                refine leave hs (vs := [v41.v, .int .i64 0]) rfl ⟨rfl, rfl, trivial⟩ ?_
                have q45 : ((((((([] : List TOp) ++ pickM (fun e => (e.Local == true) && !staysM x_Neighs x_Fdbs y_Routes y_Neighs y_Fdbs e) delR x_Routes) ++ pickM (fun e => (e.Local == false) && !staysM x_Neighs x_Fdbs y_Routes y_Neighs y_Fdbs e) delR x_Routes) ++ pickM (fun e => lacksM cmpNeigh zNeigh y_Neighs e) delN x_Neighs) ++ pickM (fun e => lacksM cmpFdb zFdb y_Fdbs e) delF x_Fdbs) ++ pickM (fun e => lacksM cmpFdb zFdb x_Fdbs e) putF y_Fdbs) ++ pickM (fun e => lacksM cmpNeigh zNeigh x_Neighs e) putNe y_Neighs) ++ pickM (fun e => lacksM cmpRoute zRoute x_Routes e || !staysM x_Neighs x_Fdbs y_Routes y_Neighs y_Fdbs e) putR (y_Routes.take k12) = diffM x_Routes x_Neighs x_Fdbs y_Routes y_Neighs y_Fdbs := by first | exact diffM_bad (by assumption) | exact diffE_bad (by assumption) | exact diffE_ok (by assumption) | exact diffM_ok (by assumption) (by omega)
                rw [q45] at m
                refine ⟨_, rfl, v41, ?_, m.sub (.c r2 .n)⟩
                have q46 : (0 : Int) = diffE x_Routes x_Neighs x_Fdbs y_Routes y_Neighs y_Fdbs := by clear hs m; first | exact diffM_bad (by assumption) | exact diffE_bad (by assumption) | exact diffE_ok (by assumption) | exact diffM_ok (by assumption) (by omega)
                first | (rw [q46]; done) | (rw [q46]; rfl) | (rw [q46]; rfl) | (simp only [q46, pack]; done)
              have h44p := of_decide_eq_true h44
              refine wp_skip ?_
              refine n_then ?_
              refine c_seq ?_
              refine wp_block ?_
              refine c_reg ?_
              obtain ⟨e47, he48⟩ := get_of_lt (l := y_Routes) (i := k12) (by omega)
              refine elF (c := cRoute) (e := e47) hs m (x := (.tmp 127)) (ix := (.tmp 129)) rfl rfl sl25 ty51 hy_Routes (by omega) he48 fun p49 hp50 ok51 => ?_
              refine r_ok hs m (ok51 _ _ _ _ _) rfl ?_
              clear hs a; intro a hs
              refine r_ok hs m (ok_load_ag (vs := cRoute e47) rfl ty51 (fr_at hp50) rfl rfl) rfl ?_
              clear hs a; intro a hs
              refine r_alloc hs m ze51 rfl ?_
              clear m hs a w43; intro p52 w53 m a hs
              refine r_store (cs' := cRoute e47) (vs := cRoute e47) hs m rfl rfl ty51 s0 rfl rfl rfl rfl rfl ?_
              clear m w53; intro w54 m
              refine wpList_nil (n_then ?_)
              refine c_reg ?_
              refine r_ok hs m (ok_fieldAddr (r := 0) rfl fd29_0 ty25 rfl) rfl ?_
              clear hs a; intro a hs
              refine r_ok hs m (ok_load_sc rfl ty25 (bx_at r1) rfl) rfl ?_
              clear hs a; intro a hs
              refine r_ok hs m (ok_load_ag (vs := cRoute e47) rfl ty51 (bx_at r0) rfl rfl) rfl ?_
              clear hs a; intro a hs
              refine r_callP hs m rfl rfl ca60 rfl (lacksRoute_c vx_Routes x_Routes e47 _ (m.rd hx_Routes) ) rfl ?_
              clear m hs a w54; intro w55 m a hs
              refine r_ok hs m (ok_move rfl) rfl ?_
              clear hs a; intro a hs
              refine l_cut (.c (.c (.c (.c (.c (.c (.n))))))) (fun a w => St 151 [(2, .pointer (some (padd p1 0))), (3, .pointer (some (padd p3 0))), (6, v41.v), (20, .pointer (some (padd p52 0))), (127, vy_Routes.v), (128, .int .i64 (y_Routes.length : Int)), (129, .int .i64 (k12 : Int)), (143, .bool ((lacksM cmpRoute zRoute x_Routes e47) || (!(staysM x_Neighs x_Fdbs y_Routes y_Neighs y_Fdbs e47))))] a ∧ Hp w0 (hh w0) [Bx p52 51 (cRoute e47), Bx p1 29 [vx_Routes.v, vx_Neighs.v, vx_Fdbs.v], Bx p3 29 [vy_Routes.v, vy_Neighs.v, vy_Fdbs.v], Sv 19 58 v41.v ((((((((([] : List TOp) ++ pickM (fun e => (e.Local == true) && !staysM x_Neighs x_Fdbs y_Routes y_Neighs y_Fdbs e) delR x_Routes) ++ pickM (fun e => (e.Local == false) && !staysM x_Neighs x_Fdbs y_Routes y_Neighs y_Fdbs e) delR x_Routes) ++ pickM (fun e => lacksM cmpNeigh zNeigh y_Neighs e) delN x_Neighs) ++ pickM (fun e => lacksM cmpFdb zFdb y_Fdbs e) delF x_Fdbs) ++ pickM (fun e => lacksM cmpFdb zFdb x_Fdbs e) putF y_Fdbs) ++ pickM (fun e => lacksM cmpNeigh zNeigh x_Neighs e) putNe y_Neighs) ++ pickM (fun e => lacksM cmpRoute zRoute x_Routes e || !staysM x_Neighs x_Fdbs y_Routes y_Neighs y_Fdbs e) putR (y_Routes.take k12)).map cOp)] w) ?_ ?_
              · rcases Bool.eq_false_or_eq_true (lacksM cmpRoute zRoute x_Routes e47) with hb56 | hb56
                · refine g_out hs rfl rfl hb56 rfl ?_
                  clear hs a; intro a hs
                  refine g_out hs rfl rfl hb56 rfl ?_
                  clear hs a; intro a hs
                  refine g_out hs rfl rfl hb56 rfl ?_
                  clear hs a; intro a hs
                  refine g_out hs rfl rfl hb56 rfl ?_
                  clear hs a; intro a hs
                  refine g_out hs rfl rfl hb56 rfl ?_
                  clear hs a; intro a hs
                  refine r_ok hs m (ok_pick (r := .bool ((lacksM cmpRoute zRoute x_Routes e47) || (!(staysM x_Neighs x_Fdbs y_Routes y_Neighs y_Fdbs e47)))) rfl rfl rfl (by rw [hb56]; rfl)) rfl ?_
                  clear hs a; intro a hs
                  exact wpList_nil (n_then ⟨hs.to ⟨rfl, rfl, rfl, rfl, rfl, rfl, rfl, rfl, trivial⟩, m⟩)
                · refine r_okg hs rfl rfl hb56 m (ok_load_ag (vs := [vx_Routes.v, vx_Neighs.v, vx_Fdbs.v]) rfl ty29 (bx_at r1) rfl rfl) rfl ?_
                  clear hs a; intro a hs
                  refine r_okg hs rfl rfl hb56 m (ok_load_ag (vs := [vy_Routes.v, vy_Neighs.v, vy_Fdbs.v]) rfl ty29 (bx_at r2) rfl rfl) rfl ?_
                  clear hs a; intro a hs
                  refine r_okg hs rfl rfl hb56 m (ok_load_ag (vs := cRoute e47) rfl ty51 (bx_at r0) rfl rfl) rfl ?_
                  clear hs a; intro a hs
                  refine r_callPg hs rfl rfl hb56 m rfl rfl ca57 rfl (stays_c vx_Routes x_Routes vx_Neighs x_Neighs vx_Fdbs x_Fdbs vy_Routes y_Routes vy_Neighs y_Neighs vy_Fdbs y_Fdbs e47 _ (m.rd hx_Routes) (m.rd hx_Neighs) (m.rd hx_Fdbs) (m.rd hy_Routes) (m.rd hy_Neighs) (m.rd hy_Fdbs) ) rfl ?_
                  clear m hs a w55; intro w57 m a hs
                  refine r_okg hs rfl rfl hb56 m (ok_not rfl) rfl ?_
                  clear hs a; intro a hs
                  refine r_ok hs m (ok_pick (r := .bool ((lacksM cmpRoute zRoute x_Routes e47) || (!(staysM x_Neighs x_Fdbs y_Routes y_Neighs y_Fdbs e47)))) rfl rfl rfl (by rw [hb56]; rfl)) rfl ?_
                  clear hs a; intro a hs
                  exact wpList_nil (n_then ⟨hs.to ⟨rfl, rfl, rfl, rfl, rfl, rfl, rfl, rfl, trivial⟩, m⟩)
              clear hs m a w55; rintro a w58 ⟨hs, m⟩
              refine wpList_nil (n_then ?_)
              refine c_cond hs rfl (fun h59 => ?_) (fun h59 => ?_)
              · have h59p := h59; simp only [Bool.or_eq_true, Bool.or_eq_false_iff, Bool.and_eq_true, Bool.and_eq_false_iff, Bool.not_eq_true', Bool.not_eq_false', decide_eq_true_eq, decide_eq_false_iff_not, beq_iff_eq, bne_iff_ne, beq_eq_false_iff_ne, bne_eq_false_iff_eq, ne_eq, gt_iff_lt, ge_iff_le, Int.not_lt, Int.not_le] at h59p
                refine c_last ?_
                refine r_ok hs m (ok_move rfl) rfl ?_
                clear hs a; intro a hs
                refine r_ok hs m (ok_load_ag (vs := cRoute e47) rfl ty51 (bx_at r0) rfl rfl) rfl ?_
                clear hs a; intro a hs
                refine r_ok hs m (ok_build (cs := cOp (⟨⟨1, rfl⟩, e47, (⟨⟨0, rfl⟩, (⟨⟨0, rfl⟩, ⟨0, rfl⟩, ⟨0, rfl⟩, ⟨0, rfl⟩, ⟨0, rfl⟩, ⟨0, rfl⟩⟩ : TMAC)⟩ : TNeigh), (⟨(⟨⟨0, rfl⟩, ⟨0, rfl⟩, ⟨0, rfl⟩, ⟨0, rfl⟩, ⟨0, rfl⟩, ⟨0, rfl⟩⟩ : TMAC), ⟨0, rfl⟩⟩ : TFdb)⟩ : TOp)) st58 ze58 rfl rfl) rfl ?_
                clear hs a; intro a hs
                refine r_buildM (c := cOp) (ys := [(⟨⟨1, rfl⟩, e47, (⟨⟨0, rfl⟩, (⟨⟨0, rfl⟩, ⟨0, rfl⟩, ⟨0, rfl⟩, ⟨0, rfl⟩, ⟨0, rfl⟩, ⟨0, rfl⟩⟩ : TMAC)⟩ : TNeigh), (⟨(⟨⟨0, rfl⟩, ⟨0, rfl⟩, ⟨0, rfl⟩, ⟨0, rfl⟩, ⟨0, rfl⟩, ⟨0, rfl⟩⟩ : TMAC), ⟨0, rfl⟩⟩ : TFdb)⟩ : TOp)]) hs m sl35 ty58 ze58 rfl rfl rfl rfl rfl (fun _ => rfl) rfl rfl rfl ?_
                clear m hs a w58; intro v60 w61 m a hs
                refine r_appendM (c := cOp) (xs := ((((((([] : List TOp) ++ pickM (fun e => (e.Local == true) && !staysM x_Neighs x_Fdbs y_Routes y_Neighs y_Fdbs e) delR x_Routes) ++ pickM (fun e => (e.Local == false) && !staysM x_Neighs x_Fdbs y_Routes y_Neighs y_Fdbs e) delR x_Routes) ++ pickM (fun e => lacksM cmpNeigh zNeigh y_Neighs e) delN x_Neighs) ++ pickM (fun e => lacksM cmpFdb zFdb y_Fdbs e) delF x_Fdbs) ++ pickM (fun e => lacksM cmpFdb zFdb x_Fdbs e) putF y_Fdbs) ++ pickM (fun e => lacksM cmpNeigh zNeigh x_Neighs e) putNe y_Neighs) ++ pickM (fun e => lacksM cmpRoute zRoute x_Routes e || !staysM x_Neighs x_Fdbs y_Routes y_Neighs y_Fdbs e) putR (y_Routes.take k12)) (ys := [(⟨⟨1, rfl⟩, e47, (⟨⟨0, rfl⟩, (⟨⟨0, rfl⟩, ⟨0, rfl⟩, ⟨0, rfl⟩, ⟨0, rfl⟩, ⟨0, rfl⟩, ⟨0, rfl⟩⟩ : TMAC)⟩ : TNeigh), (⟨(⟨⟨0, rfl⟩, ⟨0, rfl⟩, ⟨0, rfl⟩, ⟨0, rfl⟩, ⟨0, rfl⟩, ⟨0, rfl⟩⟩ : TMAC), ⟨0, rfl⟩⟩ : TFdb)⟩ : TOp)]) hs m rfl rfl sl35 ni35 ty58 ze58 rfl by58 rfl r4 (m.rdv r0) (fun _ => rfl) (by first | omega | (simp only [List.length_cons, List.length_nil]; omega)) rfl ?_
                clear m hs a w61; intro v62 w63 m a hs
                refine r_ok hs m (ok_assign rfl) rfl ?_
                clear hs a; intro a hs
                refine wpList_nil (n_block (n_then ?_))
                refine c_last ?_
                refine r_ok hs m (ok_add (r := (k12 : Int) + 1) rfl rfl (wrap_i64 (by omega) (by omega))) rfl ?_
                clear hs a; intro a hs
                refine r_ok hs m (ok_move rfl) rfl ?_
                clear hs a; intro a hs
                refine wpList_nil (n_then ?_)
                have q64 : ((((((([] : List TOp) ++ pickM (fun e => (e.Local == true) && !staysM x_Neighs x_Fdbs y_Routes y_Neighs y_Fdbs e) delR x_Routes) ++ pickM (fun e => (e.Local == false) && !staysM x_Neighs x_Fdbs y_Routes y_Neighs y_Fdbs e) delR x_Routes) ++ pickM (fun e => lacksM cmpNeigh zNeigh y_Neighs e) delN x_Neighs) ++ pickM (fun e => lacksM cmpFdb zFdb y_Fdbs e) delF x_Fdbs) ++ pickM (fun e => lacksM cmpFdb zFdb x_Fdbs e) putF y_Fdbs) ++ pickM (fun e => lacksM cmpNeigh zNeigh x_Neighs e) putNe y_Neighs) ++ pickM (fun e => lacksM cmpRoute zRoute x_Routes e || !staysM x_Neighs x_Fdbs y_Routes y_Neighs y_Fdbs e) putR (y_Routes.take k12) ++ [(⟨⟨1, rfl⟩, e47, (⟨⟨0, rfl⟩, (⟨⟨0, rfl⟩, ⟨0, rfl⟩, ⟨0, rfl⟩, ⟨0, rfl⟩, ⟨0, rfl⟩, ⟨0, rfl⟩⟩ : TMAC)⟩ : TNeigh), (⟨(⟨⟨0, rfl⟩, ⟨0, rfl⟩, ⟨0, rfl⟩, ⟨0, rfl⟩, ⟨0, rfl⟩, ⟨0, rfl⟩⟩ : TMAC), ⟨0, rfl⟩⟩ : TFdb)⟩ : TOp)] = ((((((([] : List TOp) ++ pickM (fun e => (e.Local == true) && !staysM x_Neighs x_Fdbs y_Routes y_Neighs y_Fdbs e) delR x_Routes) ++ pickM (fun e => (e.Local == false) && !staysM x_Neighs x_Fdbs y_Routes y_Neighs y_Fdbs e) delR x_Routes) ++ pickM (fun e => lacksM cmpNeigh zNeigh y_Neighs e) delN x_Neighs) ++ pickM (fun e => lacksM cmpFdb zFdb y_Fdbs e) delF x_Fdbs) ++ pickM (fun e => lacksM cmpFdb zFdb x_Fdbs e) putF y_Fdbs) ++ pickM (fun e => lacksM cmpNeigh zNeigh x_Neighs e) putNe y_Neighs) ++ pickM (fun e => lacksM cmpRoute zRoute x_Routes e || !staysM x_Neighs x_Fdbs y_Routes y_Neighs y_Fdbs e) putR (y_Routes.take (k12 + 1)) := by first | exact pickM_0.symm | exact pickM_0 | exact pickM_t (by assumption) (by assumption) | exact pickM_f (by assumption) (by assumption)
                rw [q64] at m
                exact ⟨y_Routes.length - (k12 + 1), by omega, k12 + 1, v62, by omega, by exact Nat.le_trans pickM_add (by omega), rfl, hs.to ⟨rfl, rfl, rfl, rfl, rfl, rfl, trivial⟩, m.sub (.c r3 (.c r3 (.c r0 .n)))⟩
              have h59p := h59; simp only [Bool.or_eq_true, Bool.or_eq_false_iff, Bool.and_eq_true, Bool.and_eq_false_iff, Bool.not_eq_true', Bool.not_eq_false', decide_eq_true_eq, decide_eq_false_iff_not, beq_iff_eq, bne_iff_ne, beq_eq_false_iff_ne, bne_eq_false_iff_eq, ne_eq, gt_iff_lt, ge_iff_le, Int.not_lt, Int.not_le] at h59p
              refine wp_skip ?_
              refine n_block (n_then ?_)
              refine c_last ?_
              refine r_ok hs m (ok_add (r := (k12 : Int) + 1) rfl rfl (wrap_i64 (by omega) (by omega))) rfl ?_
              clear hs a; intro a hs
              refine r_ok hs m (ok_move rfl) rfl ?_
              clear hs a; intro a hs
              refine wpList_nil (n_then ?_)
              have q65 : ((((((([] : List TOp) ++ pickM (fun e => (e.Local == true) && !staysM x_Neighs x_Fdbs y_Routes y_Neighs y_Fdbs e) delR x_Routes) ++ pickM (fun e => (e.Local == false) && !staysM x_Neighs x_Fdbs y_Routes y_Neighs y_Fdbs e) delR x_Routes) ++ pickM (fun e => lacksM cmpNeigh zNeigh y_Neighs e) delN x_Neighs) ++ pickM (fun e => lacksM cmpFdb zFdb y_Fdbs e) delF x_Fdbs) ++ pickM (fun e => lacksM cmpFdb zFdb x_Fdbs e) putF y_Fdbs) ++ pickM (fun e => lacksM cmpNeigh zNeigh x_Neighs e) putNe y_Neighs) ++ pickM (fun e => lacksM cmpRoute zRoute x_Routes e || !staysM x_Neighs x_Fdbs y_Routes y_Neighs y_Fdbs e) putR (y_Routes.take k12) = ((((((([] : List TOp) ++ pickM (fun e => (e.Local == true) && !staysM x_Neighs x_Fdbs y_Routes y_Neighs y_Fdbs e) delR x_Routes) ++ pickM (fun e => (e.Local == false) && !staysM x_Neighs x_Fdbs y_Routes y_Neighs y_Fdbs e) delR x_Routes) ++ pickM (fun e => lacksM cmpNeigh zNeigh y_Neighs e) delN x_Neighs) ++ pickM (fun e => lacksM cmpFdb zFdb y_Fdbs e) delF x_Fdbs) ++ pickM (fun e => lacksM cmpFdb zFdb x_Fdbs e) putF y_Fdbs) ++ pickM (fun e => lacksM cmpNeigh zNeigh x_Neighs e) putNe y_Neighs) ++ pickM (fun e => lacksM cmpRoute zRoute x_Routes e || !staysM x_Neighs x_Fdbs y_Routes y_Neighs y_Fdbs e) putR (y_Routes.take (k12 + 1)) := by first | exact pickM_0.symm | exact pickM_0 | exact pickM_t (by assumption) (by assumption) | exact pickM_f (by assumption) (by assumption)
              rw [q65] at m
              exact ⟨y_Routes.length - (k12 + 1), by omega, k12 + 1, v41, by omega, by exact Nat.le_trans pickM_add (by omega), rfl, hs.to ⟨rfl, rfl, rfl, rfl, rfl, rfl, trivial⟩, m.sub (.c r1 (.c r1 (.c r1 .n)))⟩
            have h40p := of_decide_eq_true h40
            refine wp_skip ?_
            refine n_then ?_
            refine c_seq ?_
            refine wp_block ?_
            refine c_reg ?_
            obtain ⟨e66, he67⟩ := get_of_lt (l := y_Neighs) (i := k10) (by omega)
            refine elF (c := cNeigh) (e := e66) hs m (x := (.tmp 110)) (ix := (.tmp 112)) rfl rfl sl26 ty54 hy_Neighs (by omega) he67 fun p68 hp69 ok70 => ?_
            refine r_ok hs m (ok70 _ _ _ _ _) rfl ?_
            clear hs a; intro a hs
            refine r_ok hs m (ok_load_ag (vs := cNeigh e66) rfl ty54 (fr_at hp69) rfl rfl) rfl ?_
            clear hs a; intro a hs
            refine r_alloc hs m ze54 rfl ?_
            clear m hs a w39; intro p71 w72 m a hs
            refine r_store (cs' := cNeigh e66) (vs := cNeigh e66) hs m rfl rfl ty54 s0 rfl rfl rfl rfl rfl ?_
            clear m w72; intro w73 m
            refine wpList_nil (n_then ?_)
            refine c_reg ?_
            refine r_ok hs m (ok_fieldAddr (r := 1) rfl fd29_1 ty26 rfl) rfl ?_
            clear hs a; intro a hs
            refine r_ok hs m (ok_load_sc rfl ty26 (bx_at r1) rfl) rfl ?_
            clear hs a; intro a hs
            refine r_ok hs m (ok_load_ag (vs := cNeigh e66) rfl ty54 (bx_at r0) rfl rfl) rfl ?_
            clear hs a; intro a hs
            refine r_callP hs m rfl rfl ca58 rfl (lacksNeigh_c vx_Neighs x_Neighs e66 _ (m.rd hx_Neighs) ) rfl ?_
            clear m hs a w73; intro w74 m a hs
            refine wpList_nil (n_then ?_)
            refine c_cond hs rfl (fun h75 => ?_) (fun h75 => ?_)
            · refine c_last ?_
              refine r_ok hs m (ok_move rfl) rfl ?_
              clear hs a; intro a hs
              refine r_ok hs m (ok_load_ag (vs := cNeigh e66) rfl ty54 (bx_at r0) rfl rfl) rfl ?_
              clear hs a; intro a hs
              refine r_ok hs m (ok_build (cs := cOp (⟨⟨3, rfl⟩, (⟨(⟨⟨0, rfl⟩, ⟨0, rfl⟩⟩ : TPrefix), ⟨0, rfl⟩, false⟩ : TRoute), e66, (⟨(⟨⟨0, rfl⟩, ⟨0, rfl⟩, ⟨0, rfl⟩, ⟨0, rfl⟩, ⟨0, rfl⟩, ⟨0, rfl⟩⟩ : TMAC), ⟨0, rfl⟩⟩ : TFdb)⟩ : TOp)) st58 ze58 rfl rfl) rfl ?_
              clear hs a; intro a hs
              refine r_buildM (c := cOp) (ys := [(⟨⟨3, rfl⟩, (⟨(⟨⟨0, rfl⟩, ⟨0, rfl⟩⟩ : TPrefix), ⟨0, rfl⟩, false⟩ : TRoute), e66, (⟨(⟨⟨0, rfl⟩, ⟨0, rfl⟩, ⟨0, rfl⟩, ⟨0, rfl⟩, ⟨0, rfl⟩, ⟨0, rfl⟩⟩ : TMAC), ⟨0, rfl⟩⟩ : TFdb)⟩ : TOp)]) hs m sl35 ty58 ze58 rfl rfl rfl rfl rfl (fun _ => rfl) rfl rfl rfl ?_
              clear m hs a w74; intro v76 w77 m a hs
              refine r_appendM (c := cOp) (xs := (((((([] : List TOp) ++ pickM (fun e => (e.Local == true) && !staysM x_Neighs x_Fdbs y_Routes y_Neighs y_Fdbs e) delR x_Routes) ++ pickM (fun e => (e.Local == false) && !staysM x_Neighs x_Fdbs y_Routes y_Neighs y_Fdbs e) delR x_Routes) ++ pickM (fun e => lacksM cmpNeigh zNeigh y_Neighs e) delN x_Neighs) ++ pickM (fun e => lacksM cmpFdb zFdb y_Fdbs e) delF x_Fdbs) ++ pickM (fun e => lacksM cmpFdb zFdb x_Fdbs e) putF y_Fdbs) ++ pickM (fun e => lacksM cmpNeigh zNeigh x_Neighs e) putNe (y_Neighs.take k10)) (ys := [(⟨⟨3, rfl⟩, (⟨(⟨⟨0, rfl⟩, ⟨0, rfl⟩⟩ : TPrefix), ⟨0, rfl⟩, false⟩ : TRoute), e66, (⟨(⟨⟨0, rfl⟩, ⟨0, rfl⟩, ⟨0, rfl⟩, ⟨0, rfl⟩, ⟨0, rfl⟩, ⟨0, rfl⟩⟩ : TMAC), ⟨0, rfl⟩⟩ : TFdb)⟩ : TOp)]) hs m rfl rfl sl35 ni35 ty58 ze58 rfl by58 rfl r4 (m.rdv r0) (fun _ => rfl) (by first | omega | (simp only [List.length_cons, List.length_nil]; omega)) rfl ?_
              clear m hs a w77; intro v78 w79 m a hs
              refine r_ok hs m (ok_assign rfl) rfl ?_
              clear hs a; intro a hs
              refine wpList_nil (n_block (n_then ?_))
              refine c_last ?_
              refine r_ok hs m (ok_add (r := (k10 : Int) + 1) rfl rfl (wrap_i64 (by omega) (by omega))) rfl ?_
              clear hs a; intro a hs
              refine r_ok hs m (ok_move rfl) rfl ?_
              clear hs a; intro a hs
              refine wpList_nil (n_then ?_)
              have q80 : (((((([] : List TOp) ++ pickM (fun e => (e.Local == true) && !staysM x_Neighs x_Fdbs y_Routes y_Neighs y_Fdbs e) delR x_Routes) ++ pickM (fun e => (e.Local == false) && !staysM x_Neighs x_Fdbs y_Routes y_Neighs y_Fdbs e) delR x_Routes) ++ pickM (fun e => lacksM cmpNeigh zNeigh y_Neighs e) delN x_Neighs) ++ pickM (fun e => lacksM cmpFdb zFdb y_Fdbs e) delF x_Fdbs) ++ pickM (fun e => lacksM cmpFdb zFdb x_Fdbs e) putF y_Fdbs) ++ pickM (fun e => lacksM cmpNeigh zNeigh x_Neighs e) putNe (y_Neighs.take k10) ++ [(⟨⟨3, rfl⟩, (⟨(⟨⟨0, rfl⟩, ⟨0, rfl⟩⟩ : TPrefix), ⟨0, rfl⟩, false⟩ : TRoute), e66, (⟨(⟨⟨0, rfl⟩, ⟨0, rfl⟩, ⟨0, rfl⟩, ⟨0, rfl⟩, ⟨0, rfl⟩, ⟨0, rfl⟩⟩ : TMAC), ⟨0, rfl⟩⟩ : TFdb)⟩ : TOp)] = (((((([] : List TOp) ++ pickM (fun e => (e.Local == true) && !staysM x_Neighs x_Fdbs y_Routes y_Neighs y_Fdbs e) delR x_Routes) ++ pickM (fun e => (e.Local == false) && !staysM x_Neighs x_Fdbs y_Routes y_Neighs y_Fdbs e) delR x_Routes) ++ pickM (fun e => lacksM cmpNeigh zNeigh y_Neighs e) delN x_Neighs) ++ pickM (fun e => lacksM cmpFdb zFdb y_Fdbs e) delF x_Fdbs) ++ pickM (fun e => lacksM cmpFdb zFdb x_Fdbs e) putF y_Fdbs) ++ pickM (fun e => lacksM cmpNeigh zNeigh x_Neighs e) putNe (y_Neighs.take (k10 + 1)) := by first | exact pickM_0.symm | exact pickM_0 | exact pickM_t (by assumption) (by assumption) | exact pickM_f (by assumption) (by assumption)
              rw [q80] at m
              exact ⟨y_Neighs.length - (k10 + 1), by omega, k10 + 1, v78, by omega, by exact Nat.le_trans pickM_add (by omega), rfl, hs.to ⟨rfl, rfl, rfl, rfl, rfl, rfl, trivial⟩, m.sub (.c r3 (.c r3 (.c r0 .n)))⟩
            refine wp_skip ?_
            refine n_block (n_then ?_)
            refine c_last ?_
            refine r_ok hs m (ok_add (r := (k10 : Int) + 1) rfl rfl (wrap_i64 (by omega) (by omega))) rfl ?_
            clear hs a; intro a hs
            refine r_ok hs m (ok_move rfl) rfl ?_
            clear hs a; intro a hs
            refine wpList_nil (n_then ?_)
            have q81 : (((((([] : List TOp) ++ pickM (fun e => (e.Local == true) && !staysM x_Neighs x_Fdbs y_Routes y_Neighs y_Fdbs e) delR x_Routes) ++ pickM (fun e => (e.Local == false) && !staysM x_Neighs x_Fdbs y_Routes y_Neighs y_Fdbs e) delR x_Routes) ++ pickM (fun e => lacksM cmpNeigh zNeigh y_Neighs e) delN x_Neighs) ++ pickM (fun e => lacksM cmpFdb zFdb y_Fdbs e) delF x_Fdbs) ++ pickM (fun e => lacksM cmpFdb zFdb x_Fdbs e) putF y_Fdbs) ++ pickM (fun e => lacksM cmpNeigh zNeigh x_Neighs e) putNe (y_Neighs.take k10) = (((((([] : List TOp) ++ pickM (fun e => (e.Local == true) && !staysM x_Neighs x_Fdbs y_Routes y_Neighs y_Fdbs e) delR x_Routes) ++ pickM (fun e => (e.Local == false) && !staysM x_Neighs x_Fdbs y_Routes y_Neighs y_Fdbs e) delR x_Routes) ++ pickM (fun e => lacksM cmpNeigh zNeigh y_Neighs e) delN x_Neighs) ++ pickM (fun e => lacksM cmpFdb zFdb y_Fdbs e) delF x_Fdbs) ++ pickM (fun e => lacksM cmpFdb zFdb x_Fdbs e) putF y_Fdbs) ++ pickM (fun e => lacksM cmpNeigh zNeigh x_Neighs e) putNe (y_Neighs.take (k10 + 1)) := by first | exact pickM_0.symm | exact pickM_0 | exact pickM_t (by assumption) (by assumption) | exact pickM_f (by assumption) (by assumption)
            rw [q81] at m
            exact ⟨y_Neighs.length - (k10 + 1), by omega, k10 + 1, v37, by omega, by exact Nat.le_trans pickM_add (by omega), rfl, hs.to ⟨rfl, rfl, rfl, rfl, rfl, rfl, trivial⟩, m.sub (.c r1 (.c r1 (.c r1 .n)))⟩
          have h36p := of_decide_eq_true h36
          refine wp_skip ?_
          refine n_then ?_
          refine c_seq ?_
          refine wp_block ?_
          refine c_reg ?_
          obtain ⟨e82, he83⟩ := get_of_lt (l := y_Fdbs) (i := k8) (by omega)
          refine elF (c := cFdb) (e := e82) hs m (x := (.tmp 93)) (ix := (.tmp 95)) rfl rfl sl27 ty56 hy_Fdbs (by omega) he83 fun p84 hp85 ok86 => ?_
          refine r_ok hs m (ok86 _ _ _ _ _) rfl ?_
          clear hs a; intro a hs
          refine r_ok hs m (ok_load_ag (vs := cFdb e82) rfl ty56 (fr_at hp85) rfl rfl) rfl ?_
          clear hs a; intro a hs
          refine r_alloc hs m ze56 rfl ?_
          clear m hs a w35; intro p87 w88 m a hs
          refine r_store (cs' := cFdb e82) (vs := cFdb e82) hs m rfl rfl ty56 s0 rfl rfl rfl rfl rfl ?_
          clear m w88; intro w89 m
          refine wpList_nil (n_then ?_)
          refine c_reg ?_
          refine r_ok hs m (ok_fieldAddr (r := 2) rfl fd29_2 ty27 rfl) rfl ?_
          clear hs a; intro a hs
          refine r_ok hs m (ok_load_sc rfl ty27 (bx_at r1) rfl) rfl ?_
          clear hs a; intro a hs
          refine r_ok hs m (ok_load_ag (vs := cFdb e82) rfl ty56 (bx_at r0) rfl rfl) rfl ?_
          clear hs a; intro a hs
          refine r_callP hs m rfl rfl ca59 rfl (lacksFdb_c vx_Fdbs x_Fdbs e82 _ (m.rd hx_Fdbs) ) rfl ?_
          clear m hs a w89; intro w90 m a hs
          refine wpList_nil (n_then ?_)
          refine c_cond hs rfl (fun h91 => ?_) (fun h91 => ?_)
          · refine c_last ?_
            refine r_ok hs m (ok_move rfl) rfl ?_
            clear hs a; intro a hs
            refine r_ok hs m (ok_load_ag (vs := cFdb e82) rfl ty56 (bx_at r0) rfl rfl) rfl ?_
            clear hs a; intro a hs
            refine r_ok hs m (ok_build (cs := cOp (⟨⟨5, rfl⟩, (⟨(⟨⟨0, rfl⟩, ⟨0, rfl⟩⟩ : TPrefix), ⟨0, rfl⟩, false⟩ : TRoute), (⟨⟨0, rfl⟩, (⟨⟨0, rfl⟩, ⟨0, rfl⟩, ⟨0, rfl⟩, ⟨0, rfl⟩, ⟨0, rfl⟩, ⟨0, rfl⟩⟩ : TMAC)⟩ : TNeigh), e82⟩ : TOp)) st58 ze58 rfl rfl) rfl ?_
            clear hs a; intro a hs
            refine r_buildM (c := cOp) (ys := [(⟨⟨5, rfl⟩, (⟨(⟨⟨0, rfl⟩, ⟨0, rfl⟩⟩ : TPrefix), ⟨0, rfl⟩, false⟩ : TRoute), (⟨⟨0, rfl⟩, (⟨⟨0, rfl⟩, ⟨0, rfl⟩, ⟨0, rfl⟩, ⟨0, rfl⟩, ⟨0, rfl⟩, ⟨0, rfl⟩⟩ : TMAC)⟩ : TNeigh), e82⟩ : TOp)]) hs m sl35 ty58 ze58 rfl rfl rfl rfl rfl (fun _ => rfl) rfl rfl rfl ?_
            clear m hs a w90; intro v92 w93 m a hs
            refine r_appendM (c := cOp) (xs := ((((([] : List TOp) ++ pickM (fun e => (e.Local == true) && !staysM x_Neighs x_Fdbs y_Routes y_Neighs y_Fdbs e) delR x_Routes) ++ pickM (fun e => (e.Local == false) && !staysM x_Neighs x_Fdbs y_Routes y_Neighs y_Fdbs e) delR x_Routes) ++ pickM (fun e => lacksM cmpNeigh zNeigh y_Neighs e) delN x_Neighs) ++ pickM (fun e => lacksM cmpFdb zFdb y_Fdbs e) delF x_Fdbs) ++ pickM (fun e => lacksM cmpFdb zFdb x_Fdbs e) putF (y_Fdbs.take k8)) (ys := [(⟨⟨5, rfl⟩, (⟨(⟨⟨0, rfl⟩, ⟨0, rfl⟩⟩ : TPrefix), ⟨0, rfl⟩, false⟩ : TRoute), (⟨⟨0, rfl⟩, (⟨⟨0, rfl⟩, ⟨0, rfl⟩, ⟨0, rfl⟩, ⟨0, rfl⟩, ⟨0, rfl⟩, ⟨0, rfl⟩⟩ : TMAC)⟩ : TNeigh), e82⟩ : TOp)]) hs m rfl rfl sl35 ni35 ty58 ze58 rfl by58 rfl r4 (m.rdv r0) (fun _ => rfl) (by first | omega | (simp only [List.length_cons, List.length_nil]; omega)) rfl ?_
            clear m hs a w93; intro v94 w95 m a hs
            refine r_ok hs m (ok_assign rfl) rfl ?_
            clear hs a; intro a hs
            refine wpList_nil (n_block (n_then ?_))
            refine c_last ?_
            refine r_ok hs m (ok_add (r := (k8 : Int) + 1) rfl rfl (wrap_i64 (by omega) (by omega))) rfl ?_
            clear hs a; intro a hs
            refine r_ok hs m (ok_move rfl) rfl ?_
            clear hs a; intro a hs
            refine wpList_nil (n_then ?_)
            have q96 : ((((([] : List TOp) ++ pickM (fun e => (e.Local == true) && !staysM x_Neighs x_Fdbs y_Routes y_Neighs y_Fdbs e) delR x_Routes) ++ pickM (fun e => (e.Local == false) && !staysM x_Neighs x_Fdbs y_Routes y_Neighs y_Fdbs e) delR x_Routes) ++ pickM (fun e => lacksM cmpNeigh zNeigh y_Neighs e) delN x_Neighs) ++ pickM (fun e => lacksM cmpFdb zFdb y_Fdbs e) delF x_Fdbs) ++ pickM (fun e => lacksM cmpFdb zFdb x_Fdbs e) putF (y_Fdbs.take k8) ++ [(⟨⟨5, rfl⟩, (⟨(⟨⟨0, rfl⟩, ⟨0, rfl⟩⟩ : TPrefix), ⟨0, rfl⟩, false⟩ : TRoute), (⟨⟨0, rfl⟩, (⟨⟨0, rfl⟩, ⟨0, rfl⟩, ⟨0, rfl⟩, ⟨0, rfl⟩, ⟨0, rfl⟩, ⟨0, rfl⟩⟩ : TMAC)⟩ : TNeigh), e82⟩ : TOp)] = ((((([] : List TOp) ++ pickM (fun e => (e.Local == true) && !staysM x_Neighs x_Fdbs y_Routes y_Neighs y_Fdbs e) delR x_Routes) ++ pickM (fun e => (e.Local == false) && !staysM x_Neighs x_Fdbs y_Routes y_Neighs y_Fdbs e) delR x_Routes) ++ pickM (fun e => lacksM cmpNeigh zNeigh y_Neighs e) delN x_Neighs) ++ pickM (fun e => lacksM cmpFdb zFdb y_Fdbs e) delF x_Fdbs) ++ pickM (fun e => lacksM cmpFdb zFdb x_Fdbs e) putF (y_Fdbs.take (k8 + 1)) := by first | exact pickM_0.symm | exact pickM_0 | exact pickM_t (by assumption) (by assumption) | exact pickM_f (by assumption) (by assumption)
            rw [q96] at m
            exact ⟨y_Fdbs.length - (k8 + 1), by omega, k8 + 1, v94, by omega, by exact Nat.le_trans pickM_add (by omega), rfl, hs.to ⟨rfl, rfl, rfl, rfl, rfl, rfl, trivial⟩, m.sub (.c r3 (.c r3 (.c r0 .n)))⟩
          refine wp_skip ?_
          refine n_block (n_then ?_)
          refine c_last ?_
          refine r_ok hs m (ok_add (r := (k8 : Int) + 1) rfl rfl (wrap_i64 (by omega) (by omega))) rfl ?_
          clear hs a; intro a hs
          refine r_ok hs m (ok_move rfl) rfl ?_
          clear hs a; intro a hs
          refine wpList_nil (n_then ?_)
          have q97 : ((((([] : List TOp) ++ pickM (fun e => (e.Local == true) && !staysM x_Neighs x_Fdbs y_Routes y_Neighs y_Fdbs e) delR x_Routes) ++ pickM (fun e => (e.Local == false) && !staysM x_Neighs x_Fdbs y_Routes y_Neighs y_Fdbs e) delR x_Routes) ++ pickM (fun e => lacksM cmpNeigh zNeigh y_Neighs e) delN x_Neighs) ++ pickM (fun e => lacksM cmpFdb zFdb y_Fdbs e) delF x_Fdbs) ++ pickM (fun e => lacksM cmpFdb zFdb x_Fdbs e) putF (y_Fdbs.take k8) = ((((([] : List TOp) ++ pickM (fun e => (e.Local == true) && !staysM x_Neighs x_Fdbs y_Routes y_Neighs y_Fdbs e) delR x_Routes) ++ pickM (fun e => (e.Local == false) && !staysM x_Neighs x_Fdbs y_Routes y_Neighs y_Fdbs e) delR x_Routes) ++ pickM (fun e => lacksM cmpNeigh zNeigh y_Neighs e) delN x_Neighs) ++ pickM (fun e => lacksM cmpFdb zFdb y_Fdbs e) delF x_Fdbs) ++ pickM (fun e => lacksM cmpFdb zFdb x_Fdbs e) putF (y_Fdbs.take (k8 + 1)) := by first | exact pickM_0.symm | exact pickM_0 | exact pickM_t (by assumption) (by assumption) | exact pickM_f (by assumption) (by assumption)
          rw [q97] at m
          exact ⟨y_Fdbs.length - (k8 + 1), by omega, k8 + 1, v33, by omega, by exact Nat.le_trans pickM_add (by omega), rfl, hs.to ⟨rfl, rfl, rfl, rfl, rfl, rfl, trivial⟩, m.sub (.c r1 (.c r1 (.c r1 .n)))⟩
        have h32p := of_decide_eq_true h32
        refine wp_skip ?_
        refine n_then ?_
        refine c_seq ?_
        refine wp_block ?_
        refine c_reg ?_
        obtain ⟨e98, he99⟩ := get_of_lt (l := x_Fdbs) (i := k6) (by omega)
        refine elF (c := cFdb) (e := e98) hs m (x := (.tmp 76)) (ix := (.tmp 78)) rfl rfl sl27 ty56 hx_Fdbs (by omega) he99 fun p100 hp101 ok102 => ?_
        refine r_ok hs m (ok102 _ _ _ _ _) rfl ?_
        clear hs a; intro a hs
        refine r_ok hs m (ok_load_ag (vs := cFdb e98) rfl ty56 (fr_at hp101) rfl rfl) rfl ?_
        clear hs a; intro a hs
        refine r_alloc hs m ze56 rfl ?_
        clear m hs a w31; intro p103 w104 m a hs
        refine r_store (cs' := cFdb e98) (vs := cFdb e98) hs m rfl rfl ty56 s0 rfl rfl rfl rfl rfl ?_
        clear m w104; intro w105 m
        refine wpList_nil (n_then ?_)
        refine c_reg ?_
        refine r_ok hs m (ok_fieldAddr (r := 2) rfl fd29_2 ty27 rfl) rfl ?_
        clear hs a; intro a hs
        refine r_ok hs m (ok_load_sc rfl ty27 (bx_at r2) rfl) rfl ?_
        clear hs a; intro a hs
        refine r_ok hs m (ok_load_ag (vs := cFdb e98) rfl ty56 (bx_at r0) rfl rfl) rfl ?_
        clear hs a; intro a hs
        refine r_callP hs m rfl rfl ca59 rfl (lacksFdb_c vy_Fdbs y_Fdbs e98 _ (m.rd hy_Fdbs) ) rfl ?_
        clear m hs a w105; intro w106 m a hs
        refine wpList_nil (n_then ?_)
        refine c_cond hs rfl (fun h107 => ?_) (fun h107 => ?_)
        · refine c_last ?_
          refine r_ok hs m (ok_move rfl) rfl ?_
          clear hs a; intro a hs
          refine r_ok hs m (ok_load_ag (vs := cFdb e98) rfl ty56 (bx_at r0) rfl rfl) rfl ?_
          clear hs a; intro a hs
          refine r_ok hs m (ok_build (cs := cOp (⟨⟨6, rfl⟩, (⟨(⟨⟨0, rfl⟩, ⟨0, rfl⟩⟩ : TPrefix), ⟨0, rfl⟩, false⟩ : TRoute), (⟨⟨0, rfl⟩, (⟨⟨0, rfl⟩, ⟨0, rfl⟩, ⟨0, rfl⟩, ⟨0, rfl⟩, ⟨0, rfl⟩, ⟨0, rfl⟩⟩ : TMAC)⟩ : TNeigh), e98⟩ : TOp)) st58 ze58 rfl rfl) rfl ?_
          clear hs a; intro a hs
          refine r_buildM (c := cOp) (ys := [(⟨⟨6, rfl⟩, (⟨(⟨⟨0, rfl⟩, ⟨0, rfl⟩⟩ : TPrefix), ⟨0, rfl⟩, false⟩ : TRoute), (⟨⟨0, rfl⟩, (⟨⟨0, rfl⟩, ⟨0, rfl⟩, ⟨0, rfl⟩, ⟨0, rfl⟩, ⟨0, rfl⟩, ⟨0, rfl⟩⟩ : TMAC)⟩ : TNeigh), e98⟩ : TOp)]) hs m sl35 ty58 ze58 rfl rfl rfl rfl rfl (fun _ => rfl) rfl rfl rfl ?_
          clear m hs a w106; intro v108 w109 m a hs
          refine r_appendM (c := cOp) (xs := (((([] : List TOp) ++ pickM (fun e => (e.Local == true) && !staysM x_Neighs x_Fdbs y_Routes y_Neighs y_Fdbs e) delR x_Routes) ++ pickM (fun e => (e.Local == false) && !staysM x_Neighs x_Fdbs y_Routes y_Neighs y_Fdbs e) delR x_Routes) ++ pickM (fun e => lacksM cmpNeigh zNeigh y_Neighs e) delN x_Neighs) ++ pickM (fun e => lacksM cmpFdb zFdb y_Fdbs e) delF (x_Fdbs.take k6)) (ys := [(⟨⟨6, rfl⟩, (⟨(⟨⟨0, rfl⟩, ⟨0, rfl⟩⟩ : TPrefix), ⟨0, rfl⟩, false⟩ : TRoute), (⟨⟨0, rfl⟩, (⟨⟨0, rfl⟩, ⟨0, rfl⟩, ⟨0, rfl⟩, ⟨0, rfl⟩, ⟨0, rfl⟩, ⟨0, rfl⟩⟩ : TMAC)⟩ : TNeigh), e98⟩ : TOp)]) hs m rfl rfl sl35 ni35 ty58 ze58 rfl by58 rfl r4 (m.rdv r0) (fun _ => rfl) (by first | omega | (simp only [List.length_cons, List.length_nil]; omega)) rfl ?_
          clear m hs a w109; intro v110 w111 m a hs
          refine r_ok hs m (ok_assign rfl) rfl ?_
          clear hs a; intro a hs
          refine wpList_nil (n_block (n_then ?_))
          refine c_last ?_
          refine r_ok hs m (ok_add (r := (k6 : Int) + 1) rfl rfl (wrap_i64 (by omega) (by omega))) rfl ?_
          clear hs a; intro a hs
          refine r_ok hs m (ok_move rfl) rfl ?_
          clear hs a; intro a hs
          refine wpList_nil (n_then ?_)
          have q112 : (((([] : List TOp) ++ pickM (fun e => (e.Local == true) && !staysM x_Neighs x_Fdbs y_Routes y_Neighs y_Fdbs e) delR x_Routes) ++ pickM (fun e => (e.Local == false) && !staysM x_Neighs x_Fdbs y_Routes y_Neighs y_Fdbs e) delR x_Routes) ++ pickM (fun e => lacksM cmpNeigh zNeigh y_Neighs e) delN x_Neighs) ++ pickM (fun e => lacksM cmpFdb zFdb y_Fdbs e) delF (x_Fdbs.take k6) ++ [(⟨⟨6, rfl⟩, (⟨(⟨⟨0, rfl⟩, ⟨0, rfl⟩⟩ : TPrefix), ⟨0, rfl⟩, false⟩ : TRoute), (⟨⟨0, rfl⟩, (⟨⟨0, rfl⟩, ⟨0, rfl⟩, ⟨0, rfl⟩, ⟨0, rfl⟩, ⟨0, rfl⟩, ⟨0, rfl⟩⟩ : TMAC)⟩ : TNeigh), e98⟩ : TOp)] = (((([] : List TOp) ++ pickM (fun e => (e.Local == true) && !staysM x_Neighs x_Fdbs y_Routes y_Neighs y_Fdbs e) delR x_Routes) ++ pickM (fun e => (e.Local == false) && !staysM x_Neighs x_Fdbs y_Routes y_Neighs y_Fdbs e) delR x_Routes) ++ pickM (fun e => lacksM cmpNeigh zNeigh y_Neighs e) delN x_Neighs) ++ pickM (fun e => lacksM cmpFdb zFdb y_Fdbs e) delF (x_Fdbs.take (k6 + 1)) := by first | exact pickM_0.symm | exact pickM_0 | exact pickM_t (by assumption) (by assumption) | exact pickM_f (by assumption) (by assumption)
          rw [q112] at m
          exact ⟨x_Fdbs.length - (k6 + 1), by omega, k6 + 1, v110, by omega, by exact Nat.le_trans pickM_add (by omega), rfl, hs.to ⟨rfl, rfl, rfl, rfl, rfl, rfl, trivial⟩, m.sub (.c r3 (.c r3 (.c r0 .n)))⟩
        refine wp_skip ?_
        refine n_block (n_then ?_)
        refine c_last ?_
        refine r_ok hs m (ok_add (r := (k6 : Int) + 1) rfl rfl (wrap_i64 (by omega) (by omega))) rfl ?_
        clear hs a; intro a hs
        refine r_ok hs m (ok_move rfl) rfl ?_
        clear hs a; intro a hs
        refine wpList_nil (n_then ?_)
        have q113 : (((([] : List TOp) ++ pickM (fun e => (e.Local == true) && !staysM x_Neighs x_Fdbs y_Routes y_Neighs y_Fdbs e) delR x_Routes) ++ pickM (fun e => (e.Local == false) && !staysM x_Neighs x_Fdbs y_Routes y_Neighs y_Fdbs e) delR x_Routes) ++ pickM (fun e => lacksM cmpNeigh zNeigh y_Neighs e) delN x_Neighs) ++ pickM (fun e => lacksM cmpFdb zFdb y_Fdbs e) delF (x_Fdbs.take k6) = (((([] : List TOp) ++ pickM (fun e => (e.Local == true) && !staysM x_Neighs x_Fdbs y_Routes y_Neighs y_Fdbs e) delR x_Routes) ++ pickM (fun e => (e.Local == false) && !staysM x_Neighs x_Fdbs y_Routes y_Neighs y_Fdbs e) delR x_Routes) ++ pickM (fun e => lacksM cmpNeigh zNeigh y_Neighs e) delN x_Neighs) ++ pickM (fun e => lacksM cmpFdb zFdb y_Fdbs e) delF (x_Fdbs.take (k6 + 1)) := by first | exact pickM_0.symm | exact pickM_0 | exact pickM_t (by assumption) (by assumption) | exact pickM_f (by assumption) (by assumption)
        rw [q113] at m
        exact ⟨x_Fdbs.length - (k6 + 1), by omega, k6 + 1, v29, by omega, by exact Nat.le_trans pickM_add (by omega), rfl, hs.to ⟨rfl, rfl, rfl, rfl, rfl, rfl, trivial⟩, m.sub (.c r1 (.c r1 (.c r1 .n)))⟩
      have h28p := of_decide_eq_true h28
      refine wp_skip ?_
      refine n_then ?_
      refine c_seq ?_
      refine wp_block ?_
      refine c_reg ?_
      obtain ⟨e114, he115⟩ := get_of_lt (l := x_Neighs) (i := k4) (by omega)
      refine elF (c := cNeigh) (e := e114) hs m (x := (.tmp 59)) (ix := (.tmp 61)) rfl rfl sl26 ty54 hx_Neighs (by omega) he115 fun p116 hp117 ok118 => ?_
      refine r_ok hs m (ok118 _ _ _ _ _) rfl ?_
      clear hs a; intro a hs
      refine r_ok hs m (ok_load_ag (vs := cNeigh e114) rfl ty54 (fr_at hp117) rfl rfl) rfl ?_
      clear hs a; intro a hs
      refine r_alloc hs m ze54 rfl ?_
      clear m hs a w27; intro p119 w120 m a hs
      refine r_store (cs' := cNeigh e114) (vs := cNeigh e114) hs m rfl rfl ty54 s0 rfl rfl rfl rfl rfl ?_
      clear m w120; intro w121 m
      refine wpList_nil (n_then ?_)
      refine c_reg ?_
      refine r_ok hs m (ok_fieldAddr (r := 1) rfl fd29_1 ty26 rfl) rfl ?_
      clear hs a; intro a hs
      refine r_ok hs m (ok_load_sc rfl ty26 (bx_at r2) rfl) rfl ?_
      clear hs a; intro a hs
      refine r_ok hs m (ok_load_ag (vs := cNeigh e114) rfl ty54 (bx_at r0) rfl rfl) rfl ?_
      clear hs a; intro a hs
      refine r_callP hs m rfl rfl ca58 rfl (lacksNeigh_c vy_Neighs y_Neighs e114 _ (m.rd hy_Neighs) ) rfl ?_
      clear m hs a w121; intro w122 m a hs
      refine wpList_nil (n_then ?_)
      refine c_cond hs rfl (fun h123 => ?_) (fun h123 => ?_)
      · refine c_last ?_
        refine r_ok hs m (ok_move rfl) rfl ?_
        clear hs a; intro a hs
        refine r_ok hs m (ok_load_ag (vs := cNeigh e114) rfl ty54 (bx_at r0) rfl rfl) rfl ?_
        clear hs a; intro a hs
        refine r_ok hs m (ok_build (cs := cOp (⟨⟨4, rfl⟩, (⟨(⟨⟨0, rfl⟩, ⟨0, rfl⟩⟩ : TPrefix), ⟨0, rfl⟩, false⟩ : TRoute), e114, (⟨(⟨⟨0, rfl⟩, ⟨0, rfl⟩, ⟨0, rfl⟩, ⟨0, rfl⟩, ⟨0, rfl⟩, ⟨0, rfl⟩⟩ : TMAC), ⟨0, rfl⟩⟩ : TFdb)⟩ : TOp)) st58 ze58 rfl rfl) rfl ?_
        clear hs a; intro a hs
        refine r_buildM (c := cOp) (ys := [(⟨⟨4, rfl⟩, (⟨(⟨⟨0, rfl⟩, ⟨0, rfl⟩⟩ : TPrefix), ⟨0, rfl⟩, false⟩ : TRoute), e114, (⟨(⟨⟨0, rfl⟩, ⟨0, rfl⟩, ⟨0, rfl⟩, ⟨0, rfl⟩, ⟨0, rfl⟩, ⟨0, rfl⟩⟩ : TMAC), ⟨0, rfl⟩⟩ : TFdb)⟩ : TOp)]) hs m sl35 ty58 ze58 rfl rfl rfl rfl rfl (fun _ => rfl) rfl rfl rfl ?_
        clear m hs a w122; intro v124 w125 m a hs
        refine r_appendM (c := cOp) (xs := ((([] : List TOp) ++ pickM (fun e => (e.Local == true) && !staysM x_Neighs x_Fdbs y_Routes y_Neighs y_Fdbs e) delR x_Routes) ++ pickM (fun e => (e.Local == false) && !staysM x_Neighs x_Fdbs y_Routes y_Neighs y_Fdbs e) delR x_Routes) ++ pickM (fun e => lacksM cmpNeigh zNeigh y_Neighs e) delN (x_Neighs.take k4)) (ys := [(⟨⟨4, rfl⟩, (⟨(⟨⟨0, rfl⟩, ⟨0, rfl⟩⟩ : TPrefix), ⟨0, rfl⟩, false⟩ : TRoute), e114, (⟨(⟨⟨0, rfl⟩, ⟨0, rfl⟩, ⟨0, rfl⟩, ⟨0, rfl⟩, ⟨0, rfl⟩, ⟨0, rfl⟩⟩ : TMAC), ⟨0, rfl⟩⟩ : TFdb)⟩ : TOp)]) hs m rfl rfl sl35 ni35 ty58 ze58 rfl by58 rfl r4 (m.rdv r0) (fun _ => rfl) (by first | omega | (simp only [List.length_cons, List.length_nil]; omega)) rfl ?_
        clear m hs a w125; intro v126 w127 m a hs
        refine r_ok hs m (ok_assign rfl) rfl ?_
        clear hs a; intro a hs
        refine wpList_nil (n_block (n_then ?_))
        refine c_last ?_
        refine r_ok hs m (ok_add (r := (k4 : Int) + 1) rfl rfl (wrap_i64 (by omega) (by omega))) rfl ?_
        clear hs a; intro a hs
        refine r_ok hs m (ok_move rfl) rfl ?_
        clear hs a; intro a hs
        refine wpList_nil (n_then ?_)
        have q128 : ((([] : List TOp) ++ pickM (fun e => (e.Local == true) && !staysM x_Neighs x_Fdbs y_Routes y_Neighs y_Fdbs e) delR x_Routes) ++ pickM (fun e => (e.Local == false) && !staysM x_Neighs x_Fdbs y_Routes y_Neighs y_Fdbs e) delR x_Routes) ++ pickM (fun e => lacksM cmpNeigh zNeigh y_Neighs e) delN (x_Neighs.take k4) ++ [(⟨⟨4, rfl⟩, (⟨(⟨⟨0, rfl⟩, ⟨0, rfl⟩⟩ : TPrefix), ⟨0, rfl⟩, false⟩ : TRoute), e114, (⟨(⟨⟨0, rfl⟩, ⟨0, rfl⟩, ⟨0, rfl⟩, ⟨0, rfl⟩, ⟨0, rfl⟩, ⟨0, rfl⟩⟩ : TMAC), ⟨0, rfl⟩⟩ : TFdb)⟩ : TOp)] = ((([] : List TOp) ++ pickM (fun e => (e.Local == true) && !staysM x_Neighs x_Fdbs y_Routes y_Neighs y_Fdbs e) delR x_Routes) ++ pickM (fun e => (e.Local == false) && !staysM x_Neighs x_Fdbs y_Routes y_Neighs y_Fdbs e) delR x_Routes) ++ pickM (fun e => lacksM cmpNeigh zNeigh y_Neighs e) delN (x_Neighs.take (k4 + 1)) := by first | exact pickM_0.symm | exact pickM_0 | exact pickM_t (by assumption) (by assumption) | exact pickM_f (by assumption) (by assumption)
        rw [q128] at m
        exact ⟨x_Neighs.length - (k4 + 1), by omega, k4 + 1, v126, by omega, by exact Nat.le_trans pickM_add (by omega), rfl, hs.to ⟨rfl, rfl, rfl, rfl, rfl, rfl, trivial⟩, m.sub (.c r3 (.c r3 (.c r0 .n)))⟩
      refine wp_skip ?_
      refine n_block (n_then ?_)
      refine c_last ?_
      refine r_ok hs m (ok_add (r := (k4 : Int) + 1) rfl rfl (wrap_i64 (by omega) (by omega))) rfl ?_
      clear hs a; intro a hs
      refine r_ok hs m (ok_move rfl) rfl ?_
      clear hs a; intro a hs
      refine wpList_nil (n_then ?_)
      have q129 : ((([] : List TOp) ++ pickM (fun e => (e.Local == true) && !staysM x_Neighs x_Fdbs y_Routes y_Neighs y_Fdbs e) delR x_Routes) ++ pickM (fun e => (e.Local == false) && !staysM x_Neighs x_Fdbs y_Routes y_Neighs y_Fdbs e) delR x_Routes) ++ pickM (fun e => lacksM cmpNeigh zNeigh y_Neighs e) delN (x_Neighs.take k4) = ((([] : List TOp) ++ pickM (fun e => (e.Local == true) && !staysM x_Neighs x_Fdbs y_Routes y_Neighs y_Fdbs e) delR x_Routes) ++ pickM (fun e => (e.Local == false) && !staysM x_Neighs x_Fdbs y_Routes y_Neighs y_Fdbs e) delR x_Routes) ++ pickM (fun e => lacksM cmpNeigh zNeigh y_Neighs e) delN (x_Neighs.take (k4 + 1)) := by first | exact pickM_0.symm | exact pickM_0 | exact pickM_t (by assumption) (by assumption) | exact pickM_f (by assumption) (by assumption)
      rw [q129] at m
      exact ⟨x_Neighs.length - (k4 + 1), by omega, k4 + 1, v25, by omega, by exact Nat.le_trans pickM_add (by omega), rfl, hs.to ⟨rfl, rfl, rfl, rfl, rfl, rfl, trivial⟩, m.sub (.c r1 (.c r1 (.c r1 .n)))⟩
    have h23p := of_decide_eq_true h23
    refine wp_skip ?_
    refine n_then ?_
    refine c_seq ?_
    refine wp_block ?_
    refine c_reg ?_
    obtain ⟨e130, he131⟩ := get_of_lt (l := x_Routes) (i := k2f) (by omega)
    refine elF (c := cRoute) (e := e130) hs m (x := (.tmp 34)) (ix := (.tmp 36)) rfl rfl sl25 ty51 hx_Routes (by omega) he131 fun p132 hp133 ok134 => ?_
    refine r_ok hs m (ok134 _ _ _ _ _) rfl ?_
    clear hs a; intro a hs
    refine r_ok hs m (ok_load_ag (vs := cRoute e130) rfl ty51 (fr_at hp133) rfl rfl) rfl ?_
    clear hs a; intro a hs
    refine r_alloc hs m ze51 rfl ?_
    clear m hs a w22; intro p135 w136 m a hs
    refine r_store (cs' := cRoute e130) (vs := cRoute e130) hs m rfl rfl ty51 s0 rfl rfl rfl rfl rfl ?_
    clear m w136; intro w137 m
    refine wpList_nil (n_then ?_)
    refine c_reg ?_
    refine r_ok hs m (ok_fieldAddr (r := 3) rfl fd51_2 ty4 rfl) rfl ?_
    clear hs a; intro a hs
    refine r_ok hs m (ok_load_sc rfl ty4 (bx_at r0) rfl) rfl ?_
    clear hs a; intro a hs
    refine r_ok hs m (ok_move rfl) rfl ?_
    clear hs a; intro a hs
    refine r_ok hs m (ok_eqB rfl rfl ub4) rfl ?_
    clear hs a; intro a hs
    refine r_ok hs m (ok_move rfl) rfl ?_
    clear hs a; intro a hs
    refine l_cut (.c (.c (.c (.c (.c (.c (.n))))))) (fun a w => St 151 [(2, .pointer (some (padd p1 0))), (3, .pointer (some (padd p3 0))), (6, v20.v), (8, .bool false), (10, .pointer (some (padd p135 0))), (29, .agg ⟨[.bool true, .bool false]⟩), (30, .int .i64 1), (34, vx_Routes.v), (35, .int .i64 (x_Routes.length : Int)), (36, .int .i64 (k2f : Int)), (50, .bool ((e130.Local == false) && (!(staysM x_Neighs x_Fdbs y_Routes y_Neighs y_Fdbs e130))))] a ∧ Hp w0 (hh w0) [Bx p135 51 (cRoute e130), Bx p1 29 [vx_Routes.v, vx_Neighs.v, vx_Fdbs.v], Bx p3 29 [vy_Routes.v, vy_Neighs.v, vy_Fdbs.v], Sv 19 58 v20.v (((([] : List TOp) ++ pickM (fun e => (e.Local == true) && !staysM x_Neighs x_Fdbs y_Routes y_Neighs y_Fdbs e) delR x_Routes) ++ pickM (fun e => (e.Local == false) && !staysM x_Neighs x_Fdbs y_Routes y_Neighs y_Fdbs e) delR (x_Routes.take k2f)).map cOp)] w) ?_ ?_
    · rcases Bool.eq_false_or_eq_true (e130.Local == false) with hb138 | hb138
      · have hb138p := eq_of_beq hb138
        refine r_okg hs rfl rfl hb138 m (ok_load_ag (vs := [vx_Routes.v, vx_Neighs.v, vx_Fdbs.v]) rfl ty29 (bx_at r1) rfl rfl) rfl ?_
        clear hs a; intro a hs
        refine r_okg hs rfl rfl hb138 m (ok_load_ag (vs := [vy_Routes.v, vy_Neighs.v, vy_Fdbs.v]) rfl ty29 (bx_at r2) rfl rfl) rfl ?_
        clear hs a; intro a hs
        refine r_okg hs rfl rfl hb138 m (ok_load_ag (vs := cRoute e130) rfl ty51 (bx_at r0) rfl rfl) rfl ?_
        clear hs a; intro a hs
        refine r_callPg hs rfl rfl hb138 m rfl rfl ca57 rfl (stays_c vx_Routes x_Routes vx_Neighs x_Neighs vx_Fdbs x_Fdbs vy_Routes y_Routes vy_Neighs y_Neighs vy_Fdbs y_Fdbs e130 _ (m.rd hx_Routes) (m.rd hx_Neighs) (m.rd hx_Fdbs) (m.rd hy_Routes) (m.rd hy_Neighs) (m.rd hy_Fdbs) ) rfl ?_
        clear m hs a w137; intro w139 m a hs
        refine r_okg hs rfl rfl hb138 m (ok_not rfl) rfl ?_
        clear hs a; intro a hs
        refine r_ok hs m (ok_pick (r := .bool ((e130.Local == false) && (!(staysM x_Neighs x_Fdbs y_Routes y_Neighs y_Fdbs e130)))) rfl rfl rfl (by rw [hb138]; rfl)) rfl ?_
        clear hs a; intro a hs
        exact wpList_nil (n_then ⟨hs.to ⟨rfl, rfl, rfl, rfl, rfl, rfl, rfl, rfl, rfl, rfl, rfl, trivial⟩, m⟩)
      · have hb138p := ne_of_beq_false hb138
        refine g_out hs rfl rfl hb138 rfl ?_
        clear hs a; intro a hs
        refine g_out hs rfl rfl hb138 rfl ?_
        clear hs a; intro a hs
        refine g_out hs rfl rfl hb138 rfl ?_
        clear hs a; intro a hs
        refine g_out hs rfl rfl hb138 rfl ?_
        clear hs a; intro a hs
        refine g_out hs rfl rfl hb138 rfl ?_
        clear hs a; intro a hs
        refine r_ok hs m (ok_pick (r := .bool ((e130.Local == false) && (!(staysM x_Neighs x_Fdbs y_Routes y_Neighs y_Fdbs e130)))) rfl rfl rfl (by rw [hb138]; rfl)) rfl ?_
        clear hs a; intro a hs
        exact wpList_nil (n_then ⟨hs.to ⟨rfl, rfl, rfl, rfl, rfl, rfl, rfl, rfl, rfl, rfl, rfl, trivial⟩, m⟩)
    clear hs m a w137; rintro a w140 ⟨hs, m⟩
    refine wpList_nil (n_then ?_)
    refine c_cond hs rfl (fun h141 => ?_) (fun h141 => ?_)
    · have h141p := h141; simp only [Bool.or_eq_true, Bool.or_eq_false_iff, Bool.and_eq_true, Bool.and_eq_false_iff, Bool.not_eq_true', Bool.not_eq_false', decide_eq_true_eq, decide_eq_false_iff_not, beq_iff_eq, bne_iff_ne, beq_eq_false_iff_ne, bne_eq_false_iff_eq, ne_eq, gt_iff_lt, ge_iff_le, Int.not_lt, Int.not_le] at h141p
      refine c_last ?_
      refine r_ok hs m (ok_move rfl) rfl ?_
      clear hs a; intro a hs
      refine r_ok hs m (ok_load_ag (vs := cRoute e130) rfl ty51 (bx_at r0) rfl rfl) rfl ?_
      clear hs a; intro a hs
      refine r_ok hs m (ok_build (cs := cOp (⟨⟨2, rfl⟩, e130, (⟨⟨0, rfl⟩, (⟨⟨0, rfl⟩, ⟨0, rfl⟩, ⟨0, rfl⟩, ⟨0, rfl⟩, ⟨0, rfl⟩, ⟨0, rfl⟩⟩ : TMAC)⟩ : TNeigh), (⟨(⟨⟨0, rfl⟩, ⟨0, rfl⟩, ⟨0, rfl⟩, ⟨0, rfl⟩, ⟨0, rfl⟩, ⟨0, rfl⟩⟩ : TMAC), ⟨0, rfl⟩⟩ : TFdb)⟩ : TOp)) st58 ze58 rfl rfl) rfl ?_
      clear hs a; intro a hs
      refine r_buildM (c := cOp) (ys := [(⟨⟨2, rfl⟩, e130, (⟨⟨0, rfl⟩, (⟨⟨0, rfl⟩, ⟨0, rfl⟩, ⟨0, rfl⟩, ⟨0, rfl⟩, ⟨0, rfl⟩, ⟨0, rfl⟩⟩ : TMAC)⟩ : TNeigh), (⟨(⟨⟨0, rfl⟩, ⟨0, rfl⟩, ⟨0, rfl⟩, ⟨0, rfl⟩, ⟨0, rfl⟩, ⟨0, rfl⟩⟩ : TMAC), ⟨0, rfl⟩⟩ : TFdb)⟩ : TOp)]) hs m sl35 ty58 ze58 rfl rfl rfl rfl rfl (fun _ => rfl) rfl rfl rfl ?_
      clear m hs a w140; intro v142 w143 m a hs
      refine r_appendM (c := cOp) (xs := (([] : List TOp) ++ pickM (fun e => (e.Local == true) && !staysM x_Neighs x_Fdbs y_Routes y_Neighs y_Fdbs e) delR x_Routes) ++ pickM (fun e => (e.Local == false) && !staysM x_Neighs x_Fdbs y_Routes y_Neighs y_Fdbs e) delR (x_Routes.take k2f)) (ys := [(⟨⟨2, rfl⟩, e130, (⟨⟨0, rfl⟩, (⟨⟨0, rfl⟩, ⟨0, rfl⟩, ⟨0, rfl⟩, ⟨0, rfl⟩, ⟨0, rfl⟩, ⟨0, rfl⟩⟩ : TMAC)⟩ : TNeigh), (⟨(⟨⟨0, rfl⟩, ⟨0, rfl⟩, ⟨0, rfl⟩, ⟨0, rfl⟩, ⟨0, rfl⟩, ⟨0, rfl⟩⟩ : TMAC), ⟨0, rfl⟩⟩ : TFdb)⟩ : TOp)]) hs m rfl rfl sl35 ni35 ty58 ze58 rfl by58 rfl r4 (m.rdv r0) (fun _ => rfl) (by first | omega | (simp only [List.length_cons, List.length_nil]; omega)) rfl ?_
      clear m hs a w143; intro v144 w145 m a hs
      refine r_ok hs m (ok_assign rfl) rfl ?_
      clear hs a; intro a hs
      refine wpList_nil (n_block (n_then ?_))
      refine c_last ?_
      refine r_ok hs m (ok_add (r := (k2f : Int) + 1) rfl rfl (wrap_i64 (by omega) (by omega))) rfl ?_
      clear hs a; intro a hs
      refine r_ok hs m (ok_move rfl) rfl ?_
      clear hs a; intro a hs
      refine wpList_nil (n_then ?_)
      have q146 : (([] : List TOp) ++ pickM (fun e => (e.Local == true) && !staysM x_Neighs x_Fdbs y_Routes y_Neighs y_Fdbs e) delR x_Routes) ++ pickM (fun e => (e.Local == false) && !staysM x_Neighs x_Fdbs y_Routes y_Neighs y_Fdbs e) delR (x_Routes.take k2f) ++ [(⟨⟨2, rfl⟩, e130, (⟨⟨0, rfl⟩, (⟨⟨0, rfl⟩, ⟨0, rfl⟩, ⟨0, rfl⟩, ⟨0, rfl⟩, ⟨0, rfl⟩, ⟨0, rfl⟩⟩ : TMAC)⟩ : TNeigh), (⟨(⟨⟨0, rfl⟩, ⟨0, rfl⟩, ⟨0, rfl⟩, ⟨0, rfl⟩, ⟨0, rfl⟩, ⟨0, rfl⟩⟩ : TMAC), ⟨0, rfl⟩⟩ : TFdb)⟩ : TOp)] = (([] : List TOp) ++ pickM (fun e => (e.Local == true) && !staysM x_Neighs x_Fdbs y_Routes y_Neighs y_Fdbs e) delR x_Routes) ++ pickM (fun e => (e.Local == false) && !staysM x_Neighs x_Fdbs y_Routes y_Neighs y_Fdbs e) delR (x_Routes.take (k2f + 1)) := by first | exact pickM_0.symm | exact pickM_0 | exact pickM_t (by assumption) (by assumption) | exact pickM_f (by assumption) (by assumption)
      rw [q146] at m
      exact ⟨x_Routes.length - (k2f + 1), by omega, k2f + 1, v144, by omega, by exact Nat.le_trans pickM_add (by omega), rfl, hs.to ⟨rfl, rfl, rfl, rfl, rfl, rfl, rfl, rfl, rfl, trivial⟩, m.sub (.c r3 (.c r3 (.c r0 .n)))⟩
    have h141p := h141; simp only [Bool.or_eq_true, Bool.or_eq_false_iff, Bool.and_eq_true, Bool.and_eq_false_iff, Bool.not_eq_true', Bool.not_eq_false', decide_eq_true_eq, decide_eq_false_iff_not, beq_iff_eq, bne_iff_ne, beq_eq_false_iff_ne, bne_eq_false_iff_eq, ne_eq, gt_iff_lt, ge_iff_le, Int.not_lt, Int.not_le] at h141p
    refine wp_skip ?_
    refine n_block (n_then ?_)
    refine c_last ?_
    refine r_ok hs m (ok_add (r := (k2f : Int) + 1) rfl rfl (wrap_i64 (by omega) (by omega))) rfl ?_
    clear hs a; intro a hs
    refine r_ok hs m (ok_move rfl) rfl ?_
    clear hs a; intro a hs
    refine wpList_nil (n_then ?_)
    have q147 : (([] : List TOp) ++ pickM (fun e => (e.Local == true) && !staysM x_Neighs x_Fdbs y_Routes y_Neighs y_Fdbs e) delR x_Routes) ++ pickM (fun e => (e.Local == false) && !staysM x_Neighs x_Fdbs y_Routes y_Neighs y_Fdbs e) delR (x_Routes.take k2f) = (([] : List TOp) ++ pickM (fun e => (e.Local == true) && !staysM x_Neighs x_Fdbs y_Routes y_Neighs y_Fdbs e) delR x_Routes) ++ pickM (fun e => (e.Local == false) && !staysM x_Neighs x_Fdbs y_Routes y_Neighs y_Fdbs e) delR (x_Routes.take (k2f + 1)) := by first | exact pickM_0.symm | exact pickM_0 | exact pickM_t (by assumption) (by assumption) | exact pickM_f (by assumption) (by assumption)
    rw [q147] at m
    exact ⟨x_Routes.length - (k2f + 1), by omega, k2f + 1, v20, by omega, by exact Nat.le_trans pickM_add (by omega), rfl, hs.to ⟨rfl, rfl, rfl, rfl, rfl, rfl, rfl, rfl, rfl, trivial⟩, m.sub (.c r1 (.c r1 (.c r1 .n)))⟩
  have h18p := of_decide_eq_true h18
  refine wp_skip ?_
  refine n_then ?_
  refine c_seq ?_
  refine wp_block ?_
  refine c_reg ?_
  obtain ⟨e148, he149⟩ := get_of_lt (l := x_Routes) (i := k2t) (by omega)
  refine elF (c := cRoute) (e := e148) hs m (x := (.tmp 34)) (ix := (.tmp 36)) rfl rfl sl25 ty51 hx_Routes (by omega) he149 fun p150 hp151 ok152 => ?_
  refine r_ok hs m (ok152 _ _ _ _ _) rfl ?_
  clear hs a; intro a hs
  refine r_ok hs m (ok_load_ag (vs := cRoute e148) rfl ty51 (fr_at hp151) rfl rfl) rfl ?_
  clear hs a; intro a hs
  refine r_alloc hs m ze51 rfl ?_
  clear m hs a w17; intro p153 w154 m a hs
  refine r_store (cs' := cRoute e148) (vs := cRoute e148) hs m rfl rfl ty51 s0 rfl rfl rfl rfl rfl ?_
  clear m w154; intro w155 m
  refine wpList_nil (n_then ?_)
  refine c_reg ?_
  refine r_ok hs m (ok_fieldAddr (r := 3) rfl fd51_2 ty4 rfl) rfl ?_
  clear hs a; intro a hs
  refine r_ok hs m (ok_load_sc rfl ty4 (bx_at r0) rfl) rfl ?_
  clear hs a; intro a hs
  refine r_ok hs m (ok_move rfl) rfl ?_
  clear hs a; intro a hs
  refine r_ok hs m (ok_eqB rfl rfl ub4) rfl ?_
  clear hs a; intro a hs
  refine r_ok hs m (ok_move rfl) rfl ?_
  clear hs a; intro a hs
  refine l_cut (.c (.c (.c (.c (.c (.c (.n))))))) (fun a w => St 151 [(2, .pointer (some (padd p1 0))), (3, .pointer (some (padd p3 0))), (6, v14.v), (8, .bool true), (10, .pointer (some (padd p153 0))), (29, .agg ⟨[.bool true, .bool false]⟩), (30, .int .i64 0), (34, vx_Routes.v), (35, .int .i64 (x_Routes.length : Int)), (36, .int .i64 (k2t : Int)), (50, .bool ((e148.Local == true) && (!(staysM x_Neighs x_Fdbs y_Routes y_Neighs y_Fdbs e148))))] a ∧ Hp w0 (hh w0) [Bx p153 51 (cRoute e148), Bx p1 29 [vx_Routes.v, vx_Neighs.v, vx_Fdbs.v], Bx p3 29 [vy_Routes.v, vy_Neighs.v, vy_Fdbs.v], Sv 19 58 v14.v ((([] : List TOp) ++ pickM (fun e => (e.Local == true) && !staysM x_Neighs x_Fdbs y_Routes y_Neighs y_Fdbs e) delR (x_Routes.take k2t)).map cOp)] w) ?_ ?_
  · rcases Bool.eq_false_or_eq_true (e148.Local == true) with hb156 | hb156
    · have hb156p := eq_of_beq hb156
      refine r_okg hs rfl rfl hb156 m (ok_load_ag (vs := [vx_Routes.v, vx_Neighs.v, vx_Fdbs.v]) rfl ty29 (bx_at r1) rfl rfl) rfl ?_
      clear hs a; intro a hs
      refine r_okg hs rfl rfl hb156 m (ok_load_ag (vs := [vy_Routes.v, vy_Neighs.v, vy_Fdbs.v]) rfl ty29 (bx_at r2) rfl rfl) rfl ?_
      clear hs a; intro a hs
      refine r_okg hs rfl rfl hb156 m (ok_load_ag (vs := cRoute e148) rfl ty51 (bx_at r0) rfl rfl) rfl ?_
      clear hs a; intro a hs
      refine r_callPg hs rfl rfl hb156 m rfl rfl ca57 rfl (stays_c vx_Routes x_Routes vx_Neighs x_Neighs vx_Fdbs x_Fdbs vy_Routes y_Routes vy_Neighs y_Neighs vy_Fdbs y_Fdbs e148 _ (m.rd hx_Routes) (m.rd hx_Neighs) (m.rd hx_Fdbs) (m.rd hy_Routes) (m.rd hy_Neighs) (m.rd hy_Fdbs) ) rfl ?_
      clear m hs a w155; intro w157 m a hs
      refine r_okg hs rfl rfl hb156 m (ok_not rfl) rfl ?_
      clear hs a; intro a hs
      refine r_ok hs m (ok_pick (r := .bool ((e148.Local == true) && (!(staysM x_Neighs x_Fdbs y_Routes y_Neighs y_Fdbs e148)))) rfl rfl rfl (by rw [hb156]; rfl)) rfl ?_
      clear hs a; intro a hs
      exact wpList_nil (n_then ⟨hs.to ⟨rfl, rfl, rfl, rfl, rfl, rfl, rfl, rfl, rfl, rfl, rfl, trivial⟩, m⟩)
    · have hb156p := ne_of_beq_false hb156
      refine g_out hs rfl rfl hb156 rfl ?_
      clear hs a; intro a hs
      refine g_out hs rfl rfl hb156 rfl ?_
      clear hs a; intro a hs
      refine g_out hs rfl rfl hb156 rfl ?_
      clear hs a; intro a hs
      refine g_out hs rfl rfl hb156 rfl ?_
      clear hs a; intro a hs
      refine g_out hs rfl rfl hb156 rfl ?_
      clear hs a; intro a hs
      refine r_ok hs m (ok_pick (r := .bool ((e148.Local == true) && (!(staysM x_Neighs x_Fdbs y_Routes y_Neighs y_Fdbs e148)))) rfl rfl rfl (by rw [hb156]; rfl)) rfl ?_
      clear hs a; intro a hs
      exact wpList_nil (n_then ⟨hs.to ⟨rfl, rfl, rfl, rfl, rfl, rfl, rfl, rfl, rfl, rfl, rfl, trivial⟩, m⟩)
  clear hs m a w155; rintro a w158 ⟨hs, m⟩
  refine wpList_nil (n_then ?_)
  refine c_cond hs rfl (fun h159 => ?_) (fun h159 => ?_)
  · have h159p := h159; simp only [Bool.or_eq_true, Bool.or_eq_false_iff, Bool.and_eq_true, Bool.and_eq_false_iff, Bool.not_eq_true', Bool.not_eq_false', decide_eq_true_eq, decide_eq_false_iff_not, beq_iff_eq, bne_iff_ne, beq_eq_false_iff_ne, bne_eq_false_iff_eq, ne_eq, gt_iff_lt, ge_iff_le, Int.not_lt, Int.not_le] at h159p
    refine c_last ?_
    refine r_ok hs m (ok_move rfl) rfl ?_
    clear hs a; intro a hs
    refine r_ok hs m (ok_load_ag (vs := cRoute e148) rfl ty51 (bx_at r0) rfl rfl) rfl ?_
    clear hs a; intro a hs
    refine r_ok hs m (ok_build (cs := cOp (⟨⟨2, rfl⟩, e148, (⟨⟨0, rfl⟩, (⟨⟨0, rfl⟩, ⟨0, rfl⟩, ⟨0, rfl⟩, ⟨0, rfl⟩, ⟨0, rfl⟩, ⟨0, rfl⟩⟩ : TMAC)⟩ : TNeigh), (⟨(⟨⟨0, rfl⟩, ⟨0, rfl⟩, ⟨0, rfl⟩, ⟨0, rfl⟩, ⟨0, rfl⟩, ⟨0, rfl⟩⟩ : TMAC), ⟨0, rfl⟩⟩ : TFdb)⟩ : TOp)) st58 ze58 rfl rfl) rfl ?_
    clear hs a; intro a hs
    refine r_buildM (c := cOp) (ys := [(⟨⟨2, rfl⟩, e148, (⟨⟨0, rfl⟩, (⟨⟨0, rfl⟩, ⟨0, rfl⟩, ⟨0, rfl⟩, ⟨0, rfl⟩, ⟨0, rfl⟩, ⟨0, rfl⟩⟩ : TMAC)⟩ : TNeigh), (⟨(⟨⟨0, rfl⟩, ⟨0, rfl⟩, ⟨0, rfl⟩, ⟨0, rfl⟩, ⟨0, rfl⟩, ⟨0, rfl⟩⟩ : TMAC), ⟨0, rfl⟩⟩ : TFdb)⟩ : TOp)]) hs m sl35 ty58 ze58 rfl rfl rfl rfl rfl (fun _ => rfl) rfl rfl rfl ?_
    clear m hs a w158; intro v160 w161 m a hs
    refine r_appendM (c := cOp) (xs := ([] : List TOp) ++ pickM (fun e => (e.Local == true) && !staysM x_Neighs x_Fdbs y_Routes y_Neighs y_Fdbs e) delR (x_Routes.take k2t)) (ys := [(⟨⟨2, rfl⟩, e148, (⟨⟨0, rfl⟩, (⟨⟨0, rfl⟩, ⟨0, rfl⟩, ⟨0, rfl⟩, ⟨0, rfl⟩, ⟨0, rfl⟩, ⟨0, rfl⟩⟩ : TMAC)⟩ : TNeigh), (⟨(⟨⟨0, rfl⟩, ⟨0, rfl⟩, ⟨0, rfl⟩, ⟨0, rfl⟩, ⟨0, rfl⟩, ⟨0, rfl⟩⟩ : TMAC), ⟨0, rfl⟩⟩ : TFdb)⟩ : TOp)]) hs m rfl rfl sl35 ni35 ty58 ze58 rfl by58 rfl r4 (m.rdv r0) (fun _ => rfl) (by first | omega | (simp only [List.length_cons, List.length_nil]; omega)) rfl ?_
    clear m hs a w161; intro v162 w163 m a hs
    refine r_ok hs m (ok_assign rfl) rfl ?_
    clear hs a; intro a hs
    refine wpList_nil (n_block (n_then ?_))
    refine c_last ?_
    refine r_ok hs m (ok_add (r := (k2t : Int) + 1) rfl rfl (wrap_i64 (by omega) (by omega))) rfl ?_
    clear hs a; intro a hs
    refine r_ok hs m (ok_move rfl) rfl ?_
    clear hs a; intro a hs
    refine wpList_nil (n_then ?_)
    have q164 : ([] : List TOp) ++ pickM (fun e => (e.Local == true) && !staysM x_Neighs x_Fdbs y_Routes y_Neighs y_Fdbs e) delR (x_Routes.take k2t) ++ [(⟨⟨2, rfl⟩, e148, (⟨⟨0, rfl⟩, (⟨⟨0, rfl⟩, ⟨0, rfl⟩, ⟨0, rfl⟩, ⟨0, rfl⟩, ⟨0, rfl⟩, ⟨0, rfl⟩⟩ : TMAC)⟩ : TNeigh), (⟨(⟨⟨0, rfl⟩, ⟨0, rfl⟩, ⟨0, rfl⟩, ⟨0, rfl⟩, ⟨0, rfl⟩, ⟨0, rfl⟩⟩ : TMAC), ⟨0, rfl⟩⟩ : TFdb)⟩ : TOp)] = ([] : List TOp) ++ pickM (fun e => (e.Local == true) && !staysM x_Neighs x_Fdbs y_Routes y_Neighs y_Fdbs e) delR (x_Routes.take (k2t + 1)) := by first | exact pickM_0.symm | exact pickM_0 | exact pickM_t (by assumption) (by assumption) | exact pickM_f (by assumption) (by assumption)
    rw [q164] at m
    exact ⟨x_Routes.length - (k2t + 1), by omega, k2t + 1, v162, by omega, by exact Nat.le_trans pickM_add (by omega), rfl, hs.to ⟨rfl, rfl, rfl, rfl, rfl, rfl, rfl, rfl, rfl, trivial⟩, m.sub (.c r3 (.c r3 (.c r0 .n)))⟩
  have h159p := h159; simp only [Bool.or_eq_true, Bool.or_eq_false_iff, Bool.and_eq_true, Bool.and_eq_false_iff, Bool.not_eq_true', Bool.not_eq_false', decide_eq_true_eq, decide_eq_false_iff_not, beq_iff_eq, bne_iff_ne, beq_eq_false_iff_ne, bne_eq_false_iff_eq, ne_eq, gt_iff_lt, ge_iff_le, Int.not_lt, Int.not_le] at h159p
  refine wp_skip ?_
  refine n_block (n_then ?_)
  refine c_last ?_
  refine r_ok hs m (ok_add (r := (k2t : Int) + 1) rfl rfl (wrap_i64 (by omega) (by omega))) rfl ?_
  clear hs a; intro a hs
  refine r_ok hs m (ok_move rfl) rfl ?_
  clear hs a; intro a hs
  refine wpList_nil (n_then ?_)
  have q165 : ([] : List TOp) ++ pickM (fun e => (e.Local == true) && !staysM x_Neighs x_Fdbs y_Routes y_Neighs y_Fdbs e) delR (x_Routes.take k2t) = ([] : List TOp) ++ pickM (fun e => (e.Local == true) && !staysM x_Neighs x_Fdbs y_Routes y_Neighs y_Fdbs e) delR (x_Routes.take (k2t + 1)) := by first | exact pickM_0.symm | exact pickM_0 | exact pickM_t (by assumption) (by assumption) | exact pickM_f (by assumption) (by assumption)
  rw [q165] at m
  exact ⟨x_Routes.length - (k2t + 1), by omega, k2t + 1, v14, by omega, by exact Nat.le_trans pickM_add (by omega), rfl, hs.to ⟨rfl, rfl, rfl, rfl, rfl, rfl, rfl, rfl, rfl, trivial⟩, m.sub (.c r1 (.c r1 (.c r1 .n)))⟩
end Go.Proofs.YtnbpodjbemfpbaaGreat.Fw
