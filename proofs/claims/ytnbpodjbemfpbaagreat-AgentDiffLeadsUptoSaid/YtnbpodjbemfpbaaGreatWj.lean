/-
  Walks: printed by wip/tool/agent.py.
-/
import Derived.Test.YtnbpodjbemfpbaaGreatWi
import Derived.KernelRfl
set_option linter.all false
set_option maxHeartbeats 4000000
set_option maxRecDepth 100000
namespace Go.Proofs.YtnbpodjbemfpbaaGreat.Fw
open Go
theorem sameRoutes_c (vx : SH) (x : List TRoute) (vy : SH) (y : List TRoute) (w0 : World) (hx : RdS (hh w0) 4 vx.v (x.map cRoute)) (hy : RdS (hh w0) 4 vy.v (y.map cRoute)) : Pure Tryz.prog 54 [vx.v, vy.v] (.bool (decide (x = y))) w0 := by
  have lvx := hx.bd
  have lvy := hy.bd
  refine enter (n := 26) Tryz.func54 rfl rfl rfl fun a (hs : St 26 [(0, vx.v), (1, vy.v)] a) => ?_
  have m := Hp.start w0
  refine c_reg ?_
  refine r_ok hs m (ok_assign rfl) rfl ?_
  clear hs a; intro a hs
  refine wpList_nil (n_then ?_)
  refine c_seq ?_
  refine c_reg ?_
  refine r_ok hs m (ok_move rfl) rfl ?_
  clear hs a; intro a hs
  refine r_ok hs m (ok_len (r := (x.length : Int)) m rfl sl25 (rc_fr hx) (by simp)) rfl ?_
  clear hs a; intro a hs
  refine r_ok hs m (ok_move rfl) rfl ?_
  clear hs a; intro a hs
  refine r_ok hs m (ok_len (r := (y.length : Int)) m rfl sl25 (rc_fr hy) (by simp)) rfl ?_
  clear hs a; intro a hs
  refine r_ok hs m (ok_bin rfl rfl rfl) rfl ?_
  clear hs a; intro a hs
  refine wpList_nil (n_then ?_)
  refine c_cond hs rfl (fun h1 => ?_) (fun h1 => ?_)
  · have h1p := ne_of_bne h1
    refine c_reg ?_
    refine r_ok hs m (ok_assign rfl) rfl ?_
    clear hs a; intro a hs
    refine wpList_nil (n_then ?_)
    refine wp_ret ?_
    refine ret_then (leave hs (vs := [.bool false]) rfl ⟨rfl, trivial⟩ ?_)
    refine ⟨?_, m.sub .n⟩
    have q2 : (false : Bool) = decide (x = y) := by clear hs m; first | exact same_len (by assumption) | exact same_miss (by assumption) (by assumption) (by assumption) | exact same_end (by assumption) (by omega) ht
    first | (rw [q2]; done) | (rw [q2]; rfl) | (rw [q2]; rfl) | (simp only [q2, pack]; done)
  have h1p := eq_of_bne_false h1
  refine wp_skip ?_
  refine n_then ?_
  refine c_seq ?_
  refine c_reg ?_
  refine r_ok hs m (ok_assign rfl) rfl ?_
  clear hs a; intro a hs
  refine wpList_nil (n_then ?_)
  refine wp_block ?_
  refine wp_loop_ghost (fun gn a w => ∃ k : Nat, (k ≤ x.length) ∧ (x.take k = y.take k) ∧ gn = x.length - k ∧ St 26 [(0, vx.v), (1, vy.v), (5, .int .i64 (k : Int))] a ∧ Hp w0 (hh w0) [] w) (x.length - 0) ⟨0, by omega, by simp, rfl, hs.to ⟨rfl, rfl, rfl, trivial⟩, m.sub .n⟩ ?_
  clear hs m a
  rintro gn a w3 ⟨k, hk, ht, rfl, hs, m⟩
  refine c_seq ?_
  refine c_reg ?_
  refine r_ok hs m (ok_move rfl) rfl ?_
  clear hs a; intro a hs
  refine r_ok hs m (ok_move rfl) rfl ?_
  clear hs a; intro a hs
  refine r_ok hs m (ok_len (r := (x.length : Int)) m rfl sl25 (rc_fr hx) (by simp)) rfl ?_
  clear hs a; intro a hs
  refine r_ok hs m (ok_bin rfl rfl rfl) rfl ?_
  clear hs a; intro a hs
  refine wpList_nil (n_then ?_)
  refine c_cond hs rfl (fun h4 => ?_) (fun h4 => ?_)
  rotate_left
  · have h4p := of_decide_eq_false h4
    refine wp_exit ?_
    refine ex_then (ex_then (ex_hit (?_)))
    refine n_then ?_
    refine c_reg ?_
    refine r_ok hs m (ok_assign rfl) rfl ?_
    clear hs a; intro a hs
    refine wpList_nil (n_then ?_)
    refine wp_ret ?_
    refine leave hs (vs := [.bool true]) rfl ⟨rfl, trivial⟩ ?_
    refine ⟨?_, m.sub .n⟩
    have q5 : (true : Bool) = decide (x = y) := by clear hs m; first | exact same_len (by assumption) | exact same_miss (by assumption) (by assumption) (by assumption) | exact same_end (by assumption) (by omega) ht
    first | (rw [q5]; done) | (rw [q5]; rfl) | (rw [q5]; rfl) | (simp only [q5, pack]; done)
  have h4p := of_decide_eq_true h4
  refine wp_skip ?_
  refine n_then ?_
  refine c_seq ?_
  refine wp_block ?_
  refine c_draw m mo (by kernel_rfl) ?_
  refine q_ok hs (ok_move rfl) rfl ?_
  clear hs a; intro a hs
  refine q_ok hs (ok_move rfl) rfl ?_
  clear hs a; intro a hs
  obtain ⟨e6, he7⟩ := get_of_lt (l := x) (i := k) (by omega)
  refine elF (c := cRoute) (e := e6) hs m (x := (.tmp 17)) (ix := (.tmp 18)) rfl rfl sl25 ty51 hx (by omega) he7 fun p8 hp9 ok10 => ?_
  refine q_ok hs (ok10 _ _ _ _ _) rfl ?_
  clear hs a; intro a hs
  refine q_ok hs (ok_load_ag (vs := cRoute e6) rfl ty51 (fr_at hp9) rfl rfl) rfl ?_
  clear hs a; intro a hs
  refine q_ok hs (ok_move rfl) rfl ?_
  clear hs a; intro a hs
  refine q_ok hs (ok_move rfl) rfl ?_
  clear hs a; intro a hs
  obtain ⟨e11, he12⟩ := get_of_lt (l := y) (i := k) (by omega)
  refine elF (c := cRoute) (e := e11) hs m (x := (.tmp 21)) (ix := (.tmp 22)) rfl rfl sl25 ty51 hy (by omega) he12 fun p13 hp14 ok15 => ?_
  refine q_ok hs (ok15 _ _ _ _ _) rfl ?_
  clear hs a; intro a hs
  refine q_ok hs (ok_load_ag (vs := cRoute e11) rfl ty51 (fr_at hp14) rfl rfl) rfl ?_
  clear hs a; intro a hs
  refine q_ok hs (ok_nev (b := decide (e6 = e11)) rfl rfl eqT51 (fRoute _) (fRoute _) (iRoute e6 e11)) rfl ?_
  clear hs a; intro a hs
  refine wpQuiet_nil ?_; clear m w3; intro w16 m
  refine c_cond hs rfl (fun h17 => ?_) (fun h17 => ?_)
  · have h17p := h17; simp only [Bool.or_eq_true, Bool.or_eq_false_iff, Bool.and_eq_true, Bool.and_eq_false_iff, Bool.not_eq_true', Bool.not_eq_false', decide_eq_true_eq, decide_eq_false_iff_not, beq_iff_eq, bne_iff_ne, beq_eq_false_iff_ne, bne_eq_false_iff_eq, ne_eq, gt_iff_lt, ge_iff_le, Int.not_lt, Int.not_le] at h17p
    refine c_reg ?_
    refine r_ok hs m (ok_assign rfl) rfl ?_
    clear hs a; intro a hs
    refine wpList_nil (n_then ?_)
    refine wp_ret ?_
    refine ret_block (ret_then (ret_then (ret_block (ret_then (leave hs (vs := [.bool false]) rfl ⟨rfl, trivial⟩ ?_)))))
    refine ⟨?_, m.sub .n⟩
    have q18 : (false : Bool) = decide (x = y) := by clear hs m; first | exact same_len (by assumption) | exact same_miss (by assumption) (by assumption) (by assumption) | exact same_end (by assumption) (by omega) ht
    first | (rw [q18]; done) | (rw [q18]; rfl) | (rw [q18]; rfl) | (simp only [q18, pack]; done)
  have h17p := h17; simp only [Bool.or_eq_true, Bool.or_eq_false_iff, Bool.and_eq_true, Bool.and_eq_false_iff, Bool.not_eq_true', Bool.not_eq_false', decide_eq_true_eq, decide_eq_false_iff_not, beq_iff_eq, bne_iff_ne, beq_eq_false_iff_ne, bne_eq_false_iff_eq, ne_eq, gt_iff_lt, ge_iff_le, Int.not_lt, Int.not_le] at h17p
  refine wp_skip ?_
  refine n_block (n_then ?_)
  refine c_last ?_
  refine r_ok hs m (ok_move rfl) rfl ?_
  clear hs a; intro a hs
  refine r_ok hs m (ok_add (r := (k : Int) + 1) rfl rfl (wrap_i64 (by omega) (by omega))) rfl ?_
  clear hs a; intro a hs
  refine r_ok hs m (ok_assign rfl) rfl ?_
  clear hs a; intro a hs
  refine wpList_nil (n_then ?_)
  exact ⟨x.length - (k + 1), by omega, k + 1, by omega, by exact same_next ht (by assumption) (by assumption) (by assumption), rfl, hs.to ⟨rfl, rfl, rfl, trivial⟩, m.sub .n⟩
theorem sameOps_c (vx : SH) (x : List TOp) (vy : SH) (y : List TOp) (w0 : World) (hx : RdS (hh w0) 19 vx.v (x.map cOp)) (hy : RdS (hh w0) 19 vy.v (y.map cOp)) : Pure Tryz.prog 20 [vx.v, vy.v] (.bool (decide (x = y))) w0 := by
  have lvx := hx.bd
  have lvy := hy.bd
  refine enter (n := 26) Tryz.func20 rfl rfl rfl fun a (hs : St 26 [(0, vx.v), (1, vy.v)] a) => ?_
  have m := Hp.start w0
  refine c_reg ?_
  refine r_ok hs m (ok_assign rfl) rfl ?_
  clear hs a; intro a hs
  refine wpList_nil (n_then ?_)
  refine c_seq ?_
  refine c_reg ?_
  refine r_ok hs m (ok_move rfl) rfl ?_
  clear hs a; intro a hs
  refine r_ok hs m (ok_len (r := (x.length : Int)) m rfl sl35 (rc_fr hx) (by simp)) rfl ?_
  clear hs a; intro a hs
  refine r_ok hs m (ok_move rfl) rfl ?_
  clear hs a; intro a hs
  refine r_ok hs m (ok_len (r := (y.length : Int)) m rfl sl35 (rc_fr hy) (by simp)) rfl ?_
  clear hs a; intro a hs
  refine r_ok hs m (ok_bin rfl rfl rfl) rfl ?_
  clear hs a; intro a hs
  refine wpList_nil (n_then ?_)
  refine c_cond hs rfl (fun h1 => ?_) (fun h1 => ?_)
  · have h1p := ne_of_bne h1
    refine c_reg ?_
    refine r_ok hs m (ok_assign rfl) rfl ?_
    clear hs a; intro a hs
    refine wpList_nil (n_then ?_)
    refine wp_ret ?_
    refine ret_then (leave hs (vs := [.bool false]) rfl ⟨rfl, trivial⟩ ?_)
    refine ⟨?_, m.sub .n⟩
    have q2 : (false : Bool) = decide (x = y) := by clear hs m; first | exact same_len (by assumption) | exact same_miss (by assumption) (by assumption) (by assumption) | exact same_end (by assumption) (by omega) ht
    first | (rw [q2]; done) | (rw [q2]; rfl) | (rw [q2]; rfl) | (simp only [q2, pack]; done)
  have h1p := eq_of_bne_false h1
  refine wp_skip ?_
  refine n_then ?_
  refine c_seq ?_
  refine c_reg ?_
  refine r_ok hs m (ok_assign rfl) rfl ?_
  clear hs a; intro a hs
  refine wpList_nil (n_then ?_)
  refine wp_block ?_
  refine wp_loop_ghost (fun gn a w => ∃ k : Nat, (k ≤ x.length) ∧ (x.take k = y.take k) ∧ gn = x.length - k ∧ St 26 [(0, vx.v), (1, vy.v), (5, .int .i64 (k : Int))] a ∧ Hp w0 (hh w0) [] w) (x.length - 0) ⟨0, by omega, by simp, rfl, hs.to ⟨rfl, rfl, rfl, trivial⟩, m.sub .n⟩ ?_
  clear hs m a
  rintro gn a w3 ⟨k, hk, ht, rfl, hs, m⟩
  refine c_seq ?_
  refine c_reg ?_
  refine r_ok hs m (ok_move rfl) rfl ?_
  clear hs a; intro a hs
  refine r_ok hs m (ok_move rfl) rfl ?_
  clear hs a; intro a hs
  refine r_ok hs m (ok_len (r := (x.length : Int)) m rfl sl35 (rc_fr hx) (by simp)) rfl ?_
  clear hs a; intro a hs
  refine r_ok hs m (ok_bin rfl rfl rfl) rfl ?_
  clear hs a; intro a hs
  refine wpList_nil (n_then ?_)
  refine c_cond hs rfl (fun h4 => ?_) (fun h4 => ?_)
  rotate_left
  · have h4p := of_decide_eq_false h4
    refine wp_exit ?_
    refine ex_then (ex_then (ex_hit (?_)))
    refine n_then ?_
    refine c_reg ?_
    refine r_ok hs m (ok_assign rfl) rfl ?_
    clear hs a; intro a hs
    refine wpList_nil (n_then ?_)
    refine wp_ret ?_
    refine leave hs (vs := [.bool true]) rfl ⟨rfl, trivial⟩ ?_
    refine ⟨?_, m.sub .n⟩
    have q5 : (true : Bool) = decide (x = y) := by clear hs m; first | exact same_len (by assumption) | exact same_miss (by assumption) (by assumption) (by assumption) | exact same_end (by assumption) (by omega) ht
    first | (rw [q5]; done) | (rw [q5]; rfl) | (rw [q5]; rfl) | (simp only [q5, pack]; done)
  have h4p := of_decide_eq_true h4
  refine wp_skip ?_
  refine n_then ?_
  refine c_seq ?_
  refine wp_block ?_
  refine c_draw m mo (by kernel_rfl) ?_
  refine q_ok hs (ok_move rfl) rfl ?_
  clear hs a; intro a hs
  refine q_ok hs (ok_move rfl) rfl ?_
  clear hs a; intro a hs
  obtain ⟨e6, he7⟩ := get_of_lt (l := x) (i := k) (by omega)
  refine elF (c := cOp) (e := e6) hs m (x := (.tmp 17)) (ix := (.tmp 18)) rfl rfl sl35 ty58 hx (by omega) he7 fun p8 hp9 ok10 => ?_
  refine q_ok hs (ok10 _ _ _ _ _) rfl ?_
  clear hs a; intro a hs
  refine q_ok hs (ok_load_ag (vs := cOp e6) rfl ty58 (fr_at hp9) rfl rfl) rfl ?_
  clear hs a; intro a hs
  refine q_ok hs (ok_move rfl) rfl ?_
  clear hs a; intro a hs
  refine q_ok hs (ok_move rfl) rfl ?_
  clear hs a; intro a hs
  obtain ⟨e11, he12⟩ := get_of_lt (l := y) (i := k) (by omega)
  refine elF (c := cOp) (e := e11) hs m (x := (.tmp 21)) (ix := (.tmp 22)) rfl rfl sl35 ty58 hy (by omega) he12 fun p13 hp14 ok15 => ?_
  refine q_ok hs (ok15 _ _ _ _ _) rfl ?_
  clear hs a; intro a hs
  refine q_ok hs (ok_load_ag (vs := cOp e11) rfl ty58 (fr_at hp14) rfl rfl) rfl ?_
  clear hs a; intro a hs
  refine q_ok hs (ok_nev (b := decide (e6 = e11)) rfl rfl eqT58 (fOp _) (fOp _) (iOp e6 e11)) rfl ?_
  clear hs a; intro a hs
  refine wpQuiet_nil ?_; clear m w3; intro w16 m
  refine c_cond hs rfl (fun h17 => ?_) (fun h17 => ?_)
  · have h17p := h17; simp only [Bool.or_eq_true, Bool.or_eq_false_iff, Bool.and_eq_true, Bool.and_eq_false_iff, Bool.not_eq_true', Bool.not_eq_false', decide_eq_true_eq, decide_eq_false_iff_not, beq_iff_eq, bne_iff_ne, beq_eq_false_iff_ne, bne_eq_false_iff_eq, ne_eq, gt_iff_lt, ge_iff_le, Int.not_lt, Int.not_le] at h17p
    refine c_reg ?_
    refine r_ok hs m (ok_assign rfl) rfl ?_
    clear hs a; intro a hs
    refine wpList_nil (n_then ?_)
    refine wp_ret ?_
    refine ret_block (ret_then (ret_then (ret_block (ret_then (leave hs (vs := [.bool false]) rfl ⟨rfl, trivial⟩ ?_)))))
    refine ⟨?_, m.sub .n⟩
    have q18 : (false : Bool) = decide (x = y) := by clear hs m; first | exact same_len (by assumption) | exact same_miss (by assumption) (by assumption) (by assumption) | exact same_end (by assumption) (by omega) ht
    first | (rw [q18]; done) | (rw [q18]; rfl) | (rw [q18]; rfl) | (simp only [q18, pack]; done)
  have h17p := h17; simp only [Bool.or_eq_true, Bool.or_eq_false_iff, Bool.and_eq_true, Bool.and_eq_false_iff, Bool.not_eq_true', Bool.not_eq_false', decide_eq_true_eq, decide_eq_false_iff_not, beq_iff_eq, bne_iff_ne, beq_eq_false_iff_ne, bne_eq_false_iff_eq, ne_eq, gt_iff_lt, ge_iff_le, Int.not_lt, Int.not_le] at h17p
  refine wp_skip ?_
  refine n_block (n_then ?_)
  refine c_last ?_
  refine r_ok hs m (ok_move rfl) rfl ?_
  clear hs a; intro a hs
  refine r_ok hs m (ok_add (r := (k : Int) + 1) rfl rfl (wrap_i64 (by omega) (by omega))) rfl ?_
  clear hs a; intro a hs
  refine r_ok hs m (ok_assign rfl) rfl ?_
  clear hs a; intro a hs
  refine wpList_nil (n_then ?_)
  exact ⟨x.length - (k + 1), by omega, k + 1, by omega, by exact same_next ht (by assumption) (by assumption) (by assumption), rfl, hs.to ⟨rfl, rfl, rfl, trivial⟩, m.sub .n⟩
theorem sameTables_c (vx_Routes : SH) (x_Routes : List TRoute) (vx_Neighs : SH) (x_Neighs : List TNeigh) (vx_Fdbs : SH) (x_Fdbs : List TFdb) (vy_Routes : SH) (y_Routes : List TRoute) (vy_Neighs : SH) (y_Neighs : List TNeigh) (vy_Fdbs : SH) (y_Fdbs : List TFdb) (w0 : World) (hx_Routes : RdS (hh w0) 4 vx_Routes.v (x_Routes.map cRoute)) (hx_Neighs : RdS (hh w0) 7 vx_Neighs.v (x_Neighs.map cNeigh)) (hx_Fdbs : RdS (hh w0) 7 vx_Fdbs.v (x_Fdbs.map cFdb)) (hy_Routes : RdS (hh w0) 4 vy_Routes.v (y_Routes.map cRoute)) (hy_Neighs : RdS (hh w0) 7 vy_Neighs.v (y_Neighs.map cNeigh)) (hy_Fdbs : RdS (hh w0) 7 vy_Fdbs.v (y_Fdbs.map cFdb)) : Pure Tryz.prog 14 [.agg ⟨[vx_Routes.v, vx_Neighs.v, vx_Fdbs.v]⟩, .agg ⟨[vy_Routes.v, vy_Neighs.v, vy_Fdbs.v]⟩] (.bool (decide (x_Routes = y_Routes ∧ x_Neighs = y_Neighs ∧ x_Fdbs = y_Fdbs))) w0 := by
  have lvx_Routes := hx_Routes.bd
  have lvx_Neighs := hx_Neighs.bd
  have lvx_Fdbs := hx_Fdbs.bd
  have lvy_Routes := hy_Routes.bd
  have lvy_Neighs := hy_Neighs.bd
  have lvy_Fdbs := hy_Fdbs.bd
  refine enter (n := 69) Tryz.func14 rfl rfl rfl fun a (hs : St 69 [(0, .agg ⟨[vx_Routes.v, vx_Neighs.v, vx_Fdbs.v]⟩), (1, .agg ⟨[vy_Routes.v, vy_Neighs.v, vy_Fdbs.v]⟩)] a) => ?_
  have m := Hp.start w0
  refine c_reg ?_
  refine r_box (cs := [vx_Routes.v, vx_Neighs.v, vx_Fdbs.v]) hs m rfl rfl rfl ?_
  clear m hs a; intro p1 w2 m a hs
  refine r_box (cs := [vy_Routes.v, vy_Neighs.v, vy_Fdbs.v]) hs m rfl rfl rfl ?_
  clear m hs a w2; intro p3 w4 m a hs
  refine r_ok hs m (ok_assign rfl) rfl ?_
  clear hs a; intro a hs
  refine wpList_nil (n_then ?_)
  refine c_reg ?_
  refine r_ok hs m (ok_fieldAddr (r := 0) rfl fd29_0 ty25 rfl) rfl ?_
  clear hs a; intro a hs
  refine r_ok hs m (ok_load_sc rfl ty25 (bx_at r1) rfl) rfl ?_
  clear hs a; intro a hs
  refine r_ok hs m (ok_fieldAddr (r := 0) rfl fd29_0 ty25 rfl) rfl ?_
  clear hs a; intro a hs
  refine r_ok hs m (ok_load_sc rfl ty25 (bx_at r0) rfl) rfl ?_
  clear hs a; intro a hs
  refine r_callP hs m rfl rfl ca54 rfl (sameRoutes_c vx_Routes x_Routes vy_Routes y_Routes _ (m.rd hx_Routes) (m.rd hy_Routes) ) rfl ?_
  clear m hs a w4; intro w5 m a hs
  refine r_ok hs m (ok_assign rfl) rfl ?_
  clear hs a; intro a hs
  refine wpList_nil (n_then ?_)
  refine c_seq ?_
  refine c_reg ?_
  refine r_ok hs m (ok_move rfl) rfl ?_
  clear hs a; intro a hs
  refine r_ok hs m (ok_not rfl) rfl ?_
  clear hs a; intro a hs
  refine r_ok hs m (ok_move rfl) rfl ?_
  clear hs a; intro a hs
  refine l_cut (.c (.c (.c (.c (.c (.c (.c (.c (.n))))))))) (fun a w => St 69 [(2, .pointer (some (padd p1 0))), (3, .pointer (some (padd p3 0))), (23, .bool ((!(decide (x_Routes = y_Routes))) || ((x_Neighs.length : Int) != (y_Neighs.length : Int))))] a ∧ Hp w0 (hh w0) [Bx p3 29 [vy_Routes.v, vy_Neighs.v, vy_Fdbs.v], Bx p1 29 [vx_Routes.v, vx_Neighs.v, vx_Fdbs.v]] w) ?_ ?_
  · rcases Bool.eq_false_or_eq_true (!(decide (x_Routes = y_Routes))) with hb6 | hb6
    · have hb6p := hb6; simp only [Bool.or_eq_true, Bool.or_eq_false_iff, Bool.and_eq_true, Bool.and_eq_false_iff, Bool.not_eq_true', Bool.not_eq_false', decide_eq_true_eq, decide_eq_false_iff_not, beq_iff_eq, bne_iff_ne, beq_eq_false_iff_ne, bne_eq_false_iff_eq, ne_eq, gt_iff_lt, ge_iff_le, Int.not_lt, Int.not_le] at hb6p
      refine g_out hs rfl rfl hb6 rfl ?_
      clear hs a; intro a hs
      refine g_out hs rfl rfl hb6 rfl ?_
      clear hs a; intro a hs
      refine g_out hs rfl rfl hb6 rfl ?_
      clear hs a; intro a hs
      refine g_out hs rfl rfl hb6 rfl ?_
      clear hs a; intro a hs
      refine g_out hs rfl rfl hb6 rfl ?_
      clear hs a; intro a hs
      refine g_out hs rfl rfl hb6 rfl ?_
      clear hs a; intro a hs
      refine g_out hs rfl rfl hb6 rfl ?_
      clear hs a; intro a hs
      refine r_ok hs m (ok_pick (r := .bool ((!(decide (x_Routes = y_Routes))) || ((x_Neighs.length : Int) != (y_Neighs.length : Int)))) rfl rfl rfl (by rw [hb6]; rfl)) rfl ?_
      clear hs a; intro a hs
      exact wpList_nil (n_then ⟨hs.to ⟨rfl, rfl, rfl, trivial⟩, m⟩)
    · have hb6p := hb6; simp only [Bool.or_eq_true, Bool.or_eq_false_iff, Bool.and_eq_true, Bool.and_eq_false_iff, Bool.not_eq_true', Bool.not_eq_false', decide_eq_true_eq, decide_eq_false_iff_not, beq_iff_eq, bne_iff_ne, beq_eq_false_iff_ne, bne_eq_false_iff_eq, ne_eq, gt_iff_lt, ge_iff_le, Int.not_lt, Int.not_le] at hb6p
      refine r_okg hs rfl rfl hb6 m (ok_fieldAddr (r := 1) rfl fd29_1 ty26 rfl) rfl ?_
      clear hs a; intro a hs
      refine r_okg hs rfl rfl hb6 m (ok_load_sc rfl ty26 (bx_at r1) rfl) rfl ?_
      clear hs a; intro a hs
      refine r_okg hs rfl rfl hb6 m (ok_len (r := (x_Neighs.length : Int)) m rfl sl26 (rc_fr hx_Neighs) (by simp)) rfl ?_
      clear hs a; intro a hs
      refine r_okg hs rfl rfl hb6 m (ok_fieldAddr (r := 1) rfl fd29_1 ty26 rfl) rfl ?_
      clear hs a; intro a hs
      refine r_okg hs rfl rfl hb6 m (ok_load_sc rfl ty26 (bx_at r0) rfl) rfl ?_
      clear hs a; intro a hs
      refine r_okg hs rfl rfl hb6 m (ok_len (r := (y_Neighs.length : Int)) m rfl sl26 (rc_fr hy_Neighs) (by simp)) rfl ?_
      clear hs a; intro a hs
      refine r_okg hs rfl rfl hb6 m (ok_bin rfl rfl rfl) rfl ?_
      clear hs a; intro a hs
      refine r_ok hs m (ok_pick (r := .bool ((!(decide (x_Routes = y_Routes))) || ((x_Neighs.length : Int) != (y_Neighs.length : Int)))) rfl rfl rfl (by rw [hb6]; rfl)) rfl ?_
      clear hs a; intro a hs
      exact wpList_nil (n_then ⟨hs.to ⟨rfl, rfl, rfl, trivial⟩, m⟩)
  clear hs m a w5; rintro a w7 ⟨hs, m⟩
  refine r_ok hs m (ok_move rfl) rfl ?_
  clear hs a; intro a hs
  refine l_cut (.c (.c (.c (.c (.c (.c (.c (.c (.n))))))))) (fun a w => St 69 [(2, .pointer (some (padd p1 0))), (3, .pointer (some (padd p3 0))), (32, .bool (((!(decide (x_Routes = y_Routes))) || ((x_Neighs.length : Int) != (y_Neighs.length : Int))) || ((x_Fdbs.length : Int) != (y_Fdbs.length : Int))))] a ∧ Hp w0 (hh w0) [Bx p3 29 [vy_Routes.v, vy_Neighs.v, vy_Fdbs.v], Bx p1 29 [vx_Routes.v, vx_Neighs.v, vx_Fdbs.v]] w) ?_ ?_
  · rcases Bool.eq_false_or_eq_true ((!(decide (x_Routes = y_Routes))) || ((x_Neighs.length : Int) != (y_Neighs.length : Int))) with hb8 | hb8
    · have hb8p := hb8; simp only [Bool.or_eq_true, Bool.or_eq_false_iff, Bool.and_eq_true, Bool.and_eq_false_iff, Bool.not_eq_true', Bool.not_eq_false', decide_eq_true_eq, decide_eq_false_iff_not, beq_iff_eq, bne_iff_ne, beq_eq_false_iff_ne, bne_eq_false_iff_eq, ne_eq, gt_iff_lt, ge_iff_le, Int.not_lt, Int.not_le] at hb8p
      refine g_out hs rfl rfl hb8 rfl ?_
      clear hs a; intro a hs
      refine g_out hs rfl rfl hb8 rfl ?_
      clear hs a; intro a hs
      refine g_out hs rfl rfl hb8 rfl ?_
      clear hs a; intro a hs
      refine g_out hs rfl rfl hb8 rfl ?_
      clear hs a; intro a hs
      refine g_out hs rfl rfl hb8 rfl ?_
      clear hs a; intro a hs
      refine g_out hs rfl rfl hb8 rfl ?_
      clear hs a; intro a hs
      refine g_out hs rfl rfl hb8 rfl ?_
      clear hs a; intro a hs
      refine r_ok hs m (ok_pick (r := .bool (((!(decide (x_Routes = y_Routes))) || ((x_Neighs.length : Int) != (y_Neighs.length : Int))) || ((x_Fdbs.length : Int) != (y_Fdbs.length : Int)))) rfl rfl rfl (by rw [hb8]; rfl)) rfl ?_
      clear hs a; intro a hs
      exact wpList_nil (n_then ⟨hs.to ⟨rfl, rfl, rfl, trivial⟩, m⟩)
    · have hb8p := hb8; simp only [Bool.or_eq_true, Bool.or_eq_false_iff, Bool.and_eq_true, Bool.and_eq_false_iff, Bool.not_eq_true', Bool.not_eq_false', decide_eq_true_eq, decide_eq_false_iff_not, beq_iff_eq, bne_iff_ne, beq_eq_false_iff_ne, bne_eq_false_iff_eq, ne_eq, gt_iff_lt, ge_iff_le, Int.not_lt, Int.not_le] at hb8p
      refine r_okg hs rfl rfl hb8 m (ok_fieldAddr (r := 2) rfl fd29_2 ty27 rfl) rfl ?_
      clear hs a; intro a hs
      refine r_okg hs rfl rfl hb8 m (ok_load_sc rfl ty27 (bx_at r1) rfl) rfl ?_
      clear hs a; intro a hs
      refine r_okg hs rfl rfl hb8 m (ok_len (r := (x_Fdbs.length : Int)) m rfl sl27 (rc_fr hx_Fdbs) (by simp)) rfl ?_
      clear hs a; intro a hs
      refine r_okg hs rfl rfl hb8 m (ok_fieldAddr (r := 2) rfl fd29_2 ty27 rfl) rfl ?_
      clear hs a; intro a hs
      refine r_okg hs rfl rfl hb8 m (ok_load_sc rfl ty27 (bx_at r0) rfl) rfl ?_
      clear hs a; intro a hs
      refine r_okg hs rfl rfl hb8 m (ok_len (r := (y_Fdbs.length : Int)) m rfl sl27 (rc_fr hy_Fdbs) (by simp)) rfl ?_
      clear hs a; intro a hs
      refine r_okg hs rfl rfl hb8 m (ok_bin rfl rfl rfl) rfl ?_
      clear hs a; intro a hs
      refine r_ok hs m (ok_pick (r := .bool (((!(decide (x_Routes = y_Routes))) || ((x_Neighs.length : Int) != (y_Neighs.length : Int))) || ((x_Fdbs.length : Int) != (y_Fdbs.length : Int)))) rfl rfl rfl (by rw [hb8]; rfl)) rfl ?_
      clear hs a; intro a hs
      exact wpList_nil (n_then ⟨hs.to ⟨rfl, rfl, rfl, trivial⟩, m⟩)
  clear hs m a w7; rintro a w9 ⟨hs, m⟩
  refine wpList_nil (n_then ?_)
  refine c_cond hs rfl (fun h10 => ?_) (fun h10 => ?_)
  · have h10p := h10; simp only [Bool.or_eq_true, Bool.or_eq_false_iff, Bool.and_eq_true, Bool.and_eq_false_iff, Bool.not_eq_true', Bool.not_eq_false', decide_eq_true_eq, decide_eq_false_iff_not, beq_iff_eq, bne_iff_ne, beq_eq_false_iff_ne, bne_eq_false_iff_eq, ne_eq, gt_iff_lt, ge_iff_le, Int.not_lt, Int.not_le] at h10p
    refine c_reg ?_
    refine r_ok hs m (ok_assign rfl) rfl ?_
    clear hs a; intro a hs
    refine wpList_nil (n_then ?_)
    refine wp_ret ?_
    refine ret_then (leave hs (vs := [.bool false]) rfl ⟨rfl, trivial⟩ ?_)
    refine ⟨?_, m.sub .n⟩
    have q11 : (false : Bool) = decide (x_Routes = y_Routes ∧ x_Neighs = y_Neighs ∧ x_Fdbs = y_Fdbs) := by clear hs m; first | exact tabs_f0 (by assumption) | exact tabs_f1 (same_miss (by assumption) (by assumption) (by assumption)) | exact tabs_f2 (same_miss (by assumption) (by assumption) (by assumption)) | exact tabs_t (by assumption) hN (same_end (by omega) (by omega) ht)
    first | (rw [q11]; done) | (rw [q11]; rfl) | (rw [q11]; rfl) | (simp only [q11, pack]; done)
  have h10p := h10; simp only [Bool.or_eq_true, Bool.or_eq_false_iff, Bool.and_eq_true, Bool.and_eq_false_iff, Bool.not_eq_true', Bool.not_eq_false', decide_eq_true_eq, decide_eq_false_iff_not, beq_iff_eq, bne_iff_ne, beq_eq_false_iff_ne, bne_eq_false_iff_eq, ne_eq, gt_iff_lt, ge_iff_le, Int.not_lt, Int.not_le] at h10p
  refine wp_skip ?_
  refine n_then ?_
  refine c_seq ?_
  refine c_reg ?_
  refine r_ok hs m (ok_assign rfl) rfl ?_
  clear hs a; intro a hs
  refine wpList_nil (n_then ?_)
  refine wp_block ?_
  refine wp_loop_ghost (fun gn a w => ∃ k : Nat, (k ≤ x_Neighs.length) ∧ (x_Neighs.take k = y_Neighs.take k) ∧ gn = x_Neighs.length - k ∧ St 69 [(2, .pointer (some (padd p1 0))), (3, .pointer (some (padd p3 0))), (6, .int .i64 (k : Int))] a ∧ Hp w0 (hh w0) [Bx p1 29 [vx_Routes.v, vx_Neighs.v, vx_Fdbs.v], Bx p3 29 [vy_Routes.v, vy_Neighs.v, vy_Fdbs.v]] w) (x_Neighs.length - 0) ⟨0, by omega, by simp, rfl, hs.to ⟨rfl, rfl, rfl, trivial⟩, m.sub (.c r1 (.c r0 .n))⟩ ?_
  clear hs m a w9
  rintro gn a w12 ⟨k, hk, ht, rfl, hs, m⟩
  refine c_seq ?_
  refine c_reg ?_
  refine r_ok hs m (ok_move rfl) rfl ?_
  clear hs a; intro a hs
  refine r_ok hs m (ok_fieldAddr (r := 1) rfl fd29_1 ty26 rfl) rfl ?_
  clear hs a; intro a hs
  refine r_ok hs m (ok_load_sc rfl ty26 (bx_at r0) rfl) rfl ?_
  clear hs a; intro a hs
  refine r_ok hs m (ok_len (r := (x_Neighs.length : Int)) m rfl sl26 (rc_fr hx_Neighs) (by simp)) rfl ?_
  clear hs a; intro a hs
  refine r_ok hs m (ok_bin rfl rfl rfl) rfl ?_
  clear hs a; intro a hs
  refine wpList_nil (n_then ?_)
  refine c_cond hs rfl (fun h13 => ?_) (fun h13 => ?_)
  rotate_left
  · have h13p := of_decide_eq_false h13
    refine wp_exit ?_
    refine ex_then (ex_then (ex_hit (?_)))
    refine n_then ?_
    refine c_seq ?_
    refine c_reg ?_
    refine r_ok hs m (ok_assign rfl) rfl ?_
    clear hs a; intro a hs
    refine wpList_nil (n_then ?_)
    refine wp_block ?_
    have hN := same_end (x := x_Neighs) (y := y_Neighs) (by omega) (by omega) ht
    clear ht hk
    refine wp_loop_ghost (fun gn a w => ∃ k : Nat, (k ≤ x_Fdbs.length) ∧ (x_Fdbs.take k = y_Fdbs.take k) ∧ gn = x_Fdbs.length - k ∧ St 69 [(2, .pointer (some (padd p1 0))), (3, .pointer (some (padd p3 0))), (7, .int .i64 (k : Int))] a ∧ Hp w0 (hh w0) [Bx p1 29 [vx_Routes.v, vx_Neighs.v, vx_Fdbs.v], Bx p3 29 [vy_Routes.v, vy_Neighs.v, vy_Fdbs.v]] w) (x_Fdbs.length - 0) ⟨0, by omega, by simp, rfl, hs.to ⟨rfl, rfl, rfl, trivial⟩, m.sub (.c r0 (.c r0 .n))⟩ ?_
    clear hs m a w12
    rintro gn a w14 ⟨k, hk, ht, rfl, hs, m⟩
    refine c_seq ?_
    refine c_reg ?_
    refine r_ok hs m (ok_move rfl) rfl ?_
    clear hs a; intro a hs
    refine r_ok hs m (ok_fieldAddr (r := 2) rfl fd29_2 ty27 rfl) rfl ?_
    clear hs a; intro a hs
    refine r_ok hs m (ok_load_sc rfl ty27 (bx_at r0) rfl) rfl ?_
    clear hs a; intro a hs
    refine r_ok hs m (ok_len (r := (x_Fdbs.length : Int)) m rfl sl27 (rc_fr hx_Fdbs) (by simp)) rfl ?_
    clear hs a; intro a hs
    refine r_ok hs m (ok_bin rfl rfl rfl) rfl ?_
    clear hs a; intro a hs
    refine wpList_nil (n_then ?_)
    refine c_cond hs rfl (fun h15 => ?_) (fun h15 => ?_)
    rotate_left
    · have h15p := of_decide_eq_false h15
      refine wp_exit ?_
      refine ex_then (ex_then (ex_hit (?_)))
      refine n_then ?_
      refine c_reg ?_
      refine r_ok hs m (ok_assign rfl) rfl ?_
      clear hs a; intro a hs
      refine wpList_nil (n_then ?_)
      refine wp_ret ?_
      refine leave hs (vs := [.bool true]) rfl ⟨rfl, trivial⟩ ?_
      refine ⟨?_, m.sub .n⟩
      have q16 : (true : Bool) = decide (x_Routes = y_Routes ∧ x_Neighs = y_Neighs ∧ x_Fdbs = y_Fdbs) := by clear hs m; first | exact tabs_f0 (by assumption) | exact tabs_f1 (same_miss (by assumption) (by assumption) (by assumption)) | exact tabs_f2 (same_miss (by assumption) (by assumption) (by assumption)) | exact tabs_t (by assumption) hN (same_end (by omega) (by omega) ht)
      first | (rw [q16]; done) | (rw [q16]; rfl) | (rw [q16]; rfl) | (simp only [q16, pack]; done)
    have h15p := of_decide_eq_true h15
    refine wp_skip ?_
    refine n_then ?_
    refine c_seq ?_
    refine wp_block ?_
    refine c_draw m mo (by kernel_rfl) ?_
    refine q_ok hs (ok_fieldAddr (r := 2) rfl fd29_2 ty27 rfl) rfl ?_
    clear hs a; intro a hs
    refine q_ok hs (ok_load_sc rfl ty27 (bx_at r0) rfl) rfl ?_
    clear hs a; intro a hs
    refine q_ok hs (ok_move rfl) rfl ?_
    clear hs a; intro a hs
    obtain ⟨e17, he18⟩ := get_of_lt (l := x_Fdbs) (i := k) (by omega)
    refine elF (c := cFdb) (e := e17) hs m (x := (.tmp 59)) (ix := (.tmp 60)) rfl rfl sl27 ty56 hx_Fdbs (by omega) he18 fun p19 hp20 ok21 => ?_
    refine q_ok hs (ok21 _ _ _ _ _) rfl ?_
    clear hs a; intro a hs
    refine q_ok hs (ok_load_ag (vs := cFdb e17) rfl ty56 (fr_at hp20) rfl rfl) rfl ?_
    clear hs a; intro a hs
    refine q_ok hs (ok_fieldAddr (r := 2) rfl fd29_2 ty27 rfl) rfl ?_
    clear hs a; intro a hs
    refine q_ok hs (ok_load_sc rfl ty27 (bx_at r1) rfl) rfl ?_
    clear hs a; intro a hs
    refine q_ok hs (ok_move rfl) rfl ?_
    clear hs a; intro a hs
    obtain ⟨e22, he23⟩ := get_of_lt (l := y_Fdbs) (i := k) (by omega)
    refine elF (c := cFdb) (e := e22) hs m (x := (.tmp 64)) (ix := (.tmp 65)) rfl rfl sl27 ty56 hy_Fdbs (by omega) he23 fun p24 hp25 ok26 => ?_
    refine q_ok hs (ok26 _ _ _ _ _) rfl ?_
    clear hs a; intro a hs
    refine q_ok hs (ok_load_ag (vs := cFdb e22) rfl ty56 (fr_at hp25) rfl rfl) rfl ?_
    clear hs a; intro a hs
    refine q_ok hs (ok_nev (b := decide (e17 = e22)) rfl rfl eqT56 (fFdb _) (fFdb _) (iFdb e17 e22)) rfl ?_
    clear hs a; intro a hs
    refine wpQuiet_nil ?_; clear m w14; intro w27 m
    refine c_cond hs rfl (fun h28 => ?_) (fun h28 => ?_)
    · have h28p := h28; simp only [Bool.or_eq_true, Bool.or_eq_false_iff, Bool.and_eq_true, Bool.and_eq_false_iff, Bool.not_eq_true', Bool.not_eq_false', decide_eq_true_eq, decide_eq_false_iff_not, beq_iff_eq, bne_iff_ne, beq_eq_false_iff_ne, bne_eq_false_iff_eq, ne_eq, gt_iff_lt, ge_iff_le, Int.not_lt, Int.not_le] at h28p
      refine c_reg ?_
      refine r_ok hs m (ok_assign rfl) rfl ?_
      clear hs a; intro a hs
      refine wpList_nil (n_then ?_)
      refine wp_ret ?_
      refine ret_block (ret_then (ret_then (ret_block (ret_then (leave hs (vs := [.bool false]) rfl ⟨rfl, trivial⟩ ?_)))))
      refine ⟨?_, m.sub .n⟩
      have q29 : (false : Bool) = decide (x_Routes = y_Routes ∧ x_Neighs = y_Neighs ∧ x_Fdbs = y_Fdbs) := by clear hs m; first | exact tabs_f0 (by assumption) | exact tabs_f1 (same_miss (by assumption) (by assumption) (by assumption)) | exact tabs_f2 (same_miss (by assumption) (by assumption) (by assumption)) | exact tabs_t (by assumption) hN (same_end (by omega) (by omega) ht)
      first | (rw [q29]; done) | (rw [q29]; rfl) | (rw [q29]; rfl) | (simp only [q29, pack]; done)
    have h28p := h28; simp only [Bool.or_eq_true, Bool.or_eq_false_iff, Bool.and_eq_true, Bool.and_eq_false_iff, Bool.not_eq_true', Bool.not_eq_false', decide_eq_true_eq, decide_eq_false_iff_not, beq_iff_eq, bne_iff_ne, beq_eq_false_iff_ne, bne_eq_false_iff_eq, ne_eq, gt_iff_lt, ge_iff_le, Int.not_lt, Int.not_le] at h28p
    refine wp_skip ?_
    refine n_block (n_then ?_)
    refine c_last ?_
    refine r_ok hs m (ok_move rfl) rfl ?_
    clear hs a; intro a hs
    refine r_ok hs m (ok_add (r := (k : Int) + 1) rfl rfl (wrap_i64 (by omega) (by omega))) rfl ?_
    clear hs a; intro a hs
    refine r_ok hs m (ok_assign rfl) rfl ?_
    clear hs a; intro a hs
    refine wpList_nil (n_then ?_)
    exact ⟨x_Fdbs.length - (k + 1), by omega, k + 1, by omega, by exact same_next ht (by assumption) (by assumption) (by assumption), rfl, hs.to ⟨rfl, rfl, rfl, trivial⟩, m.sub (.c r0 (.c r0 .n))⟩
  have h13p := of_decide_eq_true h13
  refine wp_skip ?_
  refine n_then ?_
  refine c_seq ?_
  refine wp_block ?_
  refine c_draw m mo (by kernel_rfl) ?_
  refine q_ok hs (ok_fieldAddr (r := 1) rfl fd29_1 ty26 rfl) rfl ?_
  clear hs a; intro a hs
  refine q_ok hs (ok_load_sc rfl ty26 (bx_at r0) rfl) rfl ?_
  clear hs a; intro a hs
  refine q_ok hs (ok_move rfl) rfl ?_
  clear hs a; intro a hs
  obtain ⟨e30, he31⟩ := get_of_lt (l := x_Neighs) (i := k) (by omega)
  refine elF (c := cNeigh) (e := e30) hs m (x := (.tmp 41)) (ix := (.tmp 42)) rfl rfl sl26 ty54 hx_Neighs (by omega) he31 fun p32 hp33 ok34 => ?_
  refine q_ok hs (ok34 _ _ _ _ _) rfl ?_
  clear hs a; intro a hs
  refine q_ok hs (ok_load_ag (vs := cNeigh e30) rfl ty54 (fr_at hp33) rfl rfl) rfl ?_
  clear hs a; intro a hs
  refine q_ok hs (ok_fieldAddr (r := 1) rfl fd29_1 ty26 rfl) rfl ?_
  clear hs a; intro a hs
  refine q_ok hs (ok_load_sc rfl ty26 (bx_at r1) rfl) rfl ?_
  clear hs a; intro a hs
  refine q_ok hs (ok_move rfl) rfl ?_
  clear hs a; intro a hs
  obtain ⟨e35, he36⟩ := get_of_lt (l := y_Neighs) (i := k) (by omega)
  refine elF (c := cNeigh) (e := e35) hs m (x := (.tmp 46)) (ix := (.tmp 47)) rfl rfl sl26 ty54 hy_Neighs (by omega) he36 fun p37 hp38 ok39 => ?_
  refine q_ok hs (ok39 _ _ _ _ _) rfl ?_
  clear hs a; intro a hs
  refine q_ok hs (ok_load_ag (vs := cNeigh e35) rfl ty54 (fr_at hp38) rfl rfl) rfl ?_
  clear hs a; intro a hs
  refine q_ok hs (ok_nev (b := decide (e30 = e35)) rfl rfl eqT54 (fNeigh _) (fNeigh _) (iNeigh e30 e35)) rfl ?_
  clear hs a; intro a hs
  refine wpQuiet_nil ?_; clear m w12; intro w40 m
  refine c_cond hs rfl (fun h41 => ?_) (fun h41 => ?_)
  · have h41p := h41; simp only [Bool.or_eq_true, Bool.or_eq_false_iff, Bool.and_eq_true, Bool.and_eq_false_iff, Bool.not_eq_true', Bool.not_eq_false', decide_eq_true_eq, decide_eq_false_iff_not, beq_iff_eq, bne_iff_ne, beq_eq_false_iff_ne, bne_eq_false_iff_eq, ne_eq, gt_iff_lt, ge_iff_le, Int.not_lt, Int.not_le] at h41p
    refine c_reg ?_
    refine r_ok hs m (ok_assign rfl) rfl ?_
    clear hs a; intro a hs
    refine wpList_nil (n_then ?_)
    refine wp_ret ?_
    refine ret_block (ret_then (ret_then (ret_block (ret_then (leave hs (vs := [.bool false]) rfl ⟨rfl, trivial⟩ ?_)))))
    refine ⟨?_, m.sub .n⟩
    have q42 : (false : Bool) = decide (x_Routes = y_Routes ∧ x_Neighs = y_Neighs ∧ x_Fdbs = y_Fdbs) := by clear hs m; first | exact tabs_f0 (by assumption) | exact tabs_f1 (same_miss (by assumption) (by assumption) (by assumption)) | exact tabs_f2 (same_miss (by assumption) (by assumption) (by assumption)) | exact tabs_t (by assumption) hN (same_end (by omega) (by omega) ht)
    first | (rw [q42]; done) | (rw [q42]; rfl) | (rw [q42]; rfl) | (simp only [q42, pack]; done)
  have h41p := h41; simp only [Bool.or_eq_true, Bool.or_eq_false_iff, Bool.and_eq_true, Bool.and_eq_false_iff, Bool.not_eq_true', Bool.not_eq_false', decide_eq_true_eq, decide_eq_false_iff_not, beq_iff_eq, bne_iff_ne, beq_eq_false_iff_ne, bne_eq_false_iff_eq, ne_eq, gt_iff_lt, ge_iff_le, Int.not_lt, Int.not_le] at h41p
  refine wp_skip ?_
  refine n_block (n_then ?_)
  refine c_last ?_
  refine r_ok hs m (ok_move rfl) rfl ?_
  clear hs a; intro a hs
  refine r_ok hs m (ok_add (r := (k : Int) + 1) rfl rfl (wrap_i64 (by omega) (by omega))) rfl ?_
  clear hs a; intro a hs
  refine r_ok hs m (ok_assign rfl) rfl ?_
  clear hs a; intro a hs
  refine wpList_nil (n_then ?_)
  exact ⟨x_Neighs.length - (k + 1), by omega, k + 1, by omega, by exact same_next ht (by assumption) (by assumption) (by assumption), rfl, hs.to ⟨rfl, rfl, rfl, trivial⟩, m.sub (.c r0 (.c r0 .n))⟩
end Go.Proofs.YtnbpodjbemfpbaaGreat.Fw
