/-
  Walks: printed by wip/tool/agent.py.
-/
import Derived.Test.YtnbpodjbemfpbaaGreatWi
import Derived.KernelRfl
set_option linter.all false
set_option maxHeartbeats 4000000
set_option maxRecDepth 100000
namespace Go.Proofs.YtnbpodjbemfpbaaGreat.Fw
open Go
theorem sameRoutes_c (vx : SH) (x : List TRoute) (vy : SH) (y : List TRoute) (w0 : World) (hx : RdS (hh w0) 4 vx.v (x.map cRoute)) (hy : RdS (hh w0) 4 vy.v (y.map cRoute)) : Pure Tryz.prog 54 [vx.v, vy.v] (.bool (decide (x = y))) w0 := by
  have lvx := hx.bd
  have lvy := hy.bd
  refine enter (n := 26) Tryz.func54 rfl rfl rfl fun a (hs : St 26 [(0, vx.v), (1, vy.v)] a) => ?_
  have m := Hp.start w0
  refine c_reg ?_
  refine r_ok hs m (ok_assign rfl) rfl ?_
  clear hs a; intro a hs
  refine wpList_nil (n_then ?_)
  refine c_seq ?_
  refine c_reg ?_
  refine r_ok hs m (ok_move rfl) rfl ?_
  clear hs a; intro a hs
  refine r_ok hs m (ok_len (r := (x.length : Int)) m rfl sl25 (rc_fr hx) (by simp)) rfl ?_
  clear hs a; intro a hs
  refine r_ok hs m (ok_move rfl) rfl ?_
  clear hs a; intro a hs
  refine r_ok hs m (ok_len (r := (y.length : Int)) m rfl sl25 (rc_fr hy) (by simp)) rfl ?_
  clear hs a; intro a hs
  refine r_ok hs m (ok_bin rfl rfl rfl) rfl ?_
  clear hs a; intro a hs
  refine wpList_nil (n_then ?_)
  refine c_cond hs rfl (fun h1 => ?_) (fun h1 => ?_)
  · have h1p := ne_of_bne h1
    refine c_reg ?_
    refine r_ok hs m (ok_assign rfl) rfl ?_
    clear hs a; intro a hs
    refine wpList_nil (n_then ?_)
    refine wp_ret ?_
    refine ret_then (leave hs (vs := [.bool false]) rfl ⟨rfl, trivial⟩ ?_)
    refine ⟨?_, m.sub .n⟩
    have q2 : (false : Bool) = decide (x = y) := by clear hs m; first | exact same_len (by assumption) | exact same_miss (by assumption) (by assumption) (by assumption) | exact same_end (by assumption) (by omega) ht
    first | (rw [q2]; done) | (rw [q2]; rfl) | (rw [q2]; rfl) | (simp only [q2, pack]; done)
  have h1p := eq_of_bne_false h1
  refine wp_skip ?_
  refine n_then ?_
  refine c_seq ?_
  refine c_reg ?_
  refine r_ok hs m (ok_assign rfl) rfl ?_
  clear hs a; intro a hs
  refine wpList_nil (n_then ?_)
  refine wp_block ?_
  refine wp_loop_ghost (fun gn a w => ∃ k : Nat, (k ≤ x.length) ∧ (x.take k = y.take k) ∧ gn = x.length - k ∧ St 26 [(0, vx.v), (1, vy.v), (5, .int .i64 (k : Int))] a ∧ Hp w0 (hh w0) [] w) (x.length - 0) ⟨0, by omega, by simp, rfl, hs.to ⟨rfl, rfl, rfl, trivial⟩, m.sub .n⟩ ?_
  clear hs m a
  rintro gn a w3 ⟨k, hk, ht, rfl, hs, m⟩
  refine c_seq ?_
  refine c_reg ?_
  refine r_ok hs m (ok_move rfl) rfl ?_
  clear hs a; intro a hs
  refine r_ok hs m (ok_move rfl) rfl ?_
  clear hs a; intro a hs
  refine r_ok hs m (ok_len (r := (x.length : Int)) m rfl sl25 (rc_fr hx) (by simp)) rfl ?_
  clear hs a; intro a hs
  refine r_ok hs m (ok_bin rfl rfl rfl) rfl ?_
  clear hs a; intro a hs
  refine wpList_nil (n_then ?_)
  refine c_cond hs rfl (fun h4 => ?_) (fun h4 => ?_)
  rotate_left
  · have h4p := of_decide_eq_false h4
    refine wp_exit ?_
    refine ex_then (ex_then (ex_hit (?_)))
    refine n_then ?_
    refine c_reg ?_
    refine r_ok hs m (ok_assign rfl) rfl ?_
    clear hs a; intro a hs
    refine wpList_nil (n_then ?_)
    refine wp_ret ?_
    refine leave hs (vs := [.bool true]) rfl ⟨rfl, trivial⟩ ?_
    refine ⟨?_, m.sub .n⟩
    have q5 : (true : Bool) = decide (x = y) := by clear hs m; first | exact same_len (by assumption) | exact same_miss (by assumption) (by assumption) (by assumption) | exact same_end (by assumption) (by omega) ht
    first | (rw [q5]; done) | (rw [q5]; rfl) | (rw [q5]; rfl) | (simp only [q5, pack]; done)
  have h4p := of_decide_eq_true h4
  refine wp_skip ?_
  refine n_then ?_
  refine c_seq ?_
  refine wp_block ?_
  refine c_draw m mo (by kernel_rfl) ?_
  refine q_ok hs (ok_move rfl) rfl ?_
  clear hs a; intro a hs
  refine q_ok hs (ok_move rfl) rfl ?_
  clear hs a; intro a hs
  obtain ⟨e6, he7⟩ := get_of_lt (l := x) (i := k) (by omega)
  refine elF (c := cRoute) (e := e6) hs m (x := (.tmp 17)) (ix := (.tmp 18)) rfl rfl sl25 ty51 hx (by omega) he7 fun p8 hp9 ok10 => ?_
  refine q_ok hs (ok10 _ _ _ _ _) rfl ?_
  clear hs a; intro a hs
  refine q_ok hs (ok_load_ag (vs := cRoute e6) rfl ty51 (fr_at hp9) rfl rfl) rfl ?_
  clear hs a; intro a hs
  refine q_ok hs (ok_move rfl) rfl ?_
  clear hs a; intro a hs
  refine q_ok hs (ok_move rfl) rfl ?_
  clear hs a; intro a hs
  obtain ⟨e11, he12⟩ := get_of_lt (l := y) (i := k) (by omega)
  refine elF (c := cRoute) (e := e11) hs m (x := (.tmp 21)) (ix := (.tmp 22)) rfl rfl sl25 ty51 hy (by omega) he12 fun p13 hp14 ok15 => ?_
  refine q_ok hs (ok15 _ _ _ _ _) rfl ?_
  clear hs a; intro a hs
  refine q_ok hs (ok_load_ag (vs := cRoute e11) rfl ty51 (fr_at hp14) rfl rfl) rfl ?_
  clear hs a; intro a hs
  refine q_ok hs (ok_nev (b := decide (e6 = e11)) rfl rfl eqT51 (fRoute _) (fRoute _) (iRoute e6 e11)) rfl ?_
  clear hs a; intro a hs
  refine wpQuiet_nil ?_; clear m w3; intro w16 m
  refine c_cond hs rfl (fun h17 => ?_) (fun h17 => ?_)
  · have h17p := h17; simp only [Bool.or_eq_true, Bool.or_eq_false_iff, Bool.and_eq_true, Bool.and_eq_false_iff, Bool.not_eq_true', Bool.not_eq_false', decide_eq_true_eq, decide_eq_false_iff_not, beq_iff_eq, bne_iff_ne, beq_eq_false_iff_ne, bne_eq_false_iff_eq, ne_eq, gt_iff_lt, ge_iff_le, Int.not_lt, Int.not_le] at h17p
    refine c_reg ?_
    refine r_ok hs m (ok_assign rfl) rfl ?_
    clear hs a; intro a hs
    refine wpList_nil (n_then ?_)
    refine wp_ret ?_
    refine ret_block (ret_then (ret_then (ret_block (ret_then (leave hs (vs := [.bool false]) rfl ⟨rfl, trivial⟩ ?_)))))
    refine ⟨?_, m.sub .n⟩
    have q18 : (false : Bool) = decide (x = y) := by clear hs m; first | exact same_len (by assumption) | exact same_miss (by assumption) (by assumption) (by assumption) | exact same_end (by assumption) (by omega) ht
    first | (rw [q18]; done) | (rw [q18]; rfl) | (rw [q18]; rfl) | (simp only [q18, pack]; done)
  have h17p := h17; simp only [Bool.or_eq_true, Bool.or_eq_false_iff, Bool.and_eq_true, Bool.and_eq_false_iff, Bool.not_eq_true', Bool.not_eq_false', decide_eq_true_eq, decide_eq_false_iff_not, beq_iff_eq, bne_iff_ne, beq_eq_false_iff_ne, bne_eq_false_iff_eq, ne_eq, gt_iff_lt, ge_iff_le, Int.not_lt, Int.not_le] at h17p
  refine wp_skip ?_
  refine n_block (n_then ?_)
  refine c_last ?_
  refine r_ok hs m (ok_move rfl) rfl ?_
  clear hs a; intro a hs
  refine r_ok hs m (ok_add (r := (k : Int) + 1) rfl rfl (wrap_i64 (by omega) (by omega))) rfl ?_
  clear hs a; intro a hs
  refine r_ok hs m (ok_assign rfl) rfl ?_
  clear hs a; intro a hs
  refine wpList_nil (n_then ?_)
  exact ⟨x.length - (k + 1), by omega, k + 1, by omega, by exact same_next ht (by assumption) (by assumption) (by assumption), rfl, hs.to ⟨rfl, rfl, rfl, trivial⟩, m.sub .n⟩
theorem sameOps_c (vx : SH) (x : List TOp) (vy : SH) (y : List TOp) (w0 : World) (hx : RdS (hh w0) 19 vx.v (x.map cOp)) (hy : RdS (hh w0) 19 vy.v (y.map cOp)) : Pure Tryz.prog 20 [vx.v, vy.v] (.bool (decide (x = y))) w0 := by
  have lvx := hx.bd
  have lvy := hy.bd
  refine enter (n := 26) Tryz.func20 rfl rfl rfl fun a (hs : St 26 [(0, vx.v), (1, vy.v)] a) => ?_
  have m := Hp.start w0
  refine c_reg ?_
  refine r_ok hs m (ok_assign rfl) rfl ?_
  clear hs a; intro a hs
  refine wpList_nil (n_then ?_)
  refine c_seq ?_
  refine c_reg ?_
  refine r_ok hs m (ok_move rfl) rfl ?_
  clear hs a; intro a hs
  refine r_ok hs m (ok_len (r := (x.length : Int)) m rfl sl35 (rc_fr hx) (by simp)) rfl ?_
  clear hs a; intro a hs
  refine r_ok hs m (ok_move rfl) rfl ?_
  clear hs a; intro a hs
  refine r_ok hs m (ok_len (r := (y.length : Int)) m rfl sl35 (rc_fr hy) (by simp)) rfl ?_
  clear hs a; intro a hs
  refine r_ok hs m (ok_bin rfl rfl rfl) rfl ?_
  clear hs a; intro a hs
  refine wpList_nil (n_then ?_)
  refine c_cond hs rfl (fun h1 => ?_) (fun h1 => ?_)
  · have h1p := ne_of_bne h1
    refine c_reg ?_
    refine r_ok hs m (ok_assign rfl) rfl ?_
    clear hs a; intro a hs
    refine wpList_nil (n_then ?_)
    refine wp_ret ?_
    refine ret_then (leave hs (vs := [.bool false]) rfl ⟨rfl, trivial⟩ ?_)
    refine ⟨?_, m.sub .n⟩
    have q2 : (false : Bool) = decide (x = y) := by clear hs m; first | exact same_len (by assumption) | exact same_miss (by assumption) (by assumption) (by assumption) | exact same_end (by assumption) (by omega) ht
    first | (rw [q2]; done) | (rw [q2]; rfl) | (rw [q2]; rfl) | (simp only [q2, pack]; done)
  have h1p := eq_of_bne_false h1
  refine wp_skip ?_
  refine n_then ?_
  refine c_seq ?_
  refine c_reg ?_
  refine r_ok hs m (ok_assign rfl) rfl ?_
  clear hs a; intro a hs
  refine wpList_nil (n_then ?_)
  refine wp_block ?_
  refine wp_loop_ghost (fun gn a w => ∃ k : Nat, (k ≤ x.length) ∧ (x.take k = y.take k) ∧ gn = x.length - k ∧ St 26 [(0, vx.v), (1, vy.v), (5, .int .i64 (k : Int))] a ∧ Hp w0 (hh w0) [] w) (x.length - 0) ⟨0, by omega, by simp, rfl, hs.to ⟨rfl, rfl, rfl, trivial⟩, m.sub .n⟩ ?_
  clear hs m a
  rintro gn a w3 ⟨k, hk, ht, rfl, hs, m⟩
  refine c_seq ?_
  refine c_reg ?_
  refine r_ok hs m (ok_move rfl) rfl ?_
  clear hs a; intro a hs
  refine r_ok hs m (ok_move rfl) rfl ?_
  clear hs a; intro a hs
  refine r_ok hs m (ok_len (r := (x.length : Int)) m rfl sl35 (rc_fr hx) (by simp)) rfl ?_
  clear hs a; intro a hs
  refine r_ok hs m (ok_bin rfl rfl rfl) rfl ?_
  clear hs a; intro a hs
  refine wpList_nil (n_then ?_)
  refine c_cond hs rfl (fun h4 => ?_) (fun h4 => ?_)
  rotate_left
  · have h4p := of_decide_eq_false h4
    refine wp_exit ?_
    refine ex_then (ex_then (ex_hit (?_)))
    refine n_then ?_
    refine c_reg ?_
    refine r_ok hs m (ok_assign rfl) rfl ?_
    clear hs a; intro a hs
    refine wpList_nil (n_then ?_)
    refine wp_ret ?_
    refine leave hs (vs := [.bool true]) rfl ⟨rfl, trivial⟩ ?_
    refine ⟨?_, m.sub .n⟩
    have q5 : (true : Bool) = decide (x = y) := by clear hs m; first | exact same_len (by assumption) | exact same_miss (by assumption) (by assumption) (by assumption) | exact same_end (by assumption) (by omega) ht
    first | (rw [q5]; done) | (rw [q5]; rfl) | (rw [q5]; rfl) | (simp only [q5, pack]; done)
  have h4p := of_decide_eq_true h4
  refine wp_skip ?_
  refine n_then ?_
  refine c_seq ?_
  refine wp_block ?_
  refine c_draw m mo (by kernel_rfl) ?_
  refine q_ok hs (ok_move rfl) rfl ?_
  clear hs a; intro a hs
  refine q_ok hs (ok_move rfl) rfl ?_
  clear hs a; intro a hs
  obtain ⟨e6, he7⟩ := get_of_lt (l := x) (i := k) (by omega)
  refine elF (c := cOp) (e := e6) hs m (x := (.tmp 17)) (ix := (.tmp 18)) rfl rfl sl35 ty58 hx (by omega) he7 fun p8 hp9 ok10 => ?_
  refine q_ok hs (ok10 _ _ _ _ _) rfl ?_
  clear hs a; intro a hs
  refine q_ok hs (ok_load_ag (vs := cOp e6) rfl ty58 (fr_at hp9) rfl rfl) rfl ?_
  clear hs a; intro a hs
  refine q_ok hs (ok_move rfl) rfl ?_
  clear hs a; intro a hs
  refine q_ok hs (ok_move rfl) rfl ?_
  clear hs a; intro a hs
  obtain ⟨e11, he12⟩ := get_of_lt (l := y) (i := k) (by omega)
  refine elF (c := cOp) (e := e11) hs m (x := (.tmp 21)) (ix := (.tmp 22)) rfl rfl sl35 ty58 hy (by omega) he12 fun p13 hp14 ok15 => ?_
  refine q_ok hs (ok15 _ _ _ _ _) rfl ?_
  clear hs a; intro a hs
  refine q_ok hs (ok_load_ag (vs := cOp e11) rfl ty58 (fr_at hp14) rfl rfl) rfl ?_
  clear hs a; intro a hs
  refine q_ok hs (ok_nev (b := decide (e6 = e11)) rfl rfl eqT58 (fOp _) (fOp _) (iOp e6 e11)) rfl ?_
  clear hs a; intro a hs
  refine wpQuiet_nil ?_; clear m w3; intro w16 m
  refine c_cond hs rfl (fun h17 => ?_) (fun h17 => ?_)
  · have h17p := h17; simp only [Bool.or_eq_true, Bool.or_eq_false_iff, Bool.and_eq_true, Bool.and_eq_false_iff, Bool.not_eq_true', Bool.not_eq_false', decide_eq_true_eq, decide_eq_false_iff_not, beq_iff_eq, bne_iff_ne, beq_eq_false_iff_ne, bne_eq_false_iff_eq, ne_eq, gt_iff_lt, ge_iff_le, Int.not_lt, Int.not_le] at h17p
    refine c_reg ?_
    refine r_ok hs m (ok_assign rfl) rfl ?_
    clear hs a; intro a hs
    refine wpList_nil (n_then ?_)
    refine wp_ret ?_
    refine ret_block (ret_then (ret_then (ret_block (ret_then (leave hs (vs := [.bool false]) rfl ⟨rfl, trivial⟩ ?_)))))
    refine ⟨?_, m.sub .n⟩
    have q18 : (false : Bool) = decide (x = y) := by clear hs m; first | exact same_len (by assumption) | exact same_miss (by assumption) (by assumption) (by assumption) | exact same_end (by assumption) (by omega) ht
    first | (rw [q18]; done) | (rw [q18]; rfl) | (rw [q18]; rfl) | (simp only [q18, pack]; done)
  have h17p := h17; simp only [Bool.or_eq_true, Bool.or_eq_false_iff, Bool.and_eq_true, Bool.and_eq_false_iff, Bool.not_eq_true', Bool.not_eq_false', decide_eq_true_eq, decide_eq_false_iff_not, beq_iff_eq, bne_iff_ne, beq_eq_false_iff_ne, bne_eq_false_iff_eq, ne_eq, gt_iff_lt, ge_iff_le, Int.not_lt, Int.not_le] at h17p
  refine wp_skip ?_
  refine n_block (n_then ?_)
  refine c_last ?_
  refine r_ok hs m (ok_move rfl) rfl ?_
  clear hs a; intro a hs
  refine r_ok hs m (ok_add (r := (k : Int) + 1) rfl rfl (wrap_i64 (by omega) (by omega))) rfl ?_
  clear hs a; intro a hs
  refine r_ok hs m (ok_assign rfl) rfl ?_
  clear hs a; intro a hs
  refine wpList_nil (n_then ?_)
  exact ⟨x.length - (k + 1), by omega, k + 1, by omega, by exact same_next ht (by assumption) (by assumption) (by assumption), rfl, hs.to ⟨rfl, rfl, rfl, trivial⟩, m.sub .n⟩
theorem sameTables_c (vx_Routes : SH) (x_Routes : List TRoute) (vx_Neighs : SH) (x_Neighs : List TNeigh) (vx_Fdbs : SH) (x_Fdbs : List TFdb) (vy_Routes : SH) (y_Routes : List TRoute) (vy_Neighs : SH) (y_Neighs : List TNeigh) (vy_Fdbs : SH) (y_Fdbs : List TFdb) (w0 : World) (hx_Routes : RdS (hh w0) 4 vx_Routes.v (x_Routes.map cRoute)) (hx_Neighs : RdS (hh w0) 7 vx_Neighs.v (x_Neighs.map cNeigh)) (hx_Fdbs : RdS (hh w0) 7 vx_Fdbs.v (x_Fdbs.map cFdb)) (hy_Routes : RdS (hh w0) 4 vy_Routes.v (y_Routes.map cRoute)) (hy_Neighs : RdS (hh w0) 7 vy_Neighs.v (y_Neighs.map cNeigh)) (hy_Fdbs : RdS (hh w0) 7 vy_Fdbs.v (y_Fdbs.map cFdb)) : Pure Tryz.prog 14 [.agg ⟨[vx_Routes.v, vx_Neighs.v, vx_Fdbs.v]⟩, .agg ⟨[vy_Routes.v, vy_Neighs.v, vy_Fdbs.v]⟩] (.bool (decide (x_Routes = y_Routes ∧ x_Neighs = y_Neighs ∧ x_Fdbs = y_Fdbs))) w0 := by
  have lvx_Routes := hx_Routes.bd
  have lvx_Neighs := hx_Neighs.bd
  have lvx_Fdbs := hx_Fdbs.bd
  have lvy_Routes := hy_Routes.bd
  have lvy_Neighs := hy_Neighs.bd
  have lvy_Fdbs := hy_Fdbs.bd
  refine enter (n := 69) Tryz.func14 rfl rfl rfl fun a (hs : St 69 [(0, .agg ⟨[vx_Routes.v, vx_Neighs.v, vx_Fdbs.v]⟩), (1, .agg ⟨[vy_Routes.v, vy_Neighs.v, vy_Fdbs.v]⟩)] a) => ?_
  have m := Hp.start w0
  refine c_reg ?_
  refine r_box (cs := [vx_Routes.v, vx_Neighs.v, vx_Fdbs.v]) hs m rfl rfl rfl ?_
  clear m hs a; intro p1 w2 m a hs
  refine r_box (cs := [vy_Routes.v, vy_Neighs.v, vy_Fdbs.v]) hs m rfl rfl rfl ?_
  clear m hs a w2; intro p3 w4 m a hs
  refine r_ok hs m (ok_assign rfl) rfl ?_
  clear hs a; intro a hs
  refine wpList_nil (n_then ?_)
  refine c_reg ?_
  refine r_ok hs m (ok_fieldAddr (r := 0) rfl fd29_0 ty25 rfl) rfl ?_
  clear hs a; intro a hs
  refine r_ok hs m (ok_load_sc rfl ty25 (bx_at r1) rfl) rfl ?_
  clear hs a; intro a hs
  refine r_ok hs m (ok_fieldAddr (r := 0) rfl fd29_0 ty25 rfl) rfl ?_
  clear hs a; intro a hs
  refine r_ok hs m (ok_load_sc rfl ty25 (bx_at r0) rfl) rfl ?_
  clear hs a; intro a hs
  refine r_callP hs m rfl rfl ca54 rfl (sameRoutes_c vx_Routes x_Routes vy_Routes y_Routes _ (m.rd hx_Routes) (m.rd hy_Routes) ) rfl ?_
  clear m hs a w4; intro w5 m a hs
  refine r_ok hs m (ok_assign rfl) rfl ?_
  clear hs a; intro a hs
  refine wpList_nil (n_then ?_)
  refine c_seq ?_
  refine c_reg ?_
  refine r_ok hs m (ok_move rfl) rfl ?_
  clear hs a; intro a hs
  refine r_ok hs m (ok_not rfl) rfl ?_
  clear hs a; intro a hs
  refine r_ok hs m (ok_move rfl) rfl ?_
  clear hs a; intro a hs
  refine l_cut (.c (.c (.c (.c (.c (.c (.c (.c (.n))))))))) (fun a w => St 69 [(2, .pointer (some (padd p1 0))), (3, .pointer (some (padd p3 0))), (23, .bool ((!(decide (x_Routes = y_Routes))) || ((x_Neighs.length : Int) != (y_Neighs.length : Int))))] a ∧ Hp w0 (hh w0) [Bx p3 29 [vy_Routes.v, vy_Neighs.v, vy_Fdbs.v], Bx p1 29 [vx_Routes.v, vx_Neighs.v, vx_Fdbs.v]] w) ?_ ?_
  · rcases Bool.eq_false_or_eq_true (!(decide (x_Routes = y_Routes))) with hb6 | hb6
    · have hb6p := hb6; simp only [Bool.or_eq_true, Bool.or_eq_false_iff, Bool.and_eq_true, Bool.and_eq_false_iff, Bool.not_eq_true', Bool.not_eq_false', decide_eq_true_eq, decide_eq_false_iff_not, beq_iff_eq, bne_iff_ne, beq_eq_false_iff_ne, bne_eq_false_iff_eq, ne_eq, gt_iff_lt, ge_iff_le, Int.not_lt, Int.not_le] at hb6p
      refine g_out hs rfl rfl hb6 rfl ?_
      clear hs a; intro a hs
      refine g_out hs rfl rfl hb6 rfl ?_
      clear hs a; intro a hs
      refine g_out hs rfl rfl hb6 rfl ?_
      clear hs a; intro a hs
      refine g_out hs rfl rfl hb6 rfl ?_
      clear hs a; intro a hs
      refine g_out hs rfl rfl hb6 rfl ?_
      clear hs a; intro a hs
      refine g_out hs rfl rfl hb6 rfl ?_
      clear hs a; intro a hs
      refine g_out hs rfl rfl hb6 rfl ?_
      clear hs a; intro a hs
      refine r_ok hs m (ok_pick (r := .bool ((!(decide (x_Routes = y_Routes))) || ((x_Neighs.length : Int) != (y_Neighs.length : Int)))) rfl rfl rfl (by rw [hb6]; rfl)) rfl ?_
      clear hs a; intro a hs
      exact wpList_nil (n_then ⟨hs.to ⟨rfl, rfl, rfl, trivial⟩, m⟩)
    · have hb6p := hb6; simp only [Bool.or_eq_true, Bool.or_eq_false_iff, Bool.and_eq_true, Bool.and_eq_false_iff, Bool.not_eq_true', Bool.not_eq_false', decide_eq_true_eq, decide_eq_false_iff_not, beq_iff_eq, bne_iff_ne, beq_eq_false_iff_ne, bne_eq_false_iff_eq, ne_eq, gt_iff_lt, ge_iff_le, Int.not_lt, Int.not_le] at hb6p
      refine r_okg hs rfl rfl hb6 m (ok_fieldAddr (r := 1) rfl fd29_1 ty26 rfl) rfl ?_
      clear hs a; intro a hs
      refine r_okg hs rfl rfl hb6 m (ok_load_sc rfl ty26 (bx_at r1) rfl) rfl ?_
      clear hs a; intro a hs
      refine r_okg hs rfl rfl hb6 m (ok_len (r := (x_Neighs.length : Int)) m rfl sl26 (rc_fr hx_Neighs) (by simp)) rfl ?_
      clear hs a; intro a hs
      refine r_okg hs rfl rfl hb6 m (ok_fieldAddr (r := 1) rfl fd29_1 ty26 rfl) rfl ?_
      clear hs a; intro a hs
      refine r_okg hs rfl rfl hb6 m (ok_load_sc rfl ty26 (bx_at r0) rfl) rfl ?_
      clear hs a; intro a hs
      refine r_okg hs rfl rfl hb6 m (ok_len (r := (y_Neighs.length : Int)) m rfl sl26 (rc_fr hy_Neighs) (by simp)) rfl ?_
      clear hs a; intro a hs
      refine r_okg hs rfl rfl hb6 m (ok_bin rfl rfl rfl) rfl ?_
      clear hs a; intro a hs
      refine r_ok hs m (ok_pick (r := .bool ((!(decide (x_Routes = y_Routes))) || ((x_Neighs.length : Int) != (y_Neighs.length : Int)))) rfl rfl rfl (by rw [hb6]; rfl)) rfl ?_
      clear hs a; intro a hs
      exact wpList_nil (n_then ⟨hs.to ⟨rfl, rfl, rfl, trivial⟩, m⟩)
  clear hs m a w5; rintro a w7 ⟨hs, m⟩
  refine r_ok hs m (ok_move rfl) rfl ?_
  clear hs a; intro a hs
  refine l_cut (.c (.c (.c (.c (.c (.c (.c (.c (.n))))))))) (fun a w => St 69 [(2, .pointer (some (padd p1 0))), (3, .pointer (some (padd p3 0))), (32, .bool (((!(decide (x_Routes = y_Routes))) || ((x_Neighs.length : Int) != (y_Neighs.length : Int))) || ((x_Fdbs.length : Int) != (y_Fdbs.length : Int))))] a ∧ Hp w0 (hh w0) [Bx p3 29 [vy_Routes.v, vy_Neighs.v, vy_Fdbs.v], Bx p1 29 [vx_Routes.v, vx_Neighs.v, vx_Fdbs.v]] w) ?_ ?_
  · rcases Bool.eq_false_or_eq_true ((!(decide (x_Routes = y_Routes))) || ((x_Neighs.length : Int) != (y_Neighs.length : Int))) with hb8 | hb8
    · have hb8p := hb8; simp only [Bool.or_eq_true, Bool.or_eq_false_iff, Bool.and_eq_true, Bool.and_eq_false_iff, Bool.not_eq_true', Bool.not_eq_false', decide_eq_true_eq, decide_eq_false_iff_not, beq_iff_eq, bne_iff_ne, beq_eq_false_iff_ne, bne_eq_false_iff_eq, ne_eq, gt_iff_lt, ge_iff_le, Int.not_lt, Int.not_le] at hb8p
      refine g_out hs rfl rfl hb8 rfl ?_
      clear hs a; intro a hs
      refine g_out hs rfl rfl hb8 rfl ?_
      clear hs a; intro a hs
      refine g_out hs rfl rfl hb8 rfl ?_
      clear hs a; intro a hs
      refine g_out hs rfl rfl hb8 rfl ?_
      clear hs a; intro a hs
      refine g_out hs rfl rfl hb8 rfl ?_
      clear hs a; intro a hs
      refine g_out hs rfl rfl hb8 rfl ?_
      clear hs a; intro a hs
      refine g_out hs rfl rfl hb8 rfl ?_
      clear hs a; intro a hs
      refine r_ok hs m (ok_pick (r := .bool (((!(decide (x_Routes = y_Routes))) || ((x_Neighs.length : Int) != (y_Neighs.length : Int))) || ((x_Fdbs.length : Int) != (y_Fdbs.length : Int)))) rfl rfl rfl (by rw [hb8]; rfl)) rfl ?_
      clear hs a; intro a hs
      exact wpList_nil (n_then ⟨hs.to ⟨rfl, rfl, rfl, trivial⟩, m⟩)
    · have hb8p := hb8; simp only [Bool.or_eq_true, Bool.or_eq_false_iff, Bool.and_eq_true, Bool.and_eq_false_iff, Bool.not_eq_true', Bool.not_eq_false', decide_eq_true_eq, decide_eq_false_iff_not, beq_iff_eq, bne_iff_ne, beq_eq_false_iff_ne, bne_eq_false_iff_eq, ne_eq, gt_iff_lt, ge_iff_le, Int.not_lt, Int.not_le] at hb8p
      refine r_okg hs rfl rfl hb8 m (ok_fieldAddr (r := 2) rfl fd29_2 ty27 rfl) rfl ?_
      clear hs a; intro a hs
      refine r_okg hs rfl rfl hb8 m (ok_load_sc rfl ty27 (bx_at r1) rfl) rfl ?_
      clear hs a; intro a hs
      refine r_okg hs rfl rfl hb8 m (ok_len (r := (x_Fdbs.length : Int)) m rfl sl27 (rc_fr hx_Fdbs) (by simp)) rfl ?_
      clear hs a; intro a hs
      refine r_okg hs rfl rfl hb8 m (ok_fieldAddr (r := 2) rfl fd29_2 ty27 rfl) rfl ?_
      clear hs a; intro a hs
      refine r_okg hs rfl rfl hb8 m (ok_load_sc rfl ty27 (bx_at r0) rfl) rfl ?_
      clear hs a; intro a hs
      refine r_okg hs rfl rfl hb8 m (ok_len (r := (y_Fdbs.length : Int)) m rfl sl27 (rc_fr hy_Fdbs) (by simp)) rfl ?_
      clear hs a; intro a hs
      refine r_okg hs rfl rfl hb8 m (ok_bin rfl rfl rfl) rfl ?_
      clear hs a; intro a hs
      refine r_ok hs m (ok_pick (r := .bool (((!(decide (x_Routes = y_Routes))) || ((x_Neighs.length : Int) != (y_Neighs.length : Int))) || ((x_Fdbs.length : Int) != (y_Fdbs.length : Int)))) rfl rfl rfl (by rw [hb8]; rfl)) rfl ?_
      clear hs a; intro a hs
      exact wpList_nil (n_then ⟨hs.to ⟨rfl, rfl, rfl, trivial⟩, m⟩)
  clear hs m a w7; rintro a w9 ⟨hs, m⟩
  refine wpList_nil (n_then ?_)
  refine c_cond hs rfl (fun h10 => ?_) (fun h10 => ?_)
  · have h10p := h10; simp only [Bool.or_eq_true, Bool.or_eq_false_iff, Bool.and_eq_true, Bool.and_eq_false_iff, Bool.not_eq_true', Bool.not_eq_false', decide_eq_true_eq, decide_eq_false_iff_not, beq_iff_eq, bne_iff_ne, beq_eq_false_iff_ne, bne_eq_false_iff_eq, ne_eq, gt_iff_lt, ge_iff_le, Int.not_lt, Int.not_le] at h10p
    refine c_reg ?_
    refine r_ok hs m (ok_assign rfl) rfl ?_
    clear hs a; intro a hs
    refine wpList_nil (n_then ?_)
    refine wp_ret ?_
    refine ret_then (leave hs (vs := [.bool false]) rfl ⟨rfl, trivial⟩ ?_)
    refine ⟨?_, m.sub .n⟩
    have q11 : (false : Bool) = decide (x_Routes = y_Routes ∧ x_Neighs = y_Neighs ∧ x_Fdbs = y_Fdbs) := by clear hs m; first | exact tabs_f0 (by assumption) | exact tabs_f1 (same_miss (by assumption) (by assumption) (by assumption)) | exact tabs_f2 (same_miss (by assumption) (by assumption) (by assumption)) | exact tabs_t (by assumption) hN (same_end (by omega) (by omega) ht)
    first | (rw [q11]; done) | (rw [q11]; rfl) | (rw [q11]; rfl) | (simp only [q11, pack]; done)
  have h10p := h10; simp only [Bool.or_eq_true, Bool.or_eq_false_iff, Bool.and_eq_true, Bool.and_eq_false_iff, Bool.not_eq_true', Bool.not_eq_false', decide_eq_true_eq, decide_eq_false_iff_not, beq_iff_eq, bne_iff_ne, beq_eq_false_iff_ne, bne_eq_false_iff_eq, ne_eq, gt_iff_lt, ge_iff_le, Int.not_lt, Int.not_le] at h10p
  refine wp_skip ?_
  refine n_then ?_
  refine c_seq ?_
  refine c_reg ?_
  refine r_ok hs m (ok_assign rfl) rfl ?_
  clear hs a; intro a hs
  refine wpList_nil (n_then ?_)
  refine wp_block ?_
  refine wp_loop_ghost (fun gn a w => ∃ k : Nat, (k ≤ x_Neighs.length) ∧ (x_Neighs.take k = y_Neighs.take k) ∧ gn = x_Neighs.length - k ∧ St 69 [(2, .pointer (some (padd p1 0))), (3, .pointer (some (padd p3 0))), (6, .int .i64 (k : Int))] a ∧ Hp w0 (hh w0) [Bx p1 29 [vx_Routes.v, vx_Neighs.v, vx_Fdbs.v], Bx p3 29 [vy_Routes.v, vy_Neighs.v, vy_Fdbs.v]] w) (x_Neighs.length - 0) ⟨0, by omega, by simp, rfl, hs.to ⟨rfl, rfl, rfl, trivial⟩, m.sub (.c r1 (.c r0 .n))⟩ ?_
  clear hs m a w9
  rintro gn a w12 ⟨k, hk, ht, rfl, hs, m⟩
  refine c_seq ?_
  refine c_reg ?_
  refine r_ok hs m (ok_move rfl) rfl ?_
  clear hs a; intro a hs
  refine r_ok hs m (ok_fieldAddr (r := 1) rfl fd29_1 ty26 rfl) rfl ?_
  clear hs a; intro a hs
  refine r_ok hs m (ok_load_sc rfl ty26 (bx_at r0) rfl) rfl ?_
  clear hs a; intro a hs
  refine r_ok hs m (ok_len (r := (x_Neighs.length : Int)) m rfl sl26 (rc_fr hx_Neighs) (by simp)) rfl ?_
  clear hs a; intro a hs
  refine r_ok hs m (ok_bin rfl rfl rfl) rfl ?_
  clear hs a; intro a hs
  refine wpList_nil (n_then ?_)
  refine c_cond hs rfl (fun h13 => ?_) (fun h13 => ?_)
  rotate_left
  · have h13p := of_decide_eq_false h13
    refine wp_exit ?_
    refine ex_then (ex_then (ex_hit (?_)))
    refine n_then ?_
    refine c_seq ?_
    refine c_reg ?_
    refine r_ok hs m (ok_assign rfl) rfl ?_
    clear hs a; intro a hs
    refine wpList_nil (n_then ?_)
    refine wp_block ?_
    have hN := same_end (x := x_Neighs) (y := y_Neighs) (by omega) (by omega) ht
    clear ht hk
    refine wp_loop_ghost (fun gn a w => ∃ k : Nat, (k ≤ x_Fdbs.length) ∧ (x_Fdbs.take k = y_Fdbs.take k) ∧ gn = x_Fdbs.length - k ∧ St 69 [(2, .pointer (some (padd p1 0))), (3, .pointer (some (padd p3 0))), (7, .int .i64 (k : Int))] a ∧ Hp w0 (hh w0) [Bx p1 29 [vx_Routes.v, vx_Neighs.v, vx_Fdbs.v], Bx p3 29 [vy_Routes.v, vy_Neighs.v, vy_Fdbs.v]] w) (x_Fdbs.length - 0) ⟨0, by omega, by simp, rfl, hs.to ⟨rfl, rfl, rfl, trivial⟩, m.sub (.c r0 (.c r0 .n))⟩ ?_
    clear hs m a w12
    rintro gn a w14 ⟨k, hk, ht, rfl, hs, m⟩
    refine c_seq ?_
    refine c_reg ?_
    refine r_ok hs m (ok_move rfl) rfl ?_
    clear hs a; intro a hs
    refine r_ok hs m (ok_fieldAddr (r := 2) rfl fd29_2 ty27 rfl) rfl ?_
    clear hs a; intro a hs
    refine r_ok hs m (ok_load_sc rfl ty27 (bx_at r0) rfl) rfl ?_
    clear hs a; intro a hs
    refine r_ok hs m (ok_len (r := (x_Fdbs.length : Int)) m rfl sl27 (rc_fr hx_Fdbs) (by simp)) rfl ?_
    clear hs a; intro a hs
    refine r_ok hs m (ok_bin rfl rfl rfl) rfl ?_
    clear hs a; intro a hs
    refine wpList_nil (n_then ?_)
    refine c_cond hs rfl (fun h15 => ?_) (fun h15 => ?_)
    rotate_left
    · have h15p := of_decide_eq_false h15
      refine wp_exit ?_
      refine ex_then (ex_then (ex_hit (?_)))
      refine n_then ?_
      refine c_reg ?_
      refine r_ok hs m (ok_assign rfl) rfl ?_
      clear hs a; intro a hs
      refine wpList_nil (n_then ?_)
      refine wp_ret ?_
      refine leave hs (vs := [.bool true]) rfl ⟨rfl, trivial⟩ ?_
      refine ⟨?_, m.sub .n⟩
      have q16 : (true : Bool) = decide (x_Routes = y_Routes ∧ x_Neighs = y_Neighs ∧ x_Fdbs = y_Fdbs) := by clear hs m; first | exact tabs_f0 (by assumption) | exact tabs_f1 (same_miss (by assumption) (by assumption) (by assumption)) | exact tabs_f2 (same_miss (by assumption) (by assumption) (by assumption)) | exact tabs_t (by assumption) hN (same_end (by omega) (by omega) ht)
      first | (rw [q16]; done) | (rw [q16]; rfl) | (rw [q16]; rfl) | (simp only [q16, pack]; done)
    have h15p := of_decide_eq_true h15
    refine wp_skip ?_
    refine n_then ?_
    refine c_seq ?_
    refine wp_block ?_
    refine c_draw m mo (by kernel_rfl) ?_
    refine q_ok hs (ok_fieldAddr (r := 2) rfl fd29_2 ty27 rfl) rfl ?_
    clear hs a; intro a hs
    refine q_ok hs (ok_load_sc rfl ty27 (bx_at r0) rfl) rfl ?_
    clear hs a; intro a hs
    refine q_ok hs (ok_move rfl) rfl ?_
    clear hs a; intro a hs
    obtain ⟨e17, he18⟩ := get_of_lt (l := x_Fdbs) (i := k) (by omega)
    refine elF (c := cFdb) (e := e17) hs m (x := (.tmp 59)) (ix := (.tmp 60)) rfl rfl sl27 ty56 hx_Fdbs (by omega) he18 fun p19 hp20 ok21 => ?_
    refine q_ok hs (ok21 _ _ _ _ _) rfl ?_
    clear hs a; intro a hs
    refine q_ok hs (ok_load_ag (vs := cFdb e17) rfl ty56 (fr_at hp20) rfl rfl) rfl ?_
    clear hs a; intro a hs
    refine q_ok hs (ok_fieldAddr (r := 2) rfl fd29_2 ty27 rfl) rfl ?_
    clear hs a; intro a hs
    refine q_ok hs (ok_load_sc rfl ty27 (bx_at r1) rfl) rfl ?_
    clear hs a; intro a hs
    refine q_ok hs (ok_move rfl) rfl ?_
    clear hs a; intro a hs
    obtain ⟨e22, he23⟩ := get_of_lt (l := y_Fdbs) (i := k) (by omega)
    refine elF (c := cFdb) (e := e22) hs m (x := (.tmp 64)) (ix := (.tmp 65)) rfl rfl sl27 ty56 hy_Fdbs (by omega) he23 fun p24 hp25 ok26 => ?_
    refine q_ok hs (ok26 _ _ _ _ _) rfl ?_
    clear hs a; intro a hs
    refine q_ok hs (ok_load_ag (vs := cFdb e22) rfl ty56 (fr_at hp25) rfl rfl) rfl ?_
    clear hs a; intro a hs
    refine q_ok hs (ok_nev (b := decide (e17 = e22)) rfl rfl eqT56 (fFdb _) (fFdb _) (iFdb e17 e22)) rfl ?_
    clear hs a; intro a hs
    refine wpQuiet_nil ?_; clear m w14; intro w27 m
    refine c_cond hs rfl (fun h28 => ?_) (fun h28 => ?_)
    · have h28p := h28; simp only [Bool.or_eq_true, Bool.or_eq_false_iff, Bool.and_eq_true, Bool.and_eq_false_iff, Bool.not_eq_true', Bool.not_eq_false', decide_eq_true_eq, decide_eq_false_iff_not, beq_iff_eq, bne_iff_ne, beq_eq_false_iff_ne, bne_eq_false_iff_eq, ne_eq, gt_iff_lt, ge_iff_le, Int.not_lt, Int.not_le] at h28p
      refine c_reg ?_
      refine r_ok hs m (ok_assign rfl) rfl ?_
      clear hs a; intro a hs
      refine wpList_nil (n_then ?_)
      refine wp_ret ?_
      refine ret_block (ret_then (ret_then (ret_block (ret_then (leave hs (vs := [.bool false]) rfl ⟨rfl, trivial⟩ ?_)))))
      refine ⟨?_, m.sub .n⟩
      have q29 : (false : Bool) = decide (x_Routes = y_Routes ∧ x_Neighs = y_Neighs ∧ x_Fdbs = y_Fdbs) := by clear hs m; first | exact tabs_f0 (by assumption) | exact tabs_f1 (same_miss (by assumption) (by assumption) (by assumption)) | exact tabs_f2 (same_miss (by assumption) (by assumption) (by assumption)) | exact tabs_t (by assumption) hN (same_end (by omega) (by omega) ht)
      first | (rw [q29]; done) | (rw [q29]; rfl) | (rw [q29]; rfl) | (simp only [q29, pack]; done)
    have h28p := h28; simp only [Bool.or_eq_true, Bool.or_eq_false_iff, Bool.and_eq_true, Bool.and_eq_false_iff, Bool.not_eq_true', Bool.not_eq_false', decide_eq_true_eq, decide_eq_false_iff_not, beq_iff_eq, bne_iff_ne, beq_eq_false_iff_ne, bne_eq_false_iff_eq, ne_eq, gt_iff_lt, ge_iff_le, Int.not_lt, Int.not_le] at h28p
    refine wp_skip ?_
    refine n_block (n_then ?_)
    refine c_last ?_
    refine r_ok hs m (ok_move rfl) rfl ?_
    clear hs a; intro a hs
    refine r_ok hs m (ok_add (r := (k : Int) + 1) rfl rfl (wrap_i64 (by omega) (by omega))) rfl ?_
    clear hs a; intro a hs
    refine r_ok hs m (ok_assign rfl) rfl ?_
    clear hs a; intro a hs
    refine wpList_nil (n_then ?_)
    exact ⟨x_Fdbs.length - (k + 1), by omega, k + 1, by omega, by exact same_next ht (by assumption) (by assumption) (by assumption), rfl, hs.to ⟨rfl, rfl, rfl, trivial⟩, m.sub (.c r0 (.c r0 .n))⟩
  have h13p := of_decide_eq_true h13
  refine wp_skip ?_
  refine n_then ?_
  refine c_seq ?_
  refine wp_block ?_
  refine c_draw m mo (by kernel_rfl) ?_
  refine q_ok hs (ok_fieldAddr (r := 1) rfl fd29_1 ty26 rfl) rfl ?_
  clear hs a; intro a hs
  refine q_ok hs (ok_load_sc rfl ty26 (bx_at r0) rfl) rfl ?_
  clear hs a; intro a hs
  refine q_ok hs (ok_move rfl) rfl ?_
  clear hs a; intro a hs
  obtain ⟨e30, he31⟩ := get_of_lt (l := x_Neighs) (i := k) (by omega)
  refine elF (c := cNeigh) (e := e30) hs m (x := (.tmp 41)) (ix := (.tmp 42)) rfl rfl sl26 ty54 hx_Neighs (by omega) he31 fun p32 hp33 ok34 => ?_
  refine q_ok hs (ok34 _ _ _ _ _) rfl ?_
  clear hs a; intro a hs
  refine q_ok hs (ok_load_ag (vs := cNeigh e30) rfl ty54 (fr_at hp33) rfl rfl) rfl ?_
  clear hs a; intro a hs
  refine q_ok hs (ok_fieldAddr (r := 1) rfl fd29_1 ty26 rfl) rfl ?_
  clear hs a; intro a hs
  refine q_ok hs (ok_load_sc rfl ty26 (bx_at r1) rfl) rfl ?_
  clear hs a; intro a hs
  refine q_ok hs (ok_move rfl) rfl ?_
  clear hs a; intro a hs
  obtain ⟨e35, he36⟩ := get_of_lt (l := y_Neighs) (i := k) (by omega)
  refine elF (c := cNeigh) (e := e35) hs m (x := (.tmp 46)) (ix := (.tmp 47)) rfl rfl sl26 ty54 hy_Neighs (by omega) he36 fun p37 hp38 ok39 => ?_
  refine q_ok hs (ok39 _ _ _ _ _) rfl ?_
  clear hs a; intro a hs
  refine q_ok hs (ok_load_ag (vs := cNeigh e35) rfl ty54 (fr_at hp38) rfl rfl) rfl ?_
  clear hs a; intro a hs
  refine q_ok hs (ok_nev (b := decide (e30 = e35)) rfl rfl eqT54 (fNeigh _) (fNeigh _) (iNeigh e30 e35)) rfl ?_
  clear hs a; intro a hs
  refine wpQuiet_nil ?_; clear m w12; intro w40 m
  refine c_cond hs rfl (fun h41 => ?_) (fun h41 => ?_)
  · have h41p := h41; simp only [Bool.or_eq_true, Bool.or_eq_false_iff, Bool.and_eq_true, Bool.and_eq_false_iff, Bool.not_eq_true', Bool.not_eq_false', decide_eq_true_eq, decide_eq_false_iff_not, beq_iff_eq, bne_iff_ne, beq_eq_false_iff_ne, bne_eq_false_iff_eq, ne_eq, gt_iff_lt, ge_iff_le, Int.not_lt, Int.not_le] at h41p
    refine c_reg ?_
    refine r_ok hs m (ok_assign rfl) rfl ?_
    clear hs a; intro a hs
    refine wpList_nil (n_then ?_)
    refine wp_ret ?_
    refine ret_block (ret_then (ret_then (ret_block (ret_then (leave hs (vs := [.bool false]) rfl ⟨rfl, trivial⟩ ?_)))))
    refine ⟨?_, m.sub .n⟩
    have q42 : (false : Bool) = decide (x_Routes = y_Routes ∧ x_Neighs = y_Neighs ∧ x_Fdbs = y_Fdbs) := by clear hs m; first | exact tabs_f0 (by assumption) | exact tabs_f1 (same_miss (by assumption) (by assumption) (by assumption)) | exact tabs_f2 (same_miss (by assumption) (by assumption) (by assumption)) | exact tabs_t (by assumption) hN (same_end (by omega) (by omega) ht)
    first | (rw [q42]; done) | (rw [q42]; rfl) | (rw [q42]; rfl) | (simp only [q42, pack]; done)
  have h41p := h41; simp only [Bool.or_eq_true, Bool.or_eq_false_iff, Bool.and_eq_true, Bool.and_eq_false_iff, Bool.not_eq_true', Bool.not_eq_false', decide_eq_true_eq, decide_eq_false_iff_not, beq_iff_eq, bne_iff_ne, beq_eq_false_iff_ne, bne_eq_false_iff_eq, ne_eq, gt_iff_lt, ge_iff_le, Int.not_lt, Int.not_le] at h41p
  refine wp_skip ?_
  refine n_block (n_then ?_)
  refine c_last ?_
  refine r_ok hs m (ok_move rfl) rfl ?_
  clear hs a; intro a hs
  refine r_ok hs m (ok_add (r := (k : Int) + 1) rfl rfl (wrap_i64 (by omega) (by omega))) rfl ?_
  clear hs a; intro a hs
  refine r_ok hs m (ok_assign rfl) rfl ?_
  clear hs a; intro a hs
  refine wpList_nil (n_then ?_)
  exact ⟨x_Neighs.length - (k + 1), by omega, k + 1, by omega, by exact same_next ht (by assumption) (by assumption) (by assumption), rfl, hs.to ⟨rfl, rfl, rfl, trivial⟩, m.sub (.c r0 (.c r0 .n))⟩
theorem size_c (n : Int) (w0 : World) (A1 : 0 ≤ n) (A2 : n ≤ 32) : Pure Tryz.prog 155 [.int .i64 n] (.int .i64 (2 ^ (32 - n).toNat : Int)) w0 := by
  refine enter (n := 13) Tryz.func155 rfl rfl rfl fun a (hs : St 13 [(0, .int .i64 n)] a) => ?_
  have m := Hp.start w0
  refine c_reg ?_
  refine r_ok hs m (ok_assign rfl) rfl ?_
  clear hs a; intro a hs
  refine wpList_nil (n_then ?_)
  refine c_reg ?_
  refine r_ok hs m (ok_assign rfl) rfl ?_
  clear hs a; intro a hs
  refine wpList_nil (n_then ?_)
  refine c_seq ?_
  refine c_reg ?_
  refine r_ok hs m (ok_move rfl) rfl ?_
  clear hs a; intro a hs
  refine r_ok hs m (ok_assign rfl) rfl ?_
  clear hs a; intro a hs
  refine wpList_nil (n_then ?_)
  refine wp_block ?_
  refine wp_loop_ghost (fun gn a w => ∃ i : Int, ∃ k : Nat, (i = n + k) ∧ (i ≤ 32) ∧ gn = (32 - i).toNat ∧ St 13 [(3, .int .i64 (2 ^ k : Int)), (4, .int .i64 i)] a ∧ Hp w0 (hh w0) [] w) ((32 - n).toNat) ⟨n, 0, by simp, by omega, rfl, hs.to ⟨rfl, rfl, trivial⟩, m.sub .n⟩ ?_
  clear hs m a
  rintro gn a w1 ⟨i, k, hi, hj, rfl, hs, m⟩
  refine c_seq ?_
  refine c_reg ?_
  refine r_ok hs m (ok_move rfl) rfl ?_
  clear hs a; intro a hs
  refine r_ok hs m (ok_bin rfl rfl rfl) rfl ?_
  clear hs a; intro a hs
  refine wpList_nil (n_then ?_)
  refine c_cond hs rfl (fun h2 => ?_) (fun h2 => ?_)
  rotate_left
  · have h2p := of_decide_eq_false h2
    refine wp_exit ?_
    refine ex_then (ex_then (ex_hit (?_)))
    refine n_then ?_
    refine c_reg ?_
    refine r_ok hs m (ok_move rfl) rfl ?_
    clear hs a; intro a hs
    refine r_ok hs m (ok_assign rfl) rfl ?_
    clear hs a; intro a hs
    refine wpList_nil (n_then ?_)
    refine wp_ret ?_
    refine leave hs (vs := [.int .i64 (2 ^ k : Int)]) rfl ⟨rfl, trivial⟩ ?_
    refine ⟨?_, m.sub .n⟩
    have q3 : ((2 ^ k : Int) : Int) = (2 ^ (32 - n).toNat : Int) := by clear hs m; rw [show (32 - n).toNat = k by omega]
    first | (rw [q3]; done) | (rw [q3]; rfl) | (rw [q3]; rfl) | (simp only [q3, pack]; done)
  have h2p := of_decide_eq_true h2
  refine wp_skip ?_
  refine n_then ?_
  refine c_seq ?_
  refine wp_block ?_
  refine c_last ?_
  refine r_ok hs m (ok_move rfl) rfl ?_
  clear hs a; intro a hs
  refine r_ok hs m (ok_mul (r := (2 ^ (k + 1) : Int)) rfl rfl (size_step (by omega))) rfl ?_
  clear hs a; intro a hs
  refine r_ok hs m (ok_assign rfl) rfl ?_
  clear hs a; intro a hs
  refine wpList_nil (n_block (n_then ?_))
  refine c_last ?_
  refine r_ok hs m (ok_move rfl) rfl ?_
  clear hs a; intro a hs
  refine r_ok hs m (ok_add (r := i + 1) rfl rfl (wrap_i64 (by omega) (by omega))) rfl ?_
  clear hs a; intro a hs
  refine r_ok hs m (ok_assign rfl) rfl ?_
  clear hs a; intro a hs
  refine wpList_nil (n_then ?_)
  exact ⟨(32 - (i + 1)).toNat, by omega, i + 1, k + 1, by omega, by omega, rfl, hs.to ⟨rfl, rfl, trivial⟩, m.sub .n⟩
theorem faultR_c (p : TPrefix) (w0 : World) : Pure Tryz.prog 106 [.agg ⟨cPrefix p⟩] (.int .i64 (faultR p)) w0 := by
  have hl := p.Len.i64
  have ha := p.Addr.u32
  refine enter (n := 19) Tryz.func106 rfl rfl rfl fun a (hs : St 19 [(0, .agg ⟨cPrefix p⟩)] a) => ?_
  have m := Hp.start w0
  refine c_reg ?_
  refine r_box (cs := cPrefix p) hs m rfl rfl rfl ?_
  clear m hs a; intro p1 w2 m a hs
  refine r_ok hs m (ok_assign rfl) rfl ?_
  clear hs a; intro a hs
  refine wpList_nil (n_then ?_)
  refine c_seq ?_
  refine c_reg ?_
  refine r_ok hs m (ok_fieldAddr (r := 1) rfl fd44_1 ty3 rfl) rfl ?_
  clear hs a; intro a hs
  refine r_ok hs m (ok_load_sc rfl ty3 (bx_at r0) rfl) rfl ?_
  clear hs a; intro a hs
  refine r_ok hs m (ok_bin rfl rfl rfl) rfl ?_
  clear hs a; intro a hs
  refine r_ok hs m (ok_move rfl) rfl ?_
  clear hs a; intro a hs
  refine l_cut (.c (.c (.c (.c (.n))))) (fun a w => St 19 [(1, .pointer (some (padd p1 0))), (10, .bool ((decide (p.Len.v < 0)) || (decide (p.Len.v > 32))))] a ∧ Hp w0 (hh w0) [Bx p1 44 (cPrefix p)] w) ?_ ?_
  · rcases Bool.eq_false_or_eq_true (decide (p.Len.v < 0)) with hb3 | hb3
    · have hb3p := of_decide_eq_true hb3
      refine g_out hs rfl rfl hb3 rfl ?_
      clear hs a; intro a hs
      refine g_out hs rfl rfl hb3 rfl ?_
      clear hs a; intro a hs
      refine g_out hs rfl rfl hb3 rfl ?_
      clear hs a; intro a hs
      refine r_ok hs m (ok_pick (r := .bool ((decide (p.Len.v < 0)) || (decide (p.Len.v > 32)))) rfl rfl rfl (by rw [hb3]; rfl)) rfl ?_
      clear hs a; intro a hs
      exact wpList_nil (n_then ⟨hs.to ⟨rfl, rfl, trivial⟩, m⟩)
    · have hb3p := of_decide_eq_false hb3
      refine r_okg hs rfl rfl hb3 m (ok_fieldAddr (r := 1) rfl fd44_1 ty3 rfl) rfl ?_
      clear hs a; intro a hs
      refine r_okg hs rfl rfl hb3 m (ok_load_sc rfl ty3 (bx_at r0) rfl) rfl ?_
      clear hs a; intro a hs
      refine r_okg hs rfl rfl hb3 m (ok_bin rfl rfl rfl) rfl ?_
      clear hs a; intro a hs
      refine r_ok hs m (ok_pick (r := .bool ((decide (p.Len.v < 0)) || (decide (p.Len.v > 32)))) rfl rfl rfl (by rw [hb3]; rfl)) rfl ?_
      clear hs a; intro a hs
      exact wpList_nil (n_then ⟨hs.to ⟨rfl, rfl, trivial⟩, m⟩)
  clear hs m a w2; rintro a w4 ⟨hs, m⟩
  refine wpList_nil (n_then ?_)
  refine c_cond hs rfl (fun h5 => ?_) (fun h5 => ?_)
  · have h5p := h5; simp only [Bool.or_eq_true, Bool.or_eq_false_iff, Bool.and_eq_true, Bool.and_eq_false_iff, Bool.not_eq_true', Bool.not_eq_false', decide_eq_true_eq, decide_eq_false_iff_not, beq_iff_eq, bne_iff_ne, beq_eq_false_iff_ne, bne_eq_false_iff_eq, ne_eq, gt_iff_lt, ge_iff_le, Int.not_lt, Int.not_le] at h5p
    refine c_reg ?_
    refine r_ok hs m (ok_assign rfl) rfl ?_
    clear hs a; intro a hs
    refine wpList_nil (n_then ?_)
    refine wp_ret ?_
    refine ret_then (leave hs (vs := [.int .i64 11]) rfl ⟨rfl, trivial⟩ ?_)
    refine ⟨?_, m.sub .n⟩
    have q6 : (11 : Int) = faultR p := by clear hs m; simp [faultR, *] <;> omega
    first | (rw [q6]; done) | (rw [q6]; rfl) | (rw [q6]; rfl) | (simp only [q6, pack]; done)
  have h5p := h5; simp only [Bool.or_eq_true, Bool.or_eq_false_iff, Bool.and_eq_true, Bool.and_eq_false_iff, Bool.not_eq_true', Bool.not_eq_false', decide_eq_true_eq, decide_eq_false_iff_not, beq_iff_eq, bne_iff_ne, beq_eq_false_iff_ne, bne_eq_false_iff_eq, ne_eq, gt_iff_lt, ge_iff_le, Int.not_lt, Int.not_le] at h5p
  refine wp_skip ?_
  refine n_then ?_
  refine c_seq ?_
  refine c_draw m mo (by kernel_rfl) ?_
  refine q_ok hs (ok_fieldAddr (r := 0) rfl fd44_0 ty42 rfl) rfl ?_
  clear hs a; intro a hs
  refine q_ok hs (ok_load_sc rfl ty42 (bx_at r0) rfl) rfl ?_
  clear hs a; intro a hs
  refine q_ok hs (ok_conv (r := p.Addr.v) rfl in42 in3 (wrap_i64 (by omega) (by omega))) rfl ?_
  clear hs a; intro a hs
  refine q_ok hs (ok_fieldAddr (r := 1) rfl fd44_1 ty3 rfl) rfl ?_
  clear hs a; intro a hs
  refine q_ok hs (ok_load_sc rfl ty3 (bx_at r0) rfl) rfl ?_
  clear hs a; intro a hs
  refine q_callP hs rfl rfl ca155 rfl (fun w m => size_c p.Len.v w  (by first | omega | rfl | exact bsI_le _ _ | assumption | decide) (by first | omega | rfl | exact bsI_le _ _ | assumption | decide)) rfl ?_
  clear hs a; intro a hs
  refine q_ok hs (ok_rem rfl rfl (by first | omega | exact Int.ne_of_gt (Int.pow_pos (by omega))) rfl) rfl ?_
  clear hs a; intro a hs
  refine q_ok hs (ok_bin rfl rfl rfl) rfl ?_
  clear hs a; intro a hs
  refine wpQuiet_nil ?_; clear m w4; intro w7 m
  refine c_cond hs rfl (fun h8 => ?_) (fun h8 => ?_)
  · have h8p := ne_of_bne h8
    refine c_reg ?_
    refine r_ok hs m (ok_assign rfl) rfl ?_
    clear hs a; intro a hs
    refine wpList_nil (n_then ?_)
    refine wp_ret ?_
    refine ret_then (leave hs (vs := [.int .i64 12]) rfl ⟨rfl, trivial⟩ ?_)
    refine ⟨?_, m.sub .n⟩
    have q9 : (12 : Int) = faultR p := by clear hs m; simp [faultR, *] <;> omega
    first | (rw [q9]; done) | (rw [q9]; rfl) | (rw [q9]; rfl) | (simp only [q9, pack]; done)
  have h8p := eq_of_bne_false h8
  refine wp_skip ?_
  refine n_then ?_
  refine c_reg ?_
  refine r_ok hs m (ok_assign rfl) rfl ?_
  clear hs a; intro a hs
  refine wpList_nil (n_then ?_)
  refine wp_ret ?_
  refine leave hs (vs := [.int .i64 0]) rfl ⟨rfl, trivial⟩ ?_
  refine ⟨?_, m.sub .n⟩
  have q10 : (0 : Int) = faultR p := by clear hs m; simp [faultR, *] <;> omega
  first | (rw [q10]; done) | (rw [q10]; rfl) | (rw [q10]; rfl) | (simp only [q10, pack]; done)
theorem validR_c (p : TPrefix) (w0 : World) : Pure Tryz.prog 50 [.agg ⟨cPrefix p⟩] (.bool (validR p)) w0 := by
  refine enter (n := 8) Tryz.func50 rfl rfl rfl fun a (hs : St 8 [(0, .agg ⟨cPrefix p⟩)] a) => ?_
  have m := Hp.start w0
  refine c_reg ?_
  refine r_box (cs := cPrefix p) hs m rfl rfl rfl ?_
  clear m hs a; intro p1 w2 m a hs
  refine r_ok hs m (ok_assign rfl) rfl ?_
  clear hs a; intro a hs
  refine wpList_nil (n_then ?_)
  refine c_reg ?_
  refine r_ok hs m (ok_load_ag (vs := cPrefix p) rfl ty44 (bx_at r0) rfl rfl) rfl ?_
  clear hs a; intro a hs
  refine r_callP hs m rfl rfl ca106 rfl (faultR_c p _  ) rfl ?_
  clear m hs a w2; intro w3 m a hs
  refine r_ok hs m (ok_assign rfl) rfl ?_
  clear hs a; intro a hs
  refine wpList_nil (n_then ?_)
  refine c_reg ?_
  refine r_ok hs m (ok_move rfl) rfl ?_
  clear hs a; intro a hs
  refine r_ok hs m (ok_bin rfl rfl rfl) rfl ?_
  clear hs a; intro a hs
  refine r_ok hs m (ok_assign rfl) rfl ?_
  clear hs a; intro a hs
  refine wpList_nil (n_then ?_)
  refine wp_ret ?_
  refine leave hs (vs := [.bool ((faultR p) == 0)]) rfl ⟨rfl, trivial⟩ ?_
  refine ⟨?_, m.sub .n⟩
  have q4 : ((faultR p) == 0 : Bool) = validR p := by clear hs m; simp [validR]
  first | (rw [q4]; done) | (rw [q4]; rfl) | (rw [q4]; rfl) | (simp only [q4, pack]; done)
theorem lower_c (x : TPrefix) (y : TPrefix) (w0 : World) : Pure Tryz.prog 107 [.agg ⟨cPrefix x⟩, .agg ⟨cPrefix y⟩] (.bool (lowerM x y)) w0 := by
  refine enter (n := 24) Tryz.func107 rfl rfl rfl fun a (hs : St 24 [(0, .agg ⟨cPrefix x⟩), (1, .agg ⟨cPrefix y⟩)] a) => ?_
  have m := Hp.start w0
  refine c_reg ?_
  refine r_box (cs := cPrefix x) hs m rfl rfl rfl ?_
  clear m hs a; intro p1 w2 m a hs
  refine r_box (cs := cPrefix y) hs m rfl rfl rfl ?_
  clear m hs a w2; intro p3 w4 m a hs
  refine r_ok hs m (ok_assign rfl) rfl ?_
  clear hs a; intro a hs
  refine wpList_nil (n_then ?_)
  refine c_reg ?_
  refine r_ok hs m (ok_fieldAddr (r := 0) rfl fd44_0 ty42 rfl) rfl ?_
  clear hs a; intro a hs
  refine r_ok hs m (ok_load_sc rfl ty42 (bx_at r1) rfl) rfl ?_
  clear hs a; intro a hs
  refine r_ok hs m (ok_fieldAddr (r := 0) rfl fd44_0 ty42 rfl) rfl ?_
  clear hs a; intro a hs
  refine r_ok hs m (ok_load_sc rfl ty42 (bx_at r0) rfl) rfl ?_
  clear hs a; intro a hs
  refine r_ok hs m (ok_bin rfl rfl rfl) rfl ?_
  clear hs a; intro a hs
  refine r_ok hs m (ok_move rfl) rfl ?_
  clear hs a; intro a hs
  refine l_cut (.c (.c (.c (.c (.c (.c (.c (.c (.c (.c (.c (.c (.c (.n)))))))))))))) (fun a w => St 24 [(23, .bool ((decide (x.Addr.v < y.Addr.v)) || ((x.Addr.v == y.Addr.v) && (decide (x.Len.v < y.Len.v)))))] a ∧ Hp w0 (hh w0) [Bx p3 44 (cPrefix y), Bx p1 44 (cPrefix x)] w) ?_ ?_
  · rcases Bool.eq_false_or_eq_true (decide (x.Addr.v < y.Addr.v)) with hb5 | hb5
    · have hb5p := of_decide_eq_true hb5
      refine g_out hs rfl rfl hb5 rfl ?_
      clear hs a; intro a hs
      refine g_out hs rfl rfl hb5 rfl ?_
      clear hs a; intro a hs
      refine g_out hs rfl rfl hb5 rfl ?_
      clear hs a; intro a hs
      refine g_out hs rfl rfl hb5 rfl ?_
      clear hs a; intro a hs
      refine g_out hs rfl rfl hb5 rfl ?_
      clear hs a; intro a hs
      refine g_out hs rfl rfl hb5 rfl ?_
      clear hs a; intro a hs
      refine g_outU hs rfl rfl rfl ?_
      clear hs a; intro a hs
      refine g_outU hs rfl rfl rfl ?_
      clear hs a; intro a hs
      refine g_outU hs rfl rfl rfl ?_
      clear hs a; intro a hs
      refine g_outU hs rfl rfl rfl ?_
      clear hs a; intro a hs
      refine g_outU hs rfl rfl rfl ?_
      clear hs a; intro a hs
      refine g_out hs rfl rfl hb5 rfl ?_
      clear hs a; intro a hs
      refine r_ok hs m (ok_pick (r := .bool ((decide (x.Addr.v < y.Addr.v)) || ((x.Addr.v == y.Addr.v) && (decide (x.Len.v < y.Len.v))))) rfl rfl rfl (by rw [hb5]; rfl)) rfl ?_
      clear hs a; intro a hs
      exact wpList_nil (n_then ⟨hs.to ⟨rfl, trivial⟩, m⟩)
    · have hb5p := of_decide_eq_false hb5
      refine r_okg hs rfl rfl hb5 m (ok_fieldAddr (r := 0) rfl fd44_0 ty42 rfl) rfl ?_
      clear hs a; intro a hs
      refine r_okg hs rfl rfl hb5 m (ok_load_sc rfl ty42 (bx_at r1) rfl) rfl ?_
      clear hs a; intro a hs
      refine r_okg hs rfl rfl hb5 m (ok_fieldAddr (r := 0) rfl fd44_0 ty42 rfl) rfl ?_
      clear hs a; intro a hs
      refine r_okg hs rfl rfl hb5 m (ok_load_sc rfl ty42 (bx_at r0) rfl) rfl ?_
      clear hs a; intro a hs
      refine r_okg hs rfl rfl hb5 m (ok_bin rfl rfl rfl) rfl ?_
      clear hs a; intro a hs
      refine r_okg hs rfl rfl hb5 m (ok_move rfl) rfl ?_
      clear hs a; intro a hs
      refine l_cut (.c (.c (.c (.c (.c (.c (.n))))))) (fun a w => St 24 [(10, .bool (decide (x.Addr.v < y.Addr.v))), (22, .bool ((x.Addr.v == y.Addr.v) && (decide (x.Len.v < y.Len.v))))] a ∧ Hp w0 (hh w0) [Bx p3 44 (cPrefix y), Bx p1 44 (cPrefix x)] w) ?_ ?_
      · rcases Bool.eq_false_or_eq_true (x.Addr.v == y.Addr.v) with hb6 | hb6
        · have hb6p := eq_of_beq hb6
          refine r_okg hs rfl rfl hb6 m (ok_fieldAddr (r := 1) rfl fd44_1 ty3 rfl) rfl ?_
          clear hs a; intro a hs
          refine r_okg hs rfl rfl hb6 m (ok_load_sc rfl ty3 (bx_at r1) rfl) rfl ?_
          clear hs a; intro a hs
          refine r_okg hs rfl rfl hb6 m (ok_fieldAddr (r := 1) rfl fd44_1 ty3 rfl) rfl ?_
          clear hs a; intro a hs
          refine r_okg hs rfl rfl hb6 m (ok_load_sc rfl ty3 (bx_at r0) rfl) rfl ?_
          clear hs a; intro a hs
          refine r_okg hs rfl rfl hb6 m (ok_bin rfl rfl rfl) rfl ?_
          clear hs a; intro a hs
          refine r_okg hs rfl rfl hb5 m (ok_pick (r := .bool ((x.Addr.v == y.Addr.v) && (decide (x.Len.v < y.Len.v)))) rfl rfl rfl (by rw [hb6]; rfl)) rfl ?_
          clear hs a; intro a hs
          exact wpList_nil (n_then ⟨hs.to ⟨rfl, rfl, trivial⟩, m⟩)
        · have hb6p := ne_of_beq_false hb6
          refine g_out hs rfl rfl hb6 rfl ?_
          clear hs a; intro a hs
          refine g_out hs rfl rfl hb6 rfl ?_
          clear hs a; intro a hs
          refine g_out hs rfl rfl hb6 rfl ?_
          clear hs a; intro a hs
          refine g_out hs rfl rfl hb6 rfl ?_
          clear hs a; intro a hs
          refine g_out hs rfl rfl hb6 rfl ?_
          clear hs a; intro a hs
          refine r_okg hs rfl rfl hb5 m (ok_pick (r := .bool ((x.Addr.v == y.Addr.v) && (decide (x.Len.v < y.Len.v)))) rfl rfl rfl (by rw [hb6]; rfl)) rfl ?_
          clear hs a; intro a hs
          exact wpList_nil (n_then ⟨hs.to ⟨rfl, rfl, trivial⟩, m⟩)
      clear hs m a w4; rintro a w7 ⟨hs, m⟩
      refine r_ok hs m (ok_pick (r := .bool ((decide (x.Addr.v < y.Addr.v)) || ((x.Addr.v == y.Addr.v) && (decide (x.Len.v < y.Len.v))))) rfl rfl rfl (by rw [hb5]; rfl)) rfl ?_
      clear hs a; intro a hs
      exact wpList_nil (n_then ⟨hs.to ⟨rfl, trivial⟩, m⟩)
  clear hs m a w4; rintro a w8 ⟨hs, m⟩
  refine r_ok hs m (ok_assign rfl) rfl ?_
  clear hs a; intro a hs
  refine wpList_nil (n_then ?_)
  refine wp_ret ?_
  refine leave hs (vs := [.bool ((decide (x.Addr.v < y.Addr.v)) || ((x.Addr.v == y.Addr.v) && (decide (x.Len.v < y.Len.v))))]) rfl ⟨rfl, trivial⟩ ?_
  refine ⟨?_, m.sub .n⟩
  have q9 : ((decide (x.Addr.v < y.Addr.v)) || ((x.Addr.v == y.Addr.v) && (decide (x.Len.v < y.Len.v))) : Bool) = lowerM x y := by clear hs m; rfl
  first | (rw [q9]; done) | (rw [q9]; rfl) | (rw [q9]; rfl) | (simp only [q9, pack]; done)
theorem weight_c (q : TMAC) (w0 : World) : Pure Tryz.prog 108 [.agg ⟨cMAC q⟩] (.int .i64 (weightM q)) w0 := by
  have h0 := q.b0.u8
  have h1 := q.b1.u8
  have h2 := q.b2.u8
  have h3 := q.b3.u8
  have h4 := q.b4.u8
  have h5 := q.b5.u8
  refine enter (n := 17) Tryz.func108 rfl rfl rfl fun a (hs : St 17 [(0, .agg ⟨cMAC q⟩)] a) => ?_
  have m := Hp.start w0
  refine c_reg ?_
  refine r_box (cs := cMAC q) hs m rfl rfl rfl ?_
  clear m hs a; intro p1 w2 m a hs
  refine r_ok hs m (ok_assign rfl) rfl ?_
  clear hs a; intro a hs
  refine wpList_nil (n_then ?_)
  refine c_reg ?_
  refine r_ok hs m (ok_assign rfl) rfl ?_
  clear hs a; intro a hs
  refine wpList_nil (n_then ?_)
  refine c_seq ?_
  refine c_reg ?_
  refine r_ok hs m (ok_assign rfl) rfl ?_
  clear hs a; intro a hs
  refine wpList_nil (n_then ?_)
  refine wp_block ?_
  refine wp_loop_rounds 7 ?_
  refine rounds_s ?_
  refine c_seq ?_
  refine c_reg ?_
  refine r_ok hs m (ok_move rfl) rfl ?_
  clear hs a; intro a hs
  refine r_ok hs m (ok_bin (v := .bool true) rfl rfl rfl) rfl ?_
  clear hs a; intro a hs
  refine wpList_nil (n_then ?_)
  refine c_true hs rfl rfl ?_
  refine wp_skip ?_
  refine n_then ?_
  refine c_seq ?_
  refine wp_block ?_
  refine c_last ?_
  refine r_ok hs m (ok_move rfl) rfl ?_
  clear hs a; intro a hs
  refine r_ok hs m (ok_mul (r := 0) rfl rfl rfl) rfl ?_
  clear hs a; intro a hs
  refine r_ok hs m (ok_move rfl) rfl ?_
  clear hs a; intro a hs
  refine r_ok hs m (ok_indexArr (i := 0) (r := 0) rfl rfl ar46 ty5 rfl rfl) rfl ?_
  clear hs a; intro a hs
  refine r_ok hs m (ok_load_sc rfl ty5 (bx_at r0) rfl) rfl ?_
  clear hs a; intro a hs
  refine r_ok hs m (ok_conv (r := q.b0.v) rfl in5 in3 (wrap_i64 (by omega) (by omega))) rfl ?_
  clear hs a; intro a hs
  refine r_ok hs m (ok_add (r := 0 + q.b0.v) rfl rfl (wrap_i64 (by omega) (by omega))) rfl ?_
  clear hs a; intro a hs
  refine r_ok hs m (ok_assign rfl) rfl ?_
  clear hs a; intro a hs
  refine wpList_nil (n_block (n_then ?_))
  refine c_last ?_
  refine r_ok hs m (ok_move rfl) rfl ?_
  clear hs a; intro a hs
  refine r_ok hs m (ok_add (r := 1) rfl rfl rfl) rfl ?_
  clear hs a; intro a hs
  refine r_ok hs m (ok_assign rfl) rfl ?_
  clear hs a; intro a hs
  refine wpList_nil (n_then ?_)
  refine rounds_s ?_
  refine c_seq ?_
  refine c_reg ?_
  refine r_ok hs m (ok_move rfl) rfl ?_
  clear hs a; intro a hs
  refine r_ok hs m (ok_bin (v := .bool true) rfl rfl rfl) rfl ?_
  clear hs a; intro a hs
  refine wpList_nil (n_then ?_)
  refine c_true hs rfl rfl ?_
  refine wp_skip ?_
  refine n_then ?_
  refine c_seq ?_
  refine wp_block ?_
  refine c_last ?_
  refine r_ok hs m (ok_move rfl) rfl ?_
  clear hs a; intro a hs
  refine r_ok hs m (ok_mul (r := (0 + q.b0.v) * 256) rfl rfl (wrap_i64 (by omega) (by omega))) rfl ?_
  clear hs a; intro a hs
  refine r_ok hs m (ok_move rfl) rfl ?_
  clear hs a; intro a hs
  refine r_ok hs m (ok_indexArr (i := 1) (r := 1) rfl rfl ar46 ty5 rfl rfl) rfl ?_
  clear hs a; intro a hs
  refine r_ok hs m (ok_load_sc rfl ty5 (bx_at r0) rfl) rfl ?_
  clear hs a; intro a hs
  refine r_ok hs m (ok_conv (r := q.b1.v) rfl in5 in3 (wrap_i64 (by omega) (by omega))) rfl ?_
  clear hs a; intro a hs
  refine r_ok hs m (ok_add (r := ((0 + q.b0.v) * 256) + q.b1.v) rfl rfl (wrap_i64 (by omega) (by omega))) rfl ?_
  clear hs a; intro a hs
  refine r_ok hs m (ok_assign rfl) rfl ?_
  clear hs a; intro a hs
  refine wpList_nil (n_block (n_then ?_))
  refine c_last ?_
  refine r_ok hs m (ok_move rfl) rfl ?_
  clear hs a; intro a hs
  refine r_ok hs m (ok_add (r := 2) rfl rfl rfl) rfl ?_
  clear hs a; intro a hs
  refine r_ok hs m (ok_assign rfl) rfl ?_
  clear hs a; intro a hs
  refine wpList_nil (n_then ?_)
  refine rounds_s ?_
  refine c_seq ?_
  refine c_reg ?_
  refine r_ok hs m (ok_move rfl) rfl ?_
  clear hs a; intro a hs
  refine r_ok hs m (ok_bin (v := .bool true) rfl rfl rfl) rfl ?_
  clear hs a; intro a hs
  refine wpList_nil (n_then ?_)
  refine c_true hs rfl rfl ?_
  refine wp_skip ?_
  refine n_then ?_
  refine c_seq ?_
  refine wp_block ?_
  refine c_last ?_
  refine r_ok hs m (ok_move rfl) rfl ?_
  clear hs a; intro a hs
  refine r_ok hs m (ok_mul (r := (((0 + q.b0.v) * 256) + q.b1.v) * 256) rfl rfl (wrap_i64 (by omega) (by omega))) rfl ?_
  clear hs a; intro a hs
  refine r_ok hs m (ok_move rfl) rfl ?_
  clear hs a; intro a hs
  refine r_ok hs m (ok_indexArr (i := 2) (r := 2) rfl rfl ar46 ty5 rfl rfl) rfl ?_
  clear hs a; intro a hs
  refine r_ok hs m (ok_load_sc rfl ty5 (bx_at r0) rfl) rfl ?_
  clear hs a; intro a hs
  refine r_ok hs m (ok_conv (r := q.b2.v) rfl in5 in3 (wrap_i64 (by omega) (by omega))) rfl ?_
  clear hs a; intro a hs
  refine r_ok hs m (ok_add (r := ((((0 + q.b0.v) * 256) + q.b1.v) * 256) + q.b2.v) rfl rfl (wrap_i64 (by omega) (by omega))) rfl ?_
  clear hs a; intro a hs
  refine r_ok hs m (ok_assign rfl) rfl ?_
  clear hs a; intro a hs
  refine wpList_nil (n_block (n_then ?_))
  refine c_last ?_
  refine r_ok hs m (ok_move rfl) rfl ?_
  clear hs a; intro a hs
  refine r_ok hs m (ok_add (r := 3) rfl rfl rfl) rfl ?_
  clear hs a; intro a hs
  refine r_ok hs m (ok_assign rfl) rfl ?_
  clear hs a; intro a hs
  refine wpList_nil (n_then ?_)
  refine rounds_s ?_
  refine c_seq ?_
  refine c_reg ?_
  refine r_ok hs m (ok_move rfl) rfl ?_
  clear hs a; intro a hs
  refine r_ok hs m (ok_bin (v := .bool true) rfl rfl rfl) rfl ?_
  clear hs a; intro a hs
  refine wpList_nil (n_then ?_)
  refine c_true hs rfl rfl ?_
  refine wp_skip ?_
  refine n_then ?_
  refine c_seq ?_
  refine wp_block ?_
  refine c_last ?_
  refine r_ok hs m (ok_move rfl) rfl ?_
  clear hs a; intro a hs
  refine r_ok hs m (ok_mul (r := (((((0 + q.b0.v) * 256) + q.b1.v) * 256) + q.b2.v) * 256) rfl rfl (wrap_i64 (by omega) (by omega))) rfl ?_
  clear hs a; intro a hs
  refine r_ok hs m (ok_move rfl) rfl ?_
  clear hs a; intro a hs
  refine r_ok hs m (ok_indexArr (i := 3) (r := 3) rfl rfl ar46 ty5 rfl rfl) rfl ?_
  clear hs a; intro a hs
  refine r_ok hs m (ok_load_sc rfl ty5 (bx_at r0) rfl) rfl ?_
  clear hs a; intro a hs
  refine r_ok hs m (ok_conv (r := q.b3.v) rfl in5 in3 (wrap_i64 (by omega) (by omega))) rfl ?_
  clear hs a; intro a hs
  refine r_ok hs m (ok_add (r := ((((((0 + q.b0.v) * 256) + q.b1.v) * 256) + q.b2.v) * 256) + q.b3.v) rfl rfl (wrap_i64 (by omega) (by omega))) rfl ?_
  clear hs a; intro a hs
  refine r_ok hs m (ok_assign rfl) rfl ?_
  clear hs a; intro a hs
  refine wpList_nil (n_block (n_then ?_))
  refine c_last ?_
  refine r_ok hs m (ok_move rfl) rfl ?_
  clear hs a; intro a hs
  refine r_ok hs m (ok_add (r := 4) rfl rfl rfl) rfl ?_
  clear hs a; intro a hs
  refine r_ok hs m (ok_assign rfl) rfl ?_
  clear hs a; intro a hs
  refine wpList_nil (n_then ?_)
  refine rounds_s ?_
  refine c_seq ?_
  refine c_reg ?_
  refine r_ok hs m (ok_move rfl) rfl ?_
  clear hs a; intro a hs
  refine r_ok hs m (ok_bin (v := .bool true) rfl rfl rfl) rfl ?_
  clear hs a; intro a hs
  refine wpList_nil (n_then ?_)
  refine c_true hs rfl rfl ?_
  refine wp_skip ?_
  refine n_then ?_
  refine c_seq ?_
  refine wp_block ?_
  refine c_last ?_
  refine r_ok hs m (ok_move rfl) rfl ?_
  clear hs a; intro a hs
  refine r_ok hs m (ok_mul (r := (((((((0 + q.b0.v) * 256) + q.b1.v) * 256) + q.b2.v) * 256) + q.b3.v) * 256) rfl rfl (wrap_i64 (by omega) (by omega))) rfl ?_
  clear hs a; intro a hs
  refine r_ok hs m (ok_move rfl) rfl ?_
  clear hs a; intro a hs
  refine r_ok hs m (ok_indexArr (i := 4) (r := 4) rfl rfl ar46 ty5 rfl rfl) rfl ?_
  clear hs a; intro a hs
  refine r_ok hs m (ok_load_sc rfl ty5 (bx_at r0) rfl) rfl ?_
  clear hs a; intro a hs
  refine r_ok hs m (ok_conv (r := q.b4.v) rfl in5 in3 (wrap_i64 (by omega) (by omega))) rfl ?_
  clear hs a; intro a hs
  refine r_ok hs m (ok_add (r := ((((((((0 + q.b0.v) * 256) + q.b1.v) * 256) + q.b2.v) * 256) + q.b3.v) * 256) + q.b4.v) rfl rfl (wrap_i64 (by omega) (by omega))) rfl ?_
  clear hs a; intro a hs
  refine r_ok hs m (ok_assign rfl) rfl ?_
  clear hs a; intro a hs
  refine wpList_nil (n_block (n_then ?_))
  refine c_last ?_
  refine r_ok hs m (ok_move rfl) rfl ?_
  clear hs a; intro a hs
  refine r_ok hs m (ok_add (r := 5) rfl rfl rfl) rfl ?_
  clear hs a; intro a hs
  refine r_ok hs m (ok_assign rfl) rfl ?_
  clear hs a; intro a hs
  refine wpList_nil (n_then ?_)
  refine rounds_s ?_
  refine c_seq ?_
  refine c_reg ?_
  refine r_ok hs m (ok_move rfl) rfl ?_
  clear hs a; intro a hs
  refine r_ok hs m (ok_bin (v := .bool true) rfl rfl rfl) rfl ?_
  clear hs a; intro a hs
  refine wpList_nil (n_then ?_)
  refine c_true hs rfl rfl ?_
  refine wp_skip ?_
  refine n_then ?_
  refine c_seq ?_
  refine wp_block ?_
  refine c_last ?_
  refine r_ok hs m (ok_move rfl) rfl ?_
  clear hs a; intro a hs
  refine r_ok hs m (ok_mul (r := (((((((((0 + q.b0.v) * 256) + q.b1.v) * 256) + q.b2.v) * 256) + q.b3.v) * 256) + q.b4.v) * 256) rfl rfl (wrap_i64 (by omega) (by omega))) rfl ?_
  clear hs a; intro a hs
  refine r_ok hs m (ok_move rfl) rfl ?_
  clear hs a; intro a hs
  refine r_ok hs m (ok_indexArr (i := 5) (r := 5) rfl rfl ar46 ty5 rfl rfl) rfl ?_
  clear hs a; intro a hs
  refine r_ok hs m (ok_load_sc rfl ty5 (bx_at r0) rfl) rfl ?_
  clear hs a; intro a hs
  refine r_ok hs m (ok_conv (r := q.b5.v) rfl in5 in3 (wrap_i64 (by omega) (by omega))) rfl ?_
  clear hs a; intro a hs
  refine r_ok hs m (ok_add (r := ((((((((((0 + q.b0.v) * 256) + q.b1.v) * 256) + q.b2.v) * 256) + q.b3.v) * 256) + q.b4.v) * 256) + q.b5.v) rfl rfl (wrap_i64 (by omega) (by omega))) rfl ?_
  clear hs a; intro a hs
  refine r_ok hs m (ok_assign rfl) rfl ?_
  clear hs a; intro a hs
  refine wpList_nil (n_block (n_then ?_))
  refine c_last ?_
  refine r_ok hs m (ok_move rfl) rfl ?_
  clear hs a; intro a hs
  refine r_ok hs m (ok_add (r := 6) rfl rfl rfl) rfl ?_
  clear hs a; intro a hs
  refine r_ok hs m (ok_assign rfl) rfl ?_
  clear hs a; intro a hs
  refine wpList_nil (n_then ?_)
  refine rounds_s ?_
  refine c_seq ?_
  refine c_reg ?_
  refine r_ok hs m (ok_move rfl) rfl ?_
  clear hs a; intro a hs
  refine r_ok hs m (ok_bin (v := .bool false) rfl rfl rfl) rfl ?_
  clear hs a; intro a hs
  refine wpList_nil (n_then ?_)
  refine c_false hs rfl rfl ?_
  refine wp_exit ?_
  refine ex_then (ex_then (ex_hit (?_)))
  refine n_then ?_
  refine c_reg ?_
  refine r_ok hs m (ok_move rfl) rfl ?_
  clear hs a; intro a hs
  refine r_ok hs m (ok_assign rfl) rfl ?_
  clear hs a; intro a hs
  refine wpList_nil (n_then ?_)
  refine wp_ret ?_
  refine leave hs (vs := [.int .i64 (((((((((((0 + q.b0.v) * 256) + q.b1.v) * 256) + q.b2.v) * 256) + q.b3.v) * 256) + q.b4.v) * 256) + q.b5.v)]) rfl ⟨rfl, trivial⟩ ?_
  refine ⟨?_, m.sub .n⟩
  have q10 : (((((((((((0 + q.b0.v) * 256) + q.b1.v) * 256) + q.b2.v) * 256) + q.b3.v) * 256) + q.b4.v) * 256) + q.b5.v : Int) = weightM q := by clear hs m; unfold weightM; omega
  first | (rw [q10]; done) | (rw [q10]; rfl) | (rw [q10]; rfl) | (simp only [q10, pack]; done)
end Go.Proofs.YtnbpodjbemfpbaaGreat.Fw
