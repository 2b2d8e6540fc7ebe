/-
  Walks: printed by wip/tool/agent.py.
-/
import Derived.Test.YtnbpodjbemfpbaaGreatWa
import Derived.KernelRfl
set_option linter.all false
set_option maxHeartbeats 4000000
set_option maxRecDepth 100000
namespace Go.Proofs.YtnbpodjbemfpbaaGreat.Fw
open Go
theorem or_c (vx : SH) (x : List (Fx .i64)) (w0 : World) (hx : RdS (hh w0) 1 vx.v (x.map cI)) : Pure Tryz.prog 147 [vx.v] (.int .i64 ((orM x).v)) w0 := by
  have lvx := hx.bd
  refine enter (n := 18) Tryz.func147 rfl rfl rfl fun a (hs : St 18 [(0, vx.v)] a) => ?_
  have m := Hp.start w0
  refine c_reg ?_
  refine r_ok hs m (ok_assign rfl) rfl ?_
  clear hs a; intro a hs
  refine wpList_nil (n_then ?_)
  refine c_reg ?_
  refine r_ok hs m (ok_assign rfl) rfl ?_
  clear hs a; intro a hs
  refine wpList_nil (n_then ?_)
  refine c_seq ?_
  refine c_reg ?_
  refine r_ok hs m (ok_move rfl) rfl ?_
  clear hs a; intro a hs
  refine r_ok hs m (ok_len (r := (x.length : Int)) m rfl sl232 (rc_fr hx) (by simp)) rfl ?_
  clear hs a; intro a hs
  refine r_ok hs m (ok_move rfl) rfl ?_
  clear hs a; intro a hs
  refine wpList_nil (n_then ?_)
  refine wp_block ?_
  refine wp_loop_ghost (fun gn a w => ∃ k : Nat, (k ≤ x.length) ∧ (orM x = orM (x.drop k)) ∧ gn = x.length - k ∧ St 18 [(3, .int .i64 0), (6, vx.v), (7, .int .i64 (x.length : Int)), (8, .int .i64 (k : Int))] a ∧ Hp w0 (hh w0) [] w) (x.length - 0) ⟨0, by omega, by rfl, rfl, hs.to ⟨rfl, rfl, rfl, rfl, trivial⟩, m.sub .n⟩ ?_
  clear hs m a
  rintro gn a w1 ⟨k, hk, ho, rfl, hs, m⟩
  refine c_reg ?_
  refine r_ok hs m (ok_bin rfl rfl rfl) rfl ?_
  clear hs a; intro a hs
  refine wpList_nil (n_then ?_)
  refine c_seq ?_
  refine c_cond hs rfl (fun h2 => ?_) (fun h2 => ?_)
  rotate_left
  · have h2p := of_decide_eq_false h2
    refine wp_exit ?_
    refine ex_then (ex_then (ex_hit (?_)))
    refine n_then ?_
    refine c_reg ?_
    refine r_ok hs m (ok_move rfl) rfl ?_
    clear hs a; intro a hs
    refine r_ok hs m (ok_assign rfl) rfl ?_
    clear hs a; intro a hs
    refine wpList_nil (n_then ?_)
    refine wp_ret ?_
    refine leave hs (vs := [.int .i64 0]) rfl ⟨rfl, trivial⟩ ?_
    refine ⟨?_, m.sub .n⟩
    have q3 : (0 : Int) = (orM x).v := by clear hs m; rw [ho]; first | rw [orM_hit (by assumption) (by assumption)] | rw [orM_end (by omega)]
    first | (rw [q3]; done) | (rw [q3]; rfl) | (rw [q3]; rfl) | (simp only [q3, pack]; done)
  have h2p := of_decide_eq_true h2
  refine wp_skip ?_
  refine n_then ?_
  refine c_seq ?_
  refine wp_block ?_
  refine c_reg ?_
  obtain ⟨e4, he5⟩ := get_of_lt (l := x) (i := k) (by omega)
  refine elF (c := cI) (e := e4) hs m (x := (.tmp 6)) (ix := (.tmp 8)) rfl rfl sl232 ty3 hx (by omega) he5 fun p6 hp7 ok8 => ?_
  refine r_ok hs m (ok8 _ _ _ _ _) rfl ?_
  clear hs a; intro a hs
  refine r_ok hs m (ok_load_sc rfl ty3 (fr_at hp7) rfl) rfl ?_
  clear hs a; intro a hs
  refine r_ok hs m (ok_assign rfl) rfl ?_
  clear hs a; intro a hs
  refine wpList_nil (n_then ?_)
  refine c_reg ?_
  refine r_ok hs m (ok_move rfl) rfl ?_
  clear hs a; intro a hs
  refine r_ok hs m (ok_move rfl) rfl ?_
  clear hs a; intro a hs
  refine r_ok hs m (ok_bin rfl rfl rfl) rfl ?_
  clear hs a; intro a hs
  refine wpList_nil (n_then ?_)
  refine c_cond hs rfl (fun h9 => ?_) (fun h9 => ?_)
  · have h9p := ne_of_bne h9
    refine c_reg ?_
    refine r_ok hs m (ok_move rfl) rfl ?_
    clear hs a; intro a hs
    refine r_ok hs m (ok_assign rfl) rfl ?_
    clear hs a; intro a hs
    refine wpList_nil (n_then ?_)
    refine wp_ret ?_
    refine ret_block (ret_then (ret_then (ret_block (ret_then (leave hs (vs := [.int .i64 e4.v]) rfl ⟨rfl, trivial⟩ ?_)))))
    refine ⟨?_, m.sub .n⟩
    have q10 : (e4.v : Int) = (orM x).v := by clear hs m; rw [ho]; first | rw [orM_hit (by assumption) (by assumption)] | rw [orM_end (by omega)]
    first | (rw [q10]; done) | (rw [q10]; rfl) | (rw [q10]; rfl) | (simp only [q10, pack]; done)
  have h9p := eq_of_bne_false h9
  refine wp_skip ?_
  refine n_block (n_then ?_)
  refine c_last ?_
  refine r_ok hs m (ok_add (r := (k : Int) + 1) rfl rfl (wrap_i64 (by omega) (by omega))) rfl ?_
  clear hs a; intro a hs
  refine r_ok hs m (ok_move rfl) rfl ?_
  clear hs a; intro a hs
  refine wpList_nil (n_then ?_)
  exact ⟨x.length - (k + 1), by omega, k + 1, by omega, by rw [ho]; exact orM_miss (by assumption) (by assumption), rfl, hs.to ⟨rfl, rfl, rfl, rfl, trivial⟩, m.sub .n⟩
theorem cprefix_c (x : TPrefix) (y : TPrefix) (w0 : World) : Pure Tryz.prog 99 [.agg ⟨cPrefix x⟩, .agg ⟨cPrefix y⟩] (.int .i64 ((cmpPrefix x y).v)) w0 := by
  refine enter (n := 17) Tryz.func99 rfl rfl rfl fun a (hs : St 17 [(0, .agg ⟨cPrefix x⟩), (1, .agg ⟨cPrefix y⟩)] a) => ?_
  have m := Hp.start w0
  refine c_reg ?_
  refine r_box (cs := cPrefix x) hs m rfl rfl rfl ?_
  clear m hs a; intro p1 w2 m a hs
  refine r_box (cs := cPrefix y) hs m rfl rfl rfl ?_
  clear m hs a w2; intro p3 w4 m a hs
  refine r_ok hs m (ok_assign rfl) rfl ?_
  clear hs a; intro a hs
  refine wpList_nil (n_then ?_)
  refine c_drawH (Hp w0 (hh w0) [Bx p3 44 (cPrefix y), Bx p1 44 (cPrefix x)]) m mo ?_; clear m w4; intro w5 m
  refine h_ok (i := 0) rfl (by kernel_rfl) (by kernel_rfl) (by kernel_rfl) hs (m.sub (.c r0 (.c r0 .n))) (ok_fieldAddr (r := 0) rfl fd44_0 ty42 rfl) rfl ?_
  clear hs a; intro a hs
  refine h_ok (i := 1) rfl (by kernel_rfl) (by kernel_rfl) (by kernel_rfl) hs (m.sub (.c r0 (.c r0 .n))) (ok_load_sc rfl ty42 (bx_at r1) rfl) rfl ?_
  clear hs a; intro a hs
  refine h_ok (i := 2) rfl (by kernel_rfl) (by kernel_rfl) (by kernel_rfl) hs (m.sub (.c r0 (.c r0 .n))) (ok_fieldAddr (r := 0) rfl fd44_0 ty42 rfl) rfl ?_
  clear hs a; intro a hs
  refine h_ok (i := 3) rfl (by kernel_rfl) (by kernel_rfl) (by kernel_rfl) hs (m.sub (.c r0 (.c r0 .n))) (ok_load_sc rfl ty42 (bx_at r0) rfl) rfl ?_
  clear hs a; intro a hs
  refine h_ok (i := 5) rfl (by kernel_rfl) (by kernel_rfl) (by kernel_rfl) hs (m.sub (.c r0 (.c r0 .n))) (ok_fieldAddr (r := 1) rfl fd44_1 ty3 rfl) rfl ?_
  clear hs a; intro a hs
  refine h_ok (i := 6) rfl (by kernel_rfl) (by kernel_rfl) (by kernel_rfl) hs (m.sub (.c r0 (.c r0 .n))) (ok_load_sc rfl ty3 (bx_at r1) rfl) rfl ?_
  clear hs a; intro a hs
  refine h_ok (i := 7) rfl (by kernel_rfl) (by kernel_rfl) (by kernel_rfl) hs (m.sub (.c r0 (.c r0 .n))) (ok_fieldAddr (r := 1) rfl fd44_1 ty3 rfl) rfl ?_
  clear hs a; intro a hs
  refine h_ok (i := 8) rfl (by kernel_rfl) (by kernel_rfl) (by kernel_rfl) hs (m.sub (.c r0 (.c r0 .n))) (ok_load_sc rfl ty3 (bx_at r0) rfl) rfl ?_
  clear hs a; intro a hs
  refine h_eff (i := 4) (by kernel_rfl) rfl ?_
  refine r_callP hs m rfl rfl ca102 rfl (compareA_c x.Addr.v y.Addr.v _  ) rfl ?_
  clear m hs a w5; intro w6 m a hs
  refine wpList_nil (n_then ⟨(m.sub (.c r0 (.c r0 .n))), ?_⟩)
  refine h_eff (i := 9) (by kernel_rfl) rfl ?_
  refine r_callP hs m rfl rfl ca148 rfl (compareI_c x.Len.v y.Len.v _  ) rfl ?_
  clear m hs a w6; intro w7 m a hs
  refine wpList_nil (n_then ⟨(m.sub (.c r0 (.c r0 .n))), ?_⟩)
  refine h_eff (i := 10) (by kernel_rfl) rfl ?_
  refine r_buildM (c := cI) (ys := [(cmpF x.Addr.v y.Addr.v), (cmpF x.Len.v y.Len.v)]) hs m sl232 ty3 ze3 rfl rfl rfl rfl rfl (fun _ => rfl) rfl rfl rfl ?_
  clear m hs a w7; intro v8 w9 m a hs
  refine wpList_nil (n_then ⟨(m.sub (.c r1 (.c r1 .n))), ?_⟩)
  refine h_eff (i := 11) (by kernel_rfl) rfl ?_
  refine r_callP hs m rfl rfl ca147 rfl (or_c v8 [(cmpF x.Addr.v y.Addr.v), (cmpF x.Len.v y.Len.v)] _ (m.rdv r0) ) rfl ?_
  clear m hs a w9; intro w10 m a hs
  refine wpList_nil (n_then ⟨(m.sub (.c r1 (.c r1 .n))), ?_⟩)
  refine h_ok (i := 12) rfl (by kernel_rfl) (by kernel_rfl) (by kernel_rfl) hs (m.sub (.c r1 (.c r1 .n))) (ok_assign rfl) rfl ?_
  clear hs a; intro a hs
  refine h_done (by kernel_rfl) (n_then ?_)
  refine wp_ret ?_
  refine leave hs (vs := [.int .i64 ((orM [(cmpF x.Addr.v y.Addr.v), (cmpF x.Len.v y.Len.v)]).v)]) rfl ⟨rfl, trivial⟩ ?_
  refine ⟨?_, m.sub .n⟩
  have q11 : ((orM [(cmpF x.Addr.v y.Addr.v), (cmpF x.Len.v y.Len.v)]).v : Int) = (cmpPrefix x y).v := by clear hs m; rfl
  first | (rw [q11]; done) | (rw [q11]; rfl) | (rw [q11]; rfl) | (simp only [q11, pack]; done)
theorem croute_c (x : TRoute) (y : TRoute) (w0 : World) : Pure Tryz.prog 45 [.agg ⟨cRoute x⟩, .agg ⟨cRoute y⟩] (.int .i64 ((cmpRoute x y).v)) w0 := by
  refine enter (n := 10) Tryz.func45 rfl rfl rfl fun a (hs : St 10 [(0, .agg ⟨cRoute x⟩), (1, .agg ⟨cRoute y⟩)] a) => ?_
  have m := Hp.start w0
  refine c_reg ?_
  refine r_box (cs := cRoute x) hs m rfl rfl rfl ?_
  clear m hs a; intro p1 w2 m a hs
  refine r_box (cs := cRoute y) hs m rfl rfl rfl ?_
  clear m hs a w2; intro p3 w4 m a hs
  refine r_ok hs m (ok_assign rfl) rfl ?_
  clear hs a; intro a hs
  refine wpList_nil (n_then ?_)
  refine c_reg ?_
  refine r_ok hs m (ok_fieldAddr (r := 0) rfl fd51_0 ty44 rfl) rfl ?_
  clear hs a; intro a hs
  refine r_ok hs m (ok_load_ag (vs := cPrefix x.Dst) rfl ty44 (bx_at r1) rfl rfl) rfl ?_
  clear hs a; intro a hs
  refine r_ok hs m (ok_fieldAddr (r := 0) rfl fd51_0 ty44 rfl) rfl ?_
  clear hs a; intro a hs
  refine r_ok hs m (ok_load_ag (vs := cPrefix y.Dst) rfl ty44 (bx_at r0) rfl rfl) rfl ?_
  clear hs a; intro a hs
  refine r_callP hs m rfl rfl ca99 rfl (cprefix_c x.Dst y.Dst _  ) rfl ?_
  clear m hs a w4; intro w5 m a hs
  refine r_ok hs m (ok_assign rfl) rfl ?_
  clear hs a; intro a hs
  refine wpList_nil (n_then ?_)
  refine wp_ret ?_
  refine leave hs (vs := [.int .i64 ((cmpPrefix x.Dst y.Dst).v)]) rfl ⟨rfl, trivial⟩ ?_
  refine ⟨?_, m.sub .n⟩
  have q6 : ((cmpPrefix x.Dst y.Dst).v : Int) = (cmpRoute x y).v := by clear hs m; rfl
  first | (rw [q6]; done) | (rw [q6]; rfl) | (rw [q6]; rfl) | (simp only [q6, pack]; done)
theorem cneigh_c (x : TNeigh) (y : TNeigh) (w0 : World) : Pure Tryz.prog 47 [.agg ⟨cNeigh x⟩, .agg ⟨cNeigh y⟩] (.int .i64 ((cmpNeigh x y).v)) w0 := by
  refine enter (n := 10) Tryz.func47 rfl rfl rfl fun a (hs : St 10 [(0, .agg ⟨cNeigh x⟩), (1, .agg ⟨cNeigh y⟩)] a) => ?_
  have m := Hp.start w0
  refine c_reg ?_
  refine r_box (cs := cNeigh x) hs m rfl rfl rfl ?_
  clear m hs a; intro p1 w2 m a hs
  refine r_box (cs := cNeigh y) hs m rfl rfl rfl ?_
  clear m hs a w2; intro p3 w4 m a hs
  refine r_ok hs m (ok_assign rfl) rfl ?_
  clear hs a; intro a hs
  refine wpList_nil (n_then ?_)
  refine c_reg ?_
  refine r_ok hs m (ok_fieldAddr (r := 0) rfl fd54_0 ty42 rfl) rfl ?_
  clear hs a; intro a hs
  refine r_ok hs m (ok_load_sc rfl ty42 (bx_at r1) rfl) rfl ?_
  clear hs a; intro a hs
  refine r_ok hs m (ok_fieldAddr (r := 0) rfl fd54_0 ty42 rfl) rfl ?_
  clear hs a; intro a hs
  refine r_ok hs m (ok_load_sc rfl ty42 (bx_at r0) rfl) rfl ?_
  clear hs a; intro a hs
  refine r_callP hs m rfl rfl ca102 rfl (compareA_c x.IP.v y.IP.v _  ) rfl ?_
  clear m hs a w4; intro w5 m a hs
  refine r_ok hs m (ok_assign rfl) rfl ?_
  clear hs a; intro a hs
  refine wpList_nil (n_then ?_)
  refine wp_ret ?_
  refine leave hs (vs := [.int .i64 ((cmpF x.IP.v y.IP.v).v)]) rfl ⟨rfl, trivial⟩ ?_
  refine ⟨?_, m.sub .n⟩
  have q6 : ((cmpF x.IP.v y.IP.v).v : Int) = (cmpNeigh x y).v := by clear hs m; rfl
  first | (rw [q6]; done) | (rw [q6]; rfl) | (rw [q6]; rfl) | (simp only [q6, pack]; done)
end Go.Proofs.YtnbpodjbemfpbaaGreat.Fw
