/-
  Walks: printed by wip/tool/agent.py.
-/
import Derived.Test.YtnbpodjbemfpbaaGreatWn
import Derived.Test.YtnbpodjbemfpbaaGreatFw17
import Derived.Test.YtnbpodjbemfpbaaGreatPl5
import Derived.KernelRfl
set_option linter.all false
set_option maxHeartbeats 4000000
set_option maxRecDepth 100000
namespace Go.Proofs.YtnbpodjbemfpbaaGreat.Fw
open Go
theorem hasRoute_c (vt_Routes : SH) (t_Routes : List TRoute) (vt_Neighs : SH) (t_Neighs : List TNeigh) (vt_Fdbs : SH) (t_Fdbs : List TFdb) (q : TRoute) (w0 : World) (ht_Routes : RdS (hh w0) 4 vt_Routes.v (t_Routes.map cRoute)) (ht_Neighs : RdS (hh w0) 7 vt_Neighs.v (t_Neighs.map cNeigh)) (ht_Fdbs : RdS (hh w0) 7 vt_Fdbs.v (t_Fdbs.map cFdb)) : Pure Tryz.prog 65 [.agg ⟨[vt_Routes.v, vt_Neighs.v, vt_Fdbs.v]⟩, .agg ⟨cRoute q⟩] (.bool (decide (q ∈ t_Routes))) w0 := by
  have lvt_Routes := ht_Routes.bd
  have lvt_Neighs := ht_Neighs.bd
  have lvt_Fdbs := ht_Fdbs.bd
  refine enter (n := 20) Tryz.func65 rfl rfl rfl fun a (hs : St 20 [(0, .agg ⟨[vt_Routes.v, vt_Neighs.v, vt_Fdbs.v]⟩), (1, .agg ⟨cRoute q⟩)] a) => ?_
  have m := Hp.start w0
  refine c_reg ?_
  refine r_box (cs := [vt_Routes.v, vt_Neighs.v, vt_Fdbs.v]) hs m rfl rfl rfl ?_
  clear m hs a; intro p1 w2 m a hs
  refine r_box (cs := cRoute q) hs m rfl rfl rfl ?_
  clear m hs a w2; intro p3 w4 m a hs
  refine r_ok hs m (ok_assign rfl) rfl ?_
  clear hs a; intro a hs
  refine wpList_nil (n_then ?_)
  refine c_seq ?_
  refine c_reg ?_
  refine r_ok hs m (ok_assign rfl) rfl ?_
  clear hs a; intro a hs
  refine wpList_nil (n_then ?_)
  refine wp_block ?_
  refine wp_loop_ghost (fun gn a w => ∃ k : Nat, (k ≤ t_Routes.length) ∧ (q ∉ t_Routes.take k) ∧ gn = t_Routes.length - k ∧ St 20 [(2, .pointer (some (padd p1 0))), (3, .pointer (some (padd p3 0))), (5, .int .i64 (k : Int))] a ∧ Hp w0 (hh w0) [Bx p1 29 [vt_Routes.v, vt_Neighs.v, vt_Fdbs.v], Bx p3 51 (cRoute q)] w) (t_Routes.length - 0) ⟨0, by omega, by simp, rfl, hs.to ⟨rfl, rfl, rfl, trivial⟩, m.sub (.c r1 (.c r0 .n))⟩ ?_
  clear hs m a w4
  rintro gn a w5 ⟨k, hk, hn, rfl, hs, m⟩
  refine c_seq ?_
  refine c_reg ?_
  refine r_ok hs m (ok_move rfl) rfl ?_
  clear hs a; intro a hs
  refine r_ok hs m (ok_fieldAddr (r := 0) rfl fd29_0 ty25 rfl) rfl ?_
  clear hs a; intro a hs
  refine r_ok hs m (ok_load_sc rfl ty25 (bx_at r0) rfl) rfl ?_
  clear hs a; intro a hs
  refine r_ok hs m (ok_len (r := (t_Routes.length : Int)) m rfl sl25 (rc_fr ht_Routes) (by simp)) rfl ?_
  clear hs a; intro a hs
  refine r_ok hs m (ok_bin rfl rfl rfl) rfl ?_
  clear hs a; intro a hs
  refine wpList_nil (n_then ?_)
  refine c_cond hs rfl (fun h6 => ?_) (fun h6 => ?_)
  rotate_left
  · have h6p := of_decide_eq_false h6
    refine wp_exit ?_
    refine ex_then (ex_then (ex_hit (?_)))
    refine n_then ?_
    refine c_reg ?_
    refine r_ok hs m (ok_assign rfl) rfl ?_
    clear hs a; intro a hs
    refine wpList_nil (n_then ?_)
    refine wp_ret ?_
    refine leave hs (vs := [.bool false]) rfl ⟨rfl, trivial⟩ ?_
    refine ⟨?_, m.sub .n⟩
    have q7 : (false : Bool) = decide (q ∈ t_Routes) := by clear hs m; first | exact has_t (by assumption) (by assumption) | exact has_f (by omega) hn
    first | (rw [q7]; done) | (rw [q7]; rfl) | (rw [q7]; rfl) | (simp only [q7, pack]; done)
  have h6p := of_decide_eq_true h6
  refine wp_skip ?_
  refine n_then ?_
  refine c_seq ?_
  refine wp_block ?_
  refine c_draw m mo (by kernel_rfl) ?_
  refine q_ok hs (ok_fieldAddr (r := 0) rfl fd29_0 ty25 rfl) rfl ?_
  clear hs a; intro a hs
  refine q_ok hs (ok_load_sc rfl ty25 (bx_at r0) rfl) rfl ?_
  clear hs a; intro a hs
  refine q_ok hs (ok_move rfl) rfl ?_
  clear hs a; intro a hs
  obtain ⟨e8, he9⟩ := get_of_lt (l := t_Routes) (i := k) (by omega)
  refine elF (c := cRoute) (e := e8) hs m (x := (.tmp 14)) (ix := (.tmp 15)) rfl rfl sl25 ty51 ht_Routes (by omega) he9 fun p10 hp11 ok12 => ?_
  refine q_ok hs (ok12 _ _ _ _ _) rfl ?_
  clear hs a; intro a hs
  refine q_ok hs (ok_load_ag (vs := cRoute e8) rfl ty51 (fr_at hp11) rfl rfl) rfl ?_
  clear hs a; intro a hs
  refine q_ok hs (ok_load_ag (vs := cRoute q) rfl ty51 (bx_at r1) rfl rfl) rfl ?_
  clear hs a; intro a hs
  refine q_ok hs (ok_eqv (b := decide (e8 = q)) rfl rfl eqT51 (fRoute _) (fRoute _) (iRoute e8 q)) rfl ?_
  clear hs a; intro a hs
  refine wpQuiet_nil ?_; clear m w5; intro w13 m
  refine c_cond hs rfl (fun h14 => ?_) (fun h14 => ?_)
  · have h14p := of_decide_eq_true h14
    refine c_reg ?_
    refine r_ok hs m (ok_assign rfl) rfl ?_
    clear hs a; intro a hs
    refine wpList_nil (n_then ?_)
    refine wp_ret ?_
    refine ret_block (ret_then (ret_then (ret_block (ret_then (leave hs (vs := [.bool true]) rfl ⟨rfl, trivial⟩ ?_)))))
    refine ⟨?_, m.sub .n⟩
    have q15 : (true : Bool) = decide (q ∈ t_Routes) := by clear hs m; first | exact has_t (by assumption) (by assumption) | exact has_f (by omega) hn
    first | (rw [q15]; done) | (rw [q15]; rfl) | (rw [q15]; rfl) | (simp only [q15, pack]; done)
  have h14p := of_decide_eq_false h14
  refine wp_skip ?_
  refine n_block (n_then ?_)
  refine c_last ?_
  refine r_ok hs m (ok_move rfl) rfl ?_
  clear hs a; intro a hs
  refine r_ok hs m (ok_add (r := (k : Int) + 1) rfl rfl (wrap_i64 (by omega) (by omega))) rfl ?_
  clear hs a; intro a hs
  refine r_ok hs m (ok_assign rfl) rfl ?_
  clear hs a; intro a hs
  refine wpList_nil (n_then ?_)
  exact ⟨t_Routes.length - (k + 1), by omega, k + 1, by omega, by exact has_next hn (by assumption) (by assumption), rfl, hs.to ⟨rfl, rfl, rfl, trivial⟩, m.sub (.c r0 (.c r0 .n))⟩
theorem hasNeigh_c (vt_Routes : SH) (t_Routes : List TRoute) (vt_Neighs : SH) (t_Neighs : List TNeigh) (vt_Fdbs : SH) (t_Fdbs : List TFdb) (q : TNeigh) (w0 : World) (ht_Routes : RdS (hh w0) 4 vt_Routes.v (t_Routes.map cRoute)) (ht_Neighs : RdS (hh w0) 7 vt_Neighs.v (t_Neighs.map cNeigh)) (ht_Fdbs : RdS (hh w0) 7 vt_Fdbs.v (t_Fdbs.map cFdb)) : Pure Tryz.prog 63 [.agg ⟨[vt_Routes.v, vt_Neighs.v, vt_Fdbs.v]⟩, .agg ⟨cNeigh q⟩] (.bool (decide (q ∈ t_Neighs))) w0 := by
  have lvt_Routes := ht_Routes.bd
  have lvt_Neighs := ht_Neighs.bd
  have lvt_Fdbs := ht_Fdbs.bd
  refine enter (n := 20) Tryz.func63 rfl rfl rfl fun a (hs : St 20 [(0, .agg ⟨[vt_Routes.v, vt_Neighs.v, vt_Fdbs.v]⟩), (1, .agg ⟨cNeigh q⟩)] a) => ?_
  have m := Hp.start w0
  refine c_reg ?_
  refine r_box (cs := [vt_Routes.v, vt_Neighs.v, vt_Fdbs.v]) hs m rfl rfl rfl ?_
  clear m hs a; intro p1 w2 m a hs
  refine r_box (cs := cNeigh q) hs m rfl rfl rfl ?_
  clear m hs a w2; intro p3 w4 m a hs
  refine r_ok hs m (ok_assign rfl) rfl ?_
  clear hs a; intro a hs
  refine wpList_nil (n_then ?_)
  refine c_seq ?_
  refine c_reg ?_
  refine r_ok hs m (ok_assign rfl) rfl ?_
  clear hs a; intro a hs
  refine wpList_nil (n_then ?_)
  refine wp_block ?_
  refine wp_loop_ghost (fun gn a w => ∃ k : Nat, (k ≤ t_Neighs.length) ∧ (q ∉ t_Neighs.take k) ∧ gn = t_Neighs.length - k ∧ St 20 [(2, .pointer (some (padd p1 0))), (3, .pointer (some (padd p3 0))), (5, .int .i64 (k : Int))] a ∧ Hp w0 (hh w0) [Bx p1 29 [vt_Routes.v, vt_Neighs.v, vt_Fdbs.v], Bx p3 54 (cNeigh q)] w) (t_Neighs.length - 0) ⟨0, by omega, by simp, rfl, hs.to ⟨rfl, rfl, rfl, trivial⟩, m.sub (.c r1 (.c r0 .n))⟩ ?_
  clear hs m a w4
  rintro gn a w5 ⟨k, hk, hn, rfl, hs, m⟩
  refine c_seq ?_
  refine c_reg ?_
  refine r_ok hs m (ok_move rfl) rfl ?_
  clear hs a; intro a hs
  refine r_ok hs m (ok_fieldAddr (r := 1) rfl fd29_1 ty26 rfl) rfl ?_
  clear hs a; intro a hs
  refine r_ok hs m (ok_load_sc rfl ty26 (bx_at r0) rfl) rfl ?_
  clear hs a; intro a hs
  refine r_ok hs m (ok_len (r := (t_Neighs.length : Int)) m rfl sl26 (rc_fr ht_Neighs) (by simp)) rfl ?_
  clear hs a; intro a hs
  refine r_ok hs m (ok_bin rfl rfl rfl) rfl ?_
  clear hs a; intro a hs
  refine wpList_nil (n_then ?_)
  refine c_cond hs rfl (fun h6 => ?_) (fun h6 => ?_)
  rotate_left
  · have h6p := of_decide_eq_false h6
    refine wp_exit ?_
    refine ex_then (ex_then (ex_hit (?_)))
    refine n_then ?_
    refine c_reg ?_
    refine r_ok hs m (ok_assign rfl) rfl ?_
    clear hs a; intro a hs
    refine wpList_nil (n_then ?_)
    refine wp_ret ?_
    refine leave hs (vs := [.bool false]) rfl ⟨rfl, trivial⟩ ?_
    refine ⟨?_, m.sub .n⟩
    have q7 : (false : Bool) = decide (q ∈ t_Neighs) := by clear hs m; first | exact has_t (by assumption) (by assumption) | exact has_f (by omega) hn
    first | (rw [q7]; done) | (rw [q7]; rfl) | (rw [q7]; rfl) | (simp only [q7, pack]; done)
  have h6p := of_decide_eq_true h6
  refine wp_skip ?_
  refine n_then ?_
  refine c_seq ?_
  refine wp_block ?_
  refine c_draw m mo (by kernel_rfl) ?_
  refine q_ok hs (ok_fieldAddr (r := 1) rfl fd29_1 ty26 rfl) rfl ?_
  clear hs a; intro a hs
  refine q_ok hs (ok_load_sc rfl ty26 (bx_at r0) rfl) rfl ?_
  clear hs a; intro a hs
  refine q_ok hs (ok_move rfl) rfl ?_
  clear hs a; intro a hs
  obtain ⟨e8, he9⟩ := get_of_lt (l := t_Neighs) (i := k) (by omega)
  refine elF (c := cNeigh) (e := e8) hs m (x := (.tmp 14)) (ix := (.tmp 15)) rfl rfl sl26 ty54 ht_Neighs (by omega) he9 fun p10 hp11 ok12 => ?_
  refine q_ok hs (ok12 _ _ _ _ _) rfl ?_
  clear hs a; intro a hs
  refine q_ok hs (ok_load_ag (vs := cNeigh e8) rfl ty54 (fr_at hp11) rfl rfl) rfl ?_
  clear hs a; intro a hs
  refine q_ok hs (ok_load_ag (vs := cNeigh q) rfl ty54 (bx_at r1) rfl rfl) rfl ?_
  clear hs a; intro a hs
  refine q_ok hs (ok_eqv (b := decide (e8 = q)) rfl rfl eqT54 (fNeigh _) (fNeigh _) (iNeigh e8 q)) rfl ?_
  clear hs a; intro a hs
  refine wpQuiet_nil ?_; clear m w5; intro w13 m
  refine c_cond hs rfl (fun h14 => ?_) (fun h14 => ?_)
  · have h14p := of_decide_eq_true h14
    refine c_reg ?_
    refine r_ok hs m (ok_assign rfl) rfl ?_
    clear hs a; intro a hs
    refine wpList_nil (n_then ?_)
    refine wp_ret ?_
    refine ret_block (ret_then (ret_then (ret_block (ret_then (leave hs (vs := [.bool true]) rfl ⟨rfl, trivial⟩ ?_)))))
    refine ⟨?_, m.sub .n⟩
    have q15 : (true : Bool) = decide (q ∈ t_Neighs) := by clear hs m; first | exact has_t (by assumption) (by assumption) | exact has_f (by omega) hn
    first | (rw [q15]; done) | (rw [q15]; rfl) | (rw [q15]; rfl) | (simp only [q15, pack]; done)
  have h14p := of_decide_eq_false h14
  refine wp_skip ?_
  refine n_block (n_then ?_)
  refine c_last ?_
  refine r_ok hs m (ok_move rfl) rfl ?_
  clear hs a; intro a hs
  refine r_ok hs m (ok_add (r := (k : Int) + 1) rfl rfl (wrap_i64 (by omega) (by omega))) rfl ?_
  clear hs a; intro a hs
  refine r_ok hs m (ok_assign rfl) rfl ?_
  clear hs a; intro a hs
  refine wpList_nil (n_then ?_)
  exact ⟨t_Neighs.length - (k + 1), by omega, k + 1, by omega, by exact has_next hn (by assumption) (by assumption), rfl, hs.to ⟨rfl, rfl, rfl, trivial⟩, m.sub (.c r0 (.c r0 .n))⟩
theorem hasFdb_c (vt_Routes : SH) (t_Routes : List TRoute) (vt_Neighs : SH) (t_Neighs : List TNeigh) (vt_Fdbs : SH) (t_Fdbs : List TFdb) (q : TFdb) (w0 : World) (ht_Routes : RdS (hh w0) 4 vt_Routes.v (t_Routes.map cRoute)) (ht_Neighs : RdS (hh w0) 7 vt_Neighs.v (t_Neighs.map cNeigh)) (ht_Fdbs : RdS (hh w0) 7 vt_Fdbs.v (t_Fdbs.map cFdb)) : Pure Tryz.prog 64 [.agg ⟨[vt_Routes.v, vt_Neighs.v, vt_Fdbs.v]⟩, .agg ⟨cFdb q⟩] (.bool (decide (q ∈ t_Fdbs))) w0 := by
  have lvt_Routes := ht_Routes.bd
  have lvt_Neighs := ht_Neighs.bd
  have lvt_Fdbs := ht_Fdbs.bd
  refine enter (n := 20) Tryz.func64 rfl rfl rfl fun a (hs : St 20 [(0, .agg ⟨[vt_Routes.v, vt_Neighs.v, vt_Fdbs.v]⟩), (1, .agg ⟨cFdb q⟩)] a) => ?_
  have m := Hp.start w0
  refine c_reg ?_
  refine r_box (cs := [vt_Routes.v, vt_Neighs.v, vt_Fdbs.v]) hs m rfl rfl rfl ?_
  clear m hs a; intro p1 w2 m a hs
  refine r_box (cs := cFdb q) hs m rfl rfl rfl ?_
  clear m hs a w2; intro p3 w4 m a hs
  refine r_ok hs m (ok_assign rfl) rfl ?_
  clear hs a; intro a hs
  refine wpList_nil (n_then ?_)
  refine c_seq ?_
  refine c_reg ?_
  refine r_ok hs m (ok_assign rfl) rfl ?_
  clear hs a; intro a hs
  refine wpList_nil (n_then ?_)
  refine wp_block ?_
  refine wp_loop_ghost (fun gn a w => ∃ k : Nat, (k ≤ t_Fdbs.length) ∧ (q ∉ t_Fdbs.take k) ∧ gn = t_Fdbs.length - k ∧ St 20 [(2, .pointer (some (padd p1 0))), (3, .pointer (some (padd p3 0))), (5, .int .i64 (k : Int))] a ∧ Hp w0 (hh w0) [Bx p1 29 [vt_Routes.v, vt_Neighs.v, vt_Fdbs.v], Bx p3 56 (cFdb q)] w) (t_Fdbs.length - 0) ⟨0, by omega, by simp, rfl, hs.to ⟨rfl, rfl, rfl, trivial⟩, m.sub (.c r1 (.c r0 .n))⟩ ?_
  clear hs m a w4
  rintro gn a w5 ⟨k, hk, hn, rfl, hs, m⟩
  refine c_seq ?_
  refine c_reg ?_
  refine r_ok hs m (ok_move rfl) rfl ?_
  clear hs a; intro a hs
  refine r_ok hs m (ok_fieldAddr (r := 2) rfl fd29_2 ty27 rfl) rfl ?_
  clear hs a; intro a hs
  refine r_ok hs m (ok_load_sc rfl ty27 (bx_at r0) rfl) rfl ?_
  clear hs a; intro a hs
  refine r_ok hs m (ok_len (r := (t_Fdbs.length : Int)) m rfl sl27 (rc_fr ht_Fdbs) (by simp)) rfl ?_
  clear hs a; intro a hs
  refine r_ok hs m (ok_bin rfl rfl rfl) rfl ?_
  clear hs a; intro a hs
  refine wpList_nil (n_then ?_)
  refine c_cond hs rfl (fun h6 => ?_) (fun h6 => ?_)
  rotate_left
  · have h6p := of_decide_eq_false h6
    refine wp_exit ?_
    refine ex_then (ex_then (ex_hit (?_)))
    refine n_then ?_
    refine c_reg ?_
    refine r_ok hs m (ok_assign rfl) rfl ?_
    clear hs a; intro a hs
    refine wpList_nil (n_then ?_)
    refine wp_ret ?_
    refine leave hs (vs := [.bool false]) rfl ⟨rfl, trivial⟩ ?_
    refine ⟨?_, m.sub .n⟩
    have q7 : (false : Bool) = decide (q ∈ t_Fdbs) := by clear hs m; first | exact has_t (by assumption) (by assumption) | exact has_f (by omega) hn
    first | (rw [q7]; done) | (rw [q7]; rfl) | (rw [q7]; rfl) | (simp only [q7, pack]; done)
  have h6p := of_decide_eq_true h6
  refine wp_skip ?_
  refine n_then ?_
  refine c_seq ?_
  refine wp_block ?_
  refine c_draw m mo (by kernel_rfl) ?_
  refine q_ok hs (ok_fieldAddr (r := 2) rfl fd29_2 ty27 rfl) rfl ?_
  clear hs a; intro a hs
  refine q_ok hs (ok_load_sc rfl ty27 (bx_at r0) rfl) rfl ?_
  clear hs a; intro a hs
  refine q_ok hs (ok_move rfl) rfl ?_
  clear hs a; intro a hs
  obtain ⟨e8, he9⟩ := get_of_lt (l := t_Fdbs) (i := k) (by omega)
  refine elF (c := cFdb) (e := e8) hs m (x := (.tmp 14)) (ix := (.tmp 15)) rfl rfl sl27 ty56 ht_Fdbs (by omega) he9 fun p10 hp11 ok12 => ?_
  refine q_ok hs (ok12 _ _ _ _ _) rfl ?_
  clear hs a; intro a hs
  refine q_ok hs (ok_load_ag (vs := cFdb e8) rfl ty56 (fr_at hp11) rfl rfl) rfl ?_
  clear hs a; intro a hs
  refine q_ok hs (ok_load_ag (vs := cFdb q) rfl ty56 (bx_at r1) rfl rfl) rfl ?_
  clear hs a; intro a hs
  refine q_ok hs (ok_eqv (b := decide (e8 = q)) rfl rfl eqT56 (fFdb _) (fFdb _) (iFdb e8 q)) rfl ?_
  clear hs a; intro a hs
  refine wpQuiet_nil ?_; clear m w5; intro w13 m
  refine c_cond hs rfl (fun h14 => ?_) (fun h14 => ?_)
  · have h14p := of_decide_eq_true h14
    refine c_reg ?_
    refine r_ok hs m (ok_assign rfl) rfl ?_
    clear hs a; intro a hs
    refine wpList_nil (n_then ?_)
    refine wp_ret ?_
    refine ret_block (ret_then (ret_then (ret_block (ret_then (leave hs (vs := [.bool true]) rfl ⟨rfl, trivial⟩ ?_)))))
    refine ⟨?_, m.sub .n⟩
    have q15 : (true : Bool) = decide (q ∈ t_Fdbs) := by clear hs m; first | exact has_t (by assumption) (by assumption) | exact has_f (by omega) hn
    first | (rw [q15]; done) | (rw [q15]; rfl) | (rw [q15]; rfl) | (simp only [q15, pack]; done)
  have h14p := of_decide_eq_false h14
  refine wp_skip ?_
  refine n_block (n_then ?_)
  refine c_last ?_
  refine r_ok hs m (ok_move rfl) rfl ?_
  clear hs a; intro a hs
  refine r_ok hs m (ok_add (r := (k : Int) + 1) rfl rfl (wrap_i64 (by omega) (by omega))) rfl ?_
  clear hs a; intro a hs
  refine r_ok hs m (ok_assign rfl) rfl ?_
  clear hs a; intro a hs
  refine wpList_nil (n_then ?_)
  exact ⟨t_Fdbs.length - (k + 1), by omega, k + 1, by omega, by exact has_next hn (by assumption) (by assumption), rfl, hs.to ⟨rfl, rfl, rfl, trivial⟩, m.sub (.c r0 (.c r0 .n))⟩
theorem wayR_c (vt_Routes : SH) (t_Routes : List TRoute) (vt_Neighs : SH) (t_Neighs : List TNeigh) (vt_Fdbs : SH) (t_Fdbs : List TFdb) (r : TRoute) (w0 : World) (ht_Routes : RdS (hh w0) 4 vt_Routes.v (t_Routes.map cRoute)) (ht_Neighs : RdS (hh w0) 7 vt_Neighs.v (t_Neighs.map cNeigh)) (ht_Fdbs : RdS (hh w0) 7 vt_Fdbs.v (t_Fdbs.map cFdb)) : Pure Tryz.prog 116 [.agg ⟨[vt_Routes.v, vt_Neighs.v, vt_Fdbs.v]⟩, .agg ⟨cRoute r⟩] (.agg ⟨cweftref16_Way (wayRM t_Neighs t_Fdbs r)⟩) w0 := by
  have lvt_Routes := ht_Routes.bd
  have lvt_Neighs := ht_Neighs.bd
  have lvt_Fdbs := ht_Fdbs.bd
  refine enter (n := 60) Tryz.func116 rfl rfl rfl fun a (hs : St 60 [(0, .agg ⟨[vt_Routes.v, vt_Neighs.v, vt_Fdbs.v]⟩), (1, .agg ⟨cRoute r⟩)] a) => ?_
  have m := Hp.start w0
  refine c_reg ?_
  refine r_box (cs := [vt_Routes.v, vt_Neighs.v, vt_Fdbs.v]) hs m rfl rfl rfl ?_
  clear m hs a; intro p1 w2 m a hs
  refine r_box (cs := cRoute r) hs m rfl rfl rfl ?_
  clear m hs a w2; intro p3 w4 m a hs
  refine r_alloc hs m ze187 rfl ?_
  clear m hs a w4; intro p5 w6 m a hs
  refine wpList_nil (n_then ?_)
  refine c_reg ?_
  refine r_alloc hs m ze187 rfl ?_
  clear m hs a w6; intro p7 w8 m a hs
  refine wpList_nil (n_then ?_)
  refine c_seq ?_
  refine c_reg ?_
  refine r_ok hs m (ok_assign rfl) rfl ?_
  clear hs a; intro a hs
  refine wpList_nil (n_then ?_)
  refine wp_block ?_
  have q9 : (⟨(⟨⟨0, rfl⟩, (⟨⟨0, rfl⟩, ⟨0, rfl⟩, ⟨0, rfl⟩, ⟨0, rfl⟩, ⟨0, rfl⟩, ⟨0, rfl⟩⟩ : TMAC)⟩ : TNeigh), (⟨(⟨⟨0, rfl⟩, ⟨0, rfl⟩, ⟨0, rfl⟩, ⟨0, rfl⟩, ⟨0, rfl⟩, ⟨0, rfl⟩⟩ : TMAC), ⟨0, rfl⟩⟩ : TFdb), ⟨0, rfl⟩⟩ : Tweftref16_Way) = (wayNK r (t_Neighs.take 0)) := by first | exact wayNK_0 | exact wayNK_t (by assumption) (by assumption) | exact wayNK_f (by assumption) (by assumption)
  replace m := m.swp (q := Bx p7 187 (cweftref16_Way (wayNK r (t_Neighs.take 0)))) s0 (fun _ e => by rw [← q9]; exact e)
  refine wp_loop_ghost (fun gn a w => ∃ k : Nat, (k ≤ t_Neighs.length) ∧ gn = t_Neighs.length - k ∧ St 60 [(2, .pointer (some (padd p1 0))), (3, .pointer (some (padd p3 0))), (4, .pointer (some (padd p5 0))), (5, .pointer (some (padd p7 0))), (6, .int .i64 (k : Int))] a ∧ Hp w0 (hh w0) [Bx p1 29 [vt_Routes.v, vt_Neighs.v, vt_Fdbs.v], Bx p3 51 (cRoute r), Bx p5 187 (cweftref16_Way (⟨(⟨⟨0, rfl⟩, (⟨⟨0, rfl⟩, ⟨0, rfl⟩, ⟨0, rfl⟩, ⟨0, rfl⟩, ⟨0, rfl⟩, ⟨0, rfl⟩⟩ : TMAC)⟩ : TNeigh), (⟨(⟨⟨0, rfl⟩, ⟨0, rfl⟩, ⟨0, rfl⟩, ⟨0, rfl⟩, ⟨0, rfl⟩, ⟨0, rfl⟩⟩ : TMAC), ⟨0, rfl⟩⟩ : TFdb), ⟨0, rfl⟩⟩ : Tweftref16_Way)), Bx p7 187 (cweftref16_Way (wayNK r (t_Neighs.take k)))] w) (t_Neighs.length - 0) ⟨0, by omega, rfl, hs.to ⟨rfl, rfl, rfl, rfl, rfl, trivial⟩, m.sub (.c r3 (.c r2 (.c r1 (.c r0 .n))))⟩ ?_
  clear hs m a w8
  rintro gn a w10 ⟨k, hk, rfl, hs, m⟩
  refine c_seq ?_
  refine c_reg ?_
  refine r_ok hs m (ok_move rfl) rfl ?_
  clear hs a; intro a hs
  refine r_ok hs m (ok_fieldAddr (r := 1) rfl fd29_1 ty26 rfl) rfl ?_
  clear hs a; intro a hs
  refine r_ok hs m (ok_load_sc rfl ty26 (bx_at r0) rfl) rfl ?_
  clear hs a; intro a hs
  refine r_ok hs m (ok_len (r := (t_Neighs.length : Int)) m rfl sl26 (rc_fr ht_Neighs) (by simp)) rfl ?_
  clear hs a; intro a hs
  refine r_ok hs m (ok_bin rfl rfl rfl) rfl ?_
  clear hs a; intro a hs
  refine wpList_nil (n_then ?_)
  refine c_cond hs rfl (fun h11 => ?_) (fun h11 => ?_)
  rotate_left
  · have h11p := of_decide_eq_false h11
    refine wp_exit ?_
    refine ex_then (ex_then (ex_hit (?_)))
    refine n_then ?_
    refine c_seq ?_
    refine c_reg ?_
    refine r_ok hs m (ok_fieldAddr (r := 14) rfl fd187_2 ty3 rfl) rfl ?_
    clear hs a; intro a hs
    refine r_ok hs m (ok_load_sc rfl ty3 (bx_at r3) rfl) rfl ?_
    clear hs a; intro a hs
    refine r_ok hs m (ok_bin rfl rfl rfl) rfl ?_
    clear hs a; intro a hs
    refine wpList_nil (n_then ?_)
    refine c_cond hs rfl (fun h12 => ?_) (fun h12 => ?_)
    · have h12p := eq_of_beq h12
      refine c_reg ?_
      refine r_ok hs m (ok_load_ag (vs := cweftref16_Way (wayNK r (t_Neighs.take k))) rfl ty187 (bx_at r3) rfl rfl) rfl ?_
      clear hs a; intro a hs
      refine r_store (cs' := cweftref16_Way (wayNK r (t_Neighs.take k))) (vs := cweftref16_Way (wayNK r (t_Neighs.take k))) hs m rfl rfl ty187 s2 rfl rfl rfl rfl rfl ?_
      clear m w10; intro w13 m
      refine wpList_nil (n_then ?_)
      refine wp_ret ?_
      refine ret_then (leave hs (vs := [.agg ⟨cweftref16_Way (wayNK r (t_Neighs.take k))⟩]) rfl ⟨resv_cell (cs := cweftref16_Way (wayNK r (t_Neighs.take k))) m rfl ty187 r2 rfl, trivial⟩ ?_)
      refine ⟨?_, m.sub .n⟩
      have q14 : ((wayNK r (t_Neighs.take k)) : Tweftref16_Way) = wayRM t_Neighs t_Fdbs r := by clear hs m; first | exact wayRM_0 (k := k) (by assumption) (by omega) | exact wayRM_1 (by assumption) (by omega)
      first | (rw [q14]; done) | (rw [q14]; rfl) | (rw [q14]; rfl) | (simp only [q14, pack]; done)
    have h12p := ne_of_beq_false h12
    refine wp_skip ?_
    refine n_then ?_
    refine c_seq ?_
    refine c_reg ?_
    refine r_ok hs m (ok_assign rfl) rfl ?_
    clear hs a; intro a hs
    refine wpList_nil (n_then ?_)
    refine wp_block ?_
    rw [show t_Neighs.take k = t_Neighs from List.take_of_length_le (by omega)] at *
    have q15 : (wayNK r t_Neighs) = (wayFK (wayNK r t_Neighs) (t_Fdbs.take 0)) := by first | exact wayFK_0 | exact wayFK_t (by assumption) (by assumption) | exact wayFK_f (by assumption) (by assumption)
    replace m := m.swp (q := Bx p7 187 (cweftref16_Way (wayFK (wayNK r t_Neighs) (t_Fdbs.take 0)))) s3 (fun _ e => by rw [← q15]; exact e)
    refine wp_loop_ghost (fun gn a w => ∃ k2 : Nat, (k2 ≤ t_Fdbs.length) ∧ gn = t_Fdbs.length - k2 ∧ St 60 [(2, .pointer (some (padd p1 0))), (4, .pointer (some (padd p5 0))), (5, .pointer (some (padd p7 0))), (7, .int .i64 (k2 : Int))] a ∧ Hp w0 (hh w0) [Bx p1 29 [vt_Routes.v, vt_Neighs.v, vt_Fdbs.v], Bx p5 187 (cweftref16_Way (⟨(⟨⟨0, rfl⟩, (⟨⟨0, rfl⟩, ⟨0, rfl⟩, ⟨0, rfl⟩, ⟨0, rfl⟩, ⟨0, rfl⟩, ⟨0, rfl⟩⟩ : TMAC)⟩ : TNeigh), (⟨(⟨⟨0, rfl⟩, ⟨0, rfl⟩, ⟨0, rfl⟩, ⟨0, rfl⟩, ⟨0, rfl⟩, ⟨0, rfl⟩⟩ : TMAC), ⟨0, rfl⟩⟩ : TFdb), ⟨0, rfl⟩⟩ : Tweftref16_Way)), Bx p7 187 (cweftref16_Way (wayFK (wayNK r t_Neighs) (t_Fdbs.take k2)))] w) (t_Fdbs.length - 0) ⟨0, by omega, rfl, hs.to ⟨rfl, rfl, rfl, rfl, trivial⟩, m.sub (.c r0 (.c r1 (.c r1 .n)))⟩ ?_
    clear hs m a w10
    rintro gn a w16 ⟨k2, hk, rfl, hs, m⟩
    refine c_seq ?_
    refine c_reg ?_
    refine r_ok hs m (ok_move rfl) rfl ?_
    clear hs a; intro a hs
    refine r_ok hs m (ok_fieldAddr (r := 2) rfl fd29_2 ty27 rfl) rfl ?_
    clear hs a; intro a hs
    refine r_ok hs m (ok_load_sc rfl ty27 (bx_at r0) rfl) rfl ?_
    clear hs a; intro a hs
    refine r_ok hs m (ok_len (r := (t_Fdbs.length : Int)) m rfl sl27 (rc_fr ht_Fdbs) (by simp)) rfl ?_
    clear hs a; intro a hs
    refine r_ok hs m (ok_bin rfl rfl rfl) rfl ?_
    clear hs a; intro a hs
    refine wpList_nil (n_then ?_)
    refine c_cond hs rfl (fun h17 => ?_) (fun h17 => ?_)
    rotate_left
    · have h17p := of_decide_eq_false h17
      refine wp_exit ?_
      refine ex_then (ex_then (ex_hit (?_)))
      refine n_then ?_
      refine c_reg ?_
      refine r_ok hs m (ok_load_ag (vs := cweftref16_Way (wayFK (wayNK r t_Neighs) (t_Fdbs.take k2))) rfl ty187 (bx_at r2) rfl rfl) rfl ?_
      clear hs a; intro a hs
      refine r_store (cs' := cweftref16_Way (wayFK (wayNK r t_Neighs) (t_Fdbs.take k2))) (vs := cweftref16_Way (wayFK (wayNK r t_Neighs) (t_Fdbs.take k2))) hs m rfl rfl ty187 s1 rfl rfl rfl rfl rfl ?_
      clear m w16; intro w18 m
      refine wpList_nil (n_then ?_)
      refine wp_ret ?_
      refine leave hs (vs := [.agg ⟨cweftref16_Way (wayFK (wayNK r t_Neighs) (t_Fdbs.take k2))⟩]) rfl ⟨resv_cell (cs := cweftref16_Way (wayFK (wayNK r t_Neighs) (t_Fdbs.take k2))) m rfl ty187 r1 rfl, trivial⟩ ?_
      refine ⟨?_, m.sub .n⟩
      have q19 : ((wayFK (wayNK r t_Neighs) (t_Fdbs.take k2)) : Tweftref16_Way) = wayRM t_Neighs t_Fdbs r := by clear hs m; first | exact wayRM_0 (k := k) (by assumption) (by omega) | exact wayRM_1 (by assumption) (by omega)
      first | (rw [q19]; done) | (rw [q19]; rfl) | (rw [q19]; rfl) | (simp only [q19, pack]; done)
    have h17p := of_decide_eq_true h17
    refine wp_skip ?_
    refine n_then ?_
    refine c_seq ?_
    refine wp_block ?_
    refine c_draw m mo (by kernel_rfl) ?_
    refine q_ok hs (ok_fieldAddr (r := 2) rfl fd29_2 ty27 rfl) rfl ?_
    clear hs a; intro a hs
    refine q_ok hs (ok_load_sc rfl ty27 (bx_at r0) rfl) rfl ?_
    clear hs a; intro a hs
    refine q_ok hs (ok_move rfl) rfl ?_
    clear hs a; intro a hs
    obtain ⟨e20, he21⟩ := get_of_lt (l := t_Fdbs) (i := k2) (by omega)
    refine elF (c := cFdb) (e := e20) hs m (x := (.tmp 43)) (ix := (.tmp 44)) rfl rfl sl27 ty56 ht_Fdbs (by omega) he21 fun p22 hp23 ok24 => ?_
    refine q_ok hs (ok24 _ _ _ _ _) rfl ?_
    clear hs a; intro a hs
    refine q_ok hs (ok_fieldAddr (r := 0) rfl fd56_0 ty46 rfl) rfl ?_
    clear hs a; intro a hs
    refine q_ok hs (ok_load_ag (vs := cMAC e20.MAC) rfl ty46 (fr_at hp23) rfl rfl) rfl ?_
    clear hs a; intro a hs
    refine q_ok hs (ok_fieldAddr (r := 0) rfl fd187_0 ty54 rfl) rfl ?_
    clear hs a; intro a hs
    refine q_ok hs (ok_fieldAddr (r := 1) rfl fd54_1 ty46 rfl) rfl ?_
    clear hs a; intro a hs
    refine q_ok hs (ok_load_ag (vs := cMAC (((wayFK (wayNK r t_Neighs) (t_Fdbs.take k2)).N).MAC)) rfl ty46 (bx_at r2) rfl rfl) rfl ?_
    clear hs a; intro a hs
    refine q_ok hs (ok_eqv (b := decide (e20.MAC = ((wayFK (wayNK r t_Neighs) (t_Fdbs.take k2)).N).MAC)) rfl rfl eqT46 (fMAC _) (fMAC _) (iMAC e20.MAC (((wayFK (wayNK r t_Neighs) (t_Fdbs.take k2)).N).MAC))) rfl ?_
    clear hs a; intro a hs
    refine wpQuiet_nil ?_; clear m w16; intro w25 m
    refine c_cond hs rfl (fun h26 => ?_) (fun h26 => ?_)
    · have h26p := of_decide_eq_true h26
      refine c_reg ?_
      refine r_ok hs m (ok_fieldAddr (r := 2) rfl fd29_2 ty27 rfl) rfl ?_
      clear hs a; intro a hs
      refine r_ok hs m (ok_load_sc rfl ty27 (bx_at r0) rfl) rfl ?_
      clear hs a; intro a hs
      refine r_ok hs m (ok_move rfl) rfl ?_
      clear hs a; intro a hs
      refine elF (c := cFdb) (e := e20) hs m (x := (.tmp 53)) (ix := (.tmp 54)) rfl rfl sl27 ty56 ht_Fdbs (by omega) he21 fun p27 hp28 ok29 => ?_
      refine r_ok hs m (ok29 _ _ _ _ _) rfl ?_
      clear hs a; intro a hs
      refine r_ok hs m (ok_load_ag (vs := cFdb e20) rfl ty56 (fr_at hp28) rfl rfl) rfl ?_
      clear hs a; intro a hs
      refine r_ok hs m (ok_fieldAddr (r := 7) rfl fd187_1 ty56 rfl) rfl ?_
      clear hs a; intro a hs
      refine r_store (cs' := cweftref16_Way (⟨(wayFK (wayNK r t_Neighs) (t_Fdbs.take k2)).N, e20, (wayFK (wayNK r t_Neighs) (t_Fdbs.take k2)).Count⟩ : Tweftref16_Way)) (vs := cFdb e20) hs m rfl rfl ty56 s2 rfl rfl rfl rfl rfl ?_
      clear m w25; intro w30 m
      refine wpList_nil (n_then ?_)
      refine c_last ?_
      refine r_ok hs m (ok_fieldAddr (r := 14) rfl fd187_2 ty3 rfl) rfl ?_
      clear hs a; intro a hs
      refine r_store (cs' := cweftref16_Way (⟨(wayFK (wayNK r t_Neighs) (t_Fdbs.take k2)).N, e20, ⟨2, rfl⟩⟩ : Tweftref16_Way)) (vs := [.int .i64 2]) hs m rfl rfl ty3 s2 rfl rfl rfl rfl rfl ?_
      clear m w30; intro w31 m
      refine wpList_nil (n_block (n_then ?_))
      refine c_last ?_
      refine r_ok hs m (ok_move rfl) rfl ?_
      clear hs a; intro a hs
      refine r_ok hs m (ok_add (r := (k2 : Int) + 1) rfl rfl (wrap_i64 (by omega) (by omega))) rfl ?_
      clear hs a; intro a hs
      refine r_ok hs m (ok_assign rfl) rfl ?_
      clear hs a; intro a hs
      refine wpList_nil (n_then ?_)
      have q32 : (⟨(wayFK (wayNK r t_Neighs) (t_Fdbs.take k2)).N, e20, ⟨2, rfl⟩⟩ : Tweftref16_Way) = (wayFK (wayNK r t_Neighs) (t_Fdbs.take (k2 + 1))) := by first | exact wayFK_0 | exact wayFK_t (by assumption) (by assumption) | exact wayFK_f (by assumption) (by assumption)
      replace m := m.swp (q := Bx p7 187 (cweftref16_Way (wayFK (wayNK r t_Neighs) (t_Fdbs.take (k2 + 1))))) s2 (fun _ e => by rw [← q32]; exact e)
      exact ⟨t_Fdbs.length - (k2 + 1), by omega, k2 + 1, by omega, rfl, hs.to ⟨rfl, rfl, rfl, rfl, trivial⟩, m.sub (.c r0 (.c r0 (.c r0 .n)))⟩
    have h26p := of_decide_eq_false h26
    refine wp_skip ?_
    refine n_block (n_then ?_)
    refine c_last ?_
    refine r_ok hs m (ok_move rfl) rfl ?_
    clear hs a; intro a hs
    refine r_ok hs m (ok_add (r := (k2 : Int) + 1) rfl rfl (wrap_i64 (by omega) (by omega))) rfl ?_
    clear hs a; intro a hs
    refine r_ok hs m (ok_assign rfl) rfl ?_
    clear hs a; intro a hs
    refine wpList_nil (n_then ?_)
    have q33 : (wayFK (wayNK r t_Neighs) (t_Fdbs.take k2)) = (wayFK (wayNK r t_Neighs) (t_Fdbs.take (k2 + 1))) := by first | exact wayFK_0 | exact wayFK_t (by assumption) (by assumption) | exact wayFK_f (by assumption) (by assumption)
    replace m := m.swp (q := Bx p7 187 (cweftref16_Way (wayFK (wayNK r t_Neighs) (t_Fdbs.take (k2 + 1))))) s2 (fun _ e => by rw [← q33]; exact e)
    exact ⟨t_Fdbs.length - (k2 + 1), by omega, k2 + 1, by omega, rfl, hs.to ⟨rfl, rfl, rfl, rfl, trivial⟩, m.sub (.c r0 (.c r0 (.c r0 .n)))⟩
  have h11p := of_decide_eq_true h11
  refine wp_skip ?_
  refine n_then ?_
  refine c_seq ?_
  refine wp_block ?_
  refine c_draw m mo (by kernel_rfl) ?_
  refine q_ok hs (ok_fieldAddr (r := 1) rfl fd29_1 ty26 rfl) rfl ?_
  clear hs a; intro a hs
  refine q_ok hs (ok_load_sc rfl ty26 (bx_at r0) rfl) rfl ?_
  clear hs a; intro a hs
  refine q_ok hs (ok_move rfl) rfl ?_
  clear hs a; intro a hs
  obtain ⟨e34, he35⟩ := get_of_lt (l := t_Neighs) (i := k) (by omega)
  refine elF (c := cNeigh) (e := e34) hs m (x := (.tmp 16)) (ix := (.tmp 17)) rfl rfl sl26 ty54 ht_Neighs (by omega) he35 fun p36 hp37 ok38 => ?_
  refine q_ok hs (ok38 _ _ _ _ _) rfl ?_
  clear hs a; intro a hs
  refine q_ok hs (ok_fieldAddr (r := 0) rfl fd54_0 ty42 rfl) rfl ?_
  clear hs a; intro a hs
  refine q_ok hs (ok_load_sc rfl ty42 (fr_at hp37) rfl) rfl ?_
  clear hs a; intro a hs
  refine q_ok hs (ok_fieldAddr (r := 2) rfl fd51_1 ty42 rfl) rfl ?_
  clear hs a; intro a hs
  refine q_ok hs (ok_load_sc rfl ty42 (bx_at r1) rfl) rfl ?_
  clear hs a; intro a hs
  refine q_ok hs (ok_bin rfl rfl rfl) rfl ?_
  clear hs a; intro a hs
  refine wpQuiet_nil ?_; clear m w10; intro w39 m
  refine c_cond hs rfl (fun h40 => ?_) (fun h40 => ?_)
  · have h40p := eq_of_beq h40
    refine c_reg ?_
    refine r_ok hs m (ok_fieldAddr (r := 1) rfl fd29_1 ty26 rfl) rfl ?_
    clear hs a; intro a hs
    refine r_ok hs m (ok_load_sc rfl ty26 (bx_at r0) rfl) rfl ?_
    clear hs a; intro a hs
    refine r_ok hs m (ok_move rfl) rfl ?_
    clear hs a; intro a hs
    refine elF (c := cNeigh) (e := e34) hs m (x := (.tmp 25)) (ix := (.tmp 26)) rfl rfl sl26 ty54 ht_Neighs (by omega) he35 fun p41 hp42 ok43 => ?_
    refine r_ok hs m (ok43 _ _ _ _ _) rfl ?_
    clear hs a; intro a hs
    refine r_ok hs m (ok_load_ag (vs := cNeigh e34) rfl ty54 (fr_at hp42) rfl rfl) rfl ?_
    clear hs a; intro a hs
    refine r_ok hs m (ok_fieldAddr (r := 0) rfl fd187_0 ty54 rfl) rfl ?_
    clear hs a; intro a hs
    refine r_store (cs' := cweftref16_Way (⟨e34, (wayNK r (t_Neighs.take k)).F, (wayNK r (t_Neighs.take k)).Count⟩ : Tweftref16_Way)) (vs := cNeigh e34) hs m rfl rfl ty54 s3 rfl rfl rfl rfl rfl ?_
    clear m w39; intro w44 m
    refine wpList_nil (n_then ?_)
    refine c_last ?_
    refine r_ok hs m (ok_fieldAddr (r := 14) rfl fd187_2 ty3 rfl) rfl ?_
    clear hs a; intro a hs
    refine r_store (cs' := cweftref16_Way (⟨e34, (wayNK r (t_Neighs.take k)).F, ⟨1, rfl⟩⟩ : Tweftref16_Way)) (vs := [.int .i64 1]) hs m rfl rfl ty3 s3 rfl rfl rfl rfl rfl ?_
    clear m w44; intro w45 m
    refine wpList_nil (n_block (n_then ?_))
    refine c_last ?_
    refine r_ok hs m (ok_move rfl) rfl ?_
    clear hs a; intro a hs
    refine r_ok hs m (ok_add (r := (k : Int) + 1) rfl rfl (wrap_i64 (by omega) (by omega))) rfl ?_
    clear hs a; intro a hs
    refine r_ok hs m (ok_assign rfl) rfl ?_
    clear hs a; intro a hs
    refine wpList_nil (n_then ?_)
    have q46 : (⟨e34, (wayNK r (t_Neighs.take k)).F, ⟨1, rfl⟩⟩ : Tweftref16_Way) = (wayNK r (t_Neighs.take (k + 1))) := by first | exact wayNK_0 | exact wayNK_t (by assumption) (by assumption) | exact wayNK_f (by assumption) (by assumption)
    replace m := m.swp (q := Bx p7 187 (cweftref16_Way (wayNK r (t_Neighs.take (k + 1))))) s3 (fun _ e => by rw [← q46]; exact e)
    exact ⟨t_Neighs.length - (k + 1), by omega, k + 1, by omega, rfl, hs.to ⟨rfl, rfl, rfl, rfl, rfl, trivial⟩, m.sub (.c r0 (.c r0 (.c r0 (.c r0 .n))))⟩
  have h40p := ne_of_beq_false h40
  refine wp_skip ?_
  refine n_block (n_then ?_)
  refine c_last ?_
  refine r_ok hs m (ok_move rfl) rfl ?_
  clear hs a; intro a hs
  refine r_ok hs m (ok_add (r := (k : Int) + 1) rfl rfl (wrap_i64 (by omega) (by omega))) rfl ?_
  clear hs a; intro a hs
  refine r_ok hs m (ok_assign rfl) rfl ?_
  clear hs a; intro a hs
  refine wpList_nil (n_then ?_)
  have q47 : (wayNK r (t_Neighs.take k)) = (wayNK r (t_Neighs.take (k + 1))) := by first | exact wayNK_0 | exact wayNK_t (by assumption) (by assumption) | exact wayNK_f (by assumption) (by assumption)
  replace m := m.swp (q := Bx p7 187 (cweftref16_Way (wayNK r (t_Neighs.take (k + 1))))) s3 (fun _ e => by rw [← q47]; exact e)
  exact ⟨t_Neighs.length - (k + 1), by omega, k + 1, by omega, rfl, hs.to ⟨rfl, rfl, rfl, rfl, rfl, trivial⟩, m.sub (.c r0 (.c r0 (.c r0 (.c r0 .n))))⟩
theorem staysR_c (vx_Routes : SH) (x_Routes : List TRoute) (vx_Neighs : SH) (x_Neighs : List TNeigh) (vx_Fdbs : SH) (x_Fdbs : List TFdb) (vy_Routes : SH) (y_Routes : List TRoute) (vy_Neighs : SH) (y_Neighs : List TNeigh) (vy_Fdbs : SH) (y_Fdbs : List TFdb) (r : TRoute) (w0 : World) (hx_Routes : RdS (hh w0) 4 vx_Routes.v (x_Routes.map cRoute)) (hx_Neighs : RdS (hh w0) 7 vx_Neighs.v (x_Neighs.map cNeigh)) (hx_Fdbs : RdS (hh w0) 7 vx_Fdbs.v (x_Fdbs.map cFdb)) (hy_Routes : RdS (hh w0) 4 vy_Routes.v (y_Routes.map cRoute)) (hy_Neighs : RdS (hh w0) 7 vy_Neighs.v (y_Neighs.map cNeigh)) (hy_Fdbs : RdS (hh w0) 7 vy_Fdbs.v (y_Fdbs.map cFdb)) : Pure Tryz.prog 62 [.agg ⟨[vx_Routes.v, vx_Neighs.v, vx_Fdbs.v]⟩, .agg ⟨[vy_Routes.v, vy_Neighs.v, vy_Fdbs.v]⟩, .agg ⟨cRoute r⟩] (.bool (staysR x_Neighs x_Fdbs y_Routes y_Neighs y_Fdbs r)) w0 := by
  have lvx_Routes := hx_Routes.bd
  have lvx_Neighs := hx_Neighs.bd
  have lvx_Fdbs := hx_Fdbs.bd
  have lvy_Routes := hy_Routes.bd
  have lvy_Neighs := hy_Neighs.bd
  have lvy_Fdbs := hy_Fdbs.bd
  refine enter (n := 26) Tryz.func62 rfl rfl rfl fun a (hs : St 26 [(0, .agg ⟨[vx_Routes.v, vx_Neighs.v, vx_Fdbs.v]⟩), (1, .agg ⟨[vy_Routes.v, vy_Neighs.v, vy_Fdbs.v]⟩), (2, .agg ⟨cRoute r⟩)] a) => ?_
  have m := Hp.start w0
  refine c_reg ?_
  refine r_box (cs := [vx_Routes.v, vx_Neighs.v, vx_Fdbs.v]) hs m rfl rfl rfl ?_
  clear m hs a; intro p1 w2 m a hs
  refine r_box (cs := [vy_Routes.v, vy_Neighs.v, vy_Fdbs.v]) hs m rfl rfl rfl ?_
  clear m hs a w2; intro p3 w4 m a hs
  refine r_box (cs := cRoute r) hs m rfl rfl rfl ?_
  clear m hs a w4; intro p5 w6 m a hs
  refine r_ok hs m (ok_assign rfl) rfl ?_
  clear hs a; intro a hs
  refine wpList_nil (n_then ?_)
  refine c_reg ?_
  refine r_ok hs m (ok_load_ag (vs := [vy_Routes.v, vy_Neighs.v, vy_Fdbs.v]) rfl ty29 (bx_at r1) rfl rfl) rfl ?_
  clear hs a; intro a hs
  refine r_ok hs m (ok_load_ag (vs := cRoute r) rfl ty51 (bx_at r0) rfl rfl) rfl ?_
  clear hs a; intro a hs
  refine r_callP hs m rfl rfl ca65 rfl (hasRoute_c vy_Routes y_Routes vy_Neighs y_Neighs vy_Fdbs y_Fdbs r _ (m.rd hy_Routes) (m.rd hy_Neighs) (m.rd hy_Fdbs) ) rfl ?_
  clear m hs a w6; intro w7 m a hs
  refine r_ok hs m (ok_assign rfl) rfl ?_
  clear hs a; intro a hs
  refine wpList_nil (n_then ?_)
  refine c_seq ?_
  refine c_reg ?_
  refine r_ok hs m (ok_move rfl) rfl ?_
  clear hs a; intro a hs
  refine r_ok hs m (ok_not rfl) rfl ?_
  clear hs a; intro a hs
  refine wpList_nil (n_then ?_)
  refine c_cond hs rfl (fun h8 => ?_) (fun h8 => ?_)
  · have h8p := h8; simp only [Bool.or_eq_true, Bool.or_eq_false_iff, Bool.and_eq_true, Bool.and_eq_false_iff, Bool.not_eq_true', Bool.not_eq_false', decide_eq_true_eq, decide_eq_false_iff_not, beq_iff_eq, bne_iff_ne, beq_eq_false_iff_ne, bne_eq_false_iff_eq, ne_eq, gt_iff_lt, ge_iff_le, Int.not_lt, Int.not_le] at h8p
    refine c_reg ?_
    refine r_ok hs m (ok_assign rfl) rfl ?_
    clear hs a; intro a hs
    refine wpList_nil (n_then ?_)
    refine wp_ret ?_
    refine ret_then (leave hs (vs := [.bool false]) rfl ⟨rfl, trivial⟩ ?_)
    refine ⟨?_, m.sub .n⟩
    have q9 : (false : Bool) = staysR x_Neighs x_Fdbs y_Routes y_Neighs y_Fdbs r := by clear hs m; simp_all [staysR]
    first | (rw [q9]; done) | (rw [q9]; rfl) | (rw [q9]; rfl) | (simp only [q9, pack]; done)
  have h8p := h8; simp only [Bool.or_eq_true, Bool.or_eq_false_iff, Bool.and_eq_true, Bool.and_eq_false_iff, Bool.not_eq_true', Bool.not_eq_false', decide_eq_true_eq, decide_eq_false_iff_not, beq_iff_eq, bne_iff_ne, beq_eq_false_iff_ne, bne_eq_false_iff_eq, ne_eq, gt_iff_lt, ge_iff_le, Int.not_lt, Int.not_le] at h8p
  refine wp_skip ?_
  refine n_then ?_
  refine c_seq ?_
  refine c_reg ?_
  refine r_ok hs m (ok_fieldAddr (r := 3) rfl fd51_2 ty4 rfl) rfl ?_
  clear hs a; intro a hs
  refine r_ok hs m (ok_load_sc rfl ty4 (bx_at r0) rfl) rfl ?_
  clear hs a; intro a hs
  refine wpList_nil (n_then ?_)
  refine c_cond hs rfl (fun h10 => ?_) (fun h10 => ?_)
  · refine c_reg ?_
    refine r_ok hs m (ok_assign rfl) rfl ?_
    clear hs a; intro a hs
    refine wpList_nil (n_then ?_)
    refine wp_ret ?_
    refine ret_then (leave hs (vs := [.bool true]) rfl ⟨rfl, trivial⟩ ?_)
    refine ⟨?_, m.sub .n⟩
    have q11 : (true : Bool) = staysR x_Neighs x_Fdbs y_Routes y_Neighs y_Fdbs r := by clear hs m; simp_all [staysR]
    first | (rw [q11]; done) | (rw [q11]; rfl) | (rw [q11]; rfl) | (simp only [q11, pack]; done)
  refine wp_skip ?_
  refine n_then ?_
  refine c_reg ?_
  refine r_ok hs m (ok_load_ag (vs := [vx_Routes.v, vx_Neighs.v, vx_Fdbs.v]) rfl ty29 (bx_at r2) rfl rfl) rfl ?_
  clear hs a; intro a hs
  refine r_ok hs m (ok_load_ag (vs := cRoute r) rfl ty51 (bx_at r0) rfl rfl) rfl ?_
  clear hs a; intro a hs
  refine r_callP hs m rfl rfl ca116 rfl (wayR_c vx_Routes x_Routes vx_Neighs x_Neighs vx_Fdbs x_Fdbs r _ (m.rd hx_Routes) (m.rd hx_Neighs) (m.rd hx_Fdbs) ) rfl ?_
  clear m hs a w7; intro w12 m a hs
  refine r_alloc hs m ze187 rfl ?_
  clear m hs a w12; intro p13 w14 m a hs
  refine r_store (cs' := cweftref16_Way (wayRM x_Neighs x_Fdbs r)) (vs := cweftref16_Way (wayRM x_Neighs x_Fdbs r)) hs m rfl rfl ty187 s0 rfl rfl rfl rfl rfl ?_
  clear m w14; intro w15 m
  refine wpList_nil (n_then ?_)
  refine c_reg ?_
  refine r_ok hs m (ok_load_ag (vs := [vy_Routes.v, vy_Neighs.v, vy_Fdbs.v]) rfl ty29 (bx_at r2) rfl rfl) rfl ?_
  clear hs a; intro a hs
  refine r_ok hs m (ok_load_ag (vs := cRoute r) rfl ty51 (bx_at r1) rfl rfl) rfl ?_
  clear hs a; intro a hs
  refine r_callP hs m rfl rfl ca116 rfl (wayR_c vy_Routes y_Routes vy_Neighs y_Neighs vy_Fdbs y_Fdbs r _ (m.rd hy_Routes) (m.rd hy_Neighs) (m.rd hy_Fdbs) ) rfl ?_
  clear m hs a w15; intro w16 m a hs
  refine r_alloc hs m ze187 rfl ?_
  clear m hs a w16; intro p17 w18 m a hs
  refine r_store (cs' := cweftref16_Way (wayRM y_Neighs y_Fdbs r)) (vs := cweftref16_Way (wayRM y_Neighs y_Fdbs r)) hs m rfl rfl ty187 s0 rfl rfl rfl rfl rfl ?_
  clear m w18; intro w19 m
  refine wpList_nil (n_then ?_)
  refine c_reg ?_
  refine r_ok hs m (ok_load_ag (vs := cweftref16_Way (wayRM x_Neighs x_Fdbs r)) rfl ty187 (bx_at r1) rfl rfl) rfl ?_
  clear hs a; intro a hs
  refine r_ok hs m (ok_load_ag (vs := cweftref16_Way (wayRM y_Neighs y_Fdbs r)) rfl ty187 (bx_at r0) rfl rfl) rfl ?_
  clear hs a; intro a hs
  refine r_ok hs m (ok_eqv (b := decide (wayRM x_Neighs x_Fdbs r = wayRM y_Neighs y_Fdbs r)) rfl rfl eqT187 (fweftref16_Way _) (fweftref16_Way _) (iweftref16_Way (wayRM x_Neighs x_Fdbs r) (wayRM y_Neighs y_Fdbs r))) rfl ?_
  clear hs a; intro a hs
  refine r_ok hs m (ok_assign rfl) rfl ?_
  clear hs a; intro a hs
  refine wpList_nil (n_then ?_)
  refine wp_ret ?_
  refine leave hs (vs := [.bool (decide (wayRM x_Neighs x_Fdbs r = wayRM y_Neighs y_Fdbs r))]) rfl ⟨rfl, trivial⟩ ?_
  refine ⟨?_, m.sub .n⟩
  have q20 : (decide (wayRM x_Neighs x_Fdbs r = wayRM y_Neighs y_Fdbs r) : Bool) = staysR x_Neighs x_Fdbs y_Routes y_Neighs y_Fdbs r := by clear hs m; simp_all [staysR]
  first | (rw [q20]; done) | (rw [q20]; rfl) | (rw [q20]; rfl) | (simp only [q20, pack]; done)
theorem ordered_c (vt_Routes : SH) (t_Routes : List TRoute) (vt_Neighs : SH) (t_Neighs : List TNeigh) (vt_Fdbs : SH) (t_Fdbs : List TFdb) (w0 : World) (ht_Routes : RdS (hh w0) 4 vt_Routes.v (t_Routes.map cRoute)) (ht_Neighs : RdS (hh w0) 7 vt_Neighs.v (t_Neighs.map cNeigh)) (ht_Fdbs : RdS (hh w0) 7 vt_Fdbs.v (t_Fdbs.map cFdb)) : Pure Tryz.prog 61 [.agg ⟨[vt_Routes.v, vt_Neighs.v, vt_Fdbs.v]⟩] (.bool (orderedM t_Routes t_Neighs t_Fdbs)) w0 := by
  have lvt_Routes := ht_Routes.bd
  have lvt_Neighs := ht_Neighs.bd
  have lvt_Fdbs := ht_Fdbs.bd
  refine enter (n := 92) Tryz.func61 rfl rfl rfl fun a (hs : St 92 [(0, .agg ⟨[vt_Routes.v, vt_Neighs.v, vt_Fdbs.v]⟩)] a) => ?_
  have m := Hp.start w0
  refine c_reg ?_
  refine r_box (cs := [vt_Routes.v, vt_Neighs.v, vt_Fdbs.v]) hs m rfl rfl rfl ?_
  clear m hs a; intro p1 w2 m a hs
  refine r_ok hs m (ok_assign rfl) rfl ?_
  clear hs a; intro a hs
  refine wpList_nil (n_then ?_)
  refine c_seq ?_
  refine c_reg ?_
  refine r_ok hs m (ok_assign rfl) rfl ?_
  clear hs a; intro a hs
  refine wpList_nil (n_then ?_)
  refine wp_block ?_
  refine wp_loop_ghost (fun gn a w => ∃ k : Nat, (k ≤ t_Routes.length) ∧ (0 ≤ k) ∧ (allK (ordAt t_Routes) k = true) ∧ gn = t_Routes.length + 1 - k ∧ St 92 [(1, .pointer (some (padd p1 0))), (3, .int .i64 (k : Int))] a ∧ Hp w0 (hh w0) [Bx p1 29 [vt_Routes.v, vt_Neighs.v, vt_Fdbs.v]] w) (t_Routes.length + 1 - 0) ⟨0, by omega, by omega, by rfl, rfl, hs.to ⟨rfl, rfl, trivial⟩, m.sub (.c r0 .n)⟩ ?_
  clear hs m a w2
  rintro gn a w3 ⟨k, hk, h1, ho, rfl, hs, m⟩
  refine c_seq ?_
  refine c_reg ?_
  refine r_ok hs m (ok_move rfl) rfl ?_
  clear hs a; intro a hs
  refine r_ok hs m (ok_fieldAddr (r := 0) rfl fd29_0 ty25 rfl) rfl ?_
  clear hs a; intro a hs
  refine r_ok hs m (ok_load_sc rfl ty25 (bx_at r0) rfl) rfl ?_
  clear hs a; intro a hs
  refine r_ok hs m (ok_len (r := (t_Routes.length : Int)) m rfl sl25 (rc_fr ht_Routes) (by simp)) rfl ?_
  clear hs a; intro a hs
  refine r_ok hs m (ok_bin rfl rfl rfl) rfl ?_
  clear hs a; intro a hs
  refine wpList_nil (n_then ?_)
  refine c_cond hs rfl (fun h4 => ?_) (fun h4 => ?_)
  rotate_left
  · have h4p := of_decide_eq_false h4
    refine wp_exit ?_
    refine ex_then (ex_then (ex_hit (?_)))
    refine n_then ?_
    refine c_seq ?_
    refine c_reg ?_
    refine r_ok hs m (ok_assign rfl) rfl ?_
    clear hs a; intro a hs
    refine wpList_nil (n_then ?_)
    refine wp_block ?_
    have hR : allK (ordAt t_Routes) t_Routes.length = true := allK_le (by omega) ho
    clear ho hk h1
    refine wp_loop_ghost (fun gn a w => ∃ k : Nat, (k ≤ t_Neighs.length ∨ k = 1) ∧ (1 ≤ k) ∧ (allK (ipAt t_Neighs) k = true) ∧ gn = t_Neighs.length + 1 - k ∧ St 92 [(1, .pointer (some (padd p1 0))), (5, .int .i64 (k : Int))] a ∧ Hp w0 (hh w0) [Bx p1 29 [vt_Routes.v, vt_Neighs.v, vt_Fdbs.v]] w) (t_Neighs.length + 1 - 1) ⟨1, by omega, by omega, by rfl, rfl, hs.to ⟨rfl, rfl, trivial⟩, m.sub (.c r0 .n)⟩ ?_
    clear hs m a w3
    rintro gn a w5 ⟨k, hk, h1, ho, rfl, hs, m⟩
    refine c_seq ?_
    refine c_reg ?_
    refine r_ok hs m (ok_move rfl) rfl ?_
    clear hs a; intro a hs
    refine r_ok hs m (ok_fieldAddr (r := 1) rfl fd29_1 ty26 rfl) rfl ?_
    clear hs a; intro a hs
    refine r_ok hs m (ok_load_sc rfl ty26 (bx_at r0) rfl) rfl ?_
    clear hs a; intro a hs
    refine r_ok hs m (ok_len (r := (t_Neighs.length : Int)) m rfl sl26 (rc_fr ht_Neighs) (by simp)) rfl ?_
    clear hs a; intro a hs
    refine r_ok hs m (ok_bin rfl rfl rfl) rfl ?_
    clear hs a; intro a hs
    refine wpList_nil (n_then ?_)
    refine c_cond hs rfl (fun h6 => ?_) (fun h6 => ?_)
    rotate_left
    · have h6p := of_decide_eq_false h6
      refine wp_exit ?_
      refine ex_then (ex_then (ex_hit (?_)))
      refine n_then ?_
      refine c_seq ?_
      refine c_reg ?_
      refine r_ok hs m (ok_assign rfl) rfl ?_
      clear hs a; intro a hs
      refine wpList_nil (n_then ?_)
      refine wp_block ?_
      have hN : allK (ipAt t_Neighs) t_Neighs.length = true := allK_le (by omega) ho
      clear ho hk h1
      refine wp_loop_ghost (fun gn a w => ∃ k : Nat, (k ≤ t_Fdbs.length ∨ k = 1) ∧ (1 ≤ k) ∧ (allK (wtAt t_Fdbs) k = true) ∧ gn = t_Fdbs.length + 1 - k ∧ St 92 [(1, .pointer (some (padd p1 0))), (6, .int .i64 (k : Int))] a ∧ Hp w0 (hh w0) [Bx p1 29 [vt_Routes.v, vt_Neighs.v, vt_Fdbs.v]] w) (t_Fdbs.length + 1 - 1) ⟨1, by omega, by omega, by rfl, rfl, hs.to ⟨rfl, rfl, trivial⟩, m.sub (.c r0 .n)⟩ ?_
      clear hs m a w5
      rintro gn a w7 ⟨k, hk, h1, ho, rfl, hs, m⟩
      refine c_seq ?_
      refine c_reg ?_
      refine r_ok hs m (ok_move rfl) rfl ?_
      clear hs a; intro a hs
      refine r_ok hs m (ok_fieldAddr (r := 2) rfl fd29_2 ty27 rfl) rfl ?_
      clear hs a; intro a hs
      refine r_ok hs m (ok_load_sc rfl ty27 (bx_at r0) rfl) rfl ?_
      clear hs a; intro a hs
      refine r_ok hs m (ok_len (r := (t_Fdbs.length : Int)) m rfl sl27 (rc_fr ht_Fdbs) (by simp)) rfl ?_
      clear hs a; intro a hs
      refine r_ok hs m (ok_bin rfl rfl rfl) rfl ?_
      clear hs a; intro a hs
      refine wpList_nil (n_then ?_)
      refine c_cond hs rfl (fun h8 => ?_) (fun h8 => ?_)
      rotate_left
      · have h8p := of_decide_eq_false h8
        refine wp_exit ?_
        refine ex_then (ex_then (ex_hit (?_)))
        refine n_then ?_
        refine c_reg ?_
        refine r_ok hs m (ok_assign rfl) rfl ?_
        clear hs a; intro a hs
        refine wpList_nil (n_then ?_)
        refine wp_ret ?_
        refine leave hs (vs := [.bool true]) rfl ⟨rfl, trivial⟩ ?_
        refine ⟨?_, m.sub .n⟩
        have q9 : (true : Bool) = orderedM t_Routes t_Neighs t_Fdbs := by clear hs m; first | exact ordered_f0 (k := k) (by omega) (ordAt_v (by assumption) (by assumption)) | exact ordered_f0 (k := k) (by omega) (ordAt_l (by assumption) (by assumption) (by assumption) (by assumption)) | exact ordered_f1 (k := k) (by omega) (by rw [ipAt_eq (by assumption) (by assumption) (by omega)]; exact decide_eq_false (by omega)) | exact ordered_f2 (k := k) (by omega) (by rw [wtAt_eq (by assumption) (by assumption) (by omega)]; exact decide_eq_false (by omega)) | exact ordered_t hR hN (allK_le (by omega) ho)
        first | (rw [q9]; done) | (rw [q9]; rfl) | (rw [q9]; rfl) | (simp only [q9, pack]; done)
      have h8p := of_decide_eq_true h8
      refine wp_skip ?_
      refine n_then ?_
      refine c_seq ?_
      refine wp_block ?_
      refine c_reg ?_
      refine r_ok hs m (ok_fieldAddr (r := 2) rfl fd29_2 ty27 rfl) rfl ?_
      clear hs a; intro a hs
      refine r_ok hs m (ok_load_sc rfl ty27 (bx_at r0) rfl) rfl ?_
      clear hs a; intro a hs
      refine r_ok hs m (ok_move rfl) rfl ?_
      clear hs a; intro a hs
      refine r_ok hs m (ok_sub (r := (k : Int) - 1) rfl rfl (wrap_i64 (by omega) (by omega))) rfl ?_
      clear hs a; intro a hs
      obtain ⟨e10, he11⟩ := get_of_lt (l := t_Fdbs) (i := ((k : Int) - 1).toNat) (by omega)
      refine elF (c := cFdb) (e := e10) hs m (x := (.tmp 75)) (ix := (.tmp 77)) rfl rfl sl27 ty56 ht_Fdbs (by omega) he11 fun p12 hp13 ok14 => ?_
      refine r_ok hs m (ok14 _ _ _ _ _) rfl ?_
      clear hs a; intro a hs
      refine r_ok hs m (ok_fieldAddr (r := 0) rfl fd56_0 ty46 rfl) rfl ?_
      clear hs a; intro a hs
      refine r_ok hs m (ok_load_ag (vs := cMAC e10.MAC) rfl ty46 (fr_at hp13) rfl rfl) rfl ?_
      clear hs a; intro a hs
      refine r_callP hs m rfl rfl ca108 rfl (weight_c e10.MAC _  ) rfl ?_
      clear m hs a w7; intro w15 m a hs
      refine r_ok hs m (ok_assign rfl) rfl ?_
      clear hs a; intro a hs
      refine wpList_nil (n_then ?_)
      refine c_reg ?_
      refine r_ok hs m (ok_fieldAddr (r := 2) rfl fd29_2 ty27 rfl) rfl ?_
      clear hs a; intro a hs
      refine r_ok hs m (ok_load_sc rfl ty27 (bx_at r0) rfl) rfl ?_
      clear hs a; intro a hs
      refine r_ok hs m (ok_move rfl) rfl ?_
      clear hs a; intro a hs
      obtain ⟨e16, he17⟩ := get_of_lt (l := t_Fdbs) (i := k) (by omega)
      refine elF (c := cFdb) (e := e16) hs m (x := (.tmp 83)) (ix := (.tmp 84)) rfl rfl sl27 ty56 ht_Fdbs (by omega) he17 fun p18 hp19 ok20 => ?_
      refine r_ok hs m (ok20 _ _ _ _ _) rfl ?_
      clear hs a; intro a hs
      refine r_ok hs m (ok_fieldAddr (r := 0) rfl fd56_0 ty46 rfl) rfl ?_
      clear hs a; intro a hs
      refine r_ok hs m (ok_load_ag (vs := cMAC e16.MAC) rfl ty46 (fr_at hp19) rfl rfl) rfl ?_
      clear hs a; intro a hs
      refine r_callP hs m rfl rfl ca108 rfl (weight_c e16.MAC _  ) rfl ?_
      clear m hs a w15; intro w21 m a hs
      refine r_ok hs m (ok_assign rfl) rfl ?_
      clear hs a; intro a hs
      refine wpList_nil (n_then ?_)
      refine c_reg ?_
      refine r_ok hs m (ok_move rfl) rfl ?_
      clear hs a; intro a hs
      refine r_ok hs m (ok_move rfl) rfl ?_
      clear hs a; intro a hs
      refine r_ok hs m (ok_bin rfl rfl rfl) rfl ?_
      clear hs a; intro a hs
      refine wpList_nil (n_then ?_)
      refine c_cond hs rfl (fun h22 => ?_) (fun h22 => ?_)
      · have h22p := of_decide_eq_true h22
        refine c_reg ?_
        refine r_ok hs m (ok_assign rfl) rfl ?_
        clear hs a; intro a hs
        refine wpList_nil (n_then ?_)
        refine wp_ret ?_
        refine ret_block (ret_then (ret_then (ret_block (ret_then (leave hs (vs := [.bool false]) rfl ⟨rfl, trivial⟩ ?_)))))
        refine ⟨?_, m.sub .n⟩
        have q23 : (false : Bool) = orderedM t_Routes t_Neighs t_Fdbs := by clear hs m; first | exact ordered_f0 (k := k) (by omega) (ordAt_v (by assumption) (by assumption)) | exact ordered_f0 (k := k) (by omega) (ordAt_l (by assumption) (by assumption) (by assumption) (by assumption)) | exact ordered_f1 (k := k) (by omega) (by rw [ipAt_eq (by assumption) (by assumption) (by omega)]; exact decide_eq_false (by omega)) | exact ordered_f2 (k := k) (by omega) (by rw [wtAt_eq (by assumption) (by assumption) (by omega)]; exact decide_eq_false (by omega)) | exact ordered_t hR hN (allK_le (by omega) ho)
        first | (rw [q23]; done) | (rw [q23]; rfl) | (rw [q23]; rfl) | (simp only [q23, pack]; done)
      have h22p := of_decide_eq_false h22
      refine wp_skip ?_
      refine n_block (n_then ?_)
      refine c_last ?_
      refine r_ok hs m (ok_move rfl) rfl ?_
      clear hs a; intro a hs
      refine r_ok hs m (ok_add (r := (k : Int) + 1) rfl rfl (wrap_i64 (by omega) (by omega))) rfl ?_
      clear hs a; intro a hs
      refine r_ok hs m (ok_assign rfl) rfl ?_
      clear hs a; intro a hs
      refine wpList_nil (n_then ?_)
      exact ⟨t_Fdbs.length + 1 - (k + 1), by omega, k + 1, by omega, by omega, by exact allK_succ ho (by rw [wtAt_eq (by assumption) (by assumption) (by omega)]; exact decide_eq_true (by omega)), rfl, hs.to ⟨rfl, rfl, trivial⟩, m.sub (.c r0 .n)⟩
    have h6p := of_decide_eq_true h6
    refine wp_skip ?_
    refine n_then ?_
    refine c_seq ?_
    refine wp_block ?_
    refine c_draw m mo (by kernel_rfl) ?_
    refine q_ok hs (ok_fieldAddr (r := 1) rfl fd29_1 ty26 rfl) rfl ?_
    clear hs a; intro a hs
    refine q_ok hs (ok_load_sc rfl ty26 (bx_at r0) rfl) rfl ?_
    clear hs a; intro a hs
    refine q_ok hs (ok_move rfl) rfl ?_
    clear hs a; intro a hs
    refine q_ok hs (ok_sub (r := (k : Int) - 1) rfl rfl (wrap_i64 (by omega) (by omega))) rfl ?_
    clear hs a; intro a hs
    obtain ⟨e24, he25⟩ := get_of_lt (l := t_Neighs) (i := ((k : Int) - 1).toNat) (by omega)
    refine elF (c := cNeigh) (e := e24) hs m (x := (.tmp 54)) (ix := (.tmp 56)) rfl rfl sl26 ty54 ht_Neighs (by omega) he25 fun p26 hp27 ok28 => ?_
    refine q_ok hs (ok28 _ _ _ _ _) rfl ?_
    clear hs a; intro a hs
    refine q_ok hs (ok_fieldAddr (r := 0) rfl fd54_0 ty42 rfl) rfl ?_
    clear hs a; intro a hs
    refine q_ok hs (ok_load_sc rfl ty42 (fr_at hp27) rfl) rfl ?_
    clear hs a; intro a hs
    refine q_ok hs (ok_fieldAddr (r := 1) rfl fd29_1 ty26 rfl) rfl ?_
    clear hs a; intro a hs
    refine q_ok hs (ok_load_sc rfl ty26 (bx_at r0) rfl) rfl ?_
    clear hs a; intro a hs
    refine q_ok hs (ok_move rfl) rfl ?_
    clear hs a; intro a hs
    obtain ⟨e29, he30⟩ := get_of_lt (l := t_Neighs) (i := k) (by omega)
    refine elF (c := cNeigh) (e := e29) hs m (x := (.tmp 61)) (ix := (.tmp 62)) rfl rfl sl26 ty54 ht_Neighs (by omega) he30 fun p31 hp32 ok33 => ?_
    refine q_ok hs (ok33 _ _ _ _ _) rfl ?_
    clear hs a; intro a hs
    refine q_ok hs (ok_fieldAddr (r := 0) rfl fd54_0 ty42 rfl) rfl ?_
    clear hs a; intro a hs
    refine q_ok hs (ok_load_sc rfl ty42 (fr_at hp32) rfl) rfl ?_
    clear hs a; intro a hs
    refine q_ok hs (ok_bin rfl rfl rfl) rfl ?_
    clear hs a; intro a hs
    refine wpQuiet_nil ?_; clear m w5; intro w34 m
    refine c_cond hs rfl (fun h35 => ?_) (fun h35 => ?_)
    · have h35p := of_decide_eq_true h35
      refine c_reg ?_
      refine r_ok hs m (ok_assign rfl) rfl ?_
      clear hs a; intro a hs
      refine wpList_nil (n_then ?_)
      refine wp_ret ?_
      refine ret_block (ret_then (ret_then (ret_block (ret_then (leave hs (vs := [.bool false]) rfl ⟨rfl, trivial⟩ ?_)))))
      refine ⟨?_, m.sub .n⟩
      have q36 : (false : Bool) = orderedM t_Routes t_Neighs t_Fdbs := by clear hs m; first | exact ordered_f0 (k := k) (by omega) (ordAt_v (by assumption) (by assumption)) | exact ordered_f0 (k := k) (by omega) (ordAt_l (by assumption) (by assumption) (by assumption) (by assumption)) | exact ordered_f1 (k := k) (by omega) (by rw [ipAt_eq (by assumption) (by assumption) (by omega)]; exact decide_eq_false (by omega)) | exact ordered_f2 (k := k) (by omega) (by rw [wtAt_eq (by assumption) (by assumption) (by omega)]; exact decide_eq_false (by omega)) | exact ordered_t hR hN (allK_le (by omega) ho)
      first | (rw [q36]; done) | (rw [q36]; rfl) | (rw [q36]; rfl) | (simp only [q36, pack]; done)
    have h35p := of_decide_eq_false h35
    refine wp_skip ?_
    refine n_block (n_then ?_)
    refine c_last ?_
    refine r_ok hs m (ok_move rfl) rfl ?_
    clear hs a; intro a hs
    refine r_ok hs m (ok_add (r := (k : Int) + 1) rfl rfl (wrap_i64 (by omega) (by omega))) rfl ?_
    clear hs a; intro a hs
    refine r_ok hs m (ok_assign rfl) rfl ?_
    clear hs a; intro a hs
    refine wpList_nil (n_then ?_)
    exact ⟨t_Neighs.length + 1 - (k + 1), by omega, k + 1, by omega, by omega, by exact allK_succ ho (by rw [ipAt_eq (by assumption) (by assumption) (by omega)]; exact decide_eq_true (by omega)), rfl, hs.to ⟨rfl, rfl, trivial⟩, m.sub (.c r0 .n)⟩
  have h4p := of_decide_eq_true h4
  refine wp_skip ?_
  refine n_then ?_
  refine c_seq ?_
  refine wp_block ?_
  refine c_reg ?_
  refine r_ok hs m (ok_fieldAddr (r := 0) rfl fd29_0 ty25 rfl) rfl ?_
  clear hs a; intro a hs
  refine r_ok hs m (ok_load_sc rfl ty25 (bx_at r0) rfl) rfl ?_
  clear hs a; intro a hs
  refine r_ok hs m (ok_move rfl) rfl ?_
  clear hs a; intro a hs
  obtain ⟨e37, he38⟩ := get_of_lt (l := t_Routes) (i := k) (by omega)
  refine elF (c := cRoute) (e := e37) hs m (x := (.tmp 17)) (ix := (.tmp 18)) rfl rfl sl25 ty51 ht_Routes (by omega) he38 fun p39 hp40 ok41 => ?_
  refine r_ok hs m (ok41 _ _ _ _ _) rfl ?_
  clear hs a; intro a hs
  refine r_ok hs m (ok_fieldAddr (r := 0) rfl fd51_0 ty44 rfl) rfl ?_
  clear hs a; intro a hs
  refine r_ok hs m (ok_load_ag (vs := cPrefix e37.Dst) rfl ty44 (fr_at hp40) rfl rfl) rfl ?_
  clear hs a; intro a hs
  refine r_callP hs m rfl rfl ca50 rfl (validR_c e37.Dst _  ) rfl ?_
  clear m hs a w3; intro w42 m a hs
  refine r_ok hs m (ok_assign rfl) rfl ?_
  clear hs a; intro a hs
  refine wpList_nil (n_then ?_)
  refine c_draw m mo (by kernel_rfl) ?_
  refine q_ok hs (ok_move rfl) rfl ?_
  clear hs a; intro a hs
  refine q_ok hs (ok_not rfl) rfl ?_
  clear hs a; intro a hs
  refine q_ok hs (ok_move rfl) rfl ?_
  clear hs a; intro a hs
  rcases Bool.eq_false_or_eq_true (!(validR e37.Dst)) with hb43 | hb43
  · have hb43p := hb43; simp only [Bool.or_eq_true, Bool.or_eq_false_iff, Bool.and_eq_true, Bool.and_eq_false_iff, Bool.not_eq_true', Bool.not_eq_false', decide_eq_true_eq, decide_eq_false_iff_not, beq_iff_eq, bne_iff_ne, beq_eq_false_iff_ne, bne_eq_false_iff_eq, ne_eq, gt_iff_lt, ge_iff_le, Int.not_lt, Int.not_le] at hb43p
    refine q_out hs rfl rfl hb43 rfl ?_
    clear hs a; intro a hs
    refine q_out hs rfl rfl hb43 rfl ?_
    clear hs a; intro a hs
    refine q_out hs rfl rfl hb43 rfl ?_
    clear hs a; intro a hs
    refine q_outU hs rfl rfl rfl ?_
    clear hs a; intro a hs
    refine q_outU hs rfl rfl rfl ?_
    clear hs a; intro a hs
    refine q_outU hs rfl rfl rfl ?_
    clear hs a; intro a hs
    refine q_outU hs rfl rfl rfl ?_
    clear hs a; intro a hs
    refine q_outU hs rfl rfl rfl ?_
    clear hs a; intro a hs
    refine q_outU hs rfl rfl rfl ?_
    clear hs a; intro a hs
    refine q_outU hs rfl rfl rfl ?_
    clear hs a; intro a hs
    refine q_outU hs rfl rfl rfl ?_
    clear hs a; intro a hs
    refine q_outU hs rfl rfl rfl ?_
    clear hs a; intro a hs
    refine q_outU hs rfl rfl rfl ?_
    clear hs a; intro a hs
    refine q_outU hs rfl rfl rfl ?_
    clear hs a; intro a hs
    refine q_outU hs rfl rfl rfl ?_
    clear hs a; intro a hs
    refine q_outU hs rfl rfl rfl ?_
    clear hs a; intro a hs
    refine q_outU hs rfl rfl rfl ?_
    clear hs a; intro a hs
    refine q_outU hs rfl rfl rfl ?_
    clear hs a; intro a hs
    refine q_out hs rfl rfl hb43 rfl ?_
    clear hs a; intro a hs
    refine q_ok hs (ok_pick (r := .bool true) rfl rfl rfl (by rw [hb43]; rfl)) rfl ?_
    clear hs a; intro a hs
    refine wpQuiet_nil ?_; clear m w42; intro w44 m
    refine c_true hs rfl rfl ?_
    refine c_reg ?_
    refine r_ok hs m (ok_assign rfl) rfl ?_
    clear hs a; intro a hs
    refine wpList_nil (n_then ?_)
    refine wp_ret ?_
    refine ret_block (ret_then (ret_then (ret_block (ret_then (leave hs (vs := [.bool false]) rfl ⟨rfl, trivial⟩ ?_)))))
    refine ⟨?_, m.sub .n⟩
    have q46 : (false : Bool) = orderedM t_Routes t_Neighs t_Fdbs := by clear hs m; first | exact ordered_f0 (k := k) (by omega) (ordAt_v (by assumption) (by assumption)) | exact ordered_f0 (k := k) (by omega) (ordAt_l (by assumption) (by assumption) (by assumption) (by assumption)) | exact ordered_f1 (k := k) (by omega) (by rw [ipAt_eq (by assumption) (by assumption) (by omega)]; exact decide_eq_false (by omega)) | exact ordered_f2 (k := k) (by omega) (by rw [wtAt_eq (by assumption) (by assumption) (by omega)]; exact decide_eq_false (by omega)) | exact ordered_t hR hN (allK_le (by omega) ho)
    first | (rw [q46]; done) | (rw [q46]; rfl) | (rw [q46]; rfl) | (simp only [q46, pack]; done)
  · have hb43p := hb43; simp only [Bool.or_eq_true, Bool.or_eq_false_iff, Bool.and_eq_true, Bool.and_eq_false_iff, Bool.not_eq_true', Bool.not_eq_false', decide_eq_true_eq, decide_eq_false_iff_not, beq_iff_eq, bne_iff_ne, beq_eq_false_iff_ne, bne_eq_false_iff_eq, ne_eq, gt_iff_lt, ge_iff_le, Int.not_lt, Int.not_le] at hb43p
    refine q_okg hs rfl rfl hb43 (ok_move rfl) rfl ?_
    clear hs a; intro a hs
    refine q_okg hs rfl rfl hb43 (ok_bin rfl rfl rfl) rfl ?_
    clear hs a; intro a hs
    refine q_okg hs rfl rfl hb43 (ok_move rfl) rfl ?_
    clear hs a; intro a hs
    rcases Bool.eq_false_or_eq_true (decide ((k : Int) > 0)) with hb47 | hb47
    · have hb47p := of_decide_eq_true hb47
      refine q_okg hs rfl rfl hb47 (ok_fieldAddr (r := 0) rfl fd29_0 ty25 rfl) rfl ?_
      clear hs a; intro a hs
      refine q_okg hs rfl rfl hb47 (ok_load_sc rfl ty25 (bx_at r0) rfl) rfl ?_
      clear hs a; intro a hs
      refine q_okg hs rfl rfl hb47 (ok_move rfl) rfl ?_
      clear hs a; intro a hs
      refine q_okg hs rfl rfl hb47 (ok_sub (r := (k : Int) - 1) rfl rfl (wrap_i64 (by omega) (by omega))) rfl ?_
      clear hs a; intro a hs
      obtain ⟨e48, he49⟩ := get_of_lt (l := t_Routes) (i := ((k : Int) - 1).toNat) (by omega)
      refine elF (c := cRoute) (e := e48) hs m (x := (.tmp 30)) (ix := (.tmp 32)) rfl rfl sl25 ty51 ht_Routes (by omega) he49 fun p50 hp51 ok52 => ?_
      refine q_okg hs rfl rfl hb47 (ok52 _ _ _ _ _) rfl ?_
      clear hs a; intro a hs
      refine q_okg hs rfl rfl hb47 (ok_fieldAddr (r := 0) rfl fd51_0 ty44 rfl) rfl ?_
      clear hs a; intro a hs
      refine q_okg hs rfl rfl hb47 (ok_load_ag (vs := cPrefix e48.Dst) rfl ty44 (fr_at hp51) rfl rfl) rfl ?_
      clear hs a; intro a hs
      refine q_okg hs rfl rfl hb47 (ok_fieldAddr (r := 0) rfl fd29_0 ty25 rfl) rfl ?_
      clear hs a; intro a hs
      refine q_okg hs rfl rfl hb47 (ok_load_sc rfl ty25 (bx_at r0) rfl) rfl ?_
      clear hs a; intro a hs
      refine q_okg hs rfl rfl hb47 (ok_move rfl) rfl ?_
      clear hs a; intro a hs
      refine elF (c := cRoute) (e := e37) hs m (x := (.tmp 37)) (ix := (.tmp 38)) rfl rfl sl25 ty51 ht_Routes (by omega) he38 fun p53 hp54 ok55 => ?_
      refine q_okg hs rfl rfl hb47 (ok55 _ _ _ _ _) rfl ?_
      clear hs a; intro a hs
      refine q_okg hs rfl rfl hb47 (ok_fieldAddr (r := 0) rfl fd51_0 ty44 rfl) rfl ?_
      clear hs a; intro a hs
      refine q_okg hs rfl rfl hb47 (ok_load_ag (vs := cPrefix e37.Dst) rfl ty44 (fr_at hp54) rfl rfl) rfl ?_
      clear hs a; intro a hs
      refine q_callPg hs rfl rfl hb47 rfl rfl ca107 rfl (fun w m => lower_c e48.Dst e37.Dst w  ) rfl ?_
      clear hs a; intro a hs
      refine q_okg hs rfl rfl hb47 (ok_not rfl) rfl ?_
      clear hs a; intro a hs
      refine q_okg hs rfl rfl hb43 (ok_pick (r := .bool (!(lowerM e48.Dst e37.Dst))) rfl rfl rfl (by rw [hb47]; rfl)) rfl ?_
      clear hs a; intro a hs
      refine q_ok hs (ok_pick (r := .bool (!(lowerM e48.Dst e37.Dst))) rfl rfl rfl (by rw [hb43]; rfl)) rfl ?_
      clear hs a; intro a hs
      refine wpQuiet_nil ?_; clear m w42; intro w56 m
      refine c_cond hs rfl (fun h57 => ?_) (fun h57 => ?_)
      · have h57p := h57; simp only [Bool.or_eq_true, Bool.or_eq_false_iff, Bool.and_eq_true, Bool.and_eq_false_iff, Bool.not_eq_true', Bool.not_eq_false', decide_eq_true_eq, decide_eq_false_iff_not, beq_iff_eq, bne_iff_ne, beq_eq_false_iff_ne, bne_eq_false_iff_eq, ne_eq, gt_iff_lt, ge_iff_le, Int.not_lt, Int.not_le] at h57p
        refine c_reg ?_
        refine r_ok hs m (ok_assign rfl) rfl ?_
        clear hs a; intro a hs
        refine wpList_nil (n_then ?_)
        refine wp_ret ?_
        refine ret_block (ret_then (ret_then (ret_block (ret_then (leave hs (vs := [.bool false]) rfl ⟨rfl, trivial⟩ ?_)))))
        refine ⟨?_, m.sub .n⟩
        have q58 : (false : Bool) = orderedM t_Routes t_Neighs t_Fdbs := by clear hs m; first | exact ordered_f0 (k := k) (by omega) (ordAt_v (by assumption) (by assumption)) | exact ordered_f0 (k := k) (by omega) (ordAt_l (by assumption) (by assumption) (by assumption) (by assumption)) | exact ordered_f1 (k := k) (by omega) (by rw [ipAt_eq (by assumption) (by assumption) (by omega)]; exact decide_eq_false (by omega)) | exact ordered_f2 (k := k) (by omega) (by rw [wtAt_eq (by assumption) (by assumption) (by omega)]; exact decide_eq_false (by omega)) | exact ordered_t hR hN (allK_le (by omega) ho)
        first | (rw [q58]; done) | (rw [q58]; rfl) | (rw [q58]; rfl) | (simp only [q58, pack]; done)
      have h57p := h57; simp only [Bool.or_eq_true, Bool.or_eq_false_iff, Bool.and_eq_true, Bool.and_eq_false_iff, Bool.not_eq_true', Bool.not_eq_false', decide_eq_true_eq, decide_eq_false_iff_not, beq_iff_eq, bne_iff_ne, beq_eq_false_iff_ne, bne_eq_false_iff_eq, ne_eq, gt_iff_lt, ge_iff_le, Int.not_lt, Int.not_le] at h57p
      refine wp_skip ?_
      refine n_block (n_then ?_)
      refine c_last ?_
      refine r_ok hs m (ok_move rfl) rfl ?_
      clear hs a; intro a hs
      refine r_ok hs m (ok_add (r := (k : Int) + 1) rfl rfl (wrap_i64 (by omega) (by omega))) rfl ?_
      clear hs a; intro a hs
      refine r_ok hs m (ok_assign rfl) rfl ?_
      clear hs a; intro a hs
      refine wpList_nil (n_then ?_)
      exact ⟨t_Routes.length + 1 - (k + 1), by omega, k + 1, by omega, by omega, by first | exact allK_succ ho (ordAt_t0 (by assumption) (by assumption) (by assumption)) | exact allK_succ ho (ordAt_t1 (by assumption) (by assumption) (by assumption) (by assumption) (by assumption)), rfl, hs.to ⟨rfl, rfl, trivial⟩, m.sub (.c r0 .n)⟩
    · have hb47p := of_decide_eq_false hb47
      refine q_out hs rfl rfl hb47 rfl ?_
      clear hs a; intro a hs
      refine q_out hs rfl rfl hb47 rfl ?_
      clear hs a; intro a hs
      refine q_out hs rfl rfl hb47 rfl ?_
      clear hs a; intro a hs
      refine q_out hs rfl rfl hb47 rfl ?_
      clear hs a; intro a hs
      refine q_out hs rfl rfl hb47 rfl ?_
      clear hs a; intro a hs
      refine q_out hs rfl rfl hb47 rfl ?_
      clear hs a; intro a hs
      refine q_out hs rfl rfl hb47 rfl ?_
      clear hs a; intro a hs
      refine q_out hs rfl rfl hb47 rfl ?_
      clear hs a; intro a hs
      refine q_out hs rfl rfl hb47 rfl ?_
      clear hs a; intro a hs
      refine q_out hs rfl rfl hb47 rfl ?_
      clear hs a; intro a hs
      refine q_out hs rfl rfl hb47 rfl ?_
      clear hs a; intro a hs
      refine q_out hs rfl rfl hb47 rfl ?_
      clear hs a; intro a hs
      refine q_out hs rfl rfl hb47 rfl ?_
      clear hs a; intro a hs
      refine q_out hs rfl rfl hb47 rfl ?_
      clear hs a; intro a hs
      refine q_out hs rfl rfl hb47 rfl ?_
      clear hs a; intro a hs
      refine q_okg hs rfl rfl hb43 (ok_pick (r := .bool false) rfl rfl rfl (by rw [hb47]; rfl)) rfl ?_
      clear hs a; intro a hs
      refine q_ok hs (ok_pick (r := .bool false) rfl rfl rfl (by rw [hb43]; rfl)) rfl ?_
      clear hs a; intro a hs
      refine wpQuiet_nil ?_; clear m w42; intro w59 m
      refine c_false hs rfl rfl ?_
      refine wp_skip ?_
      refine n_block (n_then ?_)
      refine c_last ?_
      refine r_ok hs m (ok_move rfl) rfl ?_
      clear hs a; intro a hs
      refine r_ok hs m (ok_add (r := (k : Int) + 1) rfl rfl (wrap_i64 (by omega) (by omega))) rfl ?_
      clear hs a; intro a hs
      refine r_ok hs m (ok_assign rfl) rfl ?_
      clear hs a; intro a hs
      refine wpList_nil (n_then ?_)
      exact ⟨t_Routes.length + 1 - (k + 1), by omega, k + 1, by omega, by omega, by first | exact allK_succ ho (ordAt_t0 (by assumption) (by assumption) (by assumption)) | exact allK_succ ho (ordAt_t1 (by assumption) (by assumption) (by assumption) (by assumption) (by assumption)), rfl, hs.to ⟨rfl, rfl, trivial⟩, m.sub (.c r0 .n)⟩
end Go.Proofs.YtnbpodjbemfpbaaGreat.Fw
