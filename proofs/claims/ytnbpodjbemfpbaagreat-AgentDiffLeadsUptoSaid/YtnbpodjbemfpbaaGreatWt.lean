/-
  Walks: printed by wip/tool/agent.py.
-/
import Derived.Test.YtnbpodjbemfpbaaGreatWp
import Derived.Test.YtnbpodjbemfpbaaGreatWj
import Derived.Test.YtnbpodjbemfpbaaGreatPl6
import Derived.KernelRfl
set_option linter.all false
set_option maxHeartbeats 4000000
set_option maxRecDepth 100000
namespace Go.Proofs.YtnbpodjbemfpbaaGreat.Fw
open Go
theorem validO_c (p : TPrefix) (w0 : World) : Pure Tryz.prog 23 [.agg ⟨cPrefix p⟩] (.bool (validR p)) w0 := by
  have ha := p.Addr.u32
  refine enter (n := 22) Tryz.func23 rfl rfl rfl fun a (hs : St 22 [(0, .agg ⟨cPrefix p⟩)] a) => ?_
  have m := Hp.start w0
  refine c_reg ?_
  refine r_box (cs := cPrefix p) hs m rfl rfl rfl ?_
  clear m hs a; intro p1 w2 m a hs
  refine r_ok hs m (ok_assign rfl) rfl ?_
  clear hs a; intro a hs
  refine wpList_nil (n_then ?_)
  refine c_draw m mo (by kernel_rfl) ?_
  refine q_ok hs (ok_fieldAddr (r := 1) rfl fd44_1 ty3 rfl) rfl ?_
  clear hs a; intro a hs
  refine q_ok hs (ok_load_sc rfl ty3 (bx_at r0) rfl) rfl ?_
  clear hs a; intro a hs
  refine q_ok hs (ok_bin rfl rfl rfl) rfl ?_
  clear hs a; intro a hs
  refine q_ok hs (ok_move rfl) rfl ?_
  clear hs a; intro a hs
  rcases Bool.eq_false_or_eq_true (decide (p.Len.v ≥ 0)) with hb3 | hb3
  · have hb3p := of_decide_eq_true hb3
    refine q_okg hs rfl rfl hb3 (ok_fieldAddr (r := 1) rfl fd44_1 ty3 rfl) rfl ?_
    clear hs a; intro a hs
    refine q_okg hs rfl rfl hb3 (ok_load_sc rfl ty3 (bx_at r0) rfl) rfl ?_
    clear hs a; intro a hs
    refine q_okg hs rfl rfl hb3 (ok_bin rfl rfl rfl) rfl ?_
    clear hs a; intro a hs
    refine q_ok hs (ok_pick (r := .bool (decide (p.Len.v ≤ 32))) rfl rfl rfl (by rw [hb3]; rfl)) rfl ?_
    clear hs a; intro a hs
    refine q_ok hs (ok_move rfl) rfl ?_
    clear hs a; intro a hs
    rcases Bool.eq_false_or_eq_true (decide (p.Len.v ≤ 32)) with hb4 | hb4
    · have hb4p := of_decide_eq_true hb4
      refine q_okg hs rfl rfl hb4 (ok_fieldAddr (r := 0) rfl fd44_0 ty42 rfl) rfl ?_
      clear hs a; intro a hs
      refine q_okg hs rfl rfl hb4 (ok_load_sc rfl ty42 (bx_at r0) rfl) rfl ?_
      clear hs a; intro a hs
      refine q_okg hs rfl rfl hb4 (ok_conv (r := p.Addr.v) rfl in42 in3 (wrap_i64 (by omega) (by omega))) rfl ?_
      clear hs a; intro a hs
      refine q_okg hs rfl rfl hb4 (ok_fieldAddr (r := 1) rfl fd44_1 ty3 rfl) rfl ?_
      clear hs a; intro a hs
      refine q_okg hs rfl rfl hb4 (ok_load_sc rfl ty3 (bx_at r0) rfl) rfl ?_
      clear hs a; intro a hs
      refine q_okg hs rfl rfl hb4 (ok_sub (r := 32 - p.Len.v) rfl rfl (wrap_i64 (by omega) (by omega))) rfl ?_
      clear hs a; intro a hs
      refine q_okg hs rfl rfl hb4 (ok_shl (r := (2 ^ (32 - p.Len.v).toNat : Int)) rfl rfl (by omega) (shl_pow (by omega) (by omega))) rfl ?_
      clear hs a; intro a hs
      refine q_okg hs rfl rfl hb4 (ok_rem rfl rfl (by first | omega | exact Int.ne_of_gt (Int.pow_pos (by omega))) rfl) rfl ?_
      clear hs a; intro a hs
      refine q_okg hs rfl rfl hb4 (ok_bin rfl rfl rfl) rfl ?_
      clear hs a; intro a hs
      refine q_ok hs (ok_pick (r := .bool ((Int.tmod p.Addr.v (2 ^ (32 - p.Len.v).toNat : Int)) == 0)) rfl rfl rfl (by rw [hb4]; rfl)) rfl ?_
      clear hs a; intro a hs
      refine q_ok hs (ok_assign rfl) rfl ?_
      clear hs a; intro a hs
      refine wpQuiet_nil ?_; clear m w2; intro w5 m
      refine wp_ret ?_
      refine leave hs (vs := [.bool ((Int.tmod p.Addr.v (2 ^ (32 - p.Len.v).toNat : Int)) == 0)]) rfl ⟨rfl, trivial⟩ ?_
      refine ⟨?_, m.sub .n⟩
      have q6 : ((Int.tmod p.Addr.v (2 ^ (32 - p.Len.v).toNat : Int)) == 0 : Bool) = validR p := by clear hs m; first | (unfold validR faultR; rw [if_pos (by omega)]; rfl) | (unfold validR faultR; rw [if_neg (by omega)]; exact tm_eq _)
      first | (rw [q6]; done) | (rw [q6]; rfl) | (rw [q6]; rfl) | (simp only [q6, pack]; done)
    · have hb4p := of_decide_eq_false hb4
      refine q_out hs rfl rfl hb4 rfl ?_
      clear hs a; intro a hs
      refine q_out hs rfl rfl hb4 rfl ?_
      clear hs a; intro a hs
      refine q_out hs rfl rfl hb4 rfl ?_
      clear hs a; intro a hs
      refine q_out hs rfl rfl hb4 rfl ?_
      clear hs a; intro a hs
      refine q_out hs rfl rfl hb4 rfl ?_
      clear hs a; intro a hs
      refine q_out hs rfl rfl hb4 rfl ?_
      clear hs a; intro a hs
      refine q_out hs rfl rfl hb4 rfl ?_
      clear hs a; intro a hs
      refine q_out hs rfl rfl hb4 rfl ?_
      clear hs a; intro a hs
      refine q_out hs rfl rfl hb4 rfl ?_
      clear hs a; intro a hs
      refine q_ok hs (ok_pick (r := .bool false) rfl rfl rfl (by rw [hb4]; rfl)) rfl ?_
      clear hs a; intro a hs
      refine q_ok hs (ok_assign rfl) rfl ?_
      clear hs a; intro a hs
      refine wpQuiet_nil ?_; clear m w2; intro w7 m
      refine wp_ret ?_
      refine leave hs (vs := [.bool false]) rfl ⟨rfl, trivial⟩ ?_
      refine ⟨?_, m.sub .n⟩
      have q8 : (false : Bool) = validR p := by clear hs m; first | (unfold validR faultR; rw [if_pos (by omega)]; rfl) | (unfold validR faultR; rw [if_neg (by omega)]; exact tm_eq _)
      first | (rw [q8]; done) | (rw [q8]; rfl) | (rw [q8]; rfl) | (simp only [q8, pack]; done)
  · have hb3p := of_decide_eq_false hb3
    refine q_out hs rfl rfl hb3 rfl ?_
    clear hs a; intro a hs
    refine q_out hs rfl rfl hb3 rfl ?_
    clear hs a; intro a hs
    refine q_out hs rfl rfl hb3 rfl ?_
    clear hs a; intro a hs
    refine q_ok hs (ok_pick (r := .bool false) rfl rfl rfl (by rw [hb3]; rfl)) rfl ?_
    clear hs a; intro a hs
    refine q_ok hs (ok_move rfl) rfl ?_
    clear hs a; intro a hs
    refine q_out hs rfl rfl rfl rfl ?_
    clear hs a; intro a hs
    refine q_out hs rfl rfl rfl rfl ?_
    clear hs a; intro a hs
    refine q_out hs rfl rfl rfl rfl ?_
    clear hs a; intro a hs
    refine q_out hs rfl rfl rfl rfl ?_
    clear hs a; intro a hs
    refine q_out hs rfl rfl rfl rfl ?_
    clear hs a; intro a hs
    refine q_out hs rfl rfl rfl rfl ?_
    clear hs a; intro a hs
    refine q_out hs rfl rfl rfl rfl ?_
    clear hs a; intro a hs
    refine q_out hs rfl rfl rfl rfl ?_
    clear hs a; intro a hs
    refine q_out hs rfl rfl rfl rfl ?_
    clear hs a; intro a hs
    refine q_ok hs (ok_pick (r := .bool false) rfl rfl rfl rfl) rfl ?_
    clear hs a; intro a hs
    refine q_ok hs (ok_assign rfl) rfl ?_
    clear hs a; intro a hs
    refine wpQuiet_nil ?_; clear m w2; intro w9 m
    refine wp_ret ?_
    refine leave hs (vs := [.bool false]) rfl ⟨rfl, trivial⟩ ?_
    refine ⟨?_, m.sub .n⟩
    have q10 : (false : Bool) = validR p := by clear hs m; first | (unfold validR faultR; rw [if_pos (by omega)]; rfl) | (unfold validR faultR; rw [if_neg (by omega)]; exact tm_eq _)
    first | (rw [q10]; done) | (rw [q10]; rfl) | (rw [q10]; rfl) | (simp only [q10, pack]; done)
theorem below_c (x : TPrefix) (y : TPrefix) (w0 : World) : Pure Tryz.prog 66 [.agg ⟨cPrefix x⟩, .agg ⟨cPrefix y⟩] (.bool (lowerM x y)) w0 := by
  refine enter (n := 24) Tryz.func66 rfl rfl rfl fun a (hs : St 24 [(0, .agg ⟨cPrefix x⟩), (1, .agg ⟨cPrefix y⟩)] a) => ?_
  have m := Hp.start w0
  refine c_reg ?_
  refine r_box (cs := cPrefix x) hs m rfl rfl rfl ?_
  clear m hs a; intro p1 w2 m a hs
  refine r_box (cs := cPrefix y) hs m rfl rfl rfl ?_
  clear m hs a w2; intro p3 w4 m a hs
  refine r_ok hs m (ok_assign rfl) rfl ?_
  clear hs a; intro a hs
  refine wpList_nil (n_then ?_)
  refine c_reg ?_
  refine r_ok hs m (ok_fieldAddr (r := 0) rfl fd44_0 ty42 rfl) rfl ?_
  clear hs a; intro a hs
  refine r_ok hs m (ok_load_sc rfl ty42 (bx_at r1) rfl) rfl ?_
  clear hs a; intro a hs
  refine r_ok hs m (ok_fieldAddr (r := 0) rfl fd44_0 ty42 rfl) rfl ?_
  clear hs a; intro a hs
  refine r_ok hs m (ok_load_sc rfl ty42 (bx_at r0) rfl) rfl ?_
  clear hs a; intro a hs
  refine r_ok hs m (ok_bin rfl rfl rfl) rfl ?_
  clear hs a; intro a hs
  refine r_ok hs m (ok_move rfl) rfl ?_
  clear hs a; intro a hs
  refine l_cut (.c (.c (.c (.c (.c (.c (.c (.c (.c (.c (.c (.c (.c (.n)))))))))))))) (fun a w => St 24 [(23, .bool ((decide (x.Addr.v < y.Addr.v)) || ((x.Addr.v == y.Addr.v) && (decide (x.Len.v < y.Len.v)))))] a ∧ Hp w0 (hh w0) [Bx p3 44 (cPrefix y), Bx p1 44 (cPrefix x)] w) ?_ ?_
  · rcases Bool.eq_false_or_eq_true (decide (x.Addr.v < y.Addr.v)) with hb5 | hb5
    · have hb5p := of_decide_eq_true hb5
      refine g_out hs rfl rfl hb5 rfl ?_
      clear hs a; intro a hs
      refine g_out hs rfl rfl hb5 rfl ?_
      clear hs a; intro a hs
      refine g_out hs rfl rfl hb5 rfl ?_
      clear hs a; intro a hs
      refine g_out hs rfl rfl hb5 rfl ?_
      clear hs a; intro a hs
      refine g_out hs rfl rfl hb5 rfl ?_
      clear hs a; intro a hs
      refine g_out hs rfl rfl hb5 rfl ?_
      clear hs a; intro a hs
      refine g_outU hs rfl rfl rfl ?_
      clear hs a; intro a hs
      refine g_outU hs rfl rfl rfl ?_
      clear hs a; intro a hs
      refine g_outU hs rfl rfl rfl ?_
      clear hs a; intro a hs
      refine g_outU hs rfl rfl rfl ?_
      clear hs a; intro a hs
      refine g_outU hs rfl rfl rfl ?_
      clear hs a; intro a hs
      refine g_out hs rfl rfl hb5 rfl ?_
      clear hs a; intro a hs
      refine r_ok hs m (ok_pick (r := .bool ((decide (x.Addr.v < y.Addr.v)) || ((x.Addr.v == y.Addr.v) && (decide (x.Len.v < y.Len.v))))) rfl rfl rfl (by rw [hb5]; rfl)) rfl ?_
      clear hs a; intro a hs
      exact wpList_nil (n_then ⟨hs.to ⟨rfl, trivial⟩, m⟩)
    · have hb5p := of_decide_eq_false hb5
      refine r_okg hs rfl rfl hb5 m (ok_fieldAddr (r := 0) rfl fd44_0 ty42 rfl) rfl ?_
      clear hs a; intro a hs
      refine r_okg hs rfl rfl hb5 m (ok_load_sc rfl ty42 (bx_at r1) rfl) rfl ?_
      clear hs a; intro a hs
      refine r_okg hs rfl rfl hb5 m (ok_fieldAddr (r := 0) rfl fd44_0 ty42 rfl) rfl ?_
      clear hs a; intro a hs
      refine r_okg hs rfl rfl hb5 m (ok_load_sc rfl ty42 (bx_at r0) rfl) rfl ?_
      clear hs a; intro a hs
      refine r_okg hs rfl rfl hb5 m (ok_bin rfl rfl rfl) rfl ?_
      clear hs a; intro a hs
      refine r_okg hs rfl rfl hb5 m (ok_move rfl) rfl ?_
      clear hs a; intro a hs
      refine l_cut (.c (.c (.c (.c (.c (.c (.n))))))) (fun a w => St 24 [(10, .bool (decide (x.Addr.v < y.Addr.v))), (22, .bool ((x.Addr.v == y.Addr.v) && (decide (x.Len.v < y.Len.v))))] a ∧ Hp w0 (hh w0) [Bx p3 44 (cPrefix y), Bx p1 44 (cPrefix x)] w) ?_ ?_
      · rcases Bool.eq_false_or_eq_true (x.Addr.v == y.Addr.v) with hb6 | hb6
        · have hb6p := eq_of_beq hb6
          refine r_okg hs rfl rfl hb6 m (ok_fieldAddr (r := 1) rfl fd44_1 ty3 rfl) rfl ?_
          clear hs a; intro a hs
          refine r_okg hs rfl rfl hb6 m (ok_load_sc rfl ty3 (bx_at r1) rfl) rfl ?_
          clear hs a; intro a hs
          refine r_okg hs rfl rfl hb6 m (ok_fieldAddr (r := 1) rfl fd44_1 ty3 rfl) rfl ?_
          clear hs a; intro a hs
          refine r_okg hs rfl rfl hb6 m (ok_load_sc rfl ty3 (bx_at r0) rfl) rfl ?_
          clear hs a; intro a hs
          refine r_okg hs rfl rfl hb6 m (ok_bin rfl rfl rfl) rfl ?_
          clear hs a; intro a hs
          refine r_okg hs rfl rfl hb5 m (ok_pick (r := .bool ((x.Addr.v == y.Addr.v) && (decide (x.Len.v < y.Len.v)))) rfl rfl rfl (by rw [hb6]; rfl)) rfl ?_
          clear hs a; intro a hs
          exact wpList_nil (n_then ⟨hs.to ⟨rfl, rfl, trivial⟩, m⟩)
        · have hb6p := ne_of_beq_false hb6
          refine g_out hs rfl rfl hb6 rfl ?_
          clear hs a; intro a hs
          refine g_out hs rfl rfl hb6 rfl ?_
          clear hs a; intro a hs
          refine g_out hs rfl rfl hb6 rfl ?_
          clear hs a; intro a hs
          refine g_out hs rfl rfl hb6 rfl ?_
          clear hs a; intro a hs
          refine g_out hs rfl rfl hb6 rfl ?_
          clear hs a; intro a hs
          refine r_okg hs rfl rfl hb5 m (ok_pick (r := .bool ((x.Addr.v == y.Addr.v) && (decide (x.Len.v < y.Len.v)))) rfl rfl rfl (by rw [hb6]; rfl)) rfl ?_
          clear hs a; intro a hs
          exact wpList_nil (n_then ⟨hs.to ⟨rfl, rfl, trivial⟩, m⟩)
      clear hs m a w4; rintro a w7 ⟨hs, m⟩
      refine r_ok hs m (ok_pick (r := .bool ((decide (x.Addr.v < y.Addr.v)) || ((x.Addr.v == y.Addr.v) && (decide (x.Len.v < y.Len.v))))) rfl rfl rfl (by rw [hb5]; rfl)) rfl ?_
      clear hs a; intro a hs
      exact wpList_nil (n_then ⟨hs.to ⟨rfl, trivial⟩, m⟩)
  clear hs m a w4; rintro a w8 ⟨hs, m⟩
  refine r_ok hs m (ok_assign rfl) rfl ?_
  clear hs a; intro a hs
  refine wpList_nil (n_then ?_)
  refine wp_ret ?_
  refine leave hs (vs := [.bool ((decide (x.Addr.v < y.Addr.v)) || ((x.Addr.v == y.Addr.v) && (decide (x.Len.v < y.Len.v))))]) rfl ⟨rfl, trivial⟩ ?_
  refine ⟨?_, m.sub .n⟩
  have q9 : ((decide (x.Addr.v < y.Addr.v)) || ((x.Addr.v == y.Addr.v) && (decide (x.Len.v < y.Len.v))) : Bool) = lowerM x y := by clear hs m; rfl
  first | (rw [q9]; done) | (rw [q9]; rfl) | (rw [q9]; rfl) | (simp only [q9, pack]; done)
theorem weightO_c (q : TMAC) (w0 : World) : Pure Tryz.prog 67 [.agg ⟨cMAC q⟩] (.int .i64 (weightM q)) w0 := by
  have h0 := q.b0.u8
  have h1 := q.b1.u8
  have h2 := q.b2.u8
  have h3 := q.b3.u8
  have h4 := q.b4.u8
  have h5 := q.b5.u8
  refine enter (n := 17) Tryz.func67 rfl rfl rfl fun a (hs : St 17 [(0, .agg ⟨cMAC q⟩)] a) => ?_
  have m := Hp.start w0
  refine c_reg ?_
  refine r_box (cs := cMAC q) hs m rfl rfl rfl ?_
  clear m hs a; intro p1 w2 m a hs
  refine r_ok hs m (ok_assign rfl) rfl ?_
  clear hs a; intro a hs
  refine wpList_nil (n_then ?_)
  refine c_reg ?_
  refine r_ok hs m (ok_assign rfl) rfl ?_
  clear hs a; intro a hs
  refine wpList_nil (n_then ?_)
  refine c_seq ?_
  refine c_reg ?_
  refine r_ok hs m (ok_assign rfl) rfl ?_
  clear hs a; intro a hs
  refine wpList_nil (n_then ?_)
  refine wp_block ?_
  refine wp_loop_rounds 7 ?_
  refine rounds_s ?_
  refine c_seq ?_
  refine c_reg ?_
  refine r_ok hs m (ok_move rfl) rfl ?_
  clear hs a; intro a hs
  refine r_ok hs m (ok_bin (v := .bool true) rfl rfl rfl) rfl ?_
  clear hs a; intro a hs
  refine wpList_nil (n_then ?_)
  refine c_true hs rfl rfl ?_
  refine wp_skip ?_
  refine n_then ?_
  refine c_seq ?_
  refine wp_block ?_
  refine c_last ?_
  refine r_ok hs m (ok_move rfl) rfl ?_
  clear hs a; intro a hs
  refine r_ok hs m (ok_mul (r := 0) rfl rfl rfl) rfl ?_
  clear hs a; intro a hs
  refine r_ok hs m (ok_move rfl) rfl ?_
  clear hs a; intro a hs
  refine r_ok hs m (ok_indexArr (i := 0) (r := 0) rfl rfl ar46 ty5 rfl rfl) rfl ?_
  clear hs a; intro a hs
  refine r_ok hs m (ok_load_sc rfl ty5 (bx_at r0) rfl) rfl ?_
  clear hs a; intro a hs
  refine r_ok hs m (ok_conv (r := q.b0.v) rfl in5 in3 (wrap_i64 (by omega) (by omega))) rfl ?_
  clear hs a; intro a hs
  refine r_ok hs m (ok_add (r := 0 + q.b0.v) rfl rfl (wrap_i64 (by omega) (by omega))) rfl ?_
  clear hs a; intro a hs
  refine r_ok hs m (ok_assign rfl) rfl ?_
  clear hs a; intro a hs
  refine wpList_nil (n_block (n_then ?_))
  refine c_last ?_
  refine r_ok hs m (ok_move rfl) rfl ?_
  clear hs a; intro a hs
  refine r_ok hs m (ok_add (r := 1) rfl rfl rfl) rfl ?_
  clear hs a; intro a hs
  refine r_ok hs m (ok_assign rfl) rfl ?_
  clear hs a; intro a hs
  refine wpList_nil (n_then ?_)
  refine rounds_s ?_
  refine c_seq ?_
  refine c_reg ?_
  refine r_ok hs m (ok_move rfl) rfl ?_
  clear hs a; intro a hs
  refine r_ok hs m (ok_bin (v := .bool true) rfl rfl rfl) rfl ?_
  clear hs a; intro a hs
  refine wpList_nil (n_then ?_)
  refine c_true hs rfl rfl ?_
  refine wp_skip ?_
  refine n_then ?_
  refine c_seq ?_
  refine wp_block ?_
  refine c_last ?_
  refine r_ok hs m (ok_move rfl) rfl ?_
  clear hs a; intro a hs
  refine r_ok hs m (ok_mul (r := (0 + q.b0.v) * 256) rfl rfl (wrap_i64 (by omega) (by omega))) rfl ?_
  clear hs a; intro a hs
  refine r_ok hs m (ok_move rfl) rfl ?_
  clear hs a; intro a hs
  refine r_ok hs m (ok_indexArr (i := 1) (r := 1) rfl rfl ar46 ty5 rfl rfl) rfl ?_
  clear hs a; intro a hs
  refine r_ok hs m (ok_load_sc rfl ty5 (bx_at r0) rfl) rfl ?_
  clear hs a; intro a hs
  refine r_ok hs m (ok_conv (r := q.b1.v) rfl in5 in3 (wrap_i64 (by omega) (by omega))) rfl ?_
  clear hs a; intro a hs
  refine r_ok hs m (ok_add (r := ((0 + q.b0.v) * 256) + q.b1.v) rfl rfl (wrap_i64 (by omega) (by omega))) rfl ?_
  clear hs a; intro a hs
  refine r_ok hs m (ok_assign rfl) rfl ?_
  clear hs a; intro a hs
  refine wpList_nil (n_block (n_then ?_))
  refine c_last ?_
  refine r_ok hs m (ok_move rfl) rfl ?_
  clear hs a; intro a hs
  refine r_ok hs m (ok_add (r := 2) rfl rfl rfl) rfl ?_
  clear hs a; intro a hs
  refine r_ok hs m (ok_assign rfl) rfl ?_
  clear hs a; intro a hs
  refine wpList_nil (n_then ?_)
  refine rounds_s ?_
  refine c_seq ?_
  refine c_reg ?_
  refine r_ok hs m (ok_move rfl) rfl ?_
  clear hs a; intro a hs
  refine r_ok hs m (ok_bin (v := .bool true) rfl rfl rfl) rfl ?_
  clear hs a; intro a hs
  refine wpList_nil (n_then ?_)
  refine c_true hs rfl rfl ?_
  refine wp_skip ?_
  refine n_then ?_
  refine c_seq ?_
  refine wp_block ?_
  refine c_last ?_
  refine r_ok hs m (ok_move rfl) rfl ?_
  clear hs a; intro a hs
  refine r_ok hs m (ok_mul (r := (((0 + q.b0.v) * 256) + q.b1.v) * 256) rfl rfl (wrap_i64 (by omega) (by omega))) rfl ?_
  clear hs a; intro a hs
  refine r_ok hs m (ok_move rfl) rfl ?_
  clear hs a; intro a hs
  refine r_ok hs m (ok_indexArr (i := 2) (r := 2) rfl rfl ar46 ty5 rfl rfl) rfl ?_
  clear hs a; intro a hs
  refine r_ok hs m (ok_load_sc rfl ty5 (bx_at r0) rfl) rfl ?_
  clear hs a; intro a hs
  refine r_ok hs m (ok_conv (r := q.b2.v) rfl in5 in3 (wrap_i64 (by omega) (by omega))) rfl ?_
  clear hs a; intro a hs
  refine r_ok hs m (ok_add (r := ((((0 + q.b0.v) * 256) + q.b1.v) * 256) + q.b2.v) rfl rfl (wrap_i64 (by omega) (by omega))) rfl ?_
  clear hs a; intro a hs
  refine r_ok hs m (ok_assign rfl) rfl ?_
  clear hs a; intro a hs
  refine wpList_nil (n_block (n_then ?_))
  refine c_last ?_
  refine r_ok hs m (ok_move rfl) rfl ?_
  clear hs a; intro a hs
  refine r_ok hs m (ok_add (r := 3) rfl rfl rfl) rfl ?_
  clear hs a; intro a hs
  refine r_ok hs m (ok_assign rfl) rfl ?_
  clear hs a; intro a hs
  refine wpList_nil (n_then ?_)
  refine rounds_s ?_
  refine c_seq ?_
  refine c_reg ?_
  refine r_ok hs m (ok_move rfl) rfl ?_
  clear hs a; intro a hs
  refine r_ok hs m (ok_bin (v := .bool true) rfl rfl rfl) rfl ?_
  clear hs a; intro a hs
  refine wpList_nil (n_then ?_)
  refine c_true hs rfl rfl ?_
  refine wp_skip ?_
  refine n_then ?_
  refine c_seq ?_
  refine wp_block ?_
  refine c_last ?_
  refine r_ok hs m (ok_move rfl) rfl ?_
  clear hs a; intro a hs
  refine r_ok hs m (ok_mul (r := (((((0 + q.b0.v) * 256) + q.b1.v) * 256) + q.b2.v) * 256) rfl rfl (wrap_i64 (by omega) (by omega))) rfl ?_
  clear hs a; intro a hs
  refine r_ok hs m (ok_move rfl) rfl ?_
  clear hs a; intro a hs
  refine r_ok hs m (ok_indexArr (i := 3) (r := 3) rfl rfl ar46 ty5 rfl rfl) rfl ?_
  clear hs a; intro a hs
  refine r_ok hs m (ok_load_sc rfl ty5 (bx_at r0) rfl) rfl ?_
  clear hs a; intro a hs
  refine r_ok hs m (ok_conv (r := q.b3.v) rfl in5 in3 (wrap_i64 (by omega) (by omega))) rfl ?_
  clear hs a; intro a hs
  refine r_ok hs m (ok_add (r := ((((((0 + q.b0.v) * 256) + q.b1.v) * 256) + q.b2.v) * 256) + q.b3.v) rfl rfl (wrap_i64 (by omega) (by omega))) rfl ?_
  clear hs a; intro a hs
  refine r_ok hs m (ok_assign rfl) rfl ?_
  clear hs a; intro a hs
  refine wpList_nil (n_block (n_then ?_))
  refine c_last ?_
  refine r_ok hs m (ok_move rfl) rfl ?_
  clear hs a; intro a hs
  refine r_ok hs m (ok_add (r := 4) rfl rfl rfl) rfl ?_
  clear hs a; intro a hs
  refine r_ok hs m (ok_assign rfl) rfl ?_
  clear hs a; intro a hs
  refine wpList_nil (n_then ?_)
  refine rounds_s ?_
  refine c_seq ?_
  refine c_reg ?_
  refine r_ok hs m (ok_move rfl) rfl ?_
  clear hs a; intro a hs
  refine r_ok hs m (ok_bin (v := .bool true) rfl rfl rfl) rfl ?_
  clear hs a; intro a hs
  refine wpList_nil (n_then ?_)
  refine c_true hs rfl rfl ?_
  refine wp_skip ?_
  refine n_then ?_
  refine c_seq ?_
  refine wp_block ?_
  refine c_last ?_
  refine r_ok hs m (ok_move rfl) rfl ?_
  clear hs a; intro a hs
  refine r_ok hs m (ok_mul (r := (((((((0 + q.b0.v) * 256) + q.b1.v) * 256) + q.b2.v) * 256) + q.b3.v) * 256) rfl rfl (wrap_i64 (by omega) (by omega))) rfl ?_
  clear hs a; intro a hs
  refine r_ok hs m (ok_move rfl) rfl ?_
  clear hs a; intro a hs
  refine r_ok hs m (ok_indexArr (i := 4) (r := 4) rfl rfl ar46 ty5 rfl rfl) rfl ?_
  clear hs a; intro a hs
  refine r_ok hs m (ok_load_sc rfl ty5 (bx_at r0) rfl) rfl ?_
  clear hs a; intro a hs
  refine r_ok hs m (ok_conv (r := q.b4.v) rfl in5 in3 (wrap_i64 (by omega) (by omega))) rfl ?_
  clear hs a; intro a hs
  refine r_ok hs m (ok_add (r := ((((((((0 + q.b0.v) * 256) + q.b1.v) * 256) + q.b2.v) * 256) + q.b3.v) * 256) + q.b4.v) rfl rfl (wrap_i64 (by omega) (by omega))) rfl ?_
  clear hs a; intro a hs
  refine r_ok hs m (ok_assign rfl) rfl ?_
  clear hs a; intro a hs
  refine wpList_nil (n_block (n_then ?_))
  refine c_last ?_
  refine r_ok hs m (ok_move rfl) rfl ?_
  clear hs a; intro a hs
  refine r_ok hs m (ok_add (r := 5) rfl rfl rfl) rfl ?_
  clear hs a; intro a hs
  refine r_ok hs m (ok_assign rfl) rfl ?_
  clear hs a; intro a hs
  refine wpList_nil (n_then ?_)
  refine rounds_s ?_
  refine c_seq ?_
  refine c_reg ?_
  refine r_ok hs m (ok_move rfl) rfl ?_
  clear hs a; intro a hs
  refine r_ok hs m (ok_bin (v := .bool true) rfl rfl rfl) rfl ?_
  clear hs a; intro a hs
  refine wpList_nil (n_then ?_)
  refine c_true hs rfl rfl ?_
  refine wp_skip ?_
  refine n_then ?_
  refine c_seq ?_
  refine wp_block ?_
  refine c_last ?_
  refine r_ok hs m (ok_move rfl) rfl ?_
  clear hs a; intro a hs
  refine r_ok hs m (ok_mul (r := (((((((((0 + q.b0.v) * 256) + q.b1.v) * 256) + q.b2.v) * 256) + q.b3.v) * 256) + q.b4.v) * 256) rfl rfl (wrap_i64 (by omega) (by omega))) rfl ?_
  clear hs a; intro a hs
  refine r_ok hs m (ok_move rfl) rfl ?_
  clear hs a; intro a hs
  refine r_ok hs m (ok_indexArr (i := 5) (r := 5) rfl rfl ar46 ty5 rfl rfl) rfl ?_
  clear hs a; intro a hs
  refine r_ok hs m (ok_load_sc rfl ty5 (bx_at r0) rfl) rfl ?_
  clear hs a; intro a hs
  refine r_ok hs m (ok_conv (r := q.b5.v) rfl in5 in3 (wrap_i64 (by omega) (by omega))) rfl ?_
  clear hs a; intro a hs
  refine r_ok hs m (ok_add (r := ((((((((((0 + q.b0.v) * 256) + q.b1.v) * 256) + q.b2.v) * 256) + q.b3.v) * 256) + q.b4.v) * 256) + q.b5.v) rfl rfl (wrap_i64 (by omega) (by omega))) rfl ?_
  clear hs a; intro a hs
  refine r_ok hs m (ok_assign rfl) rfl ?_
  clear hs a; intro a hs
  refine wpList_nil (n_block (n_then ?_))
  refine c_last ?_
  refine r_ok hs m (ok_move rfl) rfl ?_
  clear hs a; intro a hs
  refine r_ok hs m (ok_add (r := 6) rfl rfl rfl) rfl ?_
  clear hs a; intro a hs
  refine r_ok hs m (ok_assign rfl) rfl ?_
  clear hs a; intro a hs
  refine wpList_nil (n_then ?_)
  refine rounds_s ?_
  refine c_seq ?_
  refine c_reg ?_
  refine r_ok hs m (ok_move rfl) rfl ?_
  clear hs a; intro a hs
  refine r_ok hs m (ok_bin (v := .bool false) rfl rfl rfl) rfl ?_
  clear hs a; intro a hs
  refine wpList_nil (n_then ?_)
  refine c_false hs rfl rfl ?_
  refine wp_exit ?_
  refine ex_then (ex_then (ex_hit (?_)))
  refine n_then ?_
  refine c_reg ?_
  refine r_ok hs m (ok_move rfl) rfl ?_
  clear hs a; intro a hs
  refine r_ok hs m (ok_assign rfl) rfl ?_
  clear hs a; intro a hs
  refine wpList_nil (n_then ?_)
  refine wp_ret ?_
  refine leave hs (vs := [.int .i64 (((((((((((0 + q.b0.v) * 256) + q.b1.v) * 256) + q.b2.v) * 256) + q.b3.v) * 256) + q.b4.v) * 256) + q.b5.v)]) rfl ⟨rfl, trivial⟩ ?_
  refine ⟨?_, m.sub .n⟩
  have q10 : (((((((((((0 + q.b0.v) * 256) + q.b1.v) * 256) + q.b2.v) * 256) + q.b3.v) * 256) + q.b4.v) * 256) + q.b5.v : Int) = weightM q := by clear hs m; unfold weightM; omega
  first | (rw [q10]; done) | (rw [q10]; rfl) | (rw [q10]; rfl) | (simp only [q10, pack]; done)
theorem orderly_c (vt_Routes : SH) (t_Routes : List TRoute) (vt_Neighs : SH) (t_Neighs : List TNeigh) (vt_Fdbs : SH) (t_Fdbs : List TFdb) (w0 : World) (ht_Routes : RdS (hh w0) 4 vt_Routes.v (t_Routes.map cRoute)) (ht_Neighs : RdS (hh w0) 7 vt_Neighs.v (t_Neighs.map cNeigh)) (ht_Fdbs : RdS (hh w0) 7 vt_Fdbs.v (t_Fdbs.map cFdb)) : Pure Tryz.prog 21 [.agg ⟨[vt_Routes.v, vt_Neighs.v, vt_Fdbs.v]⟩] (.bool (orderedM t_Routes t_Neighs t_Fdbs)) w0 := by
  have lvt_Routes := ht_Routes.bd
  have lvt_Neighs := ht_Neighs.bd
  have lvt_Fdbs := ht_Fdbs.bd
  refine enter (n := 86) Tryz.func21 rfl rfl rfl fun a (hs : St 86 [(0, .agg ⟨[vt_Routes.v, vt_Neighs.v, vt_Fdbs.v]⟩)] a) => ?_
  have m := Hp.start w0
  refine c_reg ?_
  refine r_box (cs := [vt_Routes.v, vt_Neighs.v, vt_Fdbs.v]) hs m rfl rfl rfl ?_
  clear m hs a; intro p1 w2 m a hs
  refine r_ok hs m (ok_assign rfl) rfl ?_
  clear hs a; intro a hs
  refine wpList_nil (n_then ?_)
  refine c_seq ?_
  refine c_reg ?_
  refine r_ok hs m (ok_assign rfl) rfl ?_
  clear hs a; intro a hs
  refine wpList_nil (n_then ?_)
  refine wp_block ?_
  refine wp_loop_ghost (fun gn a w => ∃ k : Nat, (k ≤ t_Routes.length) ∧ (0 ≤ k) ∧ (allK (ordAt t_Routes) k = true) ∧ gn = t_Routes.length + 1 - k ∧ St 86 [(1, .pointer (some (padd p1 0))), (3, .int .i64 (k : Int))] a ∧ Hp w0 (hh w0) [Bx p1 29 [vt_Routes.v, vt_Neighs.v, vt_Fdbs.v]] w) (t_Routes.length + 1 - 0) ⟨0, by omega, by omega, by rfl, rfl, hs.to ⟨rfl, rfl, trivial⟩, m.sub (.c r0 .n)⟩ ?_
  clear hs m a w2
  rintro gn a w3 ⟨k, hk, h1, ho, rfl, hs, m⟩
  refine c_seq ?_
  refine c_reg ?_
  refine r_ok hs m (ok_move rfl) rfl ?_
  clear hs a; intro a hs
  refine r_ok hs m (ok_fieldAddr (r := 0) rfl fd29_0 ty25 rfl) rfl ?_
  clear hs a; intro a hs
  refine r_ok hs m (ok_load_sc rfl ty25 (bx_at r0) rfl) rfl ?_
  clear hs a; intro a hs
  refine r_ok hs m (ok_len (r := (t_Routes.length : Int)) m rfl sl25 (rc_fr ht_Routes) (by simp)) rfl ?_
  clear hs a; intro a hs
  refine r_ok hs m (ok_bin rfl rfl rfl) rfl ?_
  clear hs a; intro a hs
  refine wpList_nil (n_then ?_)
  refine c_cond hs rfl (fun h4 => ?_) (fun h4 => ?_)
  rotate_left
  · have h4p := of_decide_eq_false h4
    refine wp_exit ?_
    refine ex_then (ex_then (ex_hit (?_)))
    refine n_then ?_
    refine c_seq ?_
    refine c_reg ?_
    refine r_ok hs m (ok_assign rfl) rfl ?_
    clear hs a; intro a hs
    refine wpList_nil (n_then ?_)
    refine wp_block ?_
    have hR : allK (ordAt t_Routes) t_Routes.length = true := allK_le (by omega) ho
    clear ho hk h1
    refine wp_loop_ghost (fun gn a w => ∃ k : Nat, (k ≤ t_Neighs.length ∨ k = 1) ∧ (1 ≤ k) ∧ (allK (ipAt t_Neighs) k = true) ∧ gn = t_Neighs.length + 1 - k ∧ St 86 [(1, .pointer (some (padd p1 0))), (4, .int .i64 (k : Int))] a ∧ Hp w0 (hh w0) [Bx p1 29 [vt_Routes.v, vt_Neighs.v, vt_Fdbs.v]] w) (t_Neighs.length + 1 - 1) ⟨1, by omega, by omega, by rfl, rfl, hs.to ⟨rfl, rfl, trivial⟩, m.sub (.c r0 .n)⟩ ?_
    clear hs m a w3
    rintro gn a w5 ⟨k, hk, h1, ho, rfl, hs, m⟩
    refine c_seq ?_
    refine c_reg ?_
    refine r_ok hs m (ok_move rfl) rfl ?_
    clear hs a; intro a hs
    refine r_ok hs m (ok_fieldAddr (r := 1) rfl fd29_1 ty26 rfl) rfl ?_
    clear hs a; intro a hs
    refine r_ok hs m (ok_load_sc rfl ty26 (bx_at r0) rfl) rfl ?_
    clear hs a; intro a hs
    refine r_ok hs m (ok_len (r := (t_Neighs.length : Int)) m rfl sl26 (rc_fr ht_Neighs) (by simp)) rfl ?_
    clear hs a; intro a hs
    refine r_ok hs m (ok_bin rfl rfl rfl) rfl ?_
    clear hs a; intro a hs
    refine wpList_nil (n_then ?_)
    refine c_cond hs rfl (fun h6 => ?_) (fun h6 => ?_)
    rotate_left
    · have h6p := of_decide_eq_false h6
      refine wp_exit ?_
      refine ex_then (ex_then (ex_hit (?_)))
      refine n_then ?_
      refine c_seq ?_
      refine c_reg ?_
      refine r_ok hs m (ok_assign rfl) rfl ?_
      clear hs a; intro a hs
      refine wpList_nil (n_then ?_)
      refine wp_block ?_
      have hN : allK (ipAt t_Neighs) t_Neighs.length = true := allK_le (by omega) ho
      clear ho hk h1
      refine wp_loop_ghost (fun gn a w => ∃ k : Nat, (k ≤ t_Fdbs.length ∨ k = 1) ∧ (1 ≤ k) ∧ (allK (wtAt t_Fdbs) k = true) ∧ gn = t_Fdbs.length + 1 - k ∧ St 86 [(1, .pointer (some (padd p1 0))), (5, .int .i64 (k : Int))] a ∧ Hp w0 (hh w0) [Bx p1 29 [vt_Routes.v, vt_Neighs.v, vt_Fdbs.v]] w) (t_Fdbs.length + 1 - 1) ⟨1, by omega, by omega, by rfl, rfl, hs.to ⟨rfl, rfl, trivial⟩, m.sub (.c r0 .n)⟩ ?_
      clear hs m a w5
      rintro gn a w7 ⟨k, hk, h1, ho, rfl, hs, m⟩
      refine c_seq ?_
      refine c_reg ?_
      refine r_ok hs m (ok_move rfl) rfl ?_
      clear hs a; intro a hs
      refine r_ok hs m (ok_fieldAddr (r := 2) rfl fd29_2 ty27 rfl) rfl ?_
      clear hs a; intro a hs
      refine r_ok hs m (ok_load_sc rfl ty27 (bx_at r0) rfl) rfl ?_
      clear hs a; intro a hs
      refine r_ok hs m (ok_len (r := (t_Fdbs.length : Int)) m rfl sl27 (rc_fr ht_Fdbs) (by simp)) rfl ?_
      clear hs a; intro a hs
      refine r_ok hs m (ok_bin rfl rfl rfl) rfl ?_
      clear hs a; intro a hs
      refine wpList_nil (n_then ?_)
      refine c_cond hs rfl (fun h8 => ?_) (fun h8 => ?_)
      rotate_left
      · have h8p := of_decide_eq_false h8
        refine wp_exit ?_
        refine ex_then (ex_then (ex_hit (?_)))
        refine n_then ?_
        refine c_reg ?_
        refine r_ok hs m (ok_assign rfl) rfl ?_
        clear hs a; intro a hs
        refine wpList_nil (n_then ?_)
        refine wp_ret ?_
        refine leave hs (vs := [.bool true]) rfl ⟨rfl, trivial⟩ ?_
        refine ⟨?_, m.sub .n⟩
        have q9 : (true : Bool) = orderedM t_Routes t_Neighs t_Fdbs := by clear hs m; first | exact ordered_f0 (k := k) (by omega) (ordAt_v (by assumption) (by assumption)) | exact ordered_f0 (k := k) (by omega) (ordAt_l (by assumption) (by assumption) (by assumption) (by assumption)) | exact ordered_f1 (k := k) (by omega) (by rw [ipAt_eq (by assumption) (by assumption) (by omega)]; exact decide_eq_false (by omega)) | exact ordered_f2 (k := k) (by omega) (by rw [wtAt_eq (by assumption) (by assumption) (by omega)]; exact decide_eq_false (by omega)) | exact ordered_t hR hN (allK_le (by omega) ho)
        first | (rw [q9]; done) | (rw [q9]; rfl) | (rw [q9]; rfl) | (simp only [q9, pack]; done)
      have h8p := of_decide_eq_true h8
      refine wp_skip ?_
      refine n_then ?_
      refine c_seq ?_
      refine wp_block ?_
      refine c_draw m mo (by kernel_rfl) ?_
      refine q_ok hs (ok_fieldAddr (r := 2) rfl fd29_2 ty27 rfl) rfl ?_
      clear hs a; intro a hs
      refine q_ok hs (ok_load_sc rfl ty27 (bx_at r0) rfl) rfl ?_
      clear hs a; intro a hs
      refine q_ok hs (ok_move rfl) rfl ?_
      clear hs a; intro a hs
      refine q_ok hs (ok_sub (r := (k : Int) - 1) rfl rfl (wrap_i64 (by omega) (by omega))) rfl ?_
      clear hs a; intro a hs
      obtain ⟨e10, he11⟩ := get_of_lt (l := t_Fdbs) (i := ((k : Int) - 1).toNat) (by omega)
      refine elF (c := cFdb) (e := e10) hs m (x := (.tmp 71)) (ix := (.tmp 73)) rfl rfl sl27 ty56 ht_Fdbs (by omega) he11 fun p12 hp13 ok14 => ?_
      refine q_ok hs (ok14 _ _ _ _ _) rfl ?_
      clear hs a; intro a hs
      refine q_ok hs (ok_fieldAddr (r := 0) rfl fd56_0 ty46 rfl) rfl ?_
      clear hs a; intro a hs
      refine q_ok hs (ok_load_ag (vs := cMAC e10.MAC) rfl ty46 (fr_at hp13) rfl rfl) rfl ?_
      clear hs a; intro a hs
      refine q_callP hs rfl rfl ca67 rfl (fun w m => weightO_c e10.MAC w  ) rfl ?_
      clear hs a; intro a hs
      refine q_ok hs (ok_fieldAddr (r := 2) rfl fd29_2 ty27 rfl) rfl ?_
      clear hs a; intro a hs
      refine q_ok hs (ok_load_sc rfl ty27 (bx_at r0) rfl) rfl ?_
      clear hs a; intro a hs
      refine q_ok hs (ok_move rfl) rfl ?_
      clear hs a; intro a hs
      obtain ⟨e15, he16⟩ := get_of_lt (l := t_Fdbs) (i := k) (by omega)
      refine elF (c := cFdb) (e := e15) hs m (x := (.tmp 79)) (ix := (.tmp 80)) rfl rfl sl27 ty56 ht_Fdbs (by omega) he16 fun p17 hp18 ok19 => ?_
      refine q_ok hs (ok19 _ _ _ _ _) rfl ?_
      clear hs a; intro a hs
      refine q_ok hs (ok_fieldAddr (r := 0) rfl fd56_0 ty46 rfl) rfl ?_
      clear hs a; intro a hs
      refine q_ok hs (ok_load_ag (vs := cMAC e15.MAC) rfl ty46 (fr_at hp18) rfl rfl) rfl ?_
      clear hs a; intro a hs
      refine q_callP hs rfl rfl ca67 rfl (fun w m => weightO_c e15.MAC w  ) rfl ?_
      clear hs a; intro a hs
      refine q_ok hs (ok_bin rfl rfl rfl) rfl ?_
      clear hs a; intro a hs
      refine wpQuiet_nil ?_; clear m w7; intro w20 m
      refine c_cond hs rfl (fun h21 => ?_) (fun h21 => ?_)
      · have h21p := of_decide_eq_true h21
        refine c_reg ?_
        refine r_ok hs m (ok_assign rfl) rfl ?_
        clear hs a; intro a hs
        refine wpList_nil (n_then ?_)
        refine wp_ret ?_
        refine ret_block (ret_then (ret_then (ret_block (ret_then (leave hs (vs := [.bool false]) rfl ⟨rfl, trivial⟩ ?_)))))
        refine ⟨?_, m.sub .n⟩
        have q22 : (false : Bool) = orderedM t_Routes t_Neighs t_Fdbs := by clear hs m; first | exact ordered_f0 (k := k) (by omega) (ordAt_v (by assumption) (by assumption)) | exact ordered_f0 (k := k) (by omega) (ordAt_l (by assumption) (by assumption) (by assumption) (by assumption)) | exact ordered_f1 (k := k) (by omega) (by rw [ipAt_eq (by assumption) (by assumption) (by omega)]; exact decide_eq_false (by omega)) | exact ordered_f2 (k := k) (by omega) (by rw [wtAt_eq (by assumption) (by assumption) (by omega)]; exact decide_eq_false (by omega)) | exact ordered_t hR hN (allK_le (by omega) ho)
        first | (rw [q22]; done) | (rw [q22]; rfl) | (rw [q22]; rfl) | (simp only [q22, pack]; done)
      have h21p := of_decide_eq_false h21
      refine wp_skip ?_
      refine n_block (n_then ?_)
      refine c_last ?_
      refine r_ok hs m (ok_move rfl) rfl ?_
      clear hs a; intro a hs
      refine r_ok hs m (ok_add (r := (k : Int) + 1) rfl rfl (wrap_i64 (by omega) (by omega))) rfl ?_
      clear hs a; intro a hs
      refine r_ok hs m (ok_assign rfl) rfl ?_
      clear hs a; intro a hs
      refine wpList_nil (n_then ?_)
      exact ⟨t_Fdbs.length + 1 - (k + 1), by omega, k + 1, by omega, by omega, by exact allK_succ ho (by rw [wtAt_eq (by assumption) (by assumption) (by omega)]; exact decide_eq_true (by omega)), rfl, hs.to ⟨rfl, rfl, trivial⟩, m.sub (.c r0 .n)⟩
    have h6p := of_decide_eq_true h6
    refine wp_skip ?_
    refine n_then ?_
    refine c_seq ?_
    refine wp_block ?_
    refine c_draw m mo (by kernel_rfl) ?_
    refine q_ok hs (ok_fieldAddr (r := 1) rfl fd29_1 ty26 rfl) rfl ?_
    clear hs a; intro a hs
    refine q_ok hs (ok_load_sc rfl ty26 (bx_at r0) rfl) rfl ?_
    clear hs a; intro a hs
    refine q_ok hs (ok_move rfl) rfl ?_
    clear hs a; intro a hs
    refine q_ok hs (ok_sub (r := (k : Int) - 1) rfl rfl (wrap_i64 (by omega) (by omega))) rfl ?_
    clear hs a; intro a hs
    obtain ⟨e23, he24⟩ := get_of_lt (l := t_Neighs) (i := ((k : Int) - 1).toNat) (by omega)
    refine elF (c := cNeigh) (e := e23) hs m (x := (.tmp 50)) (ix := (.tmp 52)) rfl rfl sl26 ty54 ht_Neighs (by omega) he24 fun p25 hp26 ok27 => ?_
    refine q_ok hs (ok27 _ _ _ _ _) rfl ?_
    clear hs a; intro a hs
    refine q_ok hs (ok_fieldAddr (r := 0) rfl fd54_0 ty42 rfl) rfl ?_
    clear hs a; intro a hs
    refine q_ok hs (ok_load_sc rfl ty42 (fr_at hp26) rfl) rfl ?_
    clear hs a; intro a hs
    refine q_ok hs (ok_fieldAddr (r := 1) rfl fd29_1 ty26 rfl) rfl ?_
    clear hs a; intro a hs
    refine q_ok hs (ok_load_sc rfl ty26 (bx_at r0) rfl) rfl ?_
    clear hs a; intro a hs
    refine q_ok hs (ok_move rfl) rfl ?_
    clear hs a; intro a hs
    obtain ⟨e28, he29⟩ := get_of_lt (l := t_Neighs) (i := k) (by omega)
    refine elF (c := cNeigh) (e := e28) hs m (x := (.tmp 57)) (ix := (.tmp 58)) rfl rfl sl26 ty54 ht_Neighs (by omega) he29 fun p30 hp31 ok32 => ?_
    refine q_ok hs (ok32 _ _ _ _ _) rfl ?_
    clear hs a; intro a hs
    refine q_ok hs (ok_fieldAddr (r := 0) rfl fd54_0 ty42 rfl) rfl ?_
    clear hs a; intro a hs
    refine q_ok hs (ok_load_sc rfl ty42 (fr_at hp31) rfl) rfl ?_
    clear hs a; intro a hs
    refine q_ok hs (ok_bin rfl rfl rfl) rfl ?_
    clear hs a; intro a hs
    refine wpQuiet_nil ?_; clear m w5; intro w33 m
    refine c_cond hs rfl (fun h34 => ?_) (fun h34 => ?_)
    · have h34p := of_decide_eq_true h34
      refine c_reg ?_
      refine r_ok hs m (ok_assign rfl) rfl ?_
      clear hs a; intro a hs
      refine wpList_nil (n_then ?_)
      refine wp_ret ?_
      refine ret_block (ret_then (ret_then (ret_block (ret_then (leave hs (vs := [.bool false]) rfl ⟨rfl, trivial⟩ ?_)))))
      refine ⟨?_, m.sub .n⟩
      have q35 : (false : Bool) = orderedM t_Routes t_Neighs t_Fdbs := by clear hs m; first | exact ordered_f0 (k := k) (by omega) (ordAt_v (by assumption) (by assumption)) | exact ordered_f0 (k := k) (by omega) (ordAt_l (by assumption) (by assumption) (by assumption) (by assumption)) | exact ordered_f1 (k := k) (by omega) (by rw [ipAt_eq (by assumption) (by assumption) (by omega)]; exact decide_eq_false (by omega)) | exact ordered_f2 (k := k) (by omega) (by rw [wtAt_eq (by assumption) (by assumption) (by omega)]; exact decide_eq_false (by omega)) | exact ordered_t hR hN (allK_le (by omega) ho)
      first | (rw [q35]; done) | (rw [q35]; rfl) | (rw [q35]; rfl) | (simp only [q35, pack]; done)
    have h34p := of_decide_eq_false h34
    refine wp_skip ?_
    refine n_block (n_then ?_)
    refine c_last ?_
    refine r_ok hs m (ok_move rfl) rfl ?_
    clear hs a; intro a hs
    refine r_ok hs m (ok_add (r := (k : Int) + 1) rfl rfl (wrap_i64 (by omega) (by omega))) rfl ?_
    clear hs a; intro a hs
    refine r_ok hs m (ok_assign rfl) rfl ?_
    clear hs a; intro a hs
    refine wpList_nil (n_then ?_)
    exact ⟨t_Neighs.length + 1 - (k + 1), by omega, k + 1, by omega, by omega, by exact allK_succ ho (by rw [ipAt_eq (by assumption) (by assumption) (by omega)]; exact decide_eq_true (by omega)), rfl, hs.to ⟨rfl, rfl, trivial⟩, m.sub (.c r0 .n)⟩
  have h4p := of_decide_eq_true h4
  refine wp_skip ?_
  refine n_then ?_
  refine c_seq ?_
  refine wp_block ?_
  refine c_draw m mo (by kernel_rfl) ?_
  refine q_ok hs (ok_fieldAddr (r := 0) rfl fd29_0 ty25 rfl) rfl ?_
  clear hs a; intro a hs
  refine q_ok hs (ok_load_sc rfl ty25 (bx_at r0) rfl) rfl ?_
  clear hs a; intro a hs
  refine q_ok hs (ok_move rfl) rfl ?_
  clear hs a; intro a hs
  obtain ⟨e36, he37⟩ := get_of_lt (l := t_Routes) (i := k) (by omega)
  refine elF (c := cRoute) (e := e36) hs m (x := (.tmp 14)) (ix := (.tmp 15)) rfl rfl sl25 ty51 ht_Routes (by omega) he37 fun p38 hp39 ok40 => ?_
  refine q_ok hs (ok40 _ _ _ _ _) rfl ?_
  clear hs a; intro a hs
  refine q_ok hs (ok_fieldAddr (r := 0) rfl fd51_0 ty44 rfl) rfl ?_
  clear hs a; intro a hs
  refine q_ok hs (ok_load_ag (vs := cPrefix e36.Dst) rfl ty44 (fr_at hp39) rfl rfl) rfl ?_
  clear hs a; intro a hs
  refine q_callP hs rfl rfl ca23 rfl (fun w m => validO_c e36.Dst w  ) rfl ?_
  clear hs a; intro a hs
  refine q_ok hs (ok_not rfl) rfl ?_
  clear hs a; intro a hs
  refine q_ok hs (ok_move rfl) rfl ?_
  clear hs a; intro a hs
  rcases Bool.eq_false_or_eq_true (!(validR e36.Dst)) with hb41 | hb41
  · have hb41p := hb41; simp only [Bool.or_eq_true, Bool.or_eq_false_iff, Bool.and_eq_true, Bool.and_eq_false_iff, Bool.not_eq_true', Bool.not_eq_false', decide_eq_true_eq, decide_eq_false_iff_not, beq_iff_eq, bne_iff_ne, beq_eq_false_iff_ne, bne_eq_false_iff_eq, ne_eq, gt_iff_lt, ge_iff_le, Int.not_lt, Int.not_le] at hb41p
    refine q_out hs rfl rfl hb41 rfl ?_
    clear hs a; intro a hs
    refine q_out hs rfl rfl hb41 rfl ?_
    clear hs a; intro a hs
    refine q_out hs rfl rfl hb41 rfl ?_
    clear hs a; intro a hs
    refine q_outU hs rfl rfl rfl ?_
    clear hs a; intro a hs
    refine q_outU hs rfl rfl rfl ?_
    clear hs a; intro a hs
    refine q_outU hs rfl rfl rfl ?_
    clear hs a; intro a hs
    refine q_outU hs rfl rfl rfl ?_
    clear hs a; intro a hs
    refine q_outU hs rfl rfl rfl ?_
    clear hs a; intro a hs
    refine q_outU hs rfl rfl rfl ?_
    clear hs a; intro a hs
    refine q_outU hs rfl rfl rfl ?_
    clear hs a; intro a hs
    refine q_outU hs rfl rfl rfl ?_
    clear hs a; intro a hs
    refine q_outU hs rfl rfl rfl ?_
    clear hs a; intro a hs
    refine q_outU hs rfl rfl rfl ?_
    clear hs a; intro a hs
    refine q_outU hs rfl rfl rfl ?_
    clear hs a; intro a hs
    refine q_outU hs rfl rfl rfl ?_
    clear hs a; intro a hs
    refine q_outU hs rfl rfl rfl ?_
    clear hs a; intro a hs
    refine q_outU hs rfl rfl rfl ?_
    clear hs a; intro a hs
    refine q_outU hs rfl rfl rfl ?_
    clear hs a; intro a hs
    refine q_out hs rfl rfl hb41 rfl ?_
    clear hs a; intro a hs
    refine q_ok hs (ok_pick (r := .bool true) rfl rfl rfl (by rw [hb41]; rfl)) rfl ?_
    clear hs a; intro a hs
    refine wpQuiet_nil ?_; clear m w3; intro w42 m
    refine c_true hs rfl rfl ?_
    refine c_reg ?_
    refine r_ok hs m (ok_assign rfl) rfl ?_
    clear hs a; intro a hs
    refine wpList_nil (n_then ?_)
    refine wp_ret ?_
    refine ret_block (ret_then (ret_then (ret_block (ret_then (leave hs (vs := [.bool false]) rfl ⟨rfl, trivial⟩ ?_)))))
    refine ⟨?_, m.sub .n⟩
    have q44 : (false : Bool) = orderedM t_Routes t_Neighs t_Fdbs := by clear hs m; first | exact ordered_f0 (k := k) (by omega) (ordAt_v (by assumption) (by assumption)) | exact ordered_f0 (k := k) (by omega) (ordAt_l (by assumption) (by assumption) (by assumption) (by assumption)) | exact ordered_f1 (k := k) (by omega) (by rw [ipAt_eq (by assumption) (by assumption) (by omega)]; exact decide_eq_false (by omega)) | exact ordered_f2 (k := k) (by omega) (by rw [wtAt_eq (by assumption) (by assumption) (by omega)]; exact decide_eq_false (by omega)) | exact ordered_t hR hN (allK_le (by omega) ho)
    first | (rw [q44]; done) | (rw [q44]; rfl) | (rw [q44]; rfl) | (simp only [q44, pack]; done)
  · have hb41p := hb41; simp only [Bool.or_eq_true, Bool.or_eq_false_iff, Bool.and_eq_true, Bool.and_eq_false_iff, Bool.not_eq_true', Bool.not_eq_false', decide_eq_true_eq, decide_eq_false_iff_not, beq_iff_eq, bne_iff_ne, beq_eq_false_iff_ne, bne_eq_false_iff_eq, ne_eq, gt_iff_lt, ge_iff_le, Int.not_lt, Int.not_le] at hb41p
    refine q_okg hs rfl rfl hb41 (ok_move rfl) rfl ?_
    clear hs a; intro a hs
    refine q_okg hs rfl rfl hb41 (ok_bin rfl rfl rfl) rfl ?_
    clear hs a; intro a hs
    refine q_okg hs rfl rfl hb41 (ok_move rfl) rfl ?_
    clear hs a; intro a hs
    rcases Bool.eq_false_or_eq_true (decide ((k : Int) > 0)) with hb45 | hb45
    · have hb45p := of_decide_eq_true hb45
      refine q_okg hs rfl rfl hb45 (ok_fieldAddr (r := 0) rfl fd29_0 ty25 rfl) rfl ?_
      clear hs a; intro a hs
      refine q_okg hs rfl rfl hb45 (ok_load_sc rfl ty25 (bx_at r0) rfl) rfl ?_
      clear hs a; intro a hs
      refine q_okg hs rfl rfl hb45 (ok_move rfl) rfl ?_
      clear hs a; intro a hs
      refine q_okg hs rfl rfl hb45 (ok_sub (r := (k : Int) - 1) rfl rfl (wrap_i64 (by omega) (by omega))) rfl ?_
      clear hs a; intro a hs
      obtain ⟨e46, he47⟩ := get_of_lt (l := t_Routes) (i := ((k : Int) - 1).toNat) (by omega)
      refine elF (c := cRoute) (e := e46) hs m (x := (.tmp 26)) (ix := (.tmp 28)) rfl rfl sl25 ty51 ht_Routes (by omega) he47 fun p48 hp49 ok50 => ?_
      refine q_okg hs rfl rfl hb45 (ok50 _ _ _ _ _) rfl ?_
      clear hs a; intro a hs
      refine q_okg hs rfl rfl hb45 (ok_fieldAddr (r := 0) rfl fd51_0 ty44 rfl) rfl ?_
      clear hs a; intro a hs
      refine q_okg hs rfl rfl hb45 (ok_load_ag (vs := cPrefix e46.Dst) rfl ty44 (fr_at hp49) rfl rfl) rfl ?_
      clear hs a; intro a hs
      refine q_okg hs rfl rfl hb45 (ok_fieldAddr (r := 0) rfl fd29_0 ty25 rfl) rfl ?_
      clear hs a; intro a hs
      refine q_okg hs rfl rfl hb45 (ok_load_sc rfl ty25 (bx_at r0) rfl) rfl ?_
      clear hs a; intro a hs
      refine q_okg hs rfl rfl hb45 (ok_move rfl) rfl ?_
      clear hs a; intro a hs
      refine elF (c := cRoute) (e := e36) hs m (x := (.tmp 33)) (ix := (.tmp 34)) rfl rfl sl25 ty51 ht_Routes (by omega) he37 fun p51 hp52 ok53 => ?_
      refine q_okg hs rfl rfl hb45 (ok53 _ _ _ _ _) rfl ?_
      clear hs a; intro a hs
      refine q_okg hs rfl rfl hb45 (ok_fieldAddr (r := 0) rfl fd51_0 ty44 rfl) rfl ?_
      clear hs a; intro a hs
      refine q_okg hs rfl rfl hb45 (ok_load_ag (vs := cPrefix e36.Dst) rfl ty44 (fr_at hp52) rfl rfl) rfl ?_
      clear hs a; intro a hs
      refine q_callPg hs rfl rfl hb45 rfl rfl ca66 rfl (fun w m => below_c e46.Dst e36.Dst w  ) rfl ?_
      clear hs a; intro a hs
      refine q_okg hs rfl rfl hb45 (ok_not rfl) rfl ?_
      clear hs a; intro a hs
      refine q_okg hs rfl rfl hb41 (ok_pick (r := .bool (!(lowerM e46.Dst e36.Dst))) rfl rfl rfl (by rw [hb45]; rfl)) rfl ?_
      clear hs a; intro a hs
      refine q_ok hs (ok_pick (r := .bool (!(lowerM e46.Dst e36.Dst))) rfl rfl rfl (by rw [hb41]; rfl)) rfl ?_
      clear hs a; intro a hs
      refine wpQuiet_nil ?_; clear m w3; intro w54 m
      refine c_cond hs rfl (fun h55 => ?_) (fun h55 => ?_)
      · have h55p := h55; simp only [Bool.or_eq_true, Bool.or_eq_false_iff, Bool.and_eq_true, Bool.and_eq_false_iff, Bool.not_eq_true', Bool.not_eq_false', decide_eq_true_eq, decide_eq_false_iff_not, beq_iff_eq, bne_iff_ne, beq_eq_false_iff_ne, bne_eq_false_iff_eq, ne_eq, gt_iff_lt, ge_iff_le, Int.not_lt, Int.not_le] at h55p
        refine c_reg ?_
        refine r_ok hs m (ok_assign rfl) rfl ?_
        clear hs a; intro a hs
        refine wpList_nil (n_then ?_)
        refine wp_ret ?_
        refine ret_block (ret_then (ret_then (ret_block (ret_then (leave hs (vs := [.bool false]) rfl ⟨rfl, trivial⟩ ?_)))))
        refine ⟨?_, m.sub .n⟩
        have q56 : (false : Bool) = orderedM t_Routes t_Neighs t_Fdbs := by clear hs m; first | exact ordered_f0 (k := k) (by omega) (ordAt_v (by assumption) (by assumption)) | exact ordered_f0 (k := k) (by omega) (ordAt_l (by assumption) (by assumption) (by assumption) (by assumption)) | exact ordered_f1 (k := k) (by omega) (by rw [ipAt_eq (by assumption) (by assumption) (by omega)]; exact decide_eq_false (by omega)) | exact ordered_f2 (k := k) (by omega) (by rw [wtAt_eq (by assumption) (by assumption) (by omega)]; exact decide_eq_false (by omega)) | exact ordered_t hR hN (allK_le (by omega) ho)
        first | (rw [q56]; done) | (rw [q56]; rfl) | (rw [q56]; rfl) | (simp only [q56, pack]; done)
      have h55p := h55; simp only [Bool.or_eq_true, Bool.or_eq_false_iff, Bool.and_eq_true, Bool.and_eq_false_iff, Bool.not_eq_true', Bool.not_eq_false', decide_eq_true_eq, decide_eq_false_iff_not, beq_iff_eq, bne_iff_ne, beq_eq_false_iff_ne, bne_eq_false_iff_eq, ne_eq, gt_iff_lt, ge_iff_le, Int.not_lt, Int.not_le] at h55p
      refine wp_skip ?_
      refine n_block (n_then ?_)
      refine c_last ?_
      refine r_ok hs m (ok_move rfl) rfl ?_
      clear hs a; intro a hs
      refine r_ok hs m (ok_add (r := (k : Int) + 1) rfl rfl (wrap_i64 (by omega) (by omega))) rfl ?_
      clear hs a; intro a hs
      refine r_ok hs m (ok_assign rfl) rfl ?_
      clear hs a; intro a hs
      refine wpList_nil (n_then ?_)
      exact ⟨t_Routes.length + 1 - (k + 1), by omega, k + 1, by omega, by omega, by first | exact allK_succ ho (ordAt_t0 (by assumption) (by assumption) (by assumption)) | exact allK_succ ho (ordAt_t1 (by assumption) (by assumption) (by assumption) (by assumption) (by assumption)), rfl, hs.to ⟨rfl, rfl, trivial⟩, m.sub (.c r0 .n)⟩
    · have hb45p := of_decide_eq_false hb45
      refine q_out hs rfl rfl hb45 rfl ?_
      clear hs a; intro a hs
      refine q_out hs rfl rfl hb45 rfl ?_
      clear hs a; intro a hs
      refine q_out hs rfl rfl hb45 rfl ?_
      clear hs a; intro a hs
      refine q_out hs rfl rfl hb45 rfl ?_
      clear hs a; intro a hs
      refine q_out hs rfl rfl hb45 rfl ?_
      clear hs a; intro a hs
      refine q_out hs rfl rfl hb45 rfl ?_
      clear hs a; intro a hs
      refine q_out hs rfl rfl hb45 rfl ?_
      clear hs a; intro a hs
      refine q_out hs rfl rfl hb45 rfl ?_
      clear hs a; intro a hs
      refine q_out hs rfl rfl hb45 rfl ?_
      clear hs a; intro a hs
      refine q_out hs rfl rfl hb45 rfl ?_
      clear hs a; intro a hs
      refine q_out hs rfl rfl hb45 rfl ?_
      clear hs a; intro a hs
      refine q_out hs rfl rfl hb45 rfl ?_
      clear hs a; intro a hs
      refine q_out hs rfl rfl hb45 rfl ?_
      clear hs a; intro a hs
      refine q_out hs rfl rfl hb45 rfl ?_
      clear hs a; intro a hs
      refine q_out hs rfl rfl hb45 rfl ?_
      clear hs a; intro a hs
      refine q_okg hs rfl rfl hb41 (ok_pick (r := .bool false) rfl rfl rfl (by rw [hb45]; rfl)) rfl ?_
      clear hs a; intro a hs
      refine q_ok hs (ok_pick (r := .bool false) rfl rfl rfl (by rw [hb41]; rfl)) rfl ?_
      clear hs a; intro a hs
      refine wpQuiet_nil ?_; clear m w3; intro w57 m
      refine c_false hs rfl rfl ?_
      refine wp_skip ?_
      refine n_block (n_then ?_)
      refine c_last ?_
      refine r_ok hs m (ok_move rfl) rfl ?_
      clear hs a; intro a hs
      refine r_ok hs m (ok_add (r := (k : Int) + 1) rfl rfl (wrap_i64 (by omega) (by omega))) rfl ?_
      clear hs a; intro a hs
      refine r_ok hs m (ok_assign rfl) rfl ?_
      clear hs a; intro a hs
      refine wpList_nil (n_then ?_)
      exact ⟨t_Routes.length + 1 - (k + 1), by omega, k + 1, by omega, by omega, by first | exact allK_succ ho (ordAt_t0 (by assumption) (by assumption) (by assumption)) | exact allK_succ ho (ordAt_t1 (by assumption) (by assumption) (by assumption) (by assumption) (by assumption)), rfl, hs.to ⟨rfl, rfl, trivial⟩, m.sub (.c r0 .n)⟩
theorem whole_c (vt_Routes : SH) (t_Routes : List TRoute) (vt_Neighs : SH) (t_Neighs : List TNeigh) (vt_Fdbs : SH) (t_Fdbs : List TFdb) (w0 : World) (ht_Routes : RdS (hh w0) 4 vt_Routes.v (t_Routes.map cRoute)) (ht_Neighs : RdS (hh w0) 7 vt_Neighs.v (t_Neighs.map cNeigh)) (ht_Fdbs : RdS (hh w0) 7 vt_Fdbs.v (t_Fdbs.map cFdb)) : Pure Tryz.prog 22 [.agg ⟨[vt_Routes.v, vt_Neighs.v, vt_Fdbs.v]⟩] (.bool (wholeM t_Routes t_Neighs t_Fdbs)) w0 := by
  have lvt_Routes := ht_Routes.bd
  have lvt_Neighs := ht_Neighs.bd
  have lvt_Fdbs := ht_Fdbs.bd
  refine enter (n := 65) Tryz.func22 rfl rfl rfl fun a (hs : St 65 [(0, .agg ⟨[vt_Routes.v, vt_Neighs.v, vt_Fdbs.v]⟩)] a) => ?_
  have m := Hp.start w0
  refine c_reg ?_
  refine r_box (cs := [vt_Routes.v, vt_Neighs.v, vt_Fdbs.v]) hs m rfl rfl rfl ?_
  clear m hs a; intro p1 w2 m a hs
  refine r_ok hs m (ok_assign rfl) rfl ?_
  clear hs a; intro a hs
  refine wpList_nil (n_then ?_)
  refine c_seq ?_
  refine c_reg ?_
  refine r_ok hs m (ok_assign rfl) rfl ?_
  clear hs a; intro a hs
  refine wpList_nil (n_then ?_)
  refine wp_block ?_
  refine wp_loop_ghost (fun gn a w => ∃ k : Nat, (k ≤ t_Routes.length) ∧ ((t_Routes.take k).all (wholeE t_Neighs t_Fdbs) = true) ∧ gn = t_Routes.length - k ∧ St 65 [(1, .pointer (some (padd p1 0))), (3, .int .i64 (k : Int))] a ∧ Hp w0 (hh w0) [Bx p1 29 [vt_Routes.v, vt_Neighs.v, vt_Fdbs.v]] w) (t_Routes.length - 0) ⟨0, by omega, by simp, rfl, hs.to ⟨rfl, rfl, trivial⟩, m.sub (.c r0 .n)⟩ ?_
  clear hs m a w2
  rintro gn a w3 ⟨k, hk, ho, rfl, hs, m⟩
  refine c_seq ?_
  refine c_reg ?_
  refine r_ok hs m (ok_move rfl) rfl ?_
  clear hs a; intro a hs
  refine r_ok hs m (ok_fieldAddr (r := 0) rfl fd29_0 ty25 rfl) rfl ?_
  clear hs a; intro a hs
  refine r_ok hs m (ok_load_sc rfl ty25 (bx_at r0) rfl) rfl ?_
  clear hs a; intro a hs
  refine r_ok hs m (ok_len (r := (t_Routes.length : Int)) m rfl sl25 (rc_fr ht_Routes) (by simp)) rfl ?_
  clear hs a; intro a hs
  refine r_ok hs m (ok_bin rfl rfl rfl) rfl ?_
  clear hs a; intro a hs
  refine wpList_nil (n_then ?_)
  refine c_cond hs rfl (fun h4 => ?_) (fun h4 => ?_)
  rotate_left
  · have h4p := of_decide_eq_false h4
    refine wp_exit ?_
    refine ex_then (ex_then (ex_hit (?_)))
    refine n_then ?_
    refine c_reg ?_
    refine r_ok hs m (ok_assign rfl) rfl ?_
    clear hs a; intro a hs
    refine wpList_nil (n_then ?_)
    refine wp_ret ?_
    refine leave hs (vs := [.bool true]) rfl ⟨rfl, trivial⟩ ?_
    refine ⟨?_, m.sub .n⟩
    have q5 : (true : Bool) = wholeM t_Routes t_Neighs t_Fdbs := by clear hs m; first | (unfold wholeM; rw [← all_take_end (k := k) (by omega)]; exact ho.symm) | (unfold wholeM; refine (all_false (by assumption) ?_).symm; unfold wholeE; rw [← any_take_end (k := j) (by omega), ← hf]; simp_all)
    first | (rw [q5]; done) | (rw [q5]; rfl) | (rw [q5]; rfl) | (simp only [q5, pack]; done)
  have h4p := of_decide_eq_true h4
  refine wp_skip ?_
  refine n_then ?_
  refine c_seq ?_
  refine wp_block ?_
  refine c_seq ?_
  refine c_reg ?_
  refine r_ok hs m (ok_fieldAddr (r := 0) rfl fd29_0 ty25 rfl) rfl ?_
  clear hs a; intro a hs
  refine r_ok hs m (ok_load_sc rfl ty25 (bx_at r0) rfl) rfl ?_
  clear hs a; intro a hs
  refine r_ok hs m (ok_move rfl) rfl ?_
  clear hs a; intro a hs
  obtain ⟨e6, he7⟩ := get_of_lt (l := t_Routes) (i := k) (by omega)
  refine elF (c := cRoute) (e := e6) hs m (x := (.tmp 15)) (ix := (.tmp 16)) rfl rfl sl25 ty51 ht_Routes (by omega) he7 fun p8 hp9 ok10 => ?_
  refine r_ok hs m (ok10 _ _ _ _ _) rfl ?_
  clear hs a; intro a hs
  refine r_ok hs m (ok_fieldAddr (r := 3) rfl fd51_2 ty4 rfl) rfl ?_
  clear hs a; intro a hs
  refine r_ok hs m (ok_load_sc rfl ty4 (fr_at hp9) rfl) rfl ?_
  clear hs a; intro a hs
  refine wpList_nil (n_then ?_)
  refine c_cond hs rfl (fun h11 => ?_) (fun h11 => ?_)
  · refine wp_exit ?_
    refine ex_then (ex_hit (?_))
    refine n_then ?_
    refine c_last ?_
    refine r_ok hs m (ok_move rfl) rfl ?_
    clear hs a; intro a hs
    refine r_ok hs m (ok_add (r := (k : Int) + 1) rfl rfl (wrap_i64 (by omega) (by omega))) rfl ?_
    clear hs a; intro a hs
    refine r_ok hs m (ok_assign rfl) rfl ?_
    clear hs a; intro a hs
    refine wpList_nil (n_then ?_)
    exact ⟨t_Routes.length - (k + 1), by omega, k + 1, by omega, by first | (rw [all_take_succ (by assumption), ho]; simp only [wholeE]; simp [*]; done) | (rw [all_take_succ (by assumption), ho]; unfold wholeE; rw [← any_take_end (k := j) (by omega), ← hf]; simp_all), rfl, hs.to ⟨rfl, rfl, trivial⟩, m.sub (.c r0 .n)⟩
  refine wp_skip ?_
  refine n_then ?_
  refine c_reg ?_
  refine r_ok hs m (ok_assign rfl) rfl ?_
  clear hs a; intro a hs
  refine wpList_nil (n_then ?_)
  refine c_seq ?_
  refine c_reg ?_
  refine r_ok hs m (ok_assign rfl) rfl ?_
  clear hs a; intro a hs
  refine wpList_nil (n_then ?_)
  refine wp_block ?_
  refine wp_loop_ghost (fun gn a w => ∃ j : Nat, ∃ fd : Bool, (j ≤ t_Neighs.length) ∧ (fd = (t_Neighs.take j).any (wholeN t_Fdbs e6)) ∧ gn = t_Neighs.length - j ∧ St 65 [(1, .pointer (some (padd p1 0))), (3, .int .i64 (k : Int)), (4, .bool fd), (5, .int .i64 (j : Int))] a ∧ Hp w0 (hh w0) [Bx p1 29 [vt_Routes.v, vt_Neighs.v, vt_Fdbs.v]] w) (t_Neighs.length - 0) ⟨0, false, by omega, by simp, rfl, hs.to ⟨rfl, rfl, rfl, rfl, trivial⟩, m.sub (.c r0 .n)⟩ ?_
  clear hs m a w3
  rintro gn a w12 ⟨j, fd, hj, hf, rfl, hs, m⟩
  refine c_seq ?_
  refine c_reg ?_
  refine r_ok hs m (ok_move rfl) rfl ?_
  clear hs a; intro a hs
  refine r_ok hs m (ok_fieldAddr (r := 1) rfl fd29_1 ty26 rfl) rfl ?_
  clear hs a; intro a hs
  refine r_ok hs m (ok_load_sc rfl ty26 (bx_at r0) rfl) rfl ?_
  clear hs a; intro a hs
  refine r_ok hs m (ok_len (r := (t_Neighs.length : Int)) m rfl sl26 (rc_fr ht_Neighs) (by simp)) rfl ?_
  clear hs a; intro a hs
  refine r_ok hs m (ok_bin rfl rfl rfl) rfl ?_
  clear hs a; intro a hs
  refine wpList_nil (n_then ?_)
  refine c_cond hs rfl (fun h13 => ?_) (fun h13 => ?_)
  rotate_left
  · have h13p := of_decide_eq_false h13
    refine wp_exit ?_
    refine ex_then (ex_then (ex_hit (?_)))
    refine n_then ?_
    refine c_reg ?_
    refine r_ok hs m (ok_move rfl) rfl ?_
    clear hs a; intro a hs
    refine r_ok hs m (ok_not rfl) rfl ?_
    clear hs a; intro a hs
    refine wpList_nil (n_then ?_)
    refine c_cond hs rfl (fun h14 => ?_) (fun h14 => ?_)
    · have h14p := h14; simp only [Bool.or_eq_true, Bool.or_eq_false_iff, Bool.and_eq_true, Bool.and_eq_false_iff, Bool.not_eq_true', Bool.not_eq_false', decide_eq_true_eq, decide_eq_false_iff_not, beq_iff_eq, bne_iff_ne, beq_eq_false_iff_ne, bne_eq_false_iff_eq, ne_eq, gt_iff_lt, ge_iff_le, Int.not_lt, Int.not_le] at h14p
      refine c_reg ?_
      refine r_ok hs m (ok_assign rfl) rfl ?_
      clear hs a; intro a hs
      refine wpList_nil (n_then ?_)
      refine wp_ret ?_
      refine ret_block (ret_then (ret_then (ret_block (ret_then (leave hs (vs := [.bool false]) rfl ⟨rfl, trivial⟩ ?_)))))
      refine ⟨?_, m.sub .n⟩
      have q15 : (false : Bool) = wholeM t_Routes t_Neighs t_Fdbs := by clear hs m; first | (unfold wholeM; rw [← all_take_end (k := k) (by omega)]; exact ho.symm) | (unfold wholeM; refine (all_false (by assumption) ?_).symm; unfold wholeE; rw [← any_take_end (k := j) (by omega), ← hf]; simp_all)
      first | (rw [q15]; done) | (rw [q15]; rfl) | (rw [q15]; rfl) | (simp only [q15, pack]; done)
    have h14p := h14; simp only [Bool.or_eq_true, Bool.or_eq_false_iff, Bool.and_eq_true, Bool.and_eq_false_iff, Bool.not_eq_true', Bool.not_eq_false', decide_eq_true_eq, decide_eq_false_iff_not, beq_iff_eq, bne_iff_ne, beq_eq_false_iff_ne, bne_eq_false_iff_eq, ne_eq, gt_iff_lt, ge_iff_le, Int.not_lt, Int.not_le] at h14p
    refine wp_skip ?_
    refine n_block (n_then ?_)
    refine c_last ?_
    refine r_ok hs m (ok_move rfl) rfl ?_
    clear hs a; intro a hs
    refine r_ok hs m (ok_add (r := (k : Int) + 1) rfl rfl (wrap_i64 (by omega) (by omega))) rfl ?_
    clear hs a; intro a hs
    refine r_ok hs m (ok_assign rfl) rfl ?_
    clear hs a; intro a hs
    refine wpList_nil (n_then ?_)
    exact ⟨t_Routes.length - (k + 1), by omega, k + 1, by omega, by first | (rw [all_take_succ (by assumption), ho]; simp only [wholeE]; simp [*]; done) | (rw [all_take_succ (by assumption), ho]; unfold wholeE; rw [← any_take_end (k := j) (by omega), ← hf]; simp_all), rfl, hs.to ⟨rfl, rfl, trivial⟩, m.sub (.c r0 .n)⟩
  have h13p := of_decide_eq_true h13
  refine wp_skip ?_
  refine n_then ?_
  refine c_seq ?_
  refine wp_block ?_
  refine c_draw m mo (by kernel_rfl) ?_
  refine q_ok hs (ok_fieldAddr (r := 1) rfl fd29_1 ty26 rfl) rfl ?_
  clear hs a; intro a hs
  refine q_ok hs (ok_load_sc rfl ty26 (bx_at r0) rfl) rfl ?_
  clear hs a; intro a hs
  refine q_ok hs (ok_move rfl) rfl ?_
  clear hs a; intro a hs
  obtain ⟨e16, he17⟩ := get_of_lt (l := t_Neighs) (i := j) (by omega)
  refine elF (c := cNeigh) (e := e16) hs m (x := (.tmp 28)) (ix := (.tmp 29)) rfl rfl sl26 ty54 ht_Neighs (by omega) he17 fun p18 hp19 ok20 => ?_
  refine q_ok hs (ok20 _ _ _ _ _) rfl ?_
  clear hs a; intro a hs
  refine q_ok hs (ok_fieldAddr (r := 0) rfl fd54_0 ty42 rfl) rfl ?_
  clear hs a; intro a hs
  refine q_ok hs (ok_load_sc rfl ty42 (fr_at hp19) rfl) rfl ?_
  clear hs a; intro a hs
  refine q_ok hs (ok_fieldAddr (r := 0) rfl fd29_0 ty25 rfl) rfl ?_
  clear hs a; intro a hs
  refine q_ok hs (ok_load_sc rfl ty25 (bx_at r0) rfl) rfl ?_
  clear hs a; intro a hs
  refine q_ok hs (ok_move rfl) rfl ?_
  clear hs a; intro a hs
  refine elF (c := cRoute) (e := e6) hs m (x := (.tmp 34)) (ix := (.tmp 35)) rfl rfl sl25 ty51 ht_Routes (by omega) he7 fun p21 hp22 ok23 => ?_
  refine q_ok hs (ok23 _ _ _ _ _) rfl ?_
  clear hs a; intro a hs
  refine q_ok hs (ok_fieldAddr (r := 2) rfl fd51_1 ty42 rfl) rfl ?_
  clear hs a; intro a hs
  refine q_ok hs (ok_load_sc rfl ty42 (fr_at hp22) rfl) rfl ?_
  clear hs a; intro a hs
  refine q_ok hs (ok_bin rfl rfl rfl) rfl ?_
  clear hs a; intro a hs
  refine wpQuiet_nil ?_; clear m w12; intro w24 m
  refine c_cond hs rfl (fun h25 => ?_) (fun h25 => ?_)
  · have h25p := eq_of_beq h25
    refine c_reg ?_
    refine r_ok hs m (ok_assign rfl) rfl ?_
    clear hs a; intro a hs
    refine wpList_nil (n_then ?_)
    refine wp_block ?_
    refine wp_loop_ghost (fun gn a w => ∃ k4 : Nat, ∃ fd2 : Bool, (k4 ≤ t_Fdbs.length) ∧ (fd2 = (fd || (t_Fdbs.take k4).any fun y => decide (y.MAC = e16.MAC))) ∧ gn = t_Fdbs.length - k4 ∧ St 65 [(1, .pointer (some (padd p1 0))), (3, .int .i64 (k : Int)), (4, .bool fd2), (5, .int .i64 (j : Int)), (6, .int .i64 (k4 : Int))] a ∧ Hp w0 (hh w0) [Bx p1 29 [vt_Routes.v, vt_Neighs.v, vt_Fdbs.v]] w) (t_Fdbs.length - 0) ⟨0, fd, by omega, by simp, rfl, hs.to ⟨rfl, rfl, rfl, rfl, rfl, trivial⟩, m.sub (.c r0 .n)⟩ ?_
    clear hs m a w24
    rintro gn a w26 ⟨k4, fd2, hk4, hf4, rfl, hs, m⟩
    refine c_seq ?_
    refine c_reg ?_
    refine r_ok hs m (ok_move rfl) rfl ?_
    clear hs a; intro a hs
    refine r_ok hs m (ok_fieldAddr (r := 2) rfl fd29_2 ty27 rfl) rfl ?_
    clear hs a; intro a hs
    refine r_ok hs m (ok_load_sc rfl ty27 (bx_at r0) rfl) rfl ?_
    clear hs a; intro a hs
    refine r_ok hs m (ok_len (r := (t_Fdbs.length : Int)) m rfl sl27 (rc_fr ht_Fdbs) (by simp)) rfl ?_
    clear hs a; intro a hs
    refine r_ok hs m (ok_bin rfl rfl rfl) rfl ?_
    clear hs a; intro a hs
    refine wpList_nil (n_then ?_)
    refine c_cond hs rfl (fun h27 => ?_) (fun h27 => ?_)
    rotate_left
    · have h27p := of_decide_eq_false h27
      refine wp_exit ?_
      refine ex_then (ex_then (ex_hit (?_)))
      refine n_block (n_then ?_)
      refine c_last ?_
      refine r_ok hs m (ok_move rfl) rfl ?_
      clear hs a; intro a hs
      refine r_ok hs m (ok_add (r := (j : Int) + 1) rfl rfl (wrap_i64 (by omega) (by omega))) rfl ?_
      clear hs a; intro a hs
      refine r_ok hs m (ok_assign rfl) rfl ?_
      clear hs a; intro a hs
      refine wpList_nil (n_then ?_)
      exact ⟨t_Neighs.length - (j + 1), by omega, j + 1, fd2, by omega, by first | (rw [any_take_succ (by assumption), ← hf]; simp only [wholeN]; simp [*]; done) | (rw [any_take_succ (by assumption), ← hf, hf4, any_take_end (k := k4) (by omega)]; simp only [wholeN]; simp [*]), rfl, hs.to ⟨rfl, rfl, rfl, rfl, trivial⟩, m.sub (.c r0 .n)⟩
    have h27p := of_decide_eq_true h27
    refine wp_skip ?_
    refine n_then ?_
    refine c_seq ?_
    refine wp_block ?_
    refine c_drawLast m mo (by kernel_rfl) ?_
    refine q_ok hs (ok_move rfl) rfl ?_
    clear hs a; intro a hs
    refine q_ok hs (ok_move rfl) rfl ?_
    clear hs a; intro a hs
    refine q_cut (.c (.c (.c (.c (.c (.c (.c (.c (.c (.c (.c (.c (.c (.c (.n))))))))))))))) (fun a => St 65 [(1, .pointer (some (padd p1 0))), (3, .int .i64 (k : Int)), (5, .int .i64 (j : Int)), (6, .int .i64 (k4 : Int)), (62, .bool (fd2 || (decide (((t_Fdbs[k4]?).getD (⟨(⟨⟨0, rfl⟩, ⟨0, rfl⟩, ⟨0, rfl⟩, ⟨0, rfl⟩, ⟨0, rfl⟩, ⟨0, rfl⟩⟩ : TMAC), ⟨0, rfl⟩⟩ : TFdb)).MAC = e16.MAC))))] a) ?_ ?_
    · rcases Bool.eq_false_or_eq_true fd2 with hb28 | hb28
      · refine q_out hs rfl rfl hb28 rfl ?_
        clear hs a; intro a hs
        refine q_out hs rfl rfl hb28 rfl ?_
        clear hs a; intro a hs
        refine q_out hs rfl rfl hb28 rfl ?_
        clear hs a; intro a hs
        refine q_out hs rfl rfl hb28 rfl ?_
        clear hs a; intro a hs
        refine q_out hs rfl rfl hb28 rfl ?_
        clear hs a; intro a hs
        refine q_out hs rfl rfl hb28 rfl ?_
        clear hs a; intro a hs
        refine q_out hs rfl rfl hb28 rfl ?_
        clear hs a; intro a hs
        refine q_out hs rfl rfl hb28 rfl ?_
        clear hs a; intro a hs
        refine q_out hs rfl rfl hb28 rfl ?_
        clear hs a; intro a hs
        refine q_out hs rfl rfl hb28 rfl ?_
        clear hs a; intro a hs
        refine q_out hs rfl rfl hb28 rfl ?_
        clear hs a; intro a hs
        refine q_out hs rfl rfl hb28 rfl ?_
        clear hs a; intro a hs
        refine q_out hs rfl rfl hb28 rfl ?_
        clear hs a; intro a hs
        refine q_ok hs (ok_pick (r := .bool (fd2 || (decide (((t_Fdbs[k4]?).getD (⟨(⟨⟨0, rfl⟩, ⟨0, rfl⟩, ⟨0, rfl⟩, ⟨0, rfl⟩, ⟨0, rfl⟩, ⟨0, rfl⟩⟩ : TMAC), ⟨0, rfl⟩⟩ : TFdb)).MAC = e16.MAC)))) rfl rfl rfl (by rw [hb28]; rfl)) rfl ?_
        clear hs a; intro a hs
        exact wpQuiet_nil (hs.to ⟨rfl, rfl, rfl, rfl, rfl, trivial⟩)
      · refine q_okg hs rfl rfl hb28 (ok_fieldAddr (r := 2) rfl fd29_2 ty27 rfl) rfl ?_
        clear hs a; intro a hs
        refine q_okg hs rfl rfl hb28 (ok_load_sc rfl ty27 (bx_at r0) rfl) rfl ?_
        clear hs a; intro a hs
        refine q_okg hs rfl rfl hb28 (ok_move rfl) rfl ?_
        clear hs a; intro a hs
        obtain ⟨e29, he30⟩ := get_of_lt (l := t_Fdbs) (i := k4) (by omega)
        refine elF (c := cFdb) (e := e29) hs m (x := (.tmp 50)) (ix := (.tmp 51)) rfl rfl sl27 ty56 ht_Fdbs (by omega) he30 fun p31 hp32 ok33 => ?_
        refine q_okg hs rfl rfl hb28 (ok33 _ _ _ _ _) rfl ?_
        clear hs a; intro a hs
        refine q_okg hs rfl rfl hb28 (ok_fieldAddr (r := 0) rfl fd56_0 ty46 rfl) rfl ?_
        clear hs a; intro a hs
        refine q_okg hs rfl rfl hb28 (ok_load_ag (vs := cMAC e29.MAC) rfl ty46 (fr_at hp32) rfl rfl) rfl ?_
        clear hs a; intro a hs
        refine q_okg hs rfl rfl hb28 (ok_fieldAddr (r := 1) rfl fd29_1 ty26 rfl) rfl ?_
        clear hs a; intro a hs
        refine q_okg hs rfl rfl hb28 (ok_load_sc rfl ty26 (bx_at r0) rfl) rfl ?_
        clear hs a; intro a hs
        refine q_okg hs rfl rfl hb28 (ok_move rfl) rfl ?_
        clear hs a; intro a hs
        refine elF (c := cNeigh) (e := e16) hs m (x := (.tmp 56)) (ix := (.tmp 57)) rfl rfl sl26 ty54 ht_Neighs (by omega) he17 fun p34 hp35 ok36 => ?_
        refine q_okg hs rfl rfl hb28 (ok36 _ _ _ _ _) rfl ?_
        clear hs a; intro a hs
        refine q_okg hs rfl rfl hb28 (ok_fieldAddr (r := 1) rfl fd54_1 ty46 rfl) rfl ?_
        clear hs a; intro a hs
        refine q_okg hs rfl rfl hb28 (ok_load_ag (vs := cMAC e16.MAC) rfl ty46 (fr_at hp35) rfl rfl) rfl ?_
        clear hs a; intro a hs
        refine q_okg hs rfl rfl hb28 (ok_eqv (b := decide (e29.MAC = e16.MAC)) rfl rfl eqT46 (fMAC _) (fMAC _) (iMAC e29.MAC e16.MAC)) rfl ?_
        clear hs a; intro a hs
        refine q_ok hs (ok_pick (r := .bool (fd2 || (decide (((t_Fdbs[k4]?).getD (⟨(⟨⟨0, rfl⟩, ⟨0, rfl⟩, ⟨0, rfl⟩, ⟨0, rfl⟩, ⟨0, rfl⟩, ⟨0, rfl⟩⟩ : TMAC), ⟨0, rfl⟩⟩ : TFdb)).MAC = e16.MAC)))) rfl rfl rfl (by (try rw [he30]); rw [hb28]; rfl)) rfl ?_
        clear hs a; intro a hs
        exact wpQuiet_nil (hs.to ⟨rfl, rfl, rfl, rfl, rfl, trivial⟩)
    clear hs a; intro a hs
    refine q_ok hs (ok_assign rfl) rfl ?_
    clear hs a; intro a hs
    refine wpQuiet_nil ?_; clear m w26; intro w37 m
    refine n_block (n_then ?_)
    refine c_last ?_
    refine r_ok hs m (ok_move rfl) rfl ?_
    clear hs a; intro a hs
    refine r_ok hs m (ok_add (r := (k4 : Int) + 1) rfl rfl (wrap_i64 (by omega) (by omega))) rfl ?_
    clear hs a; intro a hs
    refine r_ok hs m (ok_assign rfl) rfl ?_
    clear hs a; intro a hs
    refine wpList_nil (n_then ?_)
    exact ⟨t_Fdbs.length - (k4 + 1), by omega, k4 + 1, fd2 || (decide (((t_Fdbs[k4]?).getD (⟨(⟨⟨0, rfl⟩, ⟨0, rfl⟩, ⟨0, rfl⟩, ⟨0, rfl⟩, ⟨0, rfl⟩, ⟨0, rfl⟩⟩ : TMAC), ⟨0, rfl⟩⟩ : TFdb)).MAC = e16.MAC)), by omega, by (obtain ⟨ey, hy⟩ := get_of_lt (l := t_Fdbs) (i := k4) (by omega)); rw [any_take_succ hy, ← Bool.or_assoc, ← hf4, hy]; rfl, rfl, hs.to ⟨rfl, rfl, rfl, rfl, rfl, trivial⟩, m.sub (.c r0 .n)⟩
  have h25p := ne_of_beq_false h25
  refine wp_skip ?_
  refine n_block (n_then ?_)
  refine c_last ?_
  refine r_ok hs m (ok_move rfl) rfl ?_
  clear hs a; intro a hs
  refine r_ok hs m (ok_add (r := (j : Int) + 1) rfl rfl (wrap_i64 (by omega) (by omega))) rfl ?_
  clear hs a; intro a hs
  refine r_ok hs m (ok_assign rfl) rfl ?_
  clear hs a; intro a hs
  refine wpList_nil (n_then ?_)
  exact ⟨t_Neighs.length - (j + 1), by omega, j + 1, fd, by omega, by first | (rw [any_take_succ (by assumption), ← hf]; simp only [wholeN]; simp [*]; done) | (rw [any_take_succ (by assumption), ← hf, hf4, any_take_end (k := k4) (by omega)]; simp only [wholeN]; simp [*]), rfl, hs.to ⟨rfl, rfl, rfl, rfl, trivial⟩, m.sub (.c r0 .n)⟩
end Go.Proofs.YtnbpodjbemfpbaaGreat.Fw
