/-
  Walks: printed by wip/tool/agent.py.
-/
import Derived.Test.YtnbpodjbemfpbaaGreatWt
import Derived.Test.YtnbpodjbemfpbaaGreatWb
import Derived.Test.YtnbpodjbemfpbaaGreatFw17
import Derived.KernelRfl
set_option linter.all false
set_option maxHeartbeats 4000000
set_option maxRecDepth 100000
namespace Go.Proofs.YtnbpodjbemfpbaaGreat.Fw
open Go
theorem agentPlanWhole_c (vleases : SH) (leases : List TLease) (host : Int) (w0 : World) (hleases : RdS (hh w0) 12 vleases.v (leases.map cLease)) (A1 : leases.length ≤ 2599999999990) : Pure Tryz.prog 5 [vleases.v, .int .i64 host] (.bool true) w0 := by
  have hpl := planM_len leases host
  have lvleases := hleases.bd
  refine enter (n := 204) Tryz.func5 rfl rfl rfl fun a (hs : St 204 [(0, vleases.v), (1, .int .i64 host)] a) => ?_
  have m := Hp.start w0
  refine c_reg ?_
  refine r_ok hs m (ok_assign rfl) rfl ?_
  clear hs a; intro a hs
  refine wpList_nil (n_then ?_)
  refine c_reg ?_
  refine r_callP hs m rfl rfl ca10 rfl (begun_c  _  ) rfl ?_
  clear m hs a; intro w1 m a hs
  refine r_ok hs m (ok_assign rfl) rfl ?_
  clear hs a; intro a hs
  refine wpList_nil (n_then ?_)
  refine c_seq ?_
  refine c_reg ?_
  refine r_ok hs m (ok_move rfl) rfl ?_
  clear hs a; intro a hs
  refine r_ok hs m (ok_not rfl) rfl ?_
  clear hs a; intro a hs
  refine wpList_nil (n_then ?_)
  refine c_false hs rfl rfl ?_
  refine wp_skip ?_
  refine n_then ?_
  refine c_reg ?_
  refine r_ok hs m (ok_move rfl) rfl ?_
  clear hs a; intro a hs
  refine r_ok hs m (ok_move rfl) rfl ?_
  clear hs a; intro a hs
  refine r_call hs rfl rfl ca12 rfl (plan_c vleases leases host _ (m.rd hleases) (by first | omega | rfl | exact bsI_le _ _ | assumption | decide)) rfl ?_
  clear hs a; rintro _ w6 ⟨v3, v4, v5, rfl, hm⟩ a hs
  replace m : Hp w0 (hh w0) [Sv 4 51 v3.v (((planM leases host).R).map cRoute), Sv 7 54 v4.v (((planM leases host).N).map cNeigh), Sv 7 56 v5.v (((planM leases host).F).map cFdb)] w6 := m.after hm
  clear hm w1
  refine r_alloc hs m ze29 rfl ?_
  clear m hs a w6; intro p7 w8 m a hs
  refine r_store (cs' := [v3.v, v4.v, v5.v]) (vs := [v3.v, v4.v, v5.v]) hs m rfl rfl ty29 s0 rfl rfl rfl rfl rfl ?_
  clear m w8; intro w9 m
  refine wpList_nil (n_then ?_)
  refine c_seq ?_
  refine c_reg ?_
  refine r_ok hs m (ok_load_ag (vs := [v3.v, v4.v, v5.v]) rfl ty29 (bx_at r0) rfl rfl) rfl ?_
  clear hs a; intro a hs
  refine r_callP hs m rfl rfl ca21 rfl (orderly_c v3 ((planM leases host).R) v4 ((planM leases host).N) v5 ((planM leases host).F) _ (m.rdv r1) (m.rdv r2) (m.rdv r3) ) rfl ?_
  clear m hs a w9; intro w10 m a hs
  refine r_ok hs m (ok_not rfl) rfl ?_
  clear hs a; intro a hs
  refine r_ok hs m (ok_move rfl) rfl ?_
  clear hs a; intro a hs
  refine l_cut (.c (.c (.c (.c (.n))))) (fun a w => St 204 [(0, vleases.v), (1, .int .i64 host), (5, .bool true), (6, .pointer (some (padd p7 0))), (33, .bool ((!(orderedM ((planM leases host).R) ((planM leases host).N) ((planM leases host).F))) || (!(wholeM ((planM leases host).R) ((planM leases host).N) ((planM leases host).F)))))] a ∧ Hp w0 (hh w0) [Bx p7 29 [v3.v, v4.v, v5.v], Sv 4 51 v3.v (((planM leases host).R).map cRoute), Sv 7 54 v4.v (((planM leases host).N).map cNeigh), Sv 7 56 v5.v (((planM leases host).F).map cFdb)] w) ?_ ?_
  · rcases Bool.eq_false_or_eq_true (!(orderedM ((planM leases host).R) ((planM leases host).N) ((planM leases host).F))) with hb11 | hb11
    · have hb11p := hb11; simp only [Bool.or_eq_true, Bool.or_eq_false_iff, Bool.and_eq_true, Bool.and_eq_false_iff, Bool.not_eq_true', Bool.not_eq_false', decide_eq_true_eq, decide_eq_false_iff_not, beq_iff_eq, bne_iff_ne, beq_eq_false_iff_ne, bne_eq_false_iff_eq, ne_eq, gt_iff_lt, ge_iff_le, Int.not_lt, Int.not_le] at hb11p
      refine g_out hs rfl rfl hb11 rfl ?_
      clear hs a; intro a hs
      refine g_out hs rfl rfl hb11 rfl ?_
      clear hs a; intro a hs
      refine g_out hs rfl rfl hb11 rfl ?_
      clear hs a; intro a hs
      refine r_ok hs m (ok_pick (r := .bool ((!(orderedM ((planM leases host).R) ((planM leases host).N) ((planM leases host).F))) || (!(wholeM ((planM leases host).R) ((planM leases host).N) ((planM leases host).F))))) rfl rfl rfl (by rw [hb11]; rfl)) rfl ?_
      clear hs a; intro a hs
      exact wpList_nil (n_then ⟨hs.to ⟨rfl, rfl, rfl, rfl, rfl, trivial⟩, m⟩)
    · have hb11p := hb11; simp only [Bool.or_eq_true, Bool.or_eq_false_iff, Bool.and_eq_true, Bool.and_eq_false_iff, Bool.not_eq_true', Bool.not_eq_false', decide_eq_true_eq, decide_eq_false_iff_not, beq_iff_eq, bne_iff_ne, beq_eq_false_iff_ne, bne_eq_false_iff_eq, ne_eq, gt_iff_lt, ge_iff_le, Int.not_lt, Int.not_le] at hb11p
      refine r_okg hs rfl rfl hb11 m (ok_load_ag (vs := [v3.v, v4.v, v5.v]) rfl ty29 (bx_at r0) rfl rfl) rfl ?_
      clear hs a; intro a hs
      refine r_callPg hs rfl rfl hb11 m rfl rfl ca22 rfl (whole_c v3 ((planM leases host).R) v4 ((planM leases host).N) v5 ((planM leases host).F) _ (m.rdv r1) (m.rdv r2) (m.rdv r3) ) rfl ?_
      clear m hs a w10; intro w12 m a hs
      refine r_okg hs rfl rfl hb11 m (ok_not rfl) rfl ?_
      clear hs a; intro a hs
      refine r_ok hs m (ok_pick (r := .bool ((!(orderedM ((planM leases host).R) ((planM leases host).N) ((planM leases host).F))) || (!(wholeM ((planM leases host).R) ((planM leases host).N) ((planM leases host).F))))) rfl rfl rfl (by rw [hb11]; rfl)) rfl ?_
      clear hs a; intro a hs
      exact wpList_nil (n_then ⟨hs.to ⟨rfl, rfl, rfl, rfl, rfl, trivial⟩, m⟩)
  clear hs m a w10; rintro a w13 ⟨hs, m⟩
  refine wpList_nil (n_then ?_)
  refine c_false hs rfl (by simp [planM_ordered, planM_whole]) ?_
  refine wp_skip ?_
  refine n_then ?_
  refine c_reg ?_
  refine r_ok hs m (ok_assign rfl) rfl ?_
  clear hs a; intro a hs
  refine wpList_nil (n_then ?_)
  refine c_reg ?_
  refine r_ok hs m (ok_assign rfl) rfl ?_
  clear hs a; intro a hs
  refine wpList_nil (n_then ?_)
  refine c_reg ?_
  refine r_ok hs m (ok_assign rfl) rfl ?_
  clear hs a; intro a hs
  refine wpList_nil (n_then ?_)
  refine c_seq ?_
  refine c_reg ?_
  refine r_ok hs m (ok_assign rfl) rfl ?_
  clear hs a; intro a hs
  refine wpList_nil (n_then ?_)
  refine wp_block ?_
  refine wp_loop_ghost (fun gn a w => ∃ k : Nat, ∃ cr : Int, ∃ cn : Int, ∃ cf : Int, ∃ okk : Bool, (k ≤ leases.length) ∧ (0 ≤ cr ∧ 0 ≤ cn ∧ 0 ≤ cf) ∧ (okk = true) ∧ (cr + cntR (leases.drop k) = cntR leases) ∧ (cn + cntN host (planM leases host).N (leases.drop k) = cntN host (planM leases host).N leases) ∧ (cf + cntF host (planM leases host).F (leases.drop k) = cntF host (planM leases host).F leases) ∧ gn = leases.length - k ∧ St 204 [(0, vleases.v), (1, .int .i64 host), (5, .bool okk), (6, .pointer (some (padd p7 0))), (7, .int .i64 cr), (8, .int .i64 cn), (9, .int .i64 cf), (10, .int .i64 (k : Int))] a ∧ Hp w0 (hh w0) [Bx p7 29 [v3.v, v4.v, v5.v], Sv 4 51 v3.v (((planM leases host).R).map cRoute), Sv 7 54 v4.v (((planM leases host).N).map cNeigh), Sv 7 56 v5.v (((planM leases host).F).map cFdb)] w) (leases.length - 0) ⟨0, 0, 0, 0, true, by omega, by omega, by rfl, by simp, by simp, by simp, rfl, hs.to ⟨rfl, rfl, rfl, rfl, rfl, rfl, rfl, rfl, trivial⟩, m.sub (.c r0 (.c r0 (.c r0 (.c r0 .n))))⟩ ?_
  clear hs m a w13
  rintro gn a w15 ⟨k, cr, cn, cf, okk, hk, hcb, hokk, hcr, hcn, hcf, rfl, hs, m⟩
  have hb0 := cnt_bounds hcr hcn hcf hpl
  refine c_seq ?_
  refine c_reg ?_
  refine r_ok hs m (ok_move rfl) rfl ?_
  clear hs a; intro a hs
  refine r_ok hs m (ok_move rfl) rfl ?_
  clear hs a; intro a hs
  refine r_ok hs m (ok_len (r := (leases.length : Int)) m rfl sl22 (rc_fr hleases) (by simp)) rfl ?_
  clear hs a; intro a hs
  refine r_ok hs m (ok_bin rfl rfl rfl) rfl ?_
  clear hs a; intro a hs
  refine wpList_nil (n_then ?_)
  refine c_cond hs rfl (fun h16 => ?_) (fun h16 => ?_)
  rotate_left
  · have h16p := of_decide_eq_false h16
    refine wp_exit ?_
    refine ex_then (ex_then (ex_hit (?_)))
    refine n_then ?_
    refine c_reg ?_
    refine r_ok hs m (ok_move rfl) rfl ?_
    clear hs a; intro a hs
    refine r_ok hs m (ok_move rfl) rfl ?_
    clear hs a; intro a hs
    refine l_cut (.c (.c (.c (.c (.c (.c (.n))))))) (fun a w => St 204 [(6, .pointer (some (padd p7 0))), (8, .int .i64 cn), (9, .int .i64 cf), (189, .bool (okk && (cr == (((planM leases host).R).length : Int))))] a ∧ Hp w0 (hh w0) [Bx p7 29 [v3.v, v4.v, v5.v], Sv 4 51 v3.v (((planM leases host).R).map cRoute), Sv 7 54 v4.v (((planM leases host).N).map cNeigh), Sv 7 56 v5.v (((planM leases host).F).map cFdb)] w) ?_ ?_
    · rcases Bool.eq_false_or_eq_true okk with hb17 | hb17
      · refine r_okg hs rfl rfl hb17 m (ok_move rfl) rfl ?_
        clear hs a; intro a hs
        refine r_okg hs rfl rfl hb17 m (ok_fieldAddr (r := 0) rfl fd29_0 ty25 rfl) rfl ?_
        clear hs a; intro a hs
        refine r_okg hs rfl rfl hb17 m (ok_load_sc rfl ty25 (bx_at r0) rfl) rfl ?_
        clear hs a; intro a hs
        refine r_okg hs rfl rfl hb17 m (ok_len (r := (((planM leases host).R).length : Int)) m rfl sl25 (rc_own r1) (by simp)) rfl ?_
        clear hs a; intro a hs
        refine r_okg hs rfl rfl hb17 m (ok_bin rfl rfl rfl) rfl ?_
        clear hs a; intro a hs
        refine r_ok hs m (ok_pick (r := .bool (okk && (cr == (((planM leases host).R).length : Int)))) rfl rfl rfl (by rw [hb17]; rfl)) rfl ?_
        clear hs a; intro a hs
        exact wpList_nil (n_then ⟨hs.to ⟨rfl, rfl, rfl, rfl, trivial⟩, m⟩)
      · refine g_out hs rfl rfl hb17 rfl ?_
        clear hs a; intro a hs
        refine g_out hs rfl rfl hb17 rfl ?_
        clear hs a; intro a hs
        refine g_out hs rfl rfl hb17 rfl ?_
        clear hs a; intro a hs
        refine g_out hs rfl rfl hb17 rfl ?_
        clear hs a; intro a hs
        refine g_out hs rfl rfl hb17 rfl ?_
        clear hs a; intro a hs
        refine r_ok hs m (ok_pick (r := .bool (okk && (cr == (((planM leases host).R).length : Int)))) rfl rfl rfl (by rw [hb17]; rfl)) rfl ?_
        clear hs a; intro a hs
        exact wpList_nil (n_then ⟨hs.to ⟨rfl, rfl, rfl, rfl, trivial⟩, m⟩)
    clear hs m a w15; rintro a w18 ⟨hs, m⟩
    refine r_ok hs m (ok_move rfl) rfl ?_
    clear hs a; intro a hs
    refine l_cut (.c (.c (.c (.c (.c (.c (.n))))))) (fun a w => St 204 [(6, .pointer (some (padd p7 0))), (9, .int .i64 cf), (196, .bool ((okk && (cr == (((planM leases host).R).length : Int))) && (cn == (((planM leases host).N).length : Int))))] a ∧ Hp w0 (hh w0) [Bx p7 29 [v3.v, v4.v, v5.v], Sv 4 51 v3.v (((planM leases host).R).map cRoute), Sv 7 54 v4.v (((planM leases host).N).map cNeigh), Sv 7 56 v5.v (((planM leases host).F).map cFdb)] w) ?_ ?_
    · rcases Bool.eq_false_or_eq_true (okk && (cr == (((planM leases host).R).length : Int))) with hb19 | hb19
      · have hb19p := hb19; simp only [Bool.or_eq_true, Bool.or_eq_false_iff, Bool.and_eq_true, Bool.and_eq_false_iff, Bool.not_eq_true', Bool.not_eq_false', decide_eq_true_eq, decide_eq_false_iff_not, beq_iff_eq, bne_iff_ne, beq_eq_false_iff_ne, bne_eq_false_iff_eq, ne_eq, gt_iff_lt, ge_iff_le, Int.not_lt, Int.not_le] at hb19p
        refine r_okg hs rfl rfl hb19 m (ok_move rfl) rfl ?_
        clear hs a; intro a hs
        refine r_okg hs rfl rfl hb19 m (ok_fieldAddr (r := 1) rfl fd29_1 ty26 rfl) rfl ?_
        clear hs a; intro a hs
        refine r_okg hs rfl rfl hb19 m (ok_load_sc rfl ty26 (bx_at r0) rfl) rfl ?_
        clear hs a; intro a hs
        refine r_okg hs rfl rfl hb19 m (ok_len (r := (((planM leases host).N).length : Int)) m rfl sl26 (rc_own r2) (by simp)) rfl ?_
        clear hs a; intro a hs
        refine r_okg hs rfl rfl hb19 m (ok_bin rfl rfl rfl) rfl ?_
        clear hs a; intro a hs
        refine r_ok hs m (ok_pick (r := .bool ((okk && (cr == (((planM leases host).R).length : Int))) && (cn == (((planM leases host).N).length : Int)))) rfl rfl rfl (by rw [hb19]; rfl)) rfl ?_
        clear hs a; intro a hs
        exact wpList_nil (n_then ⟨hs.to ⟨rfl, rfl, rfl, trivial⟩, m⟩)
      · have hb19p := hb19; simp only [Bool.or_eq_true, Bool.or_eq_false_iff, Bool.and_eq_true, Bool.and_eq_false_iff, Bool.not_eq_true', Bool.not_eq_false', decide_eq_true_eq, decide_eq_false_iff_not, beq_iff_eq, bne_iff_ne, beq_eq_false_iff_ne, bne_eq_false_iff_eq, ne_eq, gt_iff_lt, ge_iff_le, Int.not_lt, Int.not_le] at hb19p
        refine g_out hs rfl rfl hb19 rfl ?_
        clear hs a; intro a hs
        refine g_out hs rfl rfl hb19 rfl ?_
        clear hs a; intro a hs
        refine g_out hs rfl rfl hb19 rfl ?_
        clear hs a; intro a hs
        refine g_out hs rfl rfl hb19 rfl ?_
        clear hs a; intro a hs
        refine g_out hs rfl rfl hb19 rfl ?_
        clear hs a; intro a hs
        refine r_ok hs m (ok_pick (r := .bool ((okk && (cr == (((planM leases host).R).length : Int))) && (cn == (((planM leases host).N).length : Int)))) rfl rfl rfl (by rw [hb19]; rfl)) rfl ?_
        clear hs a; intro a hs
        exact wpList_nil (n_then ⟨hs.to ⟨rfl, rfl, rfl, trivial⟩, m⟩)
    clear hs m a w18; rintro a w20 ⟨hs, m⟩
    refine r_ok hs m (ok_move rfl) rfl ?_
    clear hs a; intro a hs
    refine l_cut (.c (.c (.c (.c (.c (.c (.n))))))) (fun a w => St 204 [(203, .bool (((okk && (cr == (((planM leases host).R).length : Int))) && (cn == (((planM leases host).N).length : Int))) && (cf == (((planM leases host).F).length : Int))))] a ∧ Hp w0 (hh w0) [Bx p7 29 [v3.v, v4.v, v5.v], Sv 4 51 v3.v (((planM leases host).R).map cRoute), Sv 7 54 v4.v (((planM leases host).N).map cNeigh), Sv 7 56 v5.v (((planM leases host).F).map cFdb)] w) ?_ ?_
    · rcases Bool.eq_false_or_eq_true ((okk && (cr == (((planM leases host).R).length : Int))) && (cn == (((planM leases host).N).length : Int))) with hb21 | hb21
      · have hb21p := hb21; simp only [Bool.or_eq_true, Bool.or_eq_false_iff, Bool.and_eq_true, Bool.and_eq_false_iff, Bool.not_eq_true', Bool.not_eq_false', decide_eq_true_eq, decide_eq_false_iff_not, beq_iff_eq, bne_iff_ne, beq_eq_false_iff_ne, bne_eq_false_iff_eq, ne_eq, gt_iff_lt, ge_iff_le, Int.not_lt, Int.not_le] at hb21p
        refine r_okg hs rfl rfl hb21 m (ok_move rfl) rfl ?_
        clear hs a; intro a hs
        refine r_okg hs rfl rfl hb21 m (ok_fieldAddr (r := 2) rfl fd29_2 ty27 rfl) rfl ?_
        clear hs a; intro a hs
        refine r_okg hs rfl rfl hb21 m (ok_load_sc rfl ty27 (bx_at r0) rfl) rfl ?_
        clear hs a; intro a hs
        refine r_okg hs rfl rfl hb21 m (ok_len (r := (((planM leases host).F).length : Int)) m rfl sl27 (rc_own r3) (by simp)) rfl ?_
        clear hs a; intro a hs
        refine r_okg hs rfl rfl hb21 m (ok_bin rfl rfl rfl) rfl ?_
        clear hs a; intro a hs
        refine r_ok hs m (ok_pick (r := .bool (((okk && (cr == (((planM leases host).R).length : Int))) && (cn == (((planM leases host).N).length : Int))) && (cf == (((planM leases host).F).length : Int)))) rfl rfl rfl (by rw [hb21]; rfl)) rfl ?_
        clear hs a; intro a hs
        exact wpList_nil (n_then ⟨hs.to ⟨rfl, trivial⟩, m⟩)
      · have hb21p := hb21; simp only [Bool.or_eq_true, Bool.or_eq_false_iff, Bool.and_eq_true, Bool.and_eq_false_iff, Bool.not_eq_true', Bool.not_eq_false', decide_eq_true_eq, decide_eq_false_iff_not, beq_iff_eq, bne_iff_ne, beq_eq_false_iff_ne, bne_eq_false_iff_eq, ne_eq, gt_iff_lt, ge_iff_le, Int.not_lt, Int.not_le] at hb21p
        refine g_out hs rfl rfl hb21 rfl ?_
        clear hs a; intro a hs
        refine g_out hs rfl rfl hb21 rfl ?_
        clear hs a; intro a hs
        refine g_out hs rfl rfl hb21 rfl ?_
        clear hs a; intro a hs
        refine g_out hs rfl rfl hb21 rfl ?_
        clear hs a; intro a hs
        refine g_out hs rfl rfl hb21 rfl ?_
        clear hs a; intro a hs
        refine r_ok hs m (ok_pick (r := .bool (((okk && (cr == (((planM leases host).R).length : Int))) && (cn == (((planM leases host).N).length : Int))) && (cf == (((planM leases host).F).length : Int)))) rfl rfl rfl (by rw [hb21]; rfl)) rfl ?_
        clear hs a; intro a hs
        exact wpList_nil (n_then ⟨hs.to ⟨rfl, trivial⟩, m⟩)
    clear hs m a w20; rintro a w22 ⟨hs, m⟩
    refine r_ok hs m (ok_assign rfl) rfl ?_
    clear hs a; intro a hs
    refine wpList_nil (n_then ?_)
    refine wp_ret ?_
    refine leave hs (vs := [.bool (((okk && (cr == (((planM leases host).R).length : Int))) && (cn == (((planM leases host).N).length : Int))) && (cf == (((planM leases host).F).length : Int)))]) rfl ⟨rfl, trivial⟩ ?_
    refine ⟨?_, m.sub .n⟩
    have q23 : (((okk && (cr == (((planM leases host).R).length : Int))) && (cn == (((planM leases host).N).length : Int))) && (cf == (((planM leases host).F).length : Int)) : Bool) = true := by clear hs m; first | rfl | exact (planWhole_end (by omega) hokk hcr hcn hcf).symm | exact planWhole_end (by omega) hokk hcr hcn hcf
    first | (rw [q23]; done) | (rw [q23]; rfl) | (rw [q23]; rfl) | (simp only [q23, pack]; done)
  have h16p := of_decide_eq_true h16
  refine wp_skip ?_
  refine n_then ?_
  refine c_seq ?_
  refine wp_block ?_
  refine c_reg ?_
  refine r_ok hs m (ok_move rfl) rfl ?_
  clear hs a; intro a hs
  refine r_ok hs m (ok_move rfl) rfl ?_
  clear hs a; intro a hs
  obtain ⟨e24, he25⟩ := get_of_lt (l := leases) (i := k) (by omega)
  refine elF (c := cLease) (e := e24) hs m (x := (.tmp 40)) (ix := (.tmp 41)) rfl rfl sl22 ty48 hleases (by omega) he25 fun p26 hp27 ok28 => ?_
  refine r_ok hs m (ok28 _ _ _ _ _) rfl ?_
  clear hs a; intro a hs
  refine r_ok hs m (ok_load_ag (vs := cLease e24) rfl ty48 (fr_at hp27) rfl rfl) rfl ?_
  clear hs a; intro a hs
  refine r_alloc hs m ze48 rfl ?_
  clear m hs a w15; intro p29 w30 m a hs
  refine r_store (cs' := cLease e24) (vs := cLease e24) hs m rfl rfl ty48 s0 rfl rfl rfl rfl rfl ?_
  clear m w30; intro w31 m
  refine wpList_nil (n_then ?_)
  refine c_seq ?_
  refine c_reg ?_
  refine r_ok hs m (ok_fieldAddr (r := 1) rfl fd48_1 ty44 rfl) rfl ?_
  clear hs a; intro a hs
  refine r_ok hs m (ok_load_ag (vs := cPrefix e24.Subnet) rfl ty44 (bx_at r0) rfl rfl) rfl ?_
  clear hs a; intro a hs
  refine r_callP hs m rfl rfl ca23 rfl (validO_c e24.Subnet _  ) rfl ?_
  clear m hs a w31; intro w32 m a hs
  refine r_ok hs m (ok_not rfl) rfl ?_
  clear hs a; intro a hs
  refine wpList_nil (n_then ?_)
  refine c_cond hs rfl (fun h33 => ?_) (fun h33 => ?_)
  · have h33p := h33; simp only [Bool.or_eq_true, Bool.or_eq_false_iff, Bool.and_eq_true, Bool.and_eq_false_iff, Bool.not_eq_true', Bool.not_eq_false', decide_eq_true_eq, decide_eq_false_iff_not, beq_iff_eq, bne_iff_ne, beq_eq_false_iff_ne, bne_eq_false_iff_eq, ne_eq, gt_iff_lt, ge_iff_le, Int.not_lt, Int.not_le] at h33p
    refine wp_exit ?_
    refine ex_then (ex_hit (?_))
    refine n_then ?_
    refine c_last ?_
    refine r_ok hs m (ok_move rfl) rfl ?_
    clear hs a; intro a hs
    refine r_ok hs m (ok_add (r := (k : Int) + 1) rfl rfl (wrap_i64 (by omega) (by omega))) rfl ?_
    clear hs a; intro a hs
    refine r_ok hs m (ok_assign rfl) rfl ?_
    clear hs a; intro a hs
    refine wpList_nil (n_then ?_)
    exact ⟨leases.length - (k + 1), by omega, k + 1, cr, cn, cf, okk, by omega, by (first | omega | (have hq1 := count_take_le (l := (planM leases host).N) (k := k5) (q := (⟨e24.Subnet.Addr, e24.MAC⟩ : TNeigh)); have hq2 := count_take_le (l := (planM leases host).F) (k := k6) (q := (⟨e24.MAC, e24.Pub⟩ : TFdb)); omega)), by first | exact hokk | (rw [hokk, Bool.true_and]; exact plan_routed (by assumption) (by assumption) hb1 (by omega) (by assumption) (by first | (rw [via_t (by assumption)]; done) | (rw [via_f (by assumption)]; done))), by first | (have hq := cntR_skip (l := leases) (k := k) (by assumption) (by assumption); omega) | (have hq := cntR_last (k := k) (by assumption) (by assumption) hb1 (by omega) (by assumption); omega) | (have hq := cntR_not (k := k) (by assumption) (by assumption) hb1 (by omega) (by assumption); omega), by first | (have hq := cntN_skip (host := host) (N := (planM leases host).N) (l := leases) (k := k) (by assumption) (by assumption); omega) | (have hq := cntN_round (k := k) (by assumption) (by assumption) hb2 (by omega) (by assumption) hz5 hc5; omega), by first | (have hq := cntF_skip (host := host) (F := (planM leases host).F) (l := leases) (k := k) (by assumption) (by assumption); omega) | (have hq := cntF_round (k := k) (by assumption) (by assumption) hb3 (by omega) (by assumption) hz6 hc6; omega), rfl, hs.to ⟨rfl, rfl, rfl, rfl, rfl, rfl, rfl, rfl, trivial⟩, m.sub (.c r1 (.c r1 (.c r1 (.c r1 .n))))⟩
  have h33p := h33; simp only [Bool.or_eq_true, Bool.or_eq_false_iff, Bool.and_eq_true, Bool.and_eq_false_iff, Bool.not_eq_true', Bool.not_eq_false', decide_eq_true_eq, decide_eq_false_iff_not, beq_iff_eq, bne_iff_ne, beq_eq_false_iff_ne, bne_eq_false_iff_eq, ne_eq, gt_iff_lt, ge_iff_le, Int.not_lt, Int.not_le] at h33p
  refine wp_skip ?_
  refine n_then ?_
  refine c_reg ?_
  refine r_ok hs m (ok_assign rfl) rfl ?_
  clear hs a; intro a hs
  refine wpList_nil (n_then ?_)
  refine c_reg ?_
  refine r_ok hs m (ok_fieldAddr (r := 0) rfl fd48_0 ty3 rfl) rfl ?_
  clear hs a; intro a hs
  refine r_ok hs m (ok_load_sc rfl ty3 (bx_at r0) rfl) rfl ?_
  clear hs a; intro a hs
  refine r_ok hs m (ok_move rfl) rfl ?_
  clear hs a; intro a hs
  refine r_ok hs m (ok_bin rfl rfl rfl) rfl ?_
  clear hs a; intro a hs
  refine r_ok hs m (ok_assign rfl) rfl ?_
  clear hs a; intro a hs
  refine wpList_nil (n_then ?_)
  refine c_reg ?_
  refine r_ok hs m (ok_fieldAddr (r := 0) rfl fd48_0 ty3 rfl) rfl ?_
  clear hs a; intro a hs
  refine r_ok hs m (ok_load_sc rfl ty3 (bx_at r0) rfl) rfl ?_
  clear hs a; intro a hs
  refine r_ok hs m (ok_move rfl) rfl ?_
  clear hs a; intro a hs
  refine r_ok hs m (ok_bin rfl rfl rfl) rfl ?_
  clear hs a; intro a hs
  refine r_ok hs m (ok_assign rfl) rfl ?_
  clear hs a; intro a hs
  refine wpList_nil (n_then ?_)
  refine c_seq ?_
  refine c_reg ?_
  refine r_ok hs m (ok_move rfl) rfl ?_
  clear hs a; intro a hs
  refine r_ok hs m (ok_add (r := (k : Int) + 1) rfl rfl (wrap_i64 (by omega) (by omega))) rfl ?_
  clear hs a; intro a hs
  refine r_ok hs m (ok_assign rfl) rfl ?_
  clear hs a; intro a hs
  refine wpList_nil (n_then ?_)
  refine wp_block ?_
  refine wp_loop_ghost (fun gn a w => ∃ j : Nat, ∃ b1 : Bool, ∃ b2 : Bool, ∃ b3 : Bool, (j ≤ leases.length) ∧ (k + 1 ≤ j) ∧ (b1 = lastK (pR e24) leases k j) ∧ (b2 = ((e24.Host.v != host) && lastK (pN host e24) leases k j)) ∧ (b3 = ((e24.Host.v != host) && lastK (pF host e24) leases k j)) ∧ gn = leases.length - j ∧ St 204 [(0, vleases.v), (1, .int .i64 host), (5, .bool okk), (6, .pointer (some (padd p7 0))), (7, .int .i64 cr), (8, .int .i64 cn), (9, .int .i64 cf), (10, .int .i64 (k : Int)), (11, .pointer (some (padd p29 0))), (12, .bool b1), (13, .bool b2), (14, .bool b3), (15, .int .i64 (j : Int))] a ∧ Hp w0 (hh w0) [Bx p7 29 [v3.v, v4.v, v5.v], Bx p29 48 (cLease e24), Sv 4 51 v3.v (((planM leases host).R).map cRoute), Sv 7 54 v4.v (((planM leases host).N).map cNeigh), Sv 7 56 v5.v (((planM leases host).F).map cFdb)] w) (leases.length - (k + 1)) ⟨(k + 1), true, (e24.Host.v != host), (e24.Host.v != host), by omega, by omega, by exact lastK_0, by exact lastK2_0, by exact lastK2_0, rfl, hs.to ⟨rfl, rfl, rfl, rfl, rfl, rfl, rfl, rfl, rfl, rfl, rfl, rfl, rfl, trivial⟩, m.sub (.c r1 (.c r0 (.c r0 (.c r0 (.c r0 .n)))))⟩ ?_
  clear hs m a w32
  rintro gn a w34 ⟨j, b1, b2, b3, hj, hkj, hb1, hb2, hb3, rfl, hs, m⟩
  refine c_seq ?_
  refine c_reg ?_
  refine r_ok hs m (ok_move rfl) rfl ?_
  clear hs a; intro a hs
  refine r_ok hs m (ok_move rfl) rfl ?_
  clear hs a; intro a hs
  refine r_ok hs m (ok_len (r := (leases.length : Int)) m rfl sl22 (rc_fr hleases) (by simp)) rfl ?_
  clear hs a; intro a hs
  refine r_ok hs m (ok_bin rfl rfl rfl) rfl ?_
  clear hs a; intro a hs
  refine wpList_nil (n_then ?_)
  refine c_cond hs rfl (fun h35 => ?_) (fun h35 => ?_)
  rotate_left
  · have h35p := of_decide_eq_false h35
    refine wp_exit ?_
    refine ex_then (ex_then (ex_hit (?_)))
    refine n_then ?_
    refine c_reg ?_
    refine r_ok hs m (ok_fieldAddr (r := 1) rfl fd48_1 ty44 rfl) rfl ?_
    clear hs a; intro a hs
    refine r_ok hs m (ok_load_ag (vs := cPrefix e24.Subnet) rfl ty44 (bx_at r1) rfl rfl) rfl ?_
    clear hs a; intro a hs
    refine r_ok hs m (ok_fieldAddr (r := 0) rfl fd48_0 ty3 rfl) rfl ?_
    clear hs a; intro a hs
    refine r_ok hs m (ok_load_sc rfl ty3 (bx_at r1) rfl) rfl ?_
    clear hs a; intro a hs
    refine r_ok hs m (ok_move rfl) rfl ?_
    clear hs a; intro a hs
    refine r_ok hs m (ok_bin rfl rfl rfl) rfl ?_
    clear hs a; intro a hs
    refine r_ok hs m (ok_build (cs := cRoute (⟨e24.Subnet, ⟨0, rfl⟩, e24.Host.v == host⟩ : TRoute)) st51 ze51 rfl rfl) rfl ?_
    clear hs a; intro a hs
    refine r_alloc hs m ze51 rfl ?_
    clear m hs a w34; intro p36 w37 m a hs
    refine r_store (cs' := cRoute (⟨e24.Subnet, ⟨0, rfl⟩, e24.Host.v == host⟩ : TRoute)) (vs := cRoute (⟨e24.Subnet, ⟨0, rfl⟩, e24.Host.v == host⟩ : TRoute)) hs m rfl rfl ty51 s0 rfl rfl rfl rfl rfl ?_
    clear m w37; intro w38 m
    refine wpList_nil (n_then ?_)
    refine c_seq ?_
    refine c_reg ?_
    refine r_ok hs m (ok_fieldAddr (r := 0) rfl fd48_0 ty3 rfl) rfl ?_
    clear hs a; intro a hs
    refine r_ok hs m (ok_load_sc rfl ty3 (bx_at r2) rfl) rfl ?_
    clear hs a; intro a hs
    refine r_ok hs m (ok_move rfl) rfl ?_
    clear hs a; intro a hs
    refine r_ok hs m (ok_bin rfl rfl rfl) rfl ?_
    clear hs a; intro a hs
    refine wpList_nil (n_then ?_)
    refine c_cond hs rfl (fun h39 => ?_) (fun h39 => ?_)
    · have h39p := ne_of_bne h39
      refine c_last ?_
      refine r_ok hs m (ok_fieldAddr (r := 1) rfl fd48_1 ty44 rfl) rfl ?_
      clear hs a; intro a hs
      refine r_ok hs m (ok_fieldAddr (r := 1) rfl fd44_0 ty42 rfl) rfl ?_
      clear hs a; intro a hs
      refine r_ok hs m (ok_load_sc rfl ty42 (bx_at r2) rfl) rfl ?_
      clear hs a; intro a hs
      refine r_ok hs m (ok_fieldAddr (r := 2) rfl fd51_1 ty42 rfl) rfl ?_
      clear hs a; intro a hs
      refine r_store (cs' := cRoute (⟨e24.Subnet, e24.Subnet.Addr, e24.Host.v == host⟩ : TRoute)) (vs := [.int .u32 e24.Subnet.Addr.v]) hs m rfl rfl ty42 s0 rfl rfl rfl rfl rfl ?_
      clear m w38; intro w40 m
      refine wpList_nil (n_then ?_)
      refine c_seq ?_
      refine c_reg ?_
      refine r_ok hs m (ok_move rfl) rfl ?_
      clear hs a; intro a hs
      refine wpList_nil (n_then ?_)
      refine c_cond hs rfl (fun h41 => ?_) (fun h41 => ?_)
      · refine c_reg ?_
        refine r_ok hs m (ok_move rfl) rfl ?_
        clear hs a; intro a hs
        refine r_ok hs m (ok_add (r := cr + 1) rfl rfl (wrap_i64 (by omega) (by omega))) rfl ?_
        clear hs a; intro a hs
        refine r_ok hs m (ok_assign rfl) rfl ?_
        clear hs a; intro a hs
        refine wpList_nil (n_then ?_)
        refine c_last ?_
        refine r_ok hs m (ok_move rfl) rfl ?_
        clear hs a; intro a hs
        refine r_ok hs m (ok_move rfl) rfl ?_
        clear hs a; intro a hs
        refine l_cut (.c (.c (.c (.c (.c (.n)))))) (fun a w => St 204 [(0, vleases.v), (1, .int .i64 host), (6, .pointer (some (padd p7 0))), (7, .int .i64 (cr + 1)), (8, .int .i64 cn), (9, .int .i64 cf), (10, .int .i64 (k : Int)), (11, .pointer (some (padd p29 0))), (13, .bool b2), (14, .bool b3), (134, .bool (okk && (decide ((⟨e24.Subnet, e24.Subnet.Addr, e24.Host.v == host⟩ : TRoute) ∈ (planM leases host).R))))] a ∧ Hp w0 (hh w0) [Bx p36 51 (cRoute (⟨e24.Subnet, e24.Subnet.Addr, e24.Host.v == host⟩ : TRoute)), Bx p7 29 [v3.v, v4.v, v5.v], Bx p29 48 (cLease e24), Sv 4 51 v3.v (((planM leases host).R).map cRoute), Sv 7 54 v4.v (((planM leases host).N).map cNeigh), Sv 7 56 v5.v (((planM leases host).F).map cFdb)] w) ?_ ?_
        · rcases Bool.eq_false_or_eq_true okk with hb42 | hb42
          · refine r_okg hs rfl rfl hb42 m (ok_fieldAddr (r := 0) rfl fd29_0 ty25 rfl) rfl ?_
            clear hs a; intro a hs
            refine r_okg hs rfl rfl hb42 m (ok_load_sc rfl ty25 (bx_at r1) rfl) rfl ?_
            clear hs a; intro a hs
            refine r_okg hs rfl rfl hb42 m (ok_load_ag (vs := cRoute (⟨e24.Subnet, e24.Subnet.Addr, e24.Host.v == host⟩ : TRoute)) rfl ty51 (bx_at r0) rfl rfl) rfl ?_
            clear hs a; intro a hs
            refine r_callPg hs rfl rfl hb42 m rfl rfl ca24 rfl (routed_c v3 ((planM leases host).R) (⟨e24.Subnet, e24.Subnet.Addr, e24.Host.v == host⟩ : TRoute) _ (m.rdv r3) ) rfl ?_
            clear m hs a w40; intro w43 m a hs
            refine r_ok hs m (ok_pick (r := .bool (okk && (decide ((⟨e24.Subnet, e24.Subnet.Addr, e24.Host.v == host⟩ : TRoute) ∈ (planM leases host).R)))) rfl rfl rfl (by rw [hb42]; rfl)) rfl ?_
            clear hs a; intro a hs
            exact wpList_nil (n_then ⟨hs.to ⟨rfl, rfl, rfl, rfl, rfl, rfl, rfl, rfl, rfl, rfl, rfl, trivial⟩, m⟩)
          · refine g_out hs rfl rfl hb42 rfl ?_
            clear hs a; intro a hs
            refine g_out hs rfl rfl hb42 rfl ?_
            clear hs a; intro a hs
            refine g_out hs rfl rfl hb42 rfl ?_
            clear hs a; intro a hs
            refine g_out hs rfl rfl hb42 rfl ?_
            clear hs a; intro a hs
            refine r_ok hs m (ok_pick (r := .bool (okk && (decide ((⟨e24.Subnet, e24.Subnet.Addr, e24.Host.v == host⟩ : TRoute) ∈ (planM leases host).R)))) rfl rfl rfl (by rw [hb42]; rfl)) rfl ?_
            clear hs a; intro a hs
            exact wpList_nil (n_then ⟨hs.to ⟨rfl, rfl, rfl, rfl, rfl, rfl, rfl, rfl, rfl, rfl, rfl, trivial⟩, m⟩)
        clear hs m a w40; rintro a w44 ⟨hs, m⟩
        refine r_ok hs m (ok_assign rfl) rfl ?_
        clear hs a; intro a hs
        refine wpList_nil (n_then ?_)
        refine c_seq ?_
        refine c_reg ?_
        refine r_ok hs m (ok_assign rfl) rfl ?_
        clear hs a; intro a hs
        refine wpList_nil (n_then ?_)
        refine wp_block ?_
        refine wp_loop_ghost (fun gn a w => ∃ k5 : Nat, ∃ cn4 : Int, (k5 ≤ (planM leases host).N.length) ∧ (b2 = true ∨ k5 = 0) ∧ (cn4 = cn + (((planM leases host).N.take k5).count (⟨e24.Subnet.Addr, e24.MAC⟩ : TNeigh) : Int)) ∧ gn = (planM leases host).N.length - k5 ∧ St 204 [(0, vleases.v), (1, .int .i64 host), (5, .bool (okk && (decide ((⟨e24.Subnet, e24.Subnet.Addr, e24.Host.v == host⟩ : TRoute) ∈ (planM leases host).R)))), (6, .pointer (some (padd p7 0))), (7, .int .i64 (cr + 1)), (8, .int .i64 cn4), (9, .int .i64 cf), (10, .int .i64 (k : Int)), (11, .pointer (some (padd p29 0))), (13, .bool b2), (14, .bool b3), (18, .int .i64 (k5 : Int))] a ∧ Hp w0 (hh w0) [Bx p7 29 [v3.v, v4.v, v5.v], Bx p29 48 (cLease e24), Sv 4 51 v3.v (((planM leases host).R).map cRoute), Sv 7 54 v4.v (((planM leases host).N).map cNeigh), Sv 7 56 v5.v (((planM leases host).F).map cFdb)] w) ((planM leases host).N.length - 0) ⟨0, cn, by omega, by right; rfl, by simp, rfl, hs.to ⟨rfl, rfl, rfl, rfl, rfl, rfl, rfl, rfl, rfl, rfl, rfl, rfl, trivial⟩, m.sub (.c r1 (.c r1 (.c r1 (.c r1 (.c r1 .n)))))⟩ ?_
        clear hs m a w44
        rintro gn a w45 ⟨k5, cn4, hk5, hz5, hc5, rfl, hs, m⟩
        have hq := count_take_le (l := (planM leases host).N) (k := k5) (q := (⟨e24.Subnet.Addr, e24.MAC⟩ : TNeigh))
        refine c_seq ?_
        refine c_reg ?_
        refine r_ok hs m (ok_move rfl) rfl ?_
        clear hs a; intro a hs
        refine r_ok hs m (ok_move rfl) rfl ?_
        clear hs a; intro a hs
        refine l_cut (.c (.c (.c (.c (.c (.c (.n))))))) (fun a w => St 204 [(0, vleases.v), (1, .int .i64 host), (5, .bool (okk && (decide ((⟨e24.Subnet, e24.Subnet.Addr, e24.Host.v == host⟩ : TRoute) ∈ (planM leases host).R)))), (6, .pointer (some (padd p7 0))), (7, .int .i64 (cr + 1)), (8, .int .i64 cn4), (9, .int .i64 cf), (10, .int .i64 (k : Int)), (11, .pointer (some (padd p29 0))), (13, .bool b2), (14, .bool b3), (18, .int .i64 (k5 : Int)), (142, .bool (b2 && (decide ((k5 : Int) < (((planM leases host).N).length : Int)))))] a ∧ Hp w0 (hh w0) [Bx p7 29 [v3.v, v4.v, v5.v], Bx p29 48 (cLease e24), Sv 4 51 v3.v (((planM leases host).R).map cRoute), Sv 7 54 v4.v (((planM leases host).N).map cNeigh), Sv 7 56 v5.v (((planM leases host).F).map cFdb)] w) ?_ ?_
        · rcases Bool.eq_false_or_eq_true b2 with hb46 | hb46
          · refine r_okg hs rfl rfl hb46 m (ok_move rfl) rfl ?_
            clear hs a; intro a hs
            refine r_okg hs rfl rfl hb46 m (ok_fieldAddr (r := 1) rfl fd29_1 ty26 rfl) rfl ?_
            clear hs a; intro a hs
            refine r_okg hs rfl rfl hb46 m (ok_load_sc rfl ty26 (bx_at r0) rfl) rfl ?_
            clear hs a; intro a hs
            refine r_okg hs rfl rfl hb46 m (ok_len (r := (((planM leases host).N).length : Int)) m rfl sl26 (rc_own r3) (by simp)) rfl ?_
            clear hs a; intro a hs
            refine r_okg hs rfl rfl hb46 m (ok_bin rfl rfl rfl) rfl ?_
            clear hs a; intro a hs
            refine r_ok hs m (ok_pick (r := .bool (b2 && (decide ((k5 : Int) < (((planM leases host).N).length : Int))))) rfl rfl rfl (by rw [hb46]; rfl)) rfl ?_
            clear hs a; intro a hs
            exact wpList_nil (n_then ⟨hs.to ⟨rfl, rfl, rfl, rfl, rfl, rfl, rfl, rfl, rfl, rfl, rfl, rfl, rfl, trivial⟩, m⟩)
          · refine g_out hs rfl rfl hb46 rfl ?_
            clear hs a; intro a hs
            refine g_out hs rfl rfl hb46 rfl ?_
            clear hs a; intro a hs
            refine g_out hs rfl rfl hb46 rfl ?_
            clear hs a; intro a hs
            refine g_out hs rfl rfl hb46 rfl ?_
            clear hs a; intro a hs
            refine g_out hs rfl rfl hb46 rfl ?_
            clear hs a; intro a hs
            refine r_ok hs m (ok_pick (r := .bool (b2 && (decide ((k5 : Int) < (((planM leases host).N).length : Int))))) rfl rfl rfl (by rw [hb46]; rfl)) rfl ?_
            clear hs a; intro a hs
            exact wpList_nil (n_then ⟨hs.to ⟨rfl, rfl, rfl, rfl, rfl, rfl, rfl, rfl, rfl, rfl, rfl, rfl, rfl, trivial⟩, m⟩)
        clear hs m a w45; rintro a w47 ⟨hs, m⟩
        refine wpList_nil (n_then ?_)
        refine c_cond hs rfl (fun h48 => ?_) (fun h48 => ?_)
        rotate_left
        · have h48p := h48; simp only [Bool.or_eq_true, Bool.or_eq_false_iff, Bool.and_eq_true, Bool.and_eq_false_iff, Bool.not_eq_true', Bool.not_eq_false', decide_eq_true_eq, decide_eq_false_iff_not, beq_iff_eq, bne_iff_ne, beq_eq_false_iff_ne, bne_eq_false_iff_eq, ne_eq, gt_iff_lt, ge_iff_le, Int.not_lt, Int.not_le] at h48p
          refine wp_exit ?_
          refine ex_then (ex_then (ex_hit (?_)))
          refine n_then ?_
          refine c_reg ?_
          refine r_ok hs m (ok_assign rfl) rfl ?_
          clear hs a; intro a hs
          refine wpList_nil (n_then ?_)
          refine wp_block ?_
          refine wp_loop_ghost (fun gn a w => ∃ k6 : Nat, ∃ cf4 : Int, (k6 ≤ (planM leases host).F.length) ∧ (b3 = true ∨ k6 = 0) ∧ (cf4 = cf + (((planM leases host).F.take k6).count (⟨e24.MAC, e24.Pub⟩ : TFdb) : Int)) ∧ gn = (planM leases host).F.length - k6 ∧ St 204 [(0, vleases.v), (1, .int .i64 host), (5, .bool (okk && (decide ((⟨e24.Subnet, e24.Subnet.Addr, e24.Host.v == host⟩ : TRoute) ∈ (planM leases host).R)))), (6, .pointer (some (padd p7 0))), (7, .int .i64 (cr + 1)), (8, .int .i64 cn4), (9, .int .i64 cf4), (10, .int .i64 (k : Int)), (11, .pointer (some (padd p29 0))), (14, .bool b3), (19, .int .i64 (k6 : Int))] a ∧ Hp w0 (hh w0) [Bx p7 29 [v3.v, v4.v, v5.v], Bx p29 48 (cLease e24), Sv 4 51 v3.v (((planM leases host).R).map cRoute), Sv 7 54 v4.v (((planM leases host).N).map cNeigh), Sv 7 56 v5.v (((planM leases host).F).map cFdb)] w) ((planM leases host).F.length - 0) ⟨0, cf, by omega, by right; rfl, by simp, rfl, hs.to ⟨rfl, rfl, rfl, rfl, rfl, rfl, rfl, rfl, rfl, rfl, rfl, trivial⟩, m.sub (.c r0 (.c r0 (.c r0 (.c r0 (.c r0 .n)))))⟩ ?_
          clear hs m a w47
          rintro gn a w49 ⟨k6, cf4, hk6, hz6, hc6, rfl, hs, m⟩
          have hq := count_take_le (l := (planM leases host).F) (k := k6) (q := (⟨e24.MAC, e24.Pub⟩ : TFdb))
          refine c_seq ?_
          refine c_reg ?_
          refine r_ok hs m (ok_move rfl) rfl ?_
          clear hs a; intro a hs
          refine r_ok hs m (ok_move rfl) rfl ?_
          clear hs a; intro a hs
          refine l_cut (.c (.c (.c (.c (.c (.c (.n))))))) (fun a w => St 204 [(0, vleases.v), (1, .int .i64 host), (5, .bool (okk && (decide ((⟨e24.Subnet, e24.Subnet.Addr, e24.Host.v == host⟩ : TRoute) ∈ (planM leases host).R)))), (6, .pointer (some (padd p7 0))), (7, .int .i64 (cr + 1)), (8, .int .i64 cn4), (9, .int .i64 cf4), (10, .int .i64 (k : Int)), (11, .pointer (some (padd p29 0))), (14, .bool b3), (19, .int .i64 (k6 : Int)), (166, .bool (b3 && (decide ((k6 : Int) < (((planM leases host).F).length : Int)))))] a ∧ Hp w0 (hh w0) [Bx p7 29 [v3.v, v4.v, v5.v], Bx p29 48 (cLease e24), Sv 4 51 v3.v (((planM leases host).R).map cRoute), Sv 7 54 v4.v (((planM leases host).N).map cNeigh), Sv 7 56 v5.v (((planM leases host).F).map cFdb)] w) ?_ ?_
          · rcases Bool.eq_false_or_eq_true b3 with hb50 | hb50
            · refine r_okg hs rfl rfl hb50 m (ok_move rfl) rfl ?_
              clear hs a; intro a hs
              refine r_okg hs rfl rfl hb50 m (ok_fieldAddr (r := 2) rfl fd29_2 ty27 rfl) rfl ?_
              clear hs a; intro a hs
              refine r_okg hs rfl rfl hb50 m (ok_load_sc rfl ty27 (bx_at r0) rfl) rfl ?_
              clear hs a; intro a hs
              refine r_okg hs rfl rfl hb50 m (ok_len (r := (((planM leases host).F).length : Int)) m rfl sl27 (rc_own r4) (by simp)) rfl ?_
              clear hs a; intro a hs
              refine r_okg hs rfl rfl hb50 m (ok_bin rfl rfl rfl) rfl ?_
              clear hs a; intro a hs
              refine r_ok hs m (ok_pick (r := .bool (b3 && (decide ((k6 : Int) < (((planM leases host).F).length : Int))))) rfl rfl rfl (by rw [hb50]; rfl)) rfl ?_
              clear hs a; intro a hs
              exact wpList_nil (n_then ⟨hs.to ⟨rfl, rfl, rfl, rfl, rfl, rfl, rfl, rfl, rfl, rfl, rfl, rfl, trivial⟩, m⟩)
            · refine g_out hs rfl rfl hb50 rfl ?_
              clear hs a; intro a hs
              refine g_out hs rfl rfl hb50 rfl ?_
              clear hs a; intro a hs
              refine g_out hs rfl rfl hb50 rfl ?_
              clear hs a; intro a hs
              refine g_out hs rfl rfl hb50 rfl ?_
              clear hs a; intro a hs
              refine g_out hs rfl rfl hb50 rfl ?_
              clear hs a; intro a hs
              refine r_ok hs m (ok_pick (r := .bool (b3 && (decide ((k6 : Int) < (((planM leases host).F).length : Int))))) rfl rfl rfl (by rw [hb50]; rfl)) rfl ?_
              clear hs a; intro a hs
              exact wpList_nil (n_then ⟨hs.to ⟨rfl, rfl, rfl, rfl, rfl, rfl, rfl, rfl, rfl, rfl, rfl, rfl, trivial⟩, m⟩)
          clear hs m a w49; rintro a w51 ⟨hs, m⟩
          refine wpList_nil (n_then ?_)
          refine c_cond hs rfl (fun h52 => ?_) (fun h52 => ?_)
          rotate_left
          · have h52p := h52; simp only [Bool.or_eq_true, Bool.or_eq_false_iff, Bool.and_eq_true, Bool.and_eq_false_iff, Bool.not_eq_true', Bool.not_eq_false', decide_eq_true_eq, decide_eq_false_iff_not, beq_iff_eq, bne_iff_ne, beq_eq_false_iff_ne, bne_eq_false_iff_eq, ne_eq, gt_iff_lt, ge_iff_le, Int.not_lt, Int.not_le] at h52p
            refine wp_exit ?_
            refine ex_then (ex_then (ex_hit (?_)))
            refine n_block (n_then ?_)
            refine c_last ?_
            refine r_ok hs m (ok_move rfl) rfl ?_
            clear hs a; intro a hs
            refine r_ok hs m (ok_add (r := (k : Int) + 1) rfl rfl (wrap_i64 (by omega) (by omega))) rfl ?_
            clear hs a; intro a hs
            refine r_ok hs m (ok_assign rfl) rfl ?_
            clear hs a; intro a hs
            refine wpList_nil (n_then ?_)
            exact ⟨leases.length - (k + 1), by omega, k + 1, cr + 1, cn4, cf4, okk && (decide ((⟨e24.Subnet, e24.Subnet.Addr, e24.Host.v == host⟩ : TRoute) ∈ (planM leases host).R)), by omega, by (first | omega | (have hq1 := count_take_le (l := (planM leases host).N) (k := k5) (q := (⟨e24.Subnet.Addr, e24.MAC⟩ : TNeigh)); have hq2 := count_take_le (l := (planM leases host).F) (k := k6) (q := (⟨e24.MAC, e24.Pub⟩ : TFdb)); omega)), by first | exact hokk | (rw [hokk, Bool.true_and]; exact plan_routed (by assumption) (by assumption) hb1 (by omega) (by assumption) (by first | (rw [via_t (by assumption)]; done) | (rw [via_f (by assumption)]; done))), by first | (have hq := cntR_skip (l := leases) (k := k) (by assumption) (by assumption); omega) | (have hq := cntR_last (k := k) (by assumption) (by assumption) hb1 (by omega) (by assumption); omega) | (have hq := cntR_not (k := k) (by assumption) (by assumption) hb1 (by omega) (by assumption); omega), by first | (have hq := cntN_skip (host := host) (N := (planM leases host).N) (l := leases) (k := k) (by assumption) (by assumption); omega) | (have hq := cntN_round (k := k) (by assumption) (by assumption) hb2 (by omega) (by assumption) hz5 hc5; omega), by first | (have hq := cntF_skip (host := host) (F := (planM leases host).F) (l := leases) (k := k) (by assumption) (by assumption); omega) | (have hq := cntF_round (k := k) (by assumption) (by assumption) hb3 (by omega) (by assumption) hz6 hc6; omega), rfl, hs.to ⟨rfl, rfl, rfl, rfl, rfl, rfl, rfl, rfl, trivial⟩, m.sub (.c r0 (.c r1 (.c r1 (.c r1 .n))))⟩
          have h52p := h52; simp only [Bool.or_eq_true, Bool.or_eq_false_iff, Bool.and_eq_true, Bool.and_eq_false_iff, Bool.not_eq_true', Bool.not_eq_false', decide_eq_true_eq, decide_eq_false_iff_not, beq_iff_eq, bne_iff_ne, beq_eq_false_iff_ne, bne_eq_false_iff_eq, ne_eq, gt_iff_lt, ge_iff_le, Int.not_lt, Int.not_le] at h52p
          refine wp_skip ?_
          refine n_then ?_
          refine c_seq ?_
          refine wp_block ?_
          refine c_draw m mo (by kernel_rfl) ?_
          refine q_ok hs (ok_fieldAddr (r := 2) rfl fd29_2 ty27 rfl) rfl ?_
          clear hs a; intro a hs
          refine q_ok hs (ok_load_sc rfl ty27 (bx_at r0) rfl) rfl ?_
          clear hs a; intro a hs
          refine q_ok hs (ok_move rfl) rfl ?_
          clear hs a; intro a hs
          obtain ⟨e53, he54⟩ := get_of_lt (l := (planM leases host).F) (i := k6) (by omega)
          refine elO (c := cFdb) (e := e53) hs m (x := (.tmp 170)) (ix := (.tmp 171)) rfl rfl sl27 ty56 r4 (by omega) he54 fun p55 hp56 ok57 => ?_
          refine q_ok hs (ok57 _ _ _ _ _) rfl ?_
          clear hs a; intro a hs
          refine q_ok hs (ok_load_ag (vs := cFdb e53) rfl ty56 (el_at hp56 r4 (get_map _ he54)) rfl rfl) rfl ?_
          clear hs a; intro a hs
          refine q_ok hs (ok_fieldAddr (r := 4) rfl fd48_3 ty46 rfl) rfl ?_
          clear hs a; intro a hs
          refine q_ok hs (ok_load_ag (vs := cMAC e24.MAC) rfl ty46 (bx_at r1) rfl rfl) rfl ?_
          clear hs a; intro a hs
          refine q_ok hs (ok_fieldAddr (r := 3) rfl fd48_2 ty42 rfl) rfl ?_
          clear hs a; intro a hs
          refine q_ok hs (ok_load_sc rfl ty42 (bx_at r1) rfl) rfl ?_
          clear hs a; intro a hs
          refine q_ok hs (ok_build (cs := cFdb (⟨e24.MAC, e24.Pub⟩ : TFdb)) st56 ze56 rfl rfl) rfl ?_
          clear hs a; intro a hs
          refine q_ok hs (ok_eqv (b := decide (e53 = (⟨e24.MAC, e24.Pub⟩ : TFdb))) rfl rfl eqT56 (fFdb _) (fFdb _) (iFdb e53 (⟨e24.MAC, e24.Pub⟩ : TFdb))) rfl ?_
          clear hs a; intro a hs
          refine wpQuiet_nil ?_; clear m w51; intro w58 m
          refine c_cond hs rfl (fun h59 => ?_) (fun h59 => ?_)
          · have h59p := of_decide_eq_true h59
            refine c_last ?_
            refine r_ok hs m (ok_move rfl) rfl ?_
            clear hs a; intro a hs
            refine r_ok hs m (ok_add (r := cf4 + 1) rfl rfl (wrap_i64 (by omega) (by omega))) rfl ?_
            clear hs a; intro a hs
            refine r_ok hs m (ok_assign rfl) rfl ?_
            clear hs a; intro a hs
            refine wpList_nil (n_block (n_then ?_))
            refine c_last ?_
            refine r_ok hs m (ok_move rfl) rfl ?_
            clear hs a; intro a hs
            refine r_ok hs m (ok_add (r := (k6 : Int) + 1) rfl rfl (wrap_i64 (by omega) (by omega))) rfl ?_
            clear hs a; intro a hs
            refine r_ok hs m (ok_assign rfl) rfl ?_
            clear hs a; intro a hs
            refine wpList_nil (n_then ?_)
            exact ⟨(planM leases host).F.length - (k6 + 1), by omega, k6 + 1, cf4 + 1, by omega, by left; simp_all, by first | (rw [count_take_succ (by assumption), hc6]; simp [*]; done) | (rw [count_take_succ (by assumption), hc6]; simp [*]; omega), rfl, hs.to ⟨rfl, rfl, rfl, rfl, rfl, rfl, rfl, rfl, rfl, rfl, rfl, trivial⟩, m.sub (.c r0 (.c r0 (.c r0 (.c r0 (.c r0 .n)))))⟩
          have h59p := of_decide_eq_false h59
          refine wp_skip ?_
          refine n_block (n_then ?_)
          refine c_last ?_
          refine r_ok hs m (ok_move rfl) rfl ?_
          clear hs a; intro a hs
          refine r_ok hs m (ok_add (r := (k6 : Int) + 1) rfl rfl (wrap_i64 (by omega) (by omega))) rfl ?_
          clear hs a; intro a hs
          refine r_ok hs m (ok_assign rfl) rfl ?_
          clear hs a; intro a hs
          refine wpList_nil (n_then ?_)
          exact ⟨(planM leases host).F.length - (k6 + 1), by omega, k6 + 1, cf4, by omega, by left; simp_all, by first | (rw [count_take_succ (by assumption), hc6]; simp [*]; done) | (rw [count_take_succ (by assumption), hc6]; simp [*]; omega), rfl, hs.to ⟨rfl, rfl, rfl, rfl, rfl, rfl, rfl, rfl, rfl, rfl, rfl, trivial⟩, m.sub (.c r0 (.c r0 (.c r0 (.c r0 (.c r0 .n)))))⟩
        have h48p := h48; simp only [Bool.or_eq_true, Bool.or_eq_false_iff, Bool.and_eq_true, Bool.and_eq_false_iff, Bool.not_eq_true', Bool.not_eq_false', decide_eq_true_eq, decide_eq_false_iff_not, beq_iff_eq, bne_iff_ne, beq_eq_false_iff_ne, bne_eq_false_iff_eq, ne_eq, gt_iff_lt, ge_iff_le, Int.not_lt, Int.not_le] at h48p
        refine wp_skip ?_
        refine n_then ?_
        refine c_seq ?_
        refine wp_block ?_
        refine c_draw m mo (by kernel_rfl) ?_
        refine q_ok hs (ok_fieldAddr (r := 1) rfl fd29_1 ty26 rfl) rfl ?_
        clear hs a; intro a hs
        refine q_ok hs (ok_load_sc rfl ty26 (bx_at r0) rfl) rfl ?_
        clear hs a; intro a hs
        refine q_ok hs (ok_move rfl) rfl ?_
        clear hs a; intro a hs
        obtain ⟨e60, he61⟩ := get_of_lt (l := (planM leases host).N) (i := k5) (by omega)
        refine elO (c := cNeigh) (e := e60) hs m (x := (.tmp 146)) (ix := (.tmp 147)) rfl rfl sl26 ty54 r3 (by omega) he61 fun p62 hp63 ok64 => ?_
        refine q_ok hs (ok64 _ _ _ _ _) rfl ?_
        clear hs a; intro a hs
        refine q_ok hs (ok_load_ag (vs := cNeigh e60) rfl ty54 (el_at hp63 r3 (get_map _ he61)) rfl rfl) rfl ?_
        clear hs a; intro a hs
        refine q_ok hs (ok_fieldAddr (r := 1) rfl fd48_1 ty44 rfl) rfl ?_
        clear hs a; intro a hs
        refine q_ok hs (ok_fieldAddr (r := 1) rfl fd44_0 ty42 rfl) rfl ?_
        clear hs a; intro a hs
        refine q_ok hs (ok_load_sc rfl ty42 (bx_at r1) rfl) rfl ?_
        clear hs a; intro a hs
        refine q_ok hs (ok_fieldAddr (r := 4) rfl fd48_3 ty46 rfl) rfl ?_
        clear hs a; intro a hs
        refine q_ok hs (ok_load_ag (vs := cMAC e24.MAC) rfl ty46 (bx_at r1) rfl rfl) rfl ?_
        clear hs a; intro a hs
        refine q_ok hs (ok_build (cs := cNeigh (⟨e24.Subnet.Addr, e24.MAC⟩ : TNeigh)) st54 ze54 rfl rfl) rfl ?_
        clear hs a; intro a hs
        refine q_ok hs (ok_eqv (b := decide (e60 = (⟨e24.Subnet.Addr, e24.MAC⟩ : TNeigh))) rfl rfl eqT54 (fNeigh _) (fNeigh _) (iNeigh e60 (⟨e24.Subnet.Addr, e24.MAC⟩ : TNeigh))) rfl ?_
        clear hs a; intro a hs
        refine wpQuiet_nil ?_; clear m w47; intro w65 m
        refine c_cond hs rfl (fun h66 => ?_) (fun h66 => ?_)
        · have h66p := of_decide_eq_true h66
          refine c_last ?_
          refine r_ok hs m (ok_move rfl) rfl ?_
          clear hs a; intro a hs
          refine r_ok hs m (ok_add (r := cn4 + 1) rfl rfl (wrap_i64 (by omega) (by omega))) rfl ?_
          clear hs a; intro a hs
          refine r_ok hs m (ok_assign rfl) rfl ?_
          clear hs a; intro a hs
          refine wpList_nil (n_block (n_then ?_))
          refine c_last ?_
          refine r_ok hs m (ok_move rfl) rfl ?_
          clear hs a; intro a hs
          refine r_ok hs m (ok_add (r := (k5 : Int) + 1) rfl rfl (wrap_i64 (by omega) (by omega))) rfl ?_
          clear hs a; intro a hs
          refine r_ok hs m (ok_assign rfl) rfl ?_
          clear hs a; intro a hs
          refine wpList_nil (n_then ?_)
          exact ⟨(planM leases host).N.length - (k5 + 1), by omega, k5 + 1, cn4 + 1, by omega, by left; simp_all, by first | (rw [count_take_succ (by assumption), hc5]; simp [*]; done) | (rw [count_take_succ (by assumption), hc5]; simp [*]; omega), rfl, hs.to ⟨rfl, rfl, rfl, rfl, rfl, rfl, rfl, rfl, rfl, rfl, rfl, rfl, trivial⟩, m.sub (.c r0 (.c r0 (.c r0 (.c r0 (.c r0 .n)))))⟩
        have h66p := of_decide_eq_false h66
        refine wp_skip ?_
        refine n_block (n_then ?_)
        refine c_last ?_
        refine r_ok hs m (ok_move rfl) rfl ?_
        clear hs a; intro a hs
        refine r_ok hs m (ok_add (r := (k5 : Int) + 1) rfl rfl (wrap_i64 (by omega) (by omega))) rfl ?_
        clear hs a; intro a hs
        refine r_ok hs m (ok_assign rfl) rfl ?_
        clear hs a; intro a hs
        refine wpList_nil (n_then ?_)
        exact ⟨(planM leases host).N.length - (k5 + 1), by omega, k5 + 1, cn4, by omega, by left; simp_all, by first | (rw [count_take_succ (by assumption), hc5]; simp [*]; done) | (rw [count_take_succ (by assumption), hc5]; simp [*]; omega), rfl, hs.to ⟨rfl, rfl, rfl, rfl, rfl, rfl, rfl, rfl, rfl, rfl, rfl, rfl, trivial⟩, m.sub (.c r0 (.c r0 (.c r0 (.c r0 (.c r0 .n)))))⟩
      refine wp_skip ?_
      refine n_then ?_
      refine c_seq ?_
      refine c_reg ?_
      refine r_ok hs m (ok_assign rfl) rfl ?_
      clear hs a; intro a hs
      refine wpList_nil (n_then ?_)
      refine wp_block ?_
      refine wp_loop_ghost (fun gn a w => ∃ k5 : Nat, ∃ cn4 : Int, (k5 ≤ (planM leases host).N.length) ∧ (b2 = true ∨ k5 = 0) ∧ (cn4 = cn + (((planM leases host).N.take k5).count (⟨e24.Subnet.Addr, e24.MAC⟩ : TNeigh) : Int)) ∧ gn = (planM leases host).N.length - k5 ∧ St 204 [(0, vleases.v), (1, .int .i64 host), (5, .bool okk), (6, .pointer (some (padd p7 0))), (7, .int .i64 cr), (8, .int .i64 cn4), (9, .int .i64 cf), (10, .int .i64 (k : Int)), (11, .pointer (some (padd p29 0))), (13, .bool b2), (14, .bool b3), (18, .int .i64 (k5 : Int))] a ∧ Hp w0 (hh w0) [Bx p7 29 [v3.v, v4.v, v5.v], Bx p29 48 (cLease e24), Sv 4 51 v3.v (((planM leases host).R).map cRoute), Sv 7 54 v4.v (((planM leases host).N).map cNeigh), Sv 7 56 v5.v (((planM leases host).F).map cFdb)] w) ((planM leases host).N.length - 0) ⟨0, cn, by omega, by right; rfl, by simp, rfl, hs.to ⟨rfl, rfl, rfl, rfl, rfl, rfl, rfl, rfl, rfl, rfl, rfl, rfl, trivial⟩, m.sub (.c r1 (.c r1 (.c r1 (.c r1 (.c r1 .n)))))⟩ ?_
      clear hs m a w40
      rintro gn a w67 ⟨k5, cn4, hk5, hz5, hc5, rfl, hs, m⟩
      have hq := count_take_le (l := (planM leases host).N) (k := k5) (q := (⟨e24.Subnet.Addr, e24.MAC⟩ : TNeigh))
      refine c_seq ?_
      refine c_reg ?_
      refine r_ok hs m (ok_move rfl) rfl ?_
      clear hs a; intro a hs
      refine r_ok hs m (ok_move rfl) rfl ?_
      clear hs a; intro a hs
      refine l_cut (.c (.c (.c (.c (.c (.c (.n))))))) (fun a w => St 204 [(0, vleases.v), (1, .int .i64 host), (5, .bool okk), (6, .pointer (some (padd p7 0))), (7, .int .i64 cr), (8, .int .i64 cn4), (9, .int .i64 cf), (10, .int .i64 (k : Int)), (11, .pointer (some (padd p29 0))), (13, .bool b2), (14, .bool b3), (18, .int .i64 (k5 : Int)), (142, .bool (b2 && (decide ((k5 : Int) < (((planM leases host).N).length : Int)))))] a ∧ Hp w0 (hh w0) [Bx p7 29 [v3.v, v4.v, v5.v], Bx p29 48 (cLease e24), Sv 4 51 v3.v (((planM leases host).R).map cRoute), Sv 7 54 v4.v (((planM leases host).N).map cNeigh), Sv 7 56 v5.v (((planM leases host).F).map cFdb)] w) ?_ ?_
      · rcases Bool.eq_false_or_eq_true b2 with hb68 | hb68
        · refine r_okg hs rfl rfl hb68 m (ok_move rfl) rfl ?_
          clear hs a; intro a hs
          refine r_okg hs rfl rfl hb68 m (ok_fieldAddr (r := 1) rfl fd29_1 ty26 rfl) rfl ?_
          clear hs a; intro a hs
          refine r_okg hs rfl rfl hb68 m (ok_load_sc rfl ty26 (bx_at r0) rfl) rfl ?_
          clear hs a; intro a hs
          refine r_okg hs rfl rfl hb68 m (ok_len (r := (((planM leases host).N).length : Int)) m rfl sl26 (rc_own r3) (by simp)) rfl ?_
          clear hs a; intro a hs
          refine r_okg hs rfl rfl hb68 m (ok_bin rfl rfl rfl) rfl ?_
          clear hs a; intro a hs
          refine r_ok hs m (ok_pick (r := .bool (b2 && (decide ((k5 : Int) < (((planM leases host).N).length : Int))))) rfl rfl rfl (by rw [hb68]; rfl)) rfl ?_
          clear hs a; intro a hs
          exact wpList_nil (n_then ⟨hs.to ⟨rfl, rfl, rfl, rfl, rfl, rfl, rfl, rfl, rfl, rfl, rfl, rfl, rfl, trivial⟩, m⟩)
        · refine g_out hs rfl rfl hb68 rfl ?_
          clear hs a; intro a hs
          refine g_out hs rfl rfl hb68 rfl ?_
          clear hs a; intro a hs
          refine g_out hs rfl rfl hb68 rfl ?_
          clear hs a; intro a hs
          refine g_out hs rfl rfl hb68 rfl ?_
          clear hs a; intro a hs
          refine g_out hs rfl rfl hb68 rfl ?_
          clear hs a; intro a hs
          refine r_ok hs m (ok_pick (r := .bool (b2 && (decide ((k5 : Int) < (((planM leases host).N).length : Int))))) rfl rfl rfl (by rw [hb68]; rfl)) rfl ?_
          clear hs a; intro a hs
          exact wpList_nil (n_then ⟨hs.to ⟨rfl, rfl, rfl, rfl, rfl, rfl, rfl, rfl, rfl, rfl, rfl, rfl, rfl, trivial⟩, m⟩)
      clear hs m a w67; rintro a w69 ⟨hs, m⟩
      refine wpList_nil (n_then ?_)
      refine c_cond hs rfl (fun h70 => ?_) (fun h70 => ?_)
      rotate_left
      · have h70p := h70; simp only [Bool.or_eq_true, Bool.or_eq_false_iff, Bool.and_eq_true, Bool.and_eq_false_iff, Bool.not_eq_true', Bool.not_eq_false', decide_eq_true_eq, decide_eq_false_iff_not, beq_iff_eq, bne_iff_ne, beq_eq_false_iff_ne, bne_eq_false_iff_eq, ne_eq, gt_iff_lt, ge_iff_le, Int.not_lt, Int.not_le] at h70p
        refine wp_exit ?_
        refine ex_then (ex_then (ex_hit (?_)))
        refine n_then ?_
        refine c_reg ?_
        refine r_ok hs m (ok_assign rfl) rfl ?_
        clear hs a; intro a hs
        refine wpList_nil (n_then ?_)
        refine wp_block ?_
        refine wp_loop_ghost (fun gn a w => ∃ k6 : Nat, ∃ cf4 : Int, (k6 ≤ (planM leases host).F.length) ∧ (b3 = true ∨ k6 = 0) ∧ (cf4 = cf + (((planM leases host).F.take k6).count (⟨e24.MAC, e24.Pub⟩ : TFdb) : Int)) ∧ gn = (planM leases host).F.length - k6 ∧ St 204 [(0, vleases.v), (1, .int .i64 host), (5, .bool okk), (6, .pointer (some (padd p7 0))), (7, .int .i64 cr), (8, .int .i64 cn4), (9, .int .i64 cf4), (10, .int .i64 (k : Int)), (11, .pointer (some (padd p29 0))), (14, .bool b3), (19, .int .i64 (k6 : Int))] a ∧ Hp w0 (hh w0) [Bx p7 29 [v3.v, v4.v, v5.v], Bx p29 48 (cLease e24), Sv 4 51 v3.v (((planM leases host).R).map cRoute), Sv 7 54 v4.v (((planM leases host).N).map cNeigh), Sv 7 56 v5.v (((planM leases host).F).map cFdb)] w) ((planM leases host).F.length - 0) ⟨0, cf, by omega, by right; rfl, by simp, rfl, hs.to ⟨rfl, rfl, rfl, rfl, rfl, rfl, rfl, rfl, rfl, rfl, rfl, trivial⟩, m.sub (.c r0 (.c r0 (.c r0 (.c r0 (.c r0 .n)))))⟩ ?_
        clear hs m a w69
        rintro gn a w71 ⟨k6, cf4, hk6, hz6, hc6, rfl, hs, m⟩
        have hq := count_take_le (l := (planM leases host).F) (k := k6) (q := (⟨e24.MAC, e24.Pub⟩ : TFdb))
        refine c_seq ?_
        refine c_reg ?_
        refine r_ok hs m (ok_move rfl) rfl ?_
        clear hs a; intro a hs
        refine r_ok hs m (ok_move rfl) rfl ?_
        clear hs a; intro a hs
        refine l_cut (.c (.c (.c (.c (.c (.c (.n))))))) (fun a w => St 204 [(0, vleases.v), (1, .int .i64 host), (5, .bool okk), (6, .pointer (some (padd p7 0))), (7, .int .i64 cr), (8, .int .i64 cn4), (9, .int .i64 cf4), (10, .int .i64 (k : Int)), (11, .pointer (some (padd p29 0))), (14, .bool b3), (19, .int .i64 (k6 : Int)), (166, .bool (b3 && (decide ((k6 : Int) < (((planM leases host).F).length : Int)))))] a ∧ Hp w0 (hh w0) [Bx p7 29 [v3.v, v4.v, v5.v], Bx p29 48 (cLease e24), Sv 4 51 v3.v (((planM leases host).R).map cRoute), Sv 7 54 v4.v (((planM leases host).N).map cNeigh), Sv 7 56 v5.v (((planM leases host).F).map cFdb)] w) ?_ ?_
        · rcases Bool.eq_false_or_eq_true b3 with hb72 | hb72
          · refine r_okg hs rfl rfl hb72 m (ok_move rfl) rfl ?_
            clear hs a; intro a hs
            refine r_okg hs rfl rfl hb72 m (ok_fieldAddr (r := 2) rfl fd29_2 ty27 rfl) rfl ?_
            clear hs a; intro a hs
            refine r_okg hs rfl rfl hb72 m (ok_load_sc rfl ty27 (bx_at r0) rfl) rfl ?_
            clear hs a; intro a hs
            refine r_okg hs rfl rfl hb72 m (ok_len (r := (((planM leases host).F).length : Int)) m rfl sl27 (rc_own r4) (by simp)) rfl ?_
            clear hs a; intro a hs
            refine r_okg hs rfl rfl hb72 m (ok_bin rfl rfl rfl) rfl ?_
            clear hs a; intro a hs
            refine r_ok hs m (ok_pick (r := .bool (b3 && (decide ((k6 : Int) < (((planM leases host).F).length : Int))))) rfl rfl rfl (by rw [hb72]; rfl)) rfl ?_
            clear hs a; intro a hs
            exact wpList_nil (n_then ⟨hs.to ⟨rfl, rfl, rfl, rfl, rfl, rfl, rfl, rfl, rfl, rfl, rfl, rfl, trivial⟩, m⟩)
          · refine g_out hs rfl rfl hb72 rfl ?_
            clear hs a; intro a hs
            refine g_out hs rfl rfl hb72 rfl ?_
            clear hs a; intro a hs
            refine g_out hs rfl rfl hb72 rfl ?_
            clear hs a; intro a hs
            refine g_out hs rfl rfl hb72 rfl ?_
            clear hs a; intro a hs
            refine g_out hs rfl rfl hb72 rfl ?_
            clear hs a; intro a hs
            refine r_ok hs m (ok_pick (r := .bool (b3 && (decide ((k6 : Int) < (((planM leases host).F).length : Int))))) rfl rfl rfl (by rw [hb72]; rfl)) rfl ?_
            clear hs a; intro a hs
            exact wpList_nil (n_then ⟨hs.to ⟨rfl, rfl, rfl, rfl, rfl, rfl, rfl, rfl, rfl, rfl, rfl, rfl, trivial⟩, m⟩)
        clear hs m a w71; rintro a w73 ⟨hs, m⟩
        refine wpList_nil (n_then ?_)
        refine c_cond hs rfl (fun h74 => ?_) (fun h74 => ?_)
        rotate_left
        · have h74p := h74; simp only [Bool.or_eq_true, Bool.or_eq_false_iff, Bool.and_eq_true, Bool.and_eq_false_iff, Bool.not_eq_true', Bool.not_eq_false', decide_eq_true_eq, decide_eq_false_iff_not, beq_iff_eq, bne_iff_ne, beq_eq_false_iff_ne, bne_eq_false_iff_eq, ne_eq, gt_iff_lt, ge_iff_le, Int.not_lt, Int.not_le] at h74p
          refine wp_exit ?_
          refine ex_then (ex_then (ex_hit (?_)))
          refine n_block (n_then ?_)
          refine c_last ?_
          refine r_ok hs m (ok_move rfl) rfl ?_
          clear hs a; intro a hs
          refine r_ok hs m (ok_add (r := (k : Int) + 1) rfl rfl (wrap_i64 (by omega) (by omega))) rfl ?_
          clear hs a; intro a hs
          refine r_ok hs m (ok_assign rfl) rfl ?_
          clear hs a; intro a hs
          refine wpList_nil (n_then ?_)
          exact ⟨leases.length - (k + 1), by omega, k + 1, cr, cn4, cf4, okk, by omega, by (first | omega | (have hq1 := count_take_le (l := (planM leases host).N) (k := k5) (q := (⟨e24.Subnet.Addr, e24.MAC⟩ : TNeigh)); have hq2 := count_take_le (l := (planM leases host).F) (k := k6) (q := (⟨e24.MAC, e24.Pub⟩ : TFdb)); omega)), by first | exact hokk | (rw [hokk, Bool.true_and]; exact plan_routed (by assumption) (by assumption) hb1 (by omega) (by assumption) (by first | (rw [via_t (by assumption)]; done) | (rw [via_f (by assumption)]; done))), by first | (have hq := cntR_skip (l := leases) (k := k) (by assumption) (by assumption); omega) | (have hq := cntR_last (k := k) (by assumption) (by assumption) hb1 (by omega) (by assumption); omega) | (have hq := cntR_not (k := k) (by assumption) (by assumption) hb1 (by omega) (by assumption); omega), by first | (have hq := cntN_skip (host := host) (N := (planM leases host).N) (l := leases) (k := k) (by assumption) (by assumption); omega) | (have hq := cntN_round (k := k) (by assumption) (by assumption) hb2 (by omega) (by assumption) hz5 hc5; omega), by first | (have hq := cntF_skip (host := host) (F := (planM leases host).F) (l := leases) (k := k) (by assumption) (by assumption); omega) | (have hq := cntF_round (k := k) (by assumption) (by assumption) hb3 (by omega) (by assumption) hz6 hc6; omega), rfl, hs.to ⟨rfl, rfl, rfl, rfl, rfl, rfl, rfl, rfl, trivial⟩, m.sub (.c r0 (.c r1 (.c r1 (.c r1 .n))))⟩
        have h74p := h74; simp only [Bool.or_eq_true, Bool.or_eq_false_iff, Bool.and_eq_true, Bool.and_eq_false_iff, Bool.not_eq_true', Bool.not_eq_false', decide_eq_true_eq, decide_eq_false_iff_not, beq_iff_eq, bne_iff_ne, beq_eq_false_iff_ne, bne_eq_false_iff_eq, ne_eq, gt_iff_lt, ge_iff_le, Int.not_lt, Int.not_le] at h74p
        refine wp_skip ?_
        refine n_then ?_
        refine c_seq ?_
        refine wp_block ?_
        refine c_draw m mo (by kernel_rfl) ?_
        refine q_ok hs (ok_fieldAddr (r := 2) rfl fd29_2 ty27 rfl) rfl ?_
        clear hs a; intro a hs
        refine q_ok hs (ok_load_sc rfl ty27 (bx_at r0) rfl) rfl ?_
        clear hs a; intro a hs
        refine q_ok hs (ok_move rfl) rfl ?_
        clear hs a; intro a hs
        obtain ⟨e75, he76⟩ := get_of_lt (l := (planM leases host).F) (i := k6) (by omega)
        refine elO (c := cFdb) (e := e75) hs m (x := (.tmp 170)) (ix := (.tmp 171)) rfl rfl sl27 ty56 r4 (by omega) he76 fun p77 hp78 ok79 => ?_
        refine q_ok hs (ok79 _ _ _ _ _) rfl ?_
        clear hs a; intro a hs
        refine q_ok hs (ok_load_ag (vs := cFdb e75) rfl ty56 (el_at hp78 r4 (get_map _ he76)) rfl rfl) rfl ?_
        clear hs a; intro a hs
        refine q_ok hs (ok_fieldAddr (r := 4) rfl fd48_3 ty46 rfl) rfl ?_
        clear hs a; intro a hs
        refine q_ok hs (ok_load_ag (vs := cMAC e24.MAC) rfl ty46 (bx_at r1) rfl rfl) rfl ?_
        clear hs a; intro a hs
        refine q_ok hs (ok_fieldAddr (r := 3) rfl fd48_2 ty42 rfl) rfl ?_
        clear hs a; intro a hs
        refine q_ok hs (ok_load_sc rfl ty42 (bx_at r1) rfl) rfl ?_
        clear hs a; intro a hs
        refine q_ok hs (ok_build (cs := cFdb (⟨e24.MAC, e24.Pub⟩ : TFdb)) st56 ze56 rfl rfl) rfl ?_
        clear hs a; intro a hs
        refine q_ok hs (ok_eqv (b := decide (e75 = (⟨e24.MAC, e24.Pub⟩ : TFdb))) rfl rfl eqT56 (fFdb _) (fFdb _) (iFdb e75 (⟨e24.MAC, e24.Pub⟩ : TFdb))) rfl ?_
        clear hs a; intro a hs
        refine wpQuiet_nil ?_; clear m w73; intro w80 m
        refine c_cond hs rfl (fun h81 => ?_) (fun h81 => ?_)
        · have h81p := of_decide_eq_true h81
          refine c_last ?_
          refine r_ok hs m (ok_move rfl) rfl ?_
          clear hs a; intro a hs
          refine r_ok hs m (ok_add (r := cf4 + 1) rfl rfl (wrap_i64 (by omega) (by omega))) rfl ?_
          clear hs a; intro a hs
          refine r_ok hs m (ok_assign rfl) rfl ?_
          clear hs a; intro a hs
          refine wpList_nil (n_block (n_then ?_))
          refine c_last ?_
          refine r_ok hs m (ok_move rfl) rfl ?_
          clear hs a; intro a hs
          refine r_ok hs m (ok_add (r := (k6 : Int) + 1) rfl rfl (wrap_i64 (by omega) (by omega))) rfl ?_
          clear hs a; intro a hs
          refine r_ok hs m (ok_assign rfl) rfl ?_
          clear hs a; intro a hs
          refine wpList_nil (n_then ?_)
          exact ⟨(planM leases host).F.length - (k6 + 1), by omega, k6 + 1, cf4 + 1, by omega, by left; simp_all, by first | (rw [count_take_succ (by assumption), hc6]; simp [*]; done) | (rw [count_take_succ (by assumption), hc6]; simp [*]; omega), rfl, hs.to ⟨rfl, rfl, rfl, rfl, rfl, rfl, rfl, rfl, rfl, rfl, rfl, trivial⟩, m.sub (.c r0 (.c r0 (.c r0 (.c r0 (.c r0 .n)))))⟩
        have h81p := of_decide_eq_false h81
        refine wp_skip ?_
        refine n_block (n_then ?_)
        refine c_last ?_
        refine r_ok hs m (ok_move rfl) rfl ?_
        clear hs a; intro a hs
        refine r_ok hs m (ok_add (r := (k6 : Int) + 1) rfl rfl (wrap_i64 (by omega) (by omega))) rfl ?_
        clear hs a; intro a hs
        refine r_ok hs m (ok_assign rfl) rfl ?_
        clear hs a; intro a hs
        refine wpList_nil (n_then ?_)
        exact ⟨(planM leases host).F.length - (k6 + 1), by omega, k6 + 1, cf4, by omega, by left; simp_all, by first | (rw [count_take_succ (by assumption), hc6]; simp [*]; done) | (rw [count_take_succ (by assumption), hc6]; simp [*]; omega), rfl, hs.to ⟨rfl, rfl, rfl, rfl, rfl, rfl, rfl, rfl, rfl, rfl, rfl, trivial⟩, m.sub (.c r0 (.c r0 (.c r0 (.c r0 (.c r0 .n)))))⟩
      have h70p := h70; simp only [Bool.or_eq_true, Bool.or_eq_false_iff, Bool.and_eq_true, Bool.and_eq_false_iff, Bool.not_eq_true', Bool.not_eq_false', decide_eq_true_eq, decide_eq_false_iff_not, beq_iff_eq, bne_iff_ne, beq_eq_false_iff_ne, bne_eq_false_iff_eq, ne_eq, gt_iff_lt, ge_iff_le, Int.not_lt, Int.not_le] at h70p
      refine wp_skip ?_
      refine n_then ?_
      refine c_seq ?_
      refine wp_block ?_
      refine c_draw m mo (by kernel_rfl) ?_
      refine q_ok hs (ok_fieldAddr (r := 1) rfl fd29_1 ty26 rfl) rfl ?_
      clear hs a; intro a hs
      refine q_ok hs (ok_load_sc rfl ty26 (bx_at r0) rfl) rfl ?_
      clear hs a; intro a hs
      refine q_ok hs (ok_move rfl) rfl ?_
      clear hs a; intro a hs
      obtain ⟨e82, he83⟩ := get_of_lt (l := (planM leases host).N) (i := k5) (by omega)
      refine elO (c := cNeigh) (e := e82) hs m (x := (.tmp 146)) (ix := (.tmp 147)) rfl rfl sl26 ty54 r3 (by omega) he83 fun p84 hp85 ok86 => ?_
      refine q_ok hs (ok86 _ _ _ _ _) rfl ?_
      clear hs a; intro a hs
      refine q_ok hs (ok_load_ag (vs := cNeigh e82) rfl ty54 (el_at hp85 r3 (get_map _ he83)) rfl rfl) rfl ?_
      clear hs a; intro a hs
      refine q_ok hs (ok_fieldAddr (r := 1) rfl fd48_1 ty44 rfl) rfl ?_
      clear hs a; intro a hs
      refine q_ok hs (ok_fieldAddr (r := 1) rfl fd44_0 ty42 rfl) rfl ?_
      clear hs a; intro a hs
      refine q_ok hs (ok_load_sc rfl ty42 (bx_at r1) rfl) rfl ?_
      clear hs a; intro a hs
      refine q_ok hs (ok_fieldAddr (r := 4) rfl fd48_3 ty46 rfl) rfl ?_
      clear hs a; intro a hs
      refine q_ok hs (ok_load_ag (vs := cMAC e24.MAC) rfl ty46 (bx_at r1) rfl rfl) rfl ?_
      clear hs a; intro a hs
      refine q_ok hs (ok_build (cs := cNeigh (⟨e24.Subnet.Addr, e24.MAC⟩ : TNeigh)) st54 ze54 rfl rfl) rfl ?_
      clear hs a; intro a hs
      refine q_ok hs (ok_eqv (b := decide (e82 = (⟨e24.Subnet.Addr, e24.MAC⟩ : TNeigh))) rfl rfl eqT54 (fNeigh _) (fNeigh _) (iNeigh e82 (⟨e24.Subnet.Addr, e24.MAC⟩ : TNeigh))) rfl ?_
      clear hs a; intro a hs
      refine wpQuiet_nil ?_; clear m w69; intro w87 m
      refine c_cond hs rfl (fun h88 => ?_) (fun h88 => ?_)
      · have h88p := of_decide_eq_true h88
        refine c_last ?_
        refine r_ok hs m (ok_move rfl) rfl ?_
        clear hs a; intro a hs
        refine r_ok hs m (ok_add (r := cn4 + 1) rfl rfl (wrap_i64 (by omega) (by omega))) rfl ?_
        clear hs a; intro a hs
        refine r_ok hs m (ok_assign rfl) rfl ?_
        clear hs a; intro a hs
        refine wpList_nil (n_block (n_then ?_))
        refine c_last ?_
        refine r_ok hs m (ok_move rfl) rfl ?_
        clear hs a; intro a hs
        refine r_ok hs m (ok_add (r := (k5 : Int) + 1) rfl rfl (wrap_i64 (by omega) (by omega))) rfl ?_
        clear hs a; intro a hs
        refine r_ok hs m (ok_assign rfl) rfl ?_
        clear hs a; intro a hs
        refine wpList_nil (n_then ?_)
        exact ⟨(planM leases host).N.length - (k5 + 1), by omega, k5 + 1, cn4 + 1, by omega, by left; simp_all, by first | (rw [count_take_succ (by assumption), hc5]; simp [*]; done) | (rw [count_take_succ (by assumption), hc5]; simp [*]; omega), rfl, hs.to ⟨rfl, rfl, rfl, rfl, rfl, rfl, rfl, rfl, rfl, rfl, rfl, rfl, trivial⟩, m.sub (.c r0 (.c r0 (.c r0 (.c r0 (.c r0 .n)))))⟩
      have h88p := of_decide_eq_false h88
      refine wp_skip ?_
      refine n_block (n_then ?_)
      refine c_last ?_
      refine r_ok hs m (ok_move rfl) rfl ?_
      clear hs a; intro a hs
      refine r_ok hs m (ok_add (r := (k5 : Int) + 1) rfl rfl (wrap_i64 (by omega) (by omega))) rfl ?_
      clear hs a; intro a hs
      refine r_ok hs m (ok_assign rfl) rfl ?_
      clear hs a; intro a hs
      refine wpList_nil (n_then ?_)
      exact ⟨(planM leases host).N.length - (k5 + 1), by omega, k5 + 1, cn4, by omega, by left; simp_all, by first | (rw [count_take_succ (by assumption), hc5]; simp [*]; done) | (rw [count_take_succ (by assumption), hc5]; simp [*]; omega), rfl, hs.to ⟨rfl, rfl, rfl, rfl, rfl, rfl, rfl, rfl, rfl, rfl, rfl, rfl, trivial⟩, m.sub (.c r0 (.c r0 (.c r0 (.c r0 (.c r0 .n)))))⟩
    have h39p := eq_of_bne_false h39
    refine wp_skip ?_
    refine n_then ?_
    refine c_seq ?_
    refine c_reg ?_
    refine r_ok hs m (ok_move rfl) rfl ?_
    clear hs a; intro a hs
    refine wpList_nil (n_then ?_)
    refine c_cond hs rfl (fun h89 => ?_) (fun h89 => ?_)
    · refine c_reg ?_
      refine r_ok hs m (ok_move rfl) rfl ?_
      clear hs a; intro a hs
      refine r_ok hs m (ok_add (r := cr + 1) rfl rfl (wrap_i64 (by omega) (by omega))) rfl ?_
      clear hs a; intro a hs
      refine r_ok hs m (ok_assign rfl) rfl ?_
      clear hs a; intro a hs
      refine wpList_nil (n_then ?_)
      refine c_last ?_
      refine r_ok hs m (ok_move rfl) rfl ?_
      clear hs a; intro a hs
      refine r_ok hs m (ok_move rfl) rfl ?_
      clear hs a; intro a hs
      refine l_cut (.c (.c (.c (.c (.c (.n)))))) (fun a w => St 204 [(0, vleases.v), (1, .int .i64 host), (6, .pointer (some (padd p7 0))), (7, .int .i64 (cr + 1)), (8, .int .i64 cn), (9, .int .i64 cf), (10, .int .i64 (k : Int)), (11, .pointer (some (padd p29 0))), (13, .bool b2), (14, .bool b3), (134, .bool (okk && (decide ((⟨e24.Subnet, ⟨0, rfl⟩, e24.Host.v == host⟩ : TRoute) ∈ (planM leases host).R))))] a ∧ Hp w0 (hh w0) [Bx p36 51 (cRoute (⟨e24.Subnet, ⟨0, rfl⟩, e24.Host.v == host⟩ : TRoute)), Bx p7 29 [v3.v, v4.v, v5.v], Bx p29 48 (cLease e24), Sv 4 51 v3.v (((planM leases host).R).map cRoute), Sv 7 54 v4.v (((planM leases host).N).map cNeigh), Sv 7 56 v5.v (((planM leases host).F).map cFdb)] w) ?_ ?_
      · rcases Bool.eq_false_or_eq_true okk with hb90 | hb90
        · refine r_okg hs rfl rfl hb90 m (ok_fieldAddr (r := 0) rfl fd29_0 ty25 rfl) rfl ?_
          clear hs a; intro a hs
          refine r_okg hs rfl rfl hb90 m (ok_load_sc rfl ty25 (bx_at r1) rfl) rfl ?_
          clear hs a; intro a hs
          refine r_okg hs rfl rfl hb90 m (ok_load_ag (vs := cRoute (⟨e24.Subnet, ⟨0, rfl⟩, e24.Host.v == host⟩ : TRoute)) rfl ty51 (bx_at r0) rfl rfl) rfl ?_
          clear hs a; intro a hs
          refine r_callPg hs rfl rfl hb90 m rfl rfl ca24 rfl (routed_c v3 ((planM leases host).R) (⟨e24.Subnet, ⟨0, rfl⟩, e24.Host.v == host⟩ : TRoute) _ (m.rdv r3) ) rfl ?_
          clear m hs a w38; intro w91 m a hs
          refine r_ok hs m (ok_pick (r := .bool (okk && (decide ((⟨e24.Subnet, ⟨0, rfl⟩, e24.Host.v == host⟩ : TRoute) ∈ (planM leases host).R)))) rfl rfl rfl (by rw [hb90]; rfl)) rfl ?_
          clear hs a; intro a hs
          exact wpList_nil (n_then ⟨hs.to ⟨rfl, rfl, rfl, rfl, rfl, rfl, rfl, rfl, rfl, rfl, rfl, trivial⟩, m⟩)
        · refine g_out hs rfl rfl hb90 rfl ?_
          clear hs a; intro a hs
          refine g_out hs rfl rfl hb90 rfl ?_
          clear hs a; intro a hs
          refine g_out hs rfl rfl hb90 rfl ?_
          clear hs a; intro a hs
          refine g_out hs rfl rfl hb90 rfl ?_
          clear hs a; intro a hs
          refine r_ok hs m (ok_pick (r := .bool (okk && (decide ((⟨e24.Subnet, ⟨0, rfl⟩, e24.Host.v == host⟩ : TRoute) ∈ (planM leases host).R)))) rfl rfl rfl (by rw [hb90]; rfl)) rfl ?_
          clear hs a; intro a hs
          exact wpList_nil (n_then ⟨hs.to ⟨rfl, rfl, rfl, rfl, rfl, rfl, rfl, rfl, rfl, rfl, rfl, trivial⟩, m⟩)
      clear hs m a w38; rintro a w92 ⟨hs, m⟩
      refine r_ok hs m (ok_assign rfl) rfl ?_
      clear hs a; intro a hs
      refine wpList_nil (n_then ?_)
      refine c_seq ?_
      refine c_reg ?_
      refine r_ok hs m (ok_assign rfl) rfl ?_
      clear hs a; intro a hs
      refine wpList_nil (n_then ?_)
      refine wp_block ?_
      refine wp_loop_ghost (fun gn a w => ∃ k5 : Nat, ∃ cn4 : Int, (k5 ≤ (planM leases host).N.length) ∧ (b2 = true ∨ k5 = 0) ∧ (cn4 = cn + (((planM leases host).N.take k5).count (⟨e24.Subnet.Addr, e24.MAC⟩ : TNeigh) : Int)) ∧ gn = (planM leases host).N.length - k5 ∧ St 204 [(0, vleases.v), (1, .int .i64 host), (5, .bool (okk && (decide ((⟨e24.Subnet, ⟨0, rfl⟩, e24.Host.v == host⟩ : TRoute) ∈ (planM leases host).R)))), (6, .pointer (some (padd p7 0))), (7, .int .i64 (cr + 1)), (8, .int .i64 cn4), (9, .int .i64 cf), (10, .int .i64 (k : Int)), (11, .pointer (some (padd p29 0))), (13, .bool b2), (14, .bool b3), (18, .int .i64 (k5 : Int))] a ∧ Hp w0 (hh w0) [Bx p7 29 [v3.v, v4.v, v5.v], Bx p29 48 (cLease e24), Sv 4 51 v3.v (((planM leases host).R).map cRoute), Sv 7 54 v4.v (((planM leases host).N).map cNeigh), Sv 7 56 v5.v (((planM leases host).F).map cFdb)] w) ((planM leases host).N.length - 0) ⟨0, cn, by omega, by right; rfl, by simp, rfl, hs.to ⟨rfl, rfl, rfl, rfl, rfl, rfl, rfl, rfl, rfl, rfl, rfl, rfl, trivial⟩, m.sub (.c r1 (.c r1 (.c r1 (.c r1 (.c r1 .n)))))⟩ ?_
      clear hs m a w92
      rintro gn a w93 ⟨k5, cn4, hk5, hz5, hc5, rfl, hs, m⟩
      have hq := count_take_le (l := (planM leases host).N) (k := k5) (q := (⟨e24.Subnet.Addr, e24.MAC⟩ : TNeigh))
      refine c_seq ?_
      refine c_reg ?_
      refine r_ok hs m (ok_move rfl) rfl ?_
      clear hs a; intro a hs
      refine r_ok hs m (ok_move rfl) rfl ?_
      clear hs a; intro a hs
      refine l_cut (.c (.c (.c (.c (.c (.c (.n))))))) (fun a w => St 204 [(0, vleases.v), (1, .int .i64 host), (5, .bool (okk && (decide ((⟨e24.Subnet, ⟨0, rfl⟩, e24.Host.v == host⟩ : TRoute) ∈ (planM leases host).R)))), (6, .pointer (some (padd p7 0))), (7, .int .i64 (cr + 1)), (8, .int .i64 cn4), (9, .int .i64 cf), (10, .int .i64 (k : Int)), (11, .pointer (some (padd p29 0))), (13, .bool b2), (14, .bool b3), (18, .int .i64 (k5 : Int)), (142, .bool (b2 && (decide ((k5 : Int) < (((planM leases host).N).length : Int)))))] a ∧ Hp w0 (hh w0) [Bx p7 29 [v3.v, v4.v, v5.v], Bx p29 48 (cLease e24), Sv 4 51 v3.v (((planM leases host).R).map cRoute), Sv 7 54 v4.v (((planM leases host).N).map cNeigh), Sv 7 56 v5.v (((planM leases host).F).map cFdb)] w) ?_ ?_
      · rcases Bool.eq_false_or_eq_true b2 with hb94 | hb94
        · refine r_okg hs rfl rfl hb94 m (ok_move rfl) rfl ?_
          clear hs a; intro a hs
          refine r_okg hs rfl rfl hb94 m (ok_fieldAddr (r := 1) rfl fd29_1 ty26 rfl) rfl ?_
          clear hs a; intro a hs
          refine r_okg hs rfl rfl hb94 m (ok_load_sc rfl ty26 (bx_at r0) rfl) rfl ?_
          clear hs a; intro a hs
          refine r_okg hs rfl rfl hb94 m (ok_len (r := (((planM leases host).N).length : Int)) m rfl sl26 (rc_own r3) (by simp)) rfl ?_
          clear hs a; intro a hs
          refine r_okg hs rfl rfl hb94 m (ok_bin rfl rfl rfl) rfl ?_
          clear hs a; intro a hs
          refine r_ok hs m (ok_pick (r := .bool (b2 && (decide ((k5 : Int) < (((planM leases host).N).length : Int))))) rfl rfl rfl (by rw [hb94]; rfl)) rfl ?_
          clear hs a; intro a hs
          exact wpList_nil (n_then ⟨hs.to ⟨rfl, rfl, rfl, rfl, rfl, rfl, rfl, rfl, rfl, rfl, rfl, rfl, rfl, trivial⟩, m⟩)
        · refine g_out hs rfl rfl hb94 rfl ?_
          clear hs a; intro a hs
          refine g_out hs rfl rfl hb94 rfl ?_
          clear hs a; intro a hs
          refine g_out hs rfl rfl hb94 rfl ?_
          clear hs a; intro a hs
          refine g_out hs rfl rfl hb94 rfl ?_
          clear hs a; intro a hs
          refine g_out hs rfl rfl hb94 rfl ?_
          clear hs a; intro a hs
          refine r_ok hs m (ok_pick (r := .bool (b2 && (decide ((k5 : Int) < (((planM leases host).N).length : Int))))) rfl rfl rfl (by rw [hb94]; rfl)) rfl ?_
          clear hs a; intro a hs
          exact wpList_nil (n_then ⟨hs.to ⟨rfl, rfl, rfl, rfl, rfl, rfl, rfl, rfl, rfl, rfl, rfl, rfl, rfl, trivial⟩, m⟩)
      clear hs m a w93; rintro a w95 ⟨hs, m⟩
      refine wpList_nil (n_then ?_)
      refine c_cond hs rfl (fun h96 => ?_) (fun h96 => ?_)
      rotate_left
      · have h96p := h96; simp only [Bool.or_eq_true, Bool.or_eq_false_iff, Bool.and_eq_true, Bool.and_eq_false_iff, Bool.not_eq_true', Bool.not_eq_false', decide_eq_true_eq, decide_eq_false_iff_not, beq_iff_eq, bne_iff_ne, beq_eq_false_iff_ne, bne_eq_false_iff_eq, ne_eq, gt_iff_lt, ge_iff_le, Int.not_lt, Int.not_le] at h96p
        refine wp_exit ?_
        refine ex_then (ex_then (ex_hit (?_)))
        refine n_then ?_
        refine c_reg ?_
        refine r_ok hs m (ok_assign rfl) rfl ?_
        clear hs a; intro a hs
        refine wpList_nil (n_then ?_)
        refine wp_block ?_
        refine wp_loop_ghost (fun gn a w => ∃ k6 : Nat, ∃ cf4 : Int, (k6 ≤ (planM leases host).F.length) ∧ (b3 = true ∨ k6 = 0) ∧ (cf4 = cf + (((planM leases host).F.take k6).count (⟨e24.MAC, e24.Pub⟩ : TFdb) : Int)) ∧ gn = (planM leases host).F.length - k6 ∧ St 204 [(0, vleases.v), (1, .int .i64 host), (5, .bool (okk && (decide ((⟨e24.Subnet, ⟨0, rfl⟩, e24.Host.v == host⟩ : TRoute) ∈ (planM leases host).R)))), (6, .pointer (some (padd p7 0))), (7, .int .i64 (cr + 1)), (8, .int .i64 cn4), (9, .int .i64 cf4), (10, .int .i64 (k : Int)), (11, .pointer (some (padd p29 0))), (14, .bool b3), (19, .int .i64 (k6 : Int))] a ∧ Hp w0 (hh w0) [Bx p7 29 [v3.v, v4.v, v5.v], Bx p29 48 (cLease e24), Sv 4 51 v3.v (((planM leases host).R).map cRoute), Sv 7 54 v4.v (((planM leases host).N).map cNeigh), Sv 7 56 v5.v (((planM leases host).F).map cFdb)] w) ((planM leases host).F.length - 0) ⟨0, cf, by omega, by right; rfl, by simp, rfl, hs.to ⟨rfl, rfl, rfl, rfl, rfl, rfl, rfl, rfl, rfl, rfl, rfl, trivial⟩, m.sub (.c r0 (.c r0 (.c r0 (.c r0 (.c r0 .n)))))⟩ ?_
        clear hs m a w95
        rintro gn a w97 ⟨k6, cf4, hk6, hz6, hc6, rfl, hs, m⟩
        have hq := count_take_le (l := (planM leases host).F) (k := k6) (q := (⟨e24.MAC, e24.Pub⟩ : TFdb))
        refine c_seq ?_
        refine c_reg ?_
        refine r_ok hs m (ok_move rfl) rfl ?_
        clear hs a; intro a hs
        refine r_ok hs m (ok_move rfl) rfl ?_
        clear hs a; intro a hs
        refine l_cut (.c (.c (.c (.c (.c (.c (.n))))))) (fun a w => St 204 [(0, vleases.v), (1, .int .i64 host), (5, .bool (okk && (decide ((⟨e24.Subnet, ⟨0, rfl⟩, e24.Host.v == host⟩ : TRoute) ∈ (planM leases host).R)))), (6, .pointer (some (padd p7 0))), (7, .int .i64 (cr + 1)), (8, .int .i64 cn4), (9, .int .i64 cf4), (10, .int .i64 (k : Int)), (11, .pointer (some (padd p29 0))), (14, .bool b3), (19, .int .i64 (k6 : Int)), (166, .bool (b3 && (decide ((k6 : Int) < (((planM leases host).F).length : Int)))))] a ∧ Hp w0 (hh w0) [Bx p7 29 [v3.v, v4.v, v5.v], Bx p29 48 (cLease e24), Sv 4 51 v3.v (((planM leases host).R).map cRoute), Sv 7 54 v4.v (((planM leases host).N).map cNeigh), Sv 7 56 v5.v (((planM leases host).F).map cFdb)] w) ?_ ?_
        · rcases Bool.eq_false_or_eq_true b3 with hb98 | hb98
          · refine r_okg hs rfl rfl hb98 m (ok_move rfl) rfl ?_
            clear hs a; intro a hs
            refine r_okg hs rfl rfl hb98 m (ok_fieldAddr (r := 2) rfl fd29_2 ty27 rfl) rfl ?_
            clear hs a; intro a hs
            refine r_okg hs rfl rfl hb98 m (ok_load_sc rfl ty27 (bx_at r0) rfl) rfl ?_
            clear hs a; intro a hs
            refine r_okg hs rfl rfl hb98 m (ok_len (r := (((planM leases host).F).length : Int)) m rfl sl27 (rc_own r4) (by simp)) rfl ?_
            clear hs a; intro a hs
            refine r_okg hs rfl rfl hb98 m (ok_bin rfl rfl rfl) rfl ?_
            clear hs a; intro a hs
            refine r_ok hs m (ok_pick (r := .bool (b3 && (decide ((k6 : Int) < (((planM leases host).F).length : Int))))) rfl rfl rfl (by rw [hb98]; rfl)) rfl ?_
            clear hs a; intro a hs
            exact wpList_nil (n_then ⟨hs.to ⟨rfl, rfl, rfl, rfl, rfl, rfl, rfl, rfl, rfl, rfl, rfl, rfl, trivial⟩, m⟩)
          · refine g_out hs rfl rfl hb98 rfl ?_
            clear hs a; intro a hs
            refine g_out hs rfl rfl hb98 rfl ?_
            clear hs a; intro a hs
            refine g_out hs rfl rfl hb98 rfl ?_
            clear hs a; intro a hs
            refine g_out hs rfl rfl hb98 rfl ?_
            clear hs a; intro a hs
            refine g_out hs rfl rfl hb98 rfl ?_
            clear hs a; intro a hs
            refine r_ok hs m (ok_pick (r := .bool (b3 && (decide ((k6 : Int) < (((planM leases host).F).length : Int))))) rfl rfl rfl (by rw [hb98]; rfl)) rfl ?_
            clear hs a; intro a hs
            exact wpList_nil (n_then ⟨hs.to ⟨rfl, rfl, rfl, rfl, rfl, rfl, rfl, rfl, rfl, rfl, rfl, rfl, trivial⟩, m⟩)
        clear hs m a w97; rintro a w99 ⟨hs, m⟩
        refine wpList_nil (n_then ?_)
        refine c_cond hs rfl (fun h100 => ?_) (fun h100 => ?_)
        rotate_left
        · have h100p := h100; simp only [Bool.or_eq_true, Bool.or_eq_false_iff, Bool.and_eq_true, Bool.and_eq_false_iff, Bool.not_eq_true', Bool.not_eq_false', decide_eq_true_eq, decide_eq_false_iff_not, beq_iff_eq, bne_iff_ne, beq_eq_false_iff_ne, bne_eq_false_iff_eq, ne_eq, gt_iff_lt, ge_iff_le, Int.not_lt, Int.not_le] at h100p
          refine wp_exit ?_
          refine ex_then (ex_then (ex_hit (?_)))
          refine n_block (n_then ?_)
          refine c_last ?_
          refine r_ok hs m (ok_move rfl) rfl ?_
          clear hs a; intro a hs
          refine r_ok hs m (ok_add (r := (k : Int) + 1) rfl rfl (wrap_i64 (by omega) (by omega))) rfl ?_
          clear hs a; intro a hs
          refine r_ok hs m (ok_assign rfl) rfl ?_
          clear hs a; intro a hs
          refine wpList_nil (n_then ?_)
          exact ⟨leases.length - (k + 1), by omega, k + 1, cr + 1, cn4, cf4, okk && (decide ((⟨e24.Subnet, ⟨0, rfl⟩, e24.Host.v == host⟩ : TRoute) ∈ (planM leases host).R)), by omega, by (first | omega | (have hq1 := count_take_le (l := (planM leases host).N) (k := k5) (q := (⟨e24.Subnet.Addr, e24.MAC⟩ : TNeigh)); have hq2 := count_take_le (l := (planM leases host).F) (k := k6) (q := (⟨e24.MAC, e24.Pub⟩ : TFdb)); omega)), by first | exact hokk | (rw [hokk, Bool.true_and]; exact plan_routed (by assumption) (by assumption) hb1 (by omega) (by assumption) (by first | (rw [via_t (by assumption)]; done) | (rw [via_f (by assumption)]; done))), by first | (have hq := cntR_skip (l := leases) (k := k) (by assumption) (by assumption); omega) | (have hq := cntR_last (k := k) (by assumption) (by assumption) hb1 (by omega) (by assumption); omega) | (have hq := cntR_not (k := k) (by assumption) (by assumption) hb1 (by omega) (by assumption); omega), by first | (have hq := cntN_skip (host := host) (N := (planM leases host).N) (l := leases) (k := k) (by assumption) (by assumption); omega) | (have hq := cntN_round (k := k) (by assumption) (by assumption) hb2 (by omega) (by assumption) hz5 hc5; omega), by first | (have hq := cntF_skip (host := host) (F := (planM leases host).F) (l := leases) (k := k) (by assumption) (by assumption); omega) | (have hq := cntF_round (k := k) (by assumption) (by assumption) hb3 (by omega) (by assumption) hz6 hc6; omega), rfl, hs.to ⟨rfl, rfl, rfl, rfl, rfl, rfl, rfl, rfl, trivial⟩, m.sub (.c r0 (.c r1 (.c r1 (.c r1 .n))))⟩
        have h100p := h100; simp only [Bool.or_eq_true, Bool.or_eq_false_iff, Bool.and_eq_true, Bool.and_eq_false_iff, Bool.not_eq_true', Bool.not_eq_false', decide_eq_true_eq, decide_eq_false_iff_not, beq_iff_eq, bne_iff_ne, beq_eq_false_iff_ne, bne_eq_false_iff_eq, ne_eq, gt_iff_lt, ge_iff_le, Int.not_lt, Int.not_le] at h100p
        refine wp_skip ?_
        refine n_then ?_
        refine c_seq ?_
        refine wp_block ?_
        refine c_draw m mo (by kernel_rfl) ?_
        refine q_ok hs (ok_fieldAddr (r := 2) rfl fd29_2 ty27 rfl) rfl ?_
        clear hs a; intro a hs
        refine q_ok hs (ok_load_sc rfl ty27 (bx_at r0) rfl) rfl ?_
        clear hs a; intro a hs
        refine q_ok hs (ok_move rfl) rfl ?_
        clear hs a; intro a hs
        obtain ⟨e101, he102⟩ := get_of_lt (l := (planM leases host).F) (i := k6) (by omega)
        refine elO (c := cFdb) (e := e101) hs m (x := (.tmp 170)) (ix := (.tmp 171)) rfl rfl sl27 ty56 r4 (by omega) he102 fun p103 hp104 ok105 => ?_
        refine q_ok hs (ok105 _ _ _ _ _) rfl ?_
        clear hs a; intro a hs
        refine q_ok hs (ok_load_ag (vs := cFdb e101) rfl ty56 (el_at hp104 r4 (get_map _ he102)) rfl rfl) rfl ?_
        clear hs a; intro a hs
        refine q_ok hs (ok_fieldAddr (r := 4) rfl fd48_3 ty46 rfl) rfl ?_
        clear hs a; intro a hs
        refine q_ok hs (ok_load_ag (vs := cMAC e24.MAC) rfl ty46 (bx_at r1) rfl rfl) rfl ?_
        clear hs a; intro a hs
        refine q_ok hs (ok_fieldAddr (r := 3) rfl fd48_2 ty42 rfl) rfl ?_
        clear hs a; intro a hs
        refine q_ok hs (ok_load_sc rfl ty42 (bx_at r1) rfl) rfl ?_
        clear hs a; intro a hs
        refine q_ok hs (ok_build (cs := cFdb (⟨e24.MAC, e24.Pub⟩ : TFdb)) st56 ze56 rfl rfl) rfl ?_
        clear hs a; intro a hs
        refine q_ok hs (ok_eqv (b := decide (e101 = (⟨e24.MAC, e24.Pub⟩ : TFdb))) rfl rfl eqT56 (fFdb _) (fFdb _) (iFdb e101 (⟨e24.MAC, e24.Pub⟩ : TFdb))) rfl ?_
        clear hs a; intro a hs
        refine wpQuiet_nil ?_; clear m w99; intro w106 m
        refine c_cond hs rfl (fun h107 => ?_) (fun h107 => ?_)
        · have h107p := of_decide_eq_true h107
          refine c_last ?_
          refine r_ok hs m (ok_move rfl) rfl ?_
          clear hs a; intro a hs
          refine r_ok hs m (ok_add (r := cf4 + 1) rfl rfl (wrap_i64 (by omega) (by omega))) rfl ?_
          clear hs a; intro a hs
          refine r_ok hs m (ok_assign rfl) rfl ?_
          clear hs a; intro a hs
          refine wpList_nil (n_block (n_then ?_))
          refine c_last ?_
          refine r_ok hs m (ok_move rfl) rfl ?_
          clear hs a; intro a hs
          refine r_ok hs m (ok_add (r := (k6 : Int) + 1) rfl rfl (wrap_i64 (by omega) (by omega))) rfl ?_
          clear hs a; intro a hs
          refine r_ok hs m (ok_assign rfl) rfl ?_
          clear hs a; intro a hs
          refine wpList_nil (n_then ?_)
          exact ⟨(planM leases host).F.length - (k6 + 1), by omega, k6 + 1, cf4 + 1, by omega, by left; simp_all, by first | (rw [count_take_succ (by assumption), hc6]; simp [*]; done) | (rw [count_take_succ (by assumption), hc6]; simp [*]; omega), rfl, hs.to ⟨rfl, rfl, rfl, rfl, rfl, rfl, rfl, rfl, rfl, rfl, rfl, trivial⟩, m.sub (.c r0 (.c r0 (.c r0 (.c r0 (.c r0 .n)))))⟩
        have h107p := of_decide_eq_false h107
        refine wp_skip ?_
        refine n_block (n_then ?_)
        refine c_last ?_
        refine r_ok hs m (ok_move rfl) rfl ?_
        clear hs a; intro a hs
        refine r_ok hs m (ok_add (r := (k6 : Int) + 1) rfl rfl (wrap_i64 (by omega) (by omega))) rfl ?_
        clear hs a; intro a hs
        refine r_ok hs m (ok_assign rfl) rfl ?_
        clear hs a; intro a hs
        refine wpList_nil (n_then ?_)
        exact ⟨(planM leases host).F.length - (k6 + 1), by omega, k6 + 1, cf4, by omega, by left; simp_all, by first | (rw [count_take_succ (by assumption), hc6]; simp [*]; done) | (rw [count_take_succ (by assumption), hc6]; simp [*]; omega), rfl, hs.to ⟨rfl, rfl, rfl, rfl, rfl, rfl, rfl, rfl, rfl, rfl, rfl, trivial⟩, m.sub (.c r0 (.c r0 (.c r0 (.c r0 (.c r0 .n)))))⟩
      have h96p := h96; simp only [Bool.or_eq_true, Bool.or_eq_false_iff, Bool.and_eq_true, Bool.and_eq_false_iff, Bool.not_eq_true', Bool.not_eq_false', decide_eq_true_eq, decide_eq_false_iff_not, beq_iff_eq, bne_iff_ne, beq_eq_false_iff_ne, bne_eq_false_iff_eq, ne_eq, gt_iff_lt, ge_iff_le, Int.not_lt, Int.not_le] at h96p
      refine wp_skip ?_
      refine n_then ?_
      refine c_seq ?_
      refine wp_block ?_
      refine c_draw m mo (by kernel_rfl) ?_
      refine q_ok hs (ok_fieldAddr (r := 1) rfl fd29_1 ty26 rfl) rfl ?_
      clear hs a; intro a hs
      refine q_ok hs (ok_load_sc rfl ty26 (bx_at r0) rfl) rfl ?_
      clear hs a; intro a hs
      refine q_ok hs (ok_move rfl) rfl ?_
      clear hs a; intro a hs
      obtain ⟨e108, he109⟩ := get_of_lt (l := (planM leases host).N) (i := k5) (by omega)
      refine elO (c := cNeigh) (e := e108) hs m (x := (.tmp 146)) (ix := (.tmp 147)) rfl rfl sl26 ty54 r3 (by omega) he109 fun p110 hp111 ok112 => ?_
      refine q_ok hs (ok112 _ _ _ _ _) rfl ?_
      clear hs a; intro a hs
      refine q_ok hs (ok_load_ag (vs := cNeigh e108) rfl ty54 (el_at hp111 r3 (get_map _ he109)) rfl rfl) rfl ?_
      clear hs a; intro a hs
      refine q_ok hs (ok_fieldAddr (r := 1) rfl fd48_1 ty44 rfl) rfl ?_
      clear hs a; intro a hs
      refine q_ok hs (ok_fieldAddr (r := 1) rfl fd44_0 ty42 rfl) rfl ?_
      clear hs a; intro a hs
      refine q_ok hs (ok_load_sc rfl ty42 (bx_at r1) rfl) rfl ?_
      clear hs a; intro a hs
      refine q_ok hs (ok_fieldAddr (r := 4) rfl fd48_3 ty46 rfl) rfl ?_
      clear hs a; intro a hs
      refine q_ok hs (ok_load_ag (vs := cMAC e24.MAC) rfl ty46 (bx_at r1) rfl rfl) rfl ?_
      clear hs a; intro a hs
      refine q_ok hs (ok_build (cs := cNeigh (⟨e24.Subnet.Addr, e24.MAC⟩ : TNeigh)) st54 ze54 rfl rfl) rfl ?_
      clear hs a; intro a hs
      refine q_ok hs (ok_eqv (b := decide (e108 = (⟨e24.Subnet.Addr, e24.MAC⟩ : TNeigh))) rfl rfl eqT54 (fNeigh _) (fNeigh _) (iNeigh e108 (⟨e24.Subnet.Addr, e24.MAC⟩ : TNeigh))) rfl ?_
      clear hs a; intro a hs
      refine wpQuiet_nil ?_; clear m w95; intro w113 m
      refine c_cond hs rfl (fun h114 => ?_) (fun h114 => ?_)
      · have h114p := of_decide_eq_true h114
        refine c_last ?_
        refine r_ok hs m (ok_move rfl) rfl ?_
        clear hs a; intro a hs
        refine r_ok hs m (ok_add (r := cn4 + 1) rfl rfl (wrap_i64 (by omega) (by omega))) rfl ?_
        clear hs a; intro a hs
        refine r_ok hs m (ok_assign rfl) rfl ?_
        clear hs a; intro a hs
        refine wpList_nil (n_block (n_then ?_))
        refine c_last ?_
        refine r_ok hs m (ok_move rfl) rfl ?_
        clear hs a; intro a hs
        refine r_ok hs m (ok_add (r := (k5 : Int) + 1) rfl rfl (wrap_i64 (by omega) (by omega))) rfl ?_
        clear hs a; intro a hs
        refine r_ok hs m (ok_assign rfl) rfl ?_
        clear hs a; intro a hs
        refine wpList_nil (n_then ?_)
        exact ⟨(planM leases host).N.length - (k5 + 1), by omega, k5 + 1, cn4 + 1, by omega, by left; simp_all, by first | (rw [count_take_succ (by assumption), hc5]; simp [*]; done) | (rw [count_take_succ (by assumption), hc5]; simp [*]; omega), rfl, hs.to ⟨rfl, rfl, rfl, rfl, rfl, rfl, rfl, rfl, rfl, rfl, rfl, rfl, trivial⟩, m.sub (.c r0 (.c r0 (.c r0 (.c r0 (.c r0 .n)))))⟩
      have h114p := of_decide_eq_false h114
      refine wp_skip ?_
      refine n_block (n_then ?_)
      refine c_last ?_
      refine r_ok hs m (ok_move rfl) rfl ?_
      clear hs a; intro a hs
      refine r_ok hs m (ok_add (r := (k5 : Int) + 1) rfl rfl (wrap_i64 (by omega) (by omega))) rfl ?_
      clear hs a; intro a hs
      refine r_ok hs m (ok_assign rfl) rfl ?_
      clear hs a; intro a hs
      refine wpList_nil (n_then ?_)
      exact ⟨(planM leases host).N.length - (k5 + 1), by omega, k5 + 1, cn4, by omega, by left; simp_all, by first | (rw [count_take_succ (by assumption), hc5]; simp [*]; done) | (rw [count_take_succ (by assumption), hc5]; simp [*]; omega), rfl, hs.to ⟨rfl, rfl, rfl, rfl, rfl, rfl, rfl, rfl, rfl, rfl, rfl, rfl, trivial⟩, m.sub (.c r0 (.c r0 (.c r0 (.c r0 (.c r0 .n)))))⟩
    refine wp_skip ?_
    refine n_then ?_
    refine c_seq ?_
    refine c_reg ?_
    refine r_ok hs m (ok_assign rfl) rfl ?_
    clear hs a; intro a hs
    refine wpList_nil (n_then ?_)
    refine wp_block ?_
    refine wp_loop_ghost (fun gn a w => ∃ k5 : Nat, ∃ cn4 : Int, (k5 ≤ (planM leases host).N.length) ∧ (b2 = true ∨ k5 = 0) ∧ (cn4 = cn + (((planM leases host).N.take k5).count (⟨e24.Subnet.Addr, e24.MAC⟩ : TNeigh) : Int)) ∧ gn = (planM leases host).N.length - k5 ∧ St 204 [(0, vleases.v), (1, .int .i64 host), (5, .bool okk), (6, .pointer (some (padd p7 0))), (7, .int .i64 cr), (8, .int .i64 cn4), (9, .int .i64 cf), (10, .int .i64 (k : Int)), (11, .pointer (some (padd p29 0))), (13, .bool b2), (14, .bool b3), (18, .int .i64 (k5 : Int))] a ∧ Hp w0 (hh w0) [Bx p7 29 [v3.v, v4.v, v5.v], Bx p29 48 (cLease e24), Sv 4 51 v3.v (((planM leases host).R).map cRoute), Sv 7 54 v4.v (((planM leases host).N).map cNeigh), Sv 7 56 v5.v (((planM leases host).F).map cFdb)] w) ((planM leases host).N.length - 0) ⟨0, cn, by omega, by right; rfl, by simp, rfl, hs.to ⟨rfl, rfl, rfl, rfl, rfl, rfl, rfl, rfl, rfl, rfl, rfl, rfl, trivial⟩, m.sub (.c r1 (.c r1 (.c r1 (.c r1 (.c r1 .n)))))⟩ ?_
    clear hs m a w38
    rintro gn a w115 ⟨k5, cn4, hk5, hz5, hc5, rfl, hs, m⟩
    have hq := count_take_le (l := (planM leases host).N) (k := k5) (q := (⟨e24.Subnet.Addr, e24.MAC⟩ : TNeigh))
    refine c_seq ?_
    refine c_reg ?_
    refine r_ok hs m (ok_move rfl) rfl ?_
    clear hs a; intro a hs
    refine r_ok hs m (ok_move rfl) rfl ?_
    clear hs a; intro a hs
    refine l_cut (.c (.c (.c (.c (.c (.c (.n))))))) (fun a w => St 204 [(0, vleases.v), (1, .int .i64 host), (5, .bool okk), (6, .pointer (some (padd p7 0))), (7, .int .i64 cr), (8, .int .i64 cn4), (9, .int .i64 cf), (10, .int .i64 (k : Int)), (11, .pointer (some (padd p29 0))), (13, .bool b2), (14, .bool b3), (18, .int .i64 (k5 : Int)), (142, .bool (b2 && (decide ((k5 : Int) < (((planM leases host).N).length : Int)))))] a ∧ Hp w0 (hh w0) [Bx p7 29 [v3.v, v4.v, v5.v], Bx p29 48 (cLease e24), Sv 4 51 v3.v (((planM leases host).R).map cRoute), Sv 7 54 v4.v (((planM leases host).N).map cNeigh), Sv 7 56 v5.v (((planM leases host).F).map cFdb)] w) ?_ ?_
    · rcases Bool.eq_false_or_eq_true b2 with hb116 | hb116
      · refine r_okg hs rfl rfl hb116 m (ok_move rfl) rfl ?_
        clear hs a; intro a hs
        refine r_okg hs rfl rfl hb116 m (ok_fieldAddr (r := 1) rfl fd29_1 ty26 rfl) rfl ?_
        clear hs a; intro a hs
        refine r_okg hs rfl rfl hb116 m (ok_load_sc rfl ty26 (bx_at r0) rfl) rfl ?_
        clear hs a; intro a hs
        refine r_okg hs rfl rfl hb116 m (ok_len (r := (((planM leases host).N).length : Int)) m rfl sl26 (rc_own r3) (by simp)) rfl ?_
        clear hs a; intro a hs
        refine r_okg hs rfl rfl hb116 m (ok_bin rfl rfl rfl) rfl ?_
        clear hs a; intro a hs
        refine r_ok hs m (ok_pick (r := .bool (b2 && (decide ((k5 : Int) < (((planM leases host).N).length : Int))))) rfl rfl rfl (by rw [hb116]; rfl)) rfl ?_
        clear hs a; intro a hs
        exact wpList_nil (n_then ⟨hs.to ⟨rfl, rfl, rfl, rfl, rfl, rfl, rfl, rfl, rfl, rfl, rfl, rfl, rfl, trivial⟩, m⟩)
      · refine g_out hs rfl rfl hb116 rfl ?_
        clear hs a; intro a hs
        refine g_out hs rfl rfl hb116 rfl ?_
        clear hs a; intro a hs
        refine g_out hs rfl rfl hb116 rfl ?_
        clear hs a; intro a hs
        refine g_out hs rfl rfl hb116 rfl ?_
        clear hs a; intro a hs
        refine g_out hs rfl rfl hb116 rfl ?_
        clear hs a; intro a hs
        refine r_ok hs m (ok_pick (r := .bool (b2 && (decide ((k5 : Int) < (((planM leases host).N).length : Int))))) rfl rfl rfl (by rw [hb116]; rfl)) rfl ?_
        clear hs a; intro a hs
        exact wpList_nil (n_then ⟨hs.to ⟨rfl, rfl, rfl, rfl, rfl, rfl, rfl, rfl, rfl, rfl, rfl, rfl, rfl, trivial⟩, m⟩)
    clear hs m a w115; rintro a w117 ⟨hs, m⟩
    refine wpList_nil (n_then ?_)
    refine c_cond hs rfl (fun h118 => ?_) (fun h118 => ?_)
    rotate_left
    · have h118p := h118; simp only [Bool.or_eq_true, Bool.or_eq_false_iff, Bool.and_eq_true, Bool.and_eq_false_iff, Bool.not_eq_true', Bool.not_eq_false', decide_eq_true_eq, decide_eq_false_iff_not, beq_iff_eq, bne_iff_ne, beq_eq_false_iff_ne, bne_eq_false_iff_eq, ne_eq, gt_iff_lt, ge_iff_le, Int.not_lt, Int.not_le] at h118p
      refine wp_exit ?_
      refine ex_then (ex_then (ex_hit (?_)))
      refine n_then ?_
      refine c_reg ?_
      refine r_ok hs m (ok_assign rfl) rfl ?_
      clear hs a; intro a hs
      refine wpList_nil (n_then ?_)
      refine wp_block ?_
      refine wp_loop_ghost (fun gn a w => ∃ k6 : Nat, ∃ cf4 : Int, (k6 ≤ (planM leases host).F.length) ∧ (b3 = true ∨ k6 = 0) ∧ (cf4 = cf + (((planM leases host).F.take k6).count (⟨e24.MAC, e24.Pub⟩ : TFdb) : Int)) ∧ gn = (planM leases host).F.length - k6 ∧ St 204 [(0, vleases.v), (1, .int .i64 host), (5, .bool okk), (6, .pointer (some (padd p7 0))), (7, .int .i64 cr), (8, .int .i64 cn4), (9, .int .i64 cf4), (10, .int .i64 (k : Int)), (11, .pointer (some (padd p29 0))), (14, .bool b3), (19, .int .i64 (k6 : Int))] a ∧ Hp w0 (hh w0) [Bx p7 29 [v3.v, v4.v, v5.v], Bx p29 48 (cLease e24), Sv 4 51 v3.v (((planM leases host).R).map cRoute), Sv 7 54 v4.v (((planM leases host).N).map cNeigh), Sv 7 56 v5.v (((planM leases host).F).map cFdb)] w) ((planM leases host).F.length - 0) ⟨0, cf, by omega, by right; rfl, by simp, rfl, hs.to ⟨rfl, rfl, rfl, rfl, rfl, rfl, rfl, rfl, rfl, rfl, rfl, trivial⟩, m.sub (.c r0 (.c r0 (.c r0 (.c r0 (.c r0 .n)))))⟩ ?_
      clear hs m a w117
      rintro gn a w119 ⟨k6, cf4, hk6, hz6, hc6, rfl, hs, m⟩
      have hq := count_take_le (l := (planM leases host).F) (k := k6) (q := (⟨e24.MAC, e24.Pub⟩ : TFdb))
      refine c_seq ?_
      refine c_reg ?_
      refine r_ok hs m (ok_move rfl) rfl ?_
      clear hs a; intro a hs
      refine r_ok hs m (ok_move rfl) rfl ?_
      clear hs a; intro a hs
      refine l_cut (.c (.c (.c (.c (.c (.c (.n))))))) (fun a w => St 204 [(0, vleases.v), (1, .int .i64 host), (5, .bool okk), (6, .pointer (some (padd p7 0))), (7, .int .i64 cr), (8, .int .i64 cn4), (9, .int .i64 cf4), (10, .int .i64 (k : Int)), (11, .pointer (some (padd p29 0))), (14, .bool b3), (19, .int .i64 (k6 : Int)), (166, .bool (b3 && (decide ((k6 : Int) < (((planM leases host).F).length : Int)))))] a ∧ Hp w0 (hh w0) [Bx p7 29 [v3.v, v4.v, v5.v], Bx p29 48 (cLease e24), Sv 4 51 v3.v (((planM leases host).R).map cRoute), Sv 7 54 v4.v (((planM leases host).N).map cNeigh), Sv 7 56 v5.v (((planM leases host).F).map cFdb)] w) ?_ ?_
      · rcases Bool.eq_false_or_eq_true b3 with hb120 | hb120
        · refine r_okg hs rfl rfl hb120 m (ok_move rfl) rfl ?_
          clear hs a; intro a hs
          refine r_okg hs rfl rfl hb120 m (ok_fieldAddr (r := 2) rfl fd29_2 ty27 rfl) rfl ?_
          clear hs a; intro a hs
          refine r_okg hs rfl rfl hb120 m (ok_load_sc rfl ty27 (bx_at r0) rfl) rfl ?_
          clear hs a; intro a hs
          refine r_okg hs rfl rfl hb120 m (ok_len (r := (((planM leases host).F).length : Int)) m rfl sl27 (rc_own r4) (by simp)) rfl ?_
          clear hs a; intro a hs
          refine r_okg hs rfl rfl hb120 m (ok_bin rfl rfl rfl) rfl ?_
          clear hs a; intro a hs
          refine r_ok hs m (ok_pick (r := .bool (b3 && (decide ((k6 : Int) < (((planM leases host).F).length : Int))))) rfl rfl rfl (by rw [hb120]; rfl)) rfl ?_
          clear hs a; intro a hs
          exact wpList_nil (n_then ⟨hs.to ⟨rfl, rfl, rfl, rfl, rfl, rfl, rfl, rfl, rfl, rfl, rfl, rfl, trivial⟩, m⟩)
        · refine g_out hs rfl rfl hb120 rfl ?_
          clear hs a; intro a hs
          refine g_out hs rfl rfl hb120 rfl ?_
          clear hs a; intro a hs
          refine g_out hs rfl rfl hb120 rfl ?_
          clear hs a; intro a hs
          refine g_out hs rfl rfl hb120 rfl ?_
          clear hs a; intro a hs
          refine g_out hs rfl rfl hb120 rfl ?_
          clear hs a; intro a hs
          refine r_ok hs m (ok_pick (r := .bool (b3 && (decide ((k6 : Int) < (((planM leases host).F).length : Int))))) rfl rfl rfl (by rw [hb120]; rfl)) rfl ?_
          clear hs a; intro a hs
          exact wpList_nil (n_then ⟨hs.to ⟨rfl, rfl, rfl, rfl, rfl, rfl, rfl, rfl, rfl, rfl, rfl, rfl, trivial⟩, m⟩)
      clear hs m a w119; rintro a w121 ⟨hs, m⟩
      refine wpList_nil (n_then ?_)
      refine c_cond hs rfl (fun h122 => ?_) (fun h122 => ?_)
      rotate_left
      · have h122p := h122; simp only [Bool.or_eq_true, Bool.or_eq_false_iff, Bool.and_eq_true, Bool.and_eq_false_iff, Bool.not_eq_true', Bool.not_eq_false', decide_eq_true_eq, decide_eq_false_iff_not, beq_iff_eq, bne_iff_ne, beq_eq_false_iff_ne, bne_eq_false_iff_eq, ne_eq, gt_iff_lt, ge_iff_le, Int.not_lt, Int.not_le] at h122p
        refine wp_exit ?_
        refine ex_then (ex_then (ex_hit (?_)))
        refine n_block (n_then ?_)
        refine c_last ?_
        refine r_ok hs m (ok_move rfl) rfl ?_
        clear hs a; intro a hs
        refine r_ok hs m (ok_add (r := (k : Int) + 1) rfl rfl (wrap_i64 (by omega) (by omega))) rfl ?_
        clear hs a; intro a hs
        refine r_ok hs m (ok_assign rfl) rfl ?_
        clear hs a; intro a hs
        refine wpList_nil (n_then ?_)
        exact ⟨leases.length - (k + 1), by omega, k + 1, cr, cn4, cf4, okk, by omega, by (first | omega | (have hq1 := count_take_le (l := (planM leases host).N) (k := k5) (q := (⟨e24.Subnet.Addr, e24.MAC⟩ : TNeigh)); have hq2 := count_take_le (l := (planM leases host).F) (k := k6) (q := (⟨e24.MAC, e24.Pub⟩ : TFdb)); omega)), by first | exact hokk | (rw [hokk, Bool.true_and]; exact plan_routed (by assumption) (by assumption) hb1 (by omega) (by assumption) (by first | (rw [via_t (by assumption)]; done) | (rw [via_f (by assumption)]; done))), by first | (have hq := cntR_skip (l := leases) (k := k) (by assumption) (by assumption); omega) | (have hq := cntR_last (k := k) (by assumption) (by assumption) hb1 (by omega) (by assumption); omega) | (have hq := cntR_not (k := k) (by assumption) (by assumption) hb1 (by omega) (by assumption); omega), by first | (have hq := cntN_skip (host := host) (N := (planM leases host).N) (l := leases) (k := k) (by assumption) (by assumption); omega) | (have hq := cntN_round (k := k) (by assumption) (by assumption) hb2 (by omega) (by assumption) hz5 hc5; omega), by first | (have hq := cntF_skip (host := host) (F := (planM leases host).F) (l := leases) (k := k) (by assumption) (by assumption); omega) | (have hq := cntF_round (k := k) (by assumption) (by assumption) hb3 (by omega) (by assumption) hz6 hc6; omega), rfl, hs.to ⟨rfl, rfl, rfl, rfl, rfl, rfl, rfl, rfl, trivial⟩, m.sub (.c r0 (.c r1 (.c r1 (.c r1 .n))))⟩
      have h122p := h122; simp only [Bool.or_eq_true, Bool.or_eq_false_iff, Bool.and_eq_true, Bool.and_eq_false_iff, Bool.not_eq_true', Bool.not_eq_false', decide_eq_true_eq, decide_eq_false_iff_not, beq_iff_eq, bne_iff_ne, beq_eq_false_iff_ne, bne_eq_false_iff_eq, ne_eq, gt_iff_lt, ge_iff_le, Int.not_lt, Int.not_le] at h122p
      refine wp_skip ?_
      refine n_then ?_
      refine c_seq ?_
      refine wp_block ?_
      refine c_draw m mo (by kernel_rfl) ?_
      refine q_ok hs (ok_fieldAddr (r := 2) rfl fd29_2 ty27 rfl) rfl ?_
      clear hs a; intro a hs
      refine q_ok hs (ok_load_sc rfl ty27 (bx_at r0) rfl) rfl ?_
      clear hs a; intro a hs
      refine q_ok hs (ok_move rfl) rfl ?_
      clear hs a; intro a hs
      obtain ⟨e123, he124⟩ := get_of_lt (l := (planM leases host).F) (i := k6) (by omega)
      refine elO (c := cFdb) (e := e123) hs m (x := (.tmp 170)) (ix := (.tmp 171)) rfl rfl sl27 ty56 r4 (by omega) he124 fun p125 hp126 ok127 => ?_
      refine q_ok hs (ok127 _ _ _ _ _) rfl ?_
      clear hs a; intro a hs
      refine q_ok hs (ok_load_ag (vs := cFdb e123) rfl ty56 (el_at hp126 r4 (get_map _ he124)) rfl rfl) rfl ?_
      clear hs a; intro a hs
      refine q_ok hs (ok_fieldAddr (r := 4) rfl fd48_3 ty46 rfl) rfl ?_
      clear hs a; intro a hs
      refine q_ok hs (ok_load_ag (vs := cMAC e24.MAC) rfl ty46 (bx_at r1) rfl rfl) rfl ?_
      clear hs a; intro a hs
      refine q_ok hs (ok_fieldAddr (r := 3) rfl fd48_2 ty42 rfl) rfl ?_
      clear hs a; intro a hs
      refine q_ok hs (ok_load_sc rfl ty42 (bx_at r1) rfl) rfl ?_
      clear hs a; intro a hs
      refine q_ok hs (ok_build (cs := cFdb (⟨e24.MAC, e24.Pub⟩ : TFdb)) st56 ze56 rfl rfl) rfl ?_
      clear hs a; intro a hs
      refine q_ok hs (ok_eqv (b := decide (e123 = (⟨e24.MAC, e24.Pub⟩ : TFdb))) rfl rfl eqT56 (fFdb _) (fFdb _) (iFdb e123 (⟨e24.MAC, e24.Pub⟩ : TFdb))) rfl ?_
      clear hs a; intro a hs
      refine wpQuiet_nil ?_; clear m w121; intro w128 m
      refine c_cond hs rfl (fun h129 => ?_) (fun h129 => ?_)
      · have h129p := of_decide_eq_true h129
        refine c_last ?_
        refine r_ok hs m (ok_move rfl) rfl ?_
        clear hs a; intro a hs
        refine r_ok hs m (ok_add (r := cf4 + 1) rfl rfl (wrap_i64 (by omega) (by omega))) rfl ?_
        clear hs a; intro a hs
        refine r_ok hs m (ok_assign rfl) rfl ?_
        clear hs a; intro a hs
        refine wpList_nil (n_block (n_then ?_))
        refine c_last ?_
        refine r_ok hs m (ok_move rfl) rfl ?_
        clear hs a; intro a hs
        refine r_ok hs m (ok_add (r := (k6 : Int) + 1) rfl rfl (wrap_i64 (by omega) (by omega))) rfl ?_
        clear hs a; intro a hs
        refine r_ok hs m (ok_assign rfl) rfl ?_
        clear hs a; intro a hs
        refine wpList_nil (n_then ?_)
        exact ⟨(planM leases host).F.length - (k6 + 1), by omega, k6 + 1, cf4 + 1, by omega, by left; simp_all, by first | (rw [count_take_succ (by assumption), hc6]; simp [*]; done) | (rw [count_take_succ (by assumption), hc6]; simp [*]; omega), rfl, hs.to ⟨rfl, rfl, rfl, rfl, rfl, rfl, rfl, rfl, rfl, rfl, rfl, trivial⟩, m.sub (.c r0 (.c r0 (.c r0 (.c r0 (.c r0 .n)))))⟩
      have h129p := of_decide_eq_false h129
      refine wp_skip ?_
      refine n_block (n_then ?_)
      refine c_last ?_
      refine r_ok hs m (ok_move rfl) rfl ?_
      clear hs a; intro a hs
      refine r_ok hs m (ok_add (r := (k6 : Int) + 1) rfl rfl (wrap_i64 (by omega) (by omega))) rfl ?_
      clear hs a; intro a hs
      refine r_ok hs m (ok_assign rfl) rfl ?_
      clear hs a; intro a hs
      refine wpList_nil (n_then ?_)
      exact ⟨(planM leases host).F.length - (k6 + 1), by omega, k6 + 1, cf4, by omega, by left; simp_all, by first | (rw [count_take_succ (by assumption), hc6]; simp [*]; done) | (rw [count_take_succ (by assumption), hc6]; simp [*]; omega), rfl, hs.to ⟨rfl, rfl, rfl, rfl, rfl, rfl, rfl, rfl, rfl, rfl, rfl, trivial⟩, m.sub (.c r0 (.c r0 (.c r0 (.c r0 (.c r0 .n)))))⟩
    have h118p := h118; simp only [Bool.or_eq_true, Bool.or_eq_false_iff, Bool.and_eq_true, Bool.and_eq_false_iff, Bool.not_eq_true', Bool.not_eq_false', decide_eq_true_eq, decide_eq_false_iff_not, beq_iff_eq, bne_iff_ne, beq_eq_false_iff_ne, bne_eq_false_iff_eq, ne_eq, gt_iff_lt, ge_iff_le, Int.not_lt, Int.not_le] at h118p
    refine wp_skip ?_
    refine n_then ?_
    refine c_seq ?_
    refine wp_block ?_
    refine c_draw m mo (by kernel_rfl) ?_
    refine q_ok hs (ok_fieldAddr (r := 1) rfl fd29_1 ty26 rfl) rfl ?_
    clear hs a; intro a hs
    refine q_ok hs (ok_load_sc rfl ty26 (bx_at r0) rfl) rfl ?_
    clear hs a; intro a hs
    refine q_ok hs (ok_move rfl) rfl ?_
    clear hs a; intro a hs
    obtain ⟨e130, he131⟩ := get_of_lt (l := (planM leases host).N) (i := k5) (by omega)
    refine elO (c := cNeigh) (e := e130) hs m (x := (.tmp 146)) (ix := (.tmp 147)) rfl rfl sl26 ty54 r3 (by omega) he131 fun p132 hp133 ok134 => ?_
    refine q_ok hs (ok134 _ _ _ _ _) rfl ?_
    clear hs a; intro a hs
    refine q_ok hs (ok_load_ag (vs := cNeigh e130) rfl ty54 (el_at hp133 r3 (get_map _ he131)) rfl rfl) rfl ?_
    clear hs a; intro a hs
    refine q_ok hs (ok_fieldAddr (r := 1) rfl fd48_1 ty44 rfl) rfl ?_
    clear hs a; intro a hs
    refine q_ok hs (ok_fieldAddr (r := 1) rfl fd44_0 ty42 rfl) rfl ?_
    clear hs a; intro a hs
    refine q_ok hs (ok_load_sc rfl ty42 (bx_at r1) rfl) rfl ?_
    clear hs a; intro a hs
    refine q_ok hs (ok_fieldAddr (r := 4) rfl fd48_3 ty46 rfl) rfl ?_
    clear hs a; intro a hs
    refine q_ok hs (ok_load_ag (vs := cMAC e24.MAC) rfl ty46 (bx_at r1) rfl rfl) rfl ?_
    clear hs a; intro a hs
    refine q_ok hs (ok_build (cs := cNeigh (⟨e24.Subnet.Addr, e24.MAC⟩ : TNeigh)) st54 ze54 rfl rfl) rfl ?_
    clear hs a; intro a hs
    refine q_ok hs (ok_eqv (b := decide (e130 = (⟨e24.Subnet.Addr, e24.MAC⟩ : TNeigh))) rfl rfl eqT54 (fNeigh _) (fNeigh _) (iNeigh e130 (⟨e24.Subnet.Addr, e24.MAC⟩ : TNeigh))) rfl ?_
    clear hs a; intro a hs
    refine wpQuiet_nil ?_; clear m w117; intro w135 m
    refine c_cond hs rfl (fun h136 => ?_) (fun h136 => ?_)
    · have h136p := of_decide_eq_true h136
      refine c_last ?_
      refine r_ok hs m (ok_move rfl) rfl ?_
      clear hs a; intro a hs
      refine r_ok hs m (ok_add (r := cn4 + 1) rfl rfl (wrap_i64 (by omega) (by omega))) rfl ?_
      clear hs a; intro a hs
      refine r_ok hs m (ok_assign rfl) rfl ?_
      clear hs a; intro a hs
      refine wpList_nil (n_block (n_then ?_))
      refine c_last ?_
      refine r_ok hs m (ok_move rfl) rfl ?_
      clear hs a; intro a hs
      refine r_ok hs m (ok_add (r := (k5 : Int) + 1) rfl rfl (wrap_i64 (by omega) (by omega))) rfl ?_
      clear hs a; intro a hs
      refine r_ok hs m (ok_assign rfl) rfl ?_
      clear hs a; intro a hs
      refine wpList_nil (n_then ?_)
      exact ⟨(planM leases host).N.length - (k5 + 1), by omega, k5 + 1, cn4 + 1, by omega, by left; simp_all, by first | (rw [count_take_succ (by assumption), hc5]; simp [*]; done) | (rw [count_take_succ (by assumption), hc5]; simp [*]; omega), rfl, hs.to ⟨rfl, rfl, rfl, rfl, rfl, rfl, rfl, rfl, rfl, rfl, rfl, rfl, trivial⟩, m.sub (.c r0 (.c r0 (.c r0 (.c r0 (.c r0 .n)))))⟩
    have h136p := of_decide_eq_false h136
    refine wp_skip ?_
    refine n_block (n_then ?_)
    refine c_last ?_
    refine r_ok hs m (ok_move rfl) rfl ?_
    clear hs a; intro a hs
    refine r_ok hs m (ok_add (r := (k5 : Int) + 1) rfl rfl (wrap_i64 (by omega) (by omega))) rfl ?_
    clear hs a; intro a hs
    refine r_ok hs m (ok_assign rfl) rfl ?_
    clear hs a; intro a hs
    refine wpList_nil (n_then ?_)
    exact ⟨(planM leases host).N.length - (k5 + 1), by omega, k5 + 1, cn4, by omega, by left; simp_all, by first | (rw [count_take_succ (by assumption), hc5]; simp [*]; done) | (rw [count_take_succ (by assumption), hc5]; simp [*]; omega), rfl, hs.to ⟨rfl, rfl, rfl, rfl, rfl, rfl, rfl, rfl, rfl, rfl, rfl, rfl, trivial⟩, m.sub (.c r0 (.c r0 (.c r0 (.c r0 (.c r0 .n)))))⟩
  have h35p := of_decide_eq_true h35
  refine wp_skip ?_
  refine n_then ?_
  refine c_seq ?_
  refine wp_block ?_
  refine c_reg ?_
  refine r_ok hs m (ok_move rfl) rfl ?_
  clear hs a; intro a hs
  refine r_ok hs m (ok_move rfl) rfl ?_
  clear hs a; intro a hs
  obtain ⟨e137, he138⟩ := get_of_lt (l := leases) (i := j) (by omega)
  refine elF (c := cLease) (e := e137) hs m (x := (.tmp 64)) (ix := (.tmp 65)) rfl rfl sl22 ty48 hleases (by omega) he138 fun p139 hp140 ok141 => ?_
  refine r_ok hs m (ok141 _ _ _ _ _) rfl ?_
  clear hs a; intro a hs
  refine r_ok hs m (ok_load_ag (vs := cLease e137) rfl ty48 (fr_at hp140) rfl rfl) rfl ?_
  clear hs a; intro a hs
  refine r_alloc hs m ze48 rfl ?_
  clear m hs a w34; intro p142 w143 m a hs
  refine r_store (cs' := cLease e137) (vs := cLease e137) hs m rfl rfl ty48 s0 rfl rfl rfl rfl rfl ?_
  clear m w143; intro w144 m
  refine wpList_nil (n_then ?_)
  refine c_seq ?_
  refine c_reg ?_
  refine r_ok hs m (ok_fieldAddr (r := 1) rfl fd48_1 ty44 rfl) rfl ?_
  clear hs a; intro a hs
  refine r_ok hs m (ok_load_ag (vs := cPrefix e137.Subnet) rfl ty44 (bx_at r0) rfl rfl) rfl ?_
  clear hs a; intro a hs
  refine r_callP hs m rfl rfl ca23 rfl (validO_c e137.Subnet _  ) rfl ?_
  clear m hs a w144; intro w145 m a hs
  refine r_ok hs m (ok_not rfl) rfl ?_
  clear hs a; intro a hs
  refine wpList_nil (n_then ?_)
  refine c_cond hs rfl (fun h146 => ?_) (fun h146 => ?_)
  · have h146p := h146; simp only [Bool.or_eq_true, Bool.or_eq_false_iff, Bool.and_eq_true, Bool.and_eq_false_iff, Bool.not_eq_true', Bool.not_eq_false', decide_eq_true_eq, decide_eq_false_iff_not, beq_iff_eq, bne_iff_ne, beq_eq_false_iff_ne, bne_eq_false_iff_eq, ne_eq, gt_iff_lt, ge_iff_le, Int.not_lt, Int.not_le] at h146p
    refine wp_exit ?_
    refine ex_then (ex_hit (?_))
    refine n_then ?_
    refine c_last ?_
    refine r_ok hs m (ok_move rfl) rfl ?_
    clear hs a; intro a hs
    refine r_ok hs m (ok_add (r := (j : Int) + 1) rfl rfl (wrap_i64 (by omega) (by omega))) rfl ?_
    clear hs a; intro a hs
    refine r_ok hs m (ok_assign rfl) rfl ?_
    clear hs a; intro a hs
    refine wpList_nil (n_then ?_)
    exact ⟨leases.length - (j + 1), by omega, j + 1, b1, b2, b3, by omega, by omega, by first | exact lastK_skip (by assumption) (by omega) (pR_t (by assumption)) hb1 | exact lastK_step (by assumption) (by omega) (pR_f (by assumption)) hb1, by first | exact lastK2_skip (by assumption) (by omega) (pN_t (by assumption)) hb2 | exact lastK2_step (by assumption) (by omega) (pN_f (by assumption)) hb2, by first | exact lastK2_skip (by assumption) (by omega) (pF_t (by assumption)) hb3 | exact lastK2_step (by assumption) (by omega) (pF_f (by assumption)) hb3, rfl, hs.to ⟨rfl, rfl, rfl, rfl, rfl, rfl, rfl, rfl, rfl, rfl, rfl, rfl, rfl, trivial⟩, m.sub (.c r1 (.c r1 (.c r1 (.c r1 (.c r1 .n)))))⟩
  have h146p := h146; simp only [Bool.or_eq_true, Bool.or_eq_false_iff, Bool.and_eq_true, Bool.and_eq_false_iff, Bool.not_eq_true', Bool.not_eq_false', decide_eq_true_eq, decide_eq_false_iff_not, beq_iff_eq, bne_iff_ne, beq_eq_false_iff_ne, bne_eq_false_iff_eq, ne_eq, gt_iff_lt, ge_iff_le, Int.not_lt, Int.not_le] at h146p
  refine wp_skip ?_
  refine n_then ?_
  refine c_reg ?_
  refine r_ok hs m (ok_move rfl) rfl ?_
  clear hs a; intro a hs
  refine r_ok hs m (ok_move rfl) rfl ?_
  clear hs a; intro a hs
  refine l_cut (.c (.c (.c (.c (.c (.c (.n))))))) (fun a w => St 204 [(0, vleases.v), (1, .int .i64 host), (5, .bool okk), (6, .pointer (some (padd p7 0))), (7, .int .i64 cr), (8, .int .i64 cn), (9, .int .i64 cf), (10, .int .i64 (k : Int)), (11, .pointer (some (padd p29 0))), (13, .bool b2), (14, .bool b3), (15, .int .i64 (j : Int)), (16, .pointer (some (padd p142 0))), (79, .bool (b1 && (!(decide (e137.Subnet = e24.Subnet)))))] a ∧ Hp w0 (hh w0) [Bx p142 48 (cLease e137), Bx p7 29 [v3.v, v4.v, v5.v], Bx p29 48 (cLease e24), Sv 4 51 v3.v (((planM leases host).R).map cRoute), Sv 7 54 v4.v (((planM leases host).N).map cNeigh), Sv 7 56 v5.v (((planM leases host).F).map cFdb)] w) ?_ ?_
  · rcases Bool.eq_false_or_eq_true b1 with hb147 | hb147
    · refine r_okg hs rfl rfl hb147 m (ok_fieldAddr (r := 1) rfl fd48_1 ty44 rfl) rfl ?_
      clear hs a; intro a hs
      refine r_okg hs rfl rfl hb147 m (ok_load_ag (vs := cPrefix e137.Subnet) rfl ty44 (bx_at r0) rfl rfl) rfl ?_
      clear hs a; intro a hs
      refine r_okg hs rfl rfl hb147 m (ok_fieldAddr (r := 1) rfl fd48_1 ty44 rfl) rfl ?_
      clear hs a; intro a hs
      refine r_okg hs rfl rfl hb147 m (ok_load_ag (vs := cPrefix e24.Subnet) rfl ty44 (bx_at r2) rfl rfl) rfl ?_
      clear hs a; intro a hs
      refine r_okg hs rfl rfl hb147 m (ok_nev (b := decide (e137.Subnet = e24.Subnet)) rfl rfl eqT44 (fPrefix _) (fPrefix _) (iPrefix e137.Subnet e24.Subnet)) rfl ?_
      clear hs a; intro a hs
      refine r_ok hs m (ok_pick (r := .bool (b1 && (!(decide (e137.Subnet = e24.Subnet))))) rfl rfl rfl (by rw [hb147]; rfl)) rfl ?_
      clear hs a; intro a hs
      exact wpList_nil (n_then ⟨hs.to ⟨rfl, rfl, rfl, rfl, rfl, rfl, rfl, rfl, rfl, rfl, rfl, rfl, rfl, rfl, trivial⟩, m⟩)
    · refine g_out hs rfl rfl hb147 rfl ?_
      clear hs a; intro a hs
      refine g_out hs rfl rfl hb147 rfl ?_
      clear hs a; intro a hs
      refine g_out hs rfl rfl hb147 rfl ?_
      clear hs a; intro a hs
      refine g_out hs rfl rfl hb147 rfl ?_
      clear hs a; intro a hs
      refine g_out hs rfl rfl hb147 rfl ?_
      clear hs a; intro a hs
      refine r_ok hs m (ok_pick (r := .bool (b1 && (!(decide (e137.Subnet = e24.Subnet))))) rfl rfl rfl (by rw [hb147]; rfl)) rfl ?_
      clear hs a; intro a hs
      exact wpList_nil (n_then ⟨hs.to ⟨rfl, rfl, rfl, rfl, rfl, rfl, rfl, rfl, rfl, rfl, rfl, rfl, rfl, rfl, trivial⟩, m⟩)
  clear hs m a w145; rintro a w148 ⟨hs, m⟩
  refine r_ok hs m (ok_assign rfl) rfl ?_
  clear hs a; intro a hs
  refine wpList_nil (n_then ?_)
  refine c_reg ?_
  refine r_ok hs m (ok_move rfl) rfl ?_
  clear hs a; intro a hs
  refine r_ok hs m (ok_move rfl) rfl ?_
  clear hs a; intro a hs
  refine l_cut (.c (.c (.c (.c (.c (.c (.c (.c (.c (.c (.c (.c (.c (.c (.n))))))))))))))) (fun a w => St 204 [(0, vleases.v), (1, .int .i64 host), (5, .bool okk), (6, .pointer (some (padd p7 0))), (7, .int .i64 cr), (8, .int .i64 cn), (9, .int .i64 cf), (10, .int .i64 (k : Int)), (11, .pointer (some (padd p29 0))), (12, .bool (b1 && (!(decide (e137.Subnet = e24.Subnet))))), (14, .bool b3), (15, .int .i64 (j : Int)), (16, .pointer (some (padd p142 0))), (95, .bool (b2 && ((e137.Host.v == host) || (e137.Subnet.Addr.v != e24.Subnet.Addr.v))))] a ∧ Hp w0 (hh w0) [Bx p142 48 (cLease e137), Bx p7 29 [v3.v, v4.v, v5.v], Bx p29 48 (cLease e24), Sv 4 51 v3.v (((planM leases host).R).map cRoute), Sv 7 54 v4.v (((planM leases host).N).map cNeigh), Sv 7 56 v5.v (((planM leases host).F).map cFdb)] w) ?_ ?_
  · rcases Bool.eq_false_or_eq_true b2 with hb149 | hb149
    · refine r_okg hs rfl rfl hb149 m (ok_fieldAddr (r := 0) rfl fd48_0 ty3 rfl) rfl ?_
      clear hs a; intro a hs
      refine r_okg hs rfl rfl hb149 m (ok_load_sc rfl ty3 (bx_at r0) rfl) rfl ?_
      clear hs a; intro a hs
      refine r_okg hs rfl rfl hb149 m (ok_move rfl) rfl ?_
      clear hs a; intro a hs
      refine r_okg hs rfl rfl hb149 m (ok_bin rfl rfl rfl) rfl ?_
      clear hs a; intro a hs
      refine r_okg hs rfl rfl hb149 m (ok_move rfl) rfl ?_
      clear hs a; intro a hs
      refine l_cut (.c (.c (.c (.c (.c (.c (.c (.c (.n))))))))) (fun a w => St 204 [(0, vleases.v), (1, .int .i64 host), (5, .bool okk), (6, .pointer (some (padd p7 0))), (7, .int .i64 cr), (8, .int .i64 cn), (9, .int .i64 cf), (10, .int .i64 (k : Int)), (11, .pointer (some (padd p29 0))), (12, .bool (b1 && (!(decide (e137.Subnet = e24.Subnet))))), (14, .bool b3), (15, .int .i64 (j : Int)), (16, .pointer (some (padd p142 0))), (81, .bool b2), (82, .pointer (some (padd p142 0))), (83, .int .i64 e137.Host.v), (84, .int .i64 host), (85, .bool (e137.Host.v == host)), (86, .bool (e137.Host.v == host)), (94, .bool ((e137.Host.v == host) || (e137.Subnet.Addr.v != e24.Subnet.Addr.v)))] a ∧ Hp w0 (hh w0) [Bx p142 48 (cLease e137), Bx p7 29 [v3.v, v4.v, v5.v], Bx p29 48 (cLease e24), Sv 4 51 v3.v (((planM leases host).R).map cRoute), Sv 7 54 v4.v (((planM leases host).N).map cNeigh), Sv 7 56 v5.v (((planM leases host).F).map cFdb)] w) ?_ ?_
      · rcases Bool.eq_false_or_eq_true (e137.Host.v == host) with hb150 | hb150
        · have hb150p := eq_of_beq hb150
          refine g_out hs rfl rfl hb150 rfl ?_
          clear hs a; intro a hs
          refine g_out hs rfl rfl hb150 rfl ?_
          clear hs a; intro a hs
          refine g_out hs rfl rfl hb150 rfl ?_
          clear hs a; intro a hs
          refine g_out hs rfl rfl hb150 rfl ?_
          clear hs a; intro a hs
          refine g_out hs rfl rfl hb150 rfl ?_
          clear hs a; intro a hs
          refine g_out hs rfl rfl hb150 rfl ?_
          clear hs a; intro a hs
          refine g_out hs rfl rfl hb150 rfl ?_
          clear hs a; intro a hs
          refine r_okg hs rfl rfl hb149 m (ok_pick (r := .bool ((e137.Host.v == host) || (e137.Subnet.Addr.v != e24.Subnet.Addr.v))) rfl rfl rfl (by rw [hb150]; rfl)) rfl ?_
          clear hs a; intro a hs
          exact wpList_nil (n_then ⟨hs.to ⟨rfl, rfl, rfl, rfl, rfl, rfl, rfl, rfl, rfl, rfl, rfl, rfl, rfl, rfl, rfl, rfl, rfl, rfl, rfl, rfl, trivial⟩, m⟩)
        · have hb150p := ne_of_beq_false hb150
          refine r_okg hs rfl rfl hb150 m (ok_fieldAddr (r := 1) rfl fd48_1 ty44 rfl) rfl ?_
          clear hs a; intro a hs
          refine r_okg hs rfl rfl hb150 m (ok_fieldAddr (r := 1) rfl fd44_0 ty42 rfl) rfl ?_
          clear hs a; intro a hs
          refine r_okg hs rfl rfl hb150 m (ok_load_sc rfl ty42 (bx_at r0) rfl) rfl ?_
          clear hs a; intro a hs
          refine r_okg hs rfl rfl hb150 m (ok_fieldAddr (r := 1) rfl fd48_1 ty44 rfl) rfl ?_
          clear hs a; intro a hs
          refine r_okg hs rfl rfl hb150 m (ok_fieldAddr (r := 1) rfl fd44_0 ty42 rfl) rfl ?_
          clear hs a; intro a hs
          refine r_okg hs rfl rfl hb150 m (ok_load_sc rfl ty42 (bx_at r2) rfl) rfl ?_
          clear hs a; intro a hs
          refine r_okg hs rfl rfl hb150 m (ok_bin rfl rfl rfl) rfl ?_
          clear hs a; intro a hs
          refine r_okg hs rfl rfl hb149 m (ok_pick (r := .bool ((e137.Host.v == host) || (e137.Subnet.Addr.v != e24.Subnet.Addr.v))) rfl rfl rfl (by rw [hb150]; rfl)) rfl ?_
          clear hs a; intro a hs
          exact wpList_nil (n_then ⟨hs.to ⟨rfl, rfl, rfl, rfl, rfl, rfl, rfl, rfl, rfl, rfl, rfl, rfl, rfl, rfl, rfl, rfl, rfl, rfl, rfl, rfl, trivial⟩, m⟩)
      clear hs m a w148; rintro a w151 ⟨hs, m⟩
      refine r_ok hs m (ok_pick (r := .bool (b2 && ((e137.Host.v == host) || (e137.Subnet.Addr.v != e24.Subnet.Addr.v)))) rfl rfl rfl (by rw [hb149]; rfl)) rfl ?_
      clear hs a; intro a hs
      exact wpList_nil (n_then ⟨hs.to ⟨rfl, rfl, rfl, rfl, rfl, rfl, rfl, rfl, rfl, rfl, rfl, rfl, rfl, rfl, trivial⟩, m⟩)
    · refine g_out hs rfl rfl hb149 rfl ?_
      clear hs a; intro a hs
      refine g_out hs rfl rfl hb149 rfl ?_
      clear hs a; intro a hs
      refine g_out hs rfl rfl hb149 rfl ?_
      clear hs a; intro a hs
      refine g_out hs rfl rfl hb149 rfl ?_
      clear hs a; intro a hs
      refine g_out hs rfl rfl hb149 rfl ?_
      clear hs a; intro a hs
      refine g_outU hs rfl rfl rfl ?_
      clear hs a; intro a hs
      refine g_outU hs rfl rfl rfl ?_
      clear hs a; intro a hs
      refine g_outU hs rfl rfl rfl ?_
      clear hs a; intro a hs
      refine g_outU hs rfl rfl rfl ?_
      clear hs a; intro a hs
      refine g_outU hs rfl rfl rfl ?_
      clear hs a; intro a hs
      refine g_outU hs rfl rfl rfl ?_
      clear hs a; intro a hs
      refine g_outU hs rfl rfl rfl ?_
      clear hs a; intro a hs
      refine g_out hs rfl rfl hb149 rfl ?_
      clear hs a; intro a hs
      refine r_ok hs m (ok_pick (r := .bool (b2 && ((e137.Host.v == host) || (e137.Subnet.Addr.v != e24.Subnet.Addr.v)))) rfl rfl rfl (by rw [hb149]; rfl)) rfl ?_
      clear hs a; intro a hs
      exact wpList_nil (n_then ⟨hs.to ⟨rfl, rfl, rfl, rfl, rfl, rfl, rfl, rfl, rfl, rfl, rfl, rfl, rfl, rfl, trivial⟩, m⟩)
  clear hs m a w148; rintro a w152 ⟨hs, m⟩
  refine r_ok hs m (ok_assign rfl) rfl ?_
  clear hs a; intro a hs
  refine wpList_nil (n_then ?_)
  refine c_last ?_
  refine r_ok hs m (ok_move rfl) rfl ?_
  clear hs a; intro a hs
  refine r_ok hs m (ok_move rfl) rfl ?_
  clear hs a; intro a hs
  refine l_cut (.c (.c (.c (.c (.c (.c (.c (.c (.c (.c (.c (.c (.n))))))))))))) (fun a w => St 204 [(0, vleases.v), (1, .int .i64 host), (5, .bool okk), (6, .pointer (some (padd p7 0))), (7, .int .i64 cr), (8, .int .i64 cn), (9, .int .i64 cf), (10, .int .i64 (k : Int)), (11, .pointer (some (padd p29 0))), (12, .bool (b1 && (!(decide (e137.Subnet = e24.Subnet))))), (13, .bool (b2 && ((e137.Host.v == host) || (e137.Subnet.Addr.v != e24.Subnet.Addr.v)))), (15, .int .i64 (j : Int)), (109, .bool (b3 && ((e137.Host.v == host) || (!(decide (e137.MAC = e24.MAC))))))] a ∧ Hp w0 (hh w0) [Bx p142 48 (cLease e137), Bx p7 29 [v3.v, v4.v, v5.v], Bx p29 48 (cLease e24), Sv 4 51 v3.v (((planM leases host).R).map cRoute), Sv 7 54 v4.v (((planM leases host).N).map cNeigh), Sv 7 56 v5.v (((planM leases host).F).map cFdb)] w) ?_ ?_
  · rcases Bool.eq_false_or_eq_true b3 with hb153 | hb153
    · refine r_okg hs rfl rfl hb153 m (ok_fieldAddr (r := 0) rfl fd48_0 ty3 rfl) rfl ?_
      clear hs a; intro a hs
      refine r_okg hs rfl rfl hb153 m (ok_load_sc rfl ty3 (bx_at r0) rfl) rfl ?_
      clear hs a; intro a hs
      refine r_okg hs rfl rfl hb153 m (ok_move rfl) rfl ?_
      clear hs a; intro a hs
      refine r_okg hs rfl rfl hb153 m (ok_bin rfl rfl rfl) rfl ?_
      clear hs a; intro a hs
      refine r_okg hs rfl rfl hb153 m (ok_move rfl) rfl ?_
      clear hs a; intro a hs
      refine l_cut (.c (.c (.c (.c (.c (.c (.n))))))) (fun a w => St 204 [(0, vleases.v), (1, .int .i64 host), (5, .bool okk), (6, .pointer (some (padd p7 0))), (7, .int .i64 cr), (8, .int .i64 cn), (9, .int .i64 cf), (10, .int .i64 (k : Int)), (11, .pointer (some (padd p29 0))), (12, .bool (b1 && (!(decide (e137.Subnet = e24.Subnet))))), (13, .bool (b2 && ((e137.Host.v == host) || (e137.Subnet.Addr.v != e24.Subnet.Addr.v)))), (15, .int .i64 (j : Int)), (97, .bool b3), (98, .pointer (some (padd p142 0))), (99, .int .i64 e137.Host.v), (100, .int .i64 host), (101, .bool (e137.Host.v == host)), (102, .bool (e137.Host.v == host)), (108, .bool ((e137.Host.v == host) || (!(decide (e137.MAC = e24.MAC)))))] a ∧ Hp w0 (hh w0) [Bx p142 48 (cLease e137), Bx p7 29 [v3.v, v4.v, v5.v], Bx p29 48 (cLease e24), Sv 4 51 v3.v (((planM leases host).R).map cRoute), Sv 7 54 v4.v (((planM leases host).N).map cNeigh), Sv 7 56 v5.v (((planM leases host).F).map cFdb)] w) ?_ ?_
      · rcases Bool.eq_false_or_eq_true (e137.Host.v == host) with hb154 | hb154
        · have hb154p := eq_of_beq hb154
          refine g_out hs rfl rfl hb154 rfl ?_
          clear hs a; intro a hs
          refine g_out hs rfl rfl hb154 rfl ?_
          clear hs a; intro a hs
          refine g_out hs rfl rfl hb154 rfl ?_
          clear hs a; intro a hs
          refine g_out hs rfl rfl hb154 rfl ?_
          clear hs a; intro a hs
          refine g_out hs rfl rfl hb154 rfl ?_
          clear hs a; intro a hs
          refine r_okg hs rfl rfl hb153 m (ok_pick (r := .bool ((e137.Host.v == host) || (!(decide (e137.MAC = e24.MAC))))) rfl rfl rfl (by rw [hb154]; rfl)) rfl ?_
          clear hs a; intro a hs
          exact wpList_nil (n_then ⟨hs.to ⟨rfl, rfl, rfl, rfl, rfl, rfl, rfl, rfl, rfl, rfl, rfl, rfl, rfl, rfl, rfl, rfl, rfl, rfl, rfl, trivial⟩, m⟩)
        · have hb154p := ne_of_beq_false hb154
          refine r_okg hs rfl rfl hb154 m (ok_fieldAddr (r := 4) rfl fd48_3 ty46 rfl) rfl ?_
          clear hs a; intro a hs
          refine r_okg hs rfl rfl hb154 m (ok_load_ag (vs := cMAC e137.MAC) rfl ty46 (bx_at r0) rfl rfl) rfl ?_
          clear hs a; intro a hs
          refine r_okg hs rfl rfl hb154 m (ok_fieldAddr (r := 4) rfl fd48_3 ty46 rfl) rfl ?_
          clear hs a; intro a hs
          refine r_okg hs rfl rfl hb154 m (ok_load_ag (vs := cMAC e24.MAC) rfl ty46 (bx_at r2) rfl rfl) rfl ?_
          clear hs a; intro a hs
          refine r_okg hs rfl rfl hb154 m (ok_nev (b := decide (e137.MAC = e24.MAC)) rfl rfl eqT46 (fMAC _) (fMAC _) (iMAC e137.MAC e24.MAC)) rfl ?_
          clear hs a; intro a hs
          refine r_okg hs rfl rfl hb153 m (ok_pick (r := .bool ((e137.Host.v == host) || (!(decide (e137.MAC = e24.MAC))))) rfl rfl rfl (by rw [hb154]; rfl)) rfl ?_
          clear hs a; intro a hs
          exact wpList_nil (n_then ⟨hs.to ⟨rfl, rfl, rfl, rfl, rfl, rfl, rfl, rfl, rfl, rfl, rfl, rfl, rfl, rfl, rfl, rfl, rfl, rfl, rfl, trivial⟩, m⟩)
      clear hs m a w152; rintro a w155 ⟨hs, m⟩
      refine r_ok hs m (ok_pick (r := .bool (b3 && ((e137.Host.v == host) || (!(decide (e137.MAC = e24.MAC)))))) rfl rfl rfl (by rw [hb153]; rfl)) rfl ?_
      clear hs a; intro a hs
      exact wpList_nil (n_then ⟨hs.to ⟨rfl, rfl, rfl, rfl, rfl, rfl, rfl, rfl, rfl, rfl, rfl, rfl, rfl, trivial⟩, m⟩)
    · refine g_out hs rfl rfl hb153 rfl ?_
      clear hs a; intro a hs
      refine g_out hs rfl rfl hb153 rfl ?_
      clear hs a; intro a hs
      refine g_out hs rfl rfl hb153 rfl ?_
      clear hs a; intro a hs
      refine g_out hs rfl rfl hb153 rfl ?_
      clear hs a; intro a hs
      refine g_out hs rfl rfl hb153 rfl ?_
      clear hs a; intro a hs
      refine g_outU hs rfl rfl rfl ?_
      clear hs a; intro a hs
      refine g_outU hs rfl rfl rfl ?_
      clear hs a; intro a hs
      refine g_outU hs rfl rfl rfl ?_
      clear hs a; intro a hs
      refine g_outU hs rfl rfl rfl ?_
      clear hs a; intro a hs
      refine g_outU hs rfl rfl rfl ?_
      clear hs a; intro a hs
      refine g_out hs rfl rfl hb153 rfl ?_
      clear hs a; intro a hs
      refine r_ok hs m (ok_pick (r := .bool (b3 && ((e137.Host.v == host) || (!(decide (e137.MAC = e24.MAC)))))) rfl rfl rfl (by rw [hb153]; rfl)) rfl ?_
      clear hs a; intro a hs
      exact wpList_nil (n_then ⟨hs.to ⟨rfl, rfl, rfl, rfl, rfl, rfl, rfl, rfl, rfl, rfl, rfl, rfl, rfl, trivial⟩, m⟩)
  clear hs m a w152; rintro a w156 ⟨hs, m⟩
  refine r_ok hs m (ok_assign rfl) rfl ?_
  clear hs a; intro a hs
  refine wpList_nil (n_block (n_then ?_))
  refine c_last ?_
  refine r_ok hs m (ok_move rfl) rfl ?_
  clear hs a; intro a hs
  refine r_ok hs m (ok_add (r := (j : Int) + 1) rfl rfl (wrap_i64 (by omega) (by omega))) rfl ?_
  clear hs a; intro a hs
  refine r_ok hs m (ok_assign rfl) rfl ?_
  clear hs a; intro a hs
  refine wpList_nil (n_then ?_)
  exact ⟨leases.length - (j + 1), by omega, j + 1, b1 && (!(decide (e137.Subnet = e24.Subnet))), b2 && ((e137.Host.v == host) || (e137.Subnet.Addr.v != e24.Subnet.Addr.v)), b3 && ((e137.Host.v == host) || (!(decide (e137.MAC = e24.MAC)))), by omega, by omega, by first | exact lastK_skip (by assumption) (by omega) (pR_t (by assumption)) hb1 | exact lastK_step (by assumption) (by omega) (pR_f (by assumption)) hb1, by first | exact lastK2_skip (by assumption) (by omega) (pN_t (by assumption)) hb2 | exact lastK2_step (by assumption) (by omega) (pN_f (by assumption)) hb2, by first | exact lastK2_skip (by assumption) (by omega) (pF_t (by assumption)) hb3 | exact lastK2_step (by assumption) (by omega) (pF_f (by assumption)) hb3, rfl, hs.to ⟨rfl, rfl, rfl, rfl, rfl, rfl, rfl, rfl, rfl, rfl, rfl, rfl, rfl, trivial⟩, m.sub (.c r1 (.c r1 (.c r1 (.c r1 (.c r1 .n)))))⟩
end Go.Proofs.YtnbpodjbemfpbaaGreat.Fw
