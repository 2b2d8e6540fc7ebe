/-
  Walks: printed by wip/tool/agent.py.
-/
import Derived.Test.YtnbpodjbemfpbaaGreatWv
import Derived.Test.YtnbpodjbemfpbaaGreatWo
import Derived.Test.YtnbpodjbemfpbaaGreatWb
import Derived.KernelRfl
set_option linter.all false
set_option maxHeartbeats 4000000
set_option maxRecDepth 100000
namespace Go.Proofs.YtnbpodjbemfpbaaGreat.Fw
open Go
theorem agentDiffLeads_c (vhave_Routes : SH) (have_Routes : List TRoute) (vhave_Neighs : SH) (have_Neighs : List TNeigh) (vhave_Fdbs : SH) (have_Fdbs : List TFdb) (vwant_Routes : SH) (want_Routes : List TRoute) (vwant_Neighs : SH) (want_Neighs : List TNeigh) (vwant_Fdbs : SH) (want_Fdbs : List TFdb) (w0 : World) (hhave_Routes : RdS (hh w0) 4 vhave_Routes.v (have_Routes.map cRoute)) (hhave_Neighs : RdS (hh w0) 7 vhave_Neighs.v (have_Neighs.map cNeigh)) (hhave_Fdbs : RdS (hh w0) 7 vhave_Fdbs.v (have_Fdbs.map cFdb)) (hwant_Routes : RdS (hh w0) 4 vwant_Routes.v (want_Routes.map cRoute)) (hwant_Neighs : RdS (hh w0) 7 vwant_Neighs.v (want_Neighs.map cNeigh)) (hwant_Fdbs : RdS (hh w0) 7 vwant_Fdbs.v (want_Fdbs.map cFdb)) (A0 : have_Routes.length ≤ 1048576) (A1 : have_Neighs.length ≤ 1048576) (A2 : have_Fdbs.length ≤ 1048576) (A3 : want_Routes.length ≤ 1048576) (A4 : want_Neighs.length ≤ 1048576) (A5 : want_Fdbs.length ≤ 1048576) : Pure Tryz.prog 6 [.agg ⟨[vhave_Routes.v, vhave_Neighs.v, vhave_Fdbs.v]⟩, .agg ⟨[vwant_Routes.v, vwant_Neighs.v, vwant_Fdbs.v]⟩] (.bool true) w0 := by
  have hdl := diffM_len have_Routes have_Neighs have_Fdbs want_Routes want_Neighs want_Fdbs
  have lvhave_Routes := hhave_Routes.bd
  have lvhave_Neighs := hhave_Neighs.bd
  have lvhave_Fdbs := hhave_Fdbs.bd
  have lvwant_Routes := hwant_Routes.bd
  have lvwant_Neighs := hwant_Neighs.bd
  have lvwant_Fdbs := hwant_Fdbs.bd
  refine enter (n := 182) Tryz.func6 rfl rfl rfl fun a (hs : St 182 [(0, .agg ⟨[vhave_Routes.v, vhave_Neighs.v, vhave_Fdbs.v]⟩), (1, .agg ⟨[vwant_Routes.v, vwant_Neighs.v, vwant_Fdbs.v]⟩)] a) => ?_
  have m := Hp.start w0
  refine c_reg ?_
  refine r_box (cs := [vhave_Routes.v, vhave_Neighs.v, vhave_Fdbs.v]) hs m rfl rfl rfl ?_
  clear m hs a; intro p1 w2 m a hs
  refine r_box (cs := [vwant_Routes.v, vwant_Neighs.v, vwant_Fdbs.v]) hs m rfl rfl rfl ?_
  clear m hs a w2; intro p3 w4 m a hs
  refine r_ok hs m (ok_assign rfl) rfl ?_
  clear hs a; intro a hs
  refine wpList_nil (n_then ?_)
  refine c_reg ?_
  refine r_callP hs m rfl rfl ca10 rfl (begun_c  _  ) rfl ?_
  clear m hs a w4; intro w5 m a hs
  refine r_ok hs m (ok_assign rfl) rfl ?_
  clear hs a; intro a hs
  refine wpList_nil (n_then ?_)
  refine c_seq ?_
  refine c_reg ?_
  refine r_ok hs m (ok_move rfl) rfl ?_
  clear hs a; intro a hs
  refine r_ok hs m (ok_not rfl) rfl ?_
  clear hs a; intro a hs
  refine wpList_nil (n_then ?_)
  refine c_false hs rfl rfl ?_
  refine wp_skip ?_
  refine n_then ?_
  refine c_reg ?_
  refine r_ok hs m (ok_load_ag (vs := [vhave_Routes.v, vhave_Neighs.v, vhave_Fdbs.v]) rfl ty29 (bx_at r1) rfl rfl) rfl ?_
  clear hs a; intro a hs
  refine r_ok hs m (ok_load_ag (vs := [vwant_Routes.v, vwant_Neighs.v, vwant_Fdbs.v]) rfl ty29 (bx_at r0) rfl rfl) rfl ?_
  clear hs a; intro a hs
  refine r_call hs rfl rfl ca17 rfl (diff_c vhave_Routes have_Routes vhave_Neighs have_Neighs vhave_Fdbs have_Fdbs vwant_Routes want_Routes vwant_Neighs want_Neighs vwant_Fdbs want_Fdbs _ (m.rd hhave_Routes) (m.rd hhave_Neighs) (m.rd hhave_Fdbs) (m.rd hwant_Routes) (m.rd hwant_Neighs) (m.rd hwant_Fdbs) (by first | omega | rfl | exact bsI_le _ _ | assumption | decide) (by first | omega | rfl | exact bsI_le _ _ | assumption | decide) (by first | omega | rfl | exact bsI_le _ _ | assumption | decide) (by first | omega | rfl | exact bsI_le _ _ | assumption | decide) (by first | omega | rfl | exact bsI_le _ _ | assumption | decide) (by first | omega | rfl | exact bsI_le _ _ | assumption | decide)) rfl ?_
  clear hs a; rintro _ w8 ⟨v7, rfl, hm⟩ a hs
  replace m : Hp w0 (hh w0) [Sv 19 58 v7.v ((diffM have_Routes have_Neighs have_Fdbs want_Routes want_Neighs want_Fdbs).map cOp), Bx p3 29 [vwant_Routes.v, vwant_Neighs.v, vwant_Fdbs.v], Bx p1 29 [vhave_Routes.v, vhave_Neighs.v, vhave_Fdbs.v]] w8 := m.after hm
  clear hm w5
  refine r_ok hs m (ok_move rfl) rfl ?_
  clear hs a; intro a hs
  refine r_ok hs m (ok_extract rfl rfl) rfl ?_
  clear hs a; intro a hs
  refine r_ok hs m (ok_extract rfl rfl) rfl ?_
  clear hs a; intro a hs
  refine r_ok hs m (ok_assign rfl) rfl ?_
  clear hs a; intro a hs
  refine r_ok hs m (ok_assign rfl) rfl ?_
  clear hs a; intro a hs
  refine wpList_nil (n_then ?_)
  refine c_seq ?_
  refine c_reg ?_
  refine r_ok hs m (ok_load_ag (vs := [vhave_Routes.v, vhave_Neighs.v, vhave_Fdbs.v]) rfl ty29 (bx_at r2) rfl rfl) rfl ?_
  clear hs a; intro a hs
  refine r_callP hs m rfl rfl ca21 rfl (orderly_c vhave_Routes have_Routes vhave_Neighs have_Neighs vhave_Fdbs have_Fdbs _ (m.rd hhave_Routes) (m.rd hhave_Neighs) (m.rd hhave_Fdbs) ) rfl ?_
  clear m hs a w8; intro w9 m a hs
  refine r_ok hs m (ok_not rfl) rfl ?_
  clear hs a; intro a hs
  refine r_ok hs m (ok_move rfl) rfl ?_
  clear hs a; intro a hs
  refine l_cut (.c (.c (.c (.c (.n))))) (fun a w => St 182 [(2, .pointer (some (padd p1 0))), (3, .pointer (some (padd p3 0))), (6, v7.v), (7, .int .i64 (diffE have_Routes have_Neighs have_Fdbs want_Routes want_Neighs want_Fdbs)), (34, .bool ((!(orderedM have_Routes have_Neighs have_Fdbs)) || (!(orderedM want_Routes want_Neighs want_Fdbs))))] a ∧ Hp w0 (hh w0) [Sv 19 58 v7.v ((diffM have_Routes have_Neighs have_Fdbs want_Routes want_Neighs want_Fdbs).map cOp), Bx p3 29 [vwant_Routes.v, vwant_Neighs.v, vwant_Fdbs.v], Bx p1 29 [vhave_Routes.v, vhave_Neighs.v, vhave_Fdbs.v]] w) ?_ ?_
  · rcases Bool.eq_false_or_eq_true (!(orderedM have_Routes have_Neighs have_Fdbs)) with hb10 | hb10
    · have hb10p := hb10; simp only [Bool.or_eq_true, Bool.or_eq_false_iff, Bool.and_eq_true, Bool.and_eq_false_iff, Bool.not_eq_true', Bool.not_eq_false', decide_eq_true_eq, decide_eq_false_iff_not, beq_iff_eq, bne_iff_ne, beq_eq_false_iff_ne, bne_eq_false_iff_eq, ne_eq, gt_iff_lt, ge_iff_le, Int.not_lt, Int.not_le] at hb10p
      refine g_out hs rfl rfl hb10 rfl ?_
      clear hs a; intro a hs
      refine g_out hs rfl rfl hb10 rfl ?_
      clear hs a; intro a hs
      refine g_out hs rfl rfl hb10 rfl ?_
      clear hs a; intro a hs
      refine r_ok hs m (ok_pick (r := .bool ((!(orderedM have_Routes have_Neighs have_Fdbs)) || (!(orderedM want_Routes want_Neighs want_Fdbs)))) rfl rfl rfl (by rw [hb10]; rfl)) rfl ?_
      clear hs a; intro a hs
      exact wpList_nil (n_then ⟨hs.to ⟨rfl, rfl, rfl, rfl, rfl, trivial⟩, m⟩)
    · have hb10p := hb10; simp only [Bool.or_eq_true, Bool.or_eq_false_iff, Bool.and_eq_true, Bool.and_eq_false_iff, Bool.not_eq_true', Bool.not_eq_false', decide_eq_true_eq, decide_eq_false_iff_not, beq_iff_eq, bne_iff_ne, beq_eq_false_iff_ne, bne_eq_false_iff_eq, ne_eq, gt_iff_lt, ge_iff_le, Int.not_lt, Int.not_le] at hb10p
      refine r_okg hs rfl rfl hb10 m (ok_load_ag (vs := [vwant_Routes.v, vwant_Neighs.v, vwant_Fdbs.v]) rfl ty29 (bx_at r1) rfl rfl) rfl ?_
      clear hs a; intro a hs
      refine r_callPg hs rfl rfl hb10 m rfl rfl ca21 rfl (orderly_c vwant_Routes want_Routes vwant_Neighs want_Neighs vwant_Fdbs want_Fdbs _ (m.rd hwant_Routes) (m.rd hwant_Neighs) (m.rd hwant_Fdbs) ) rfl ?_
      clear m hs a w9; intro w11 m a hs
      refine r_okg hs rfl rfl hb10 m (ok_not rfl) rfl ?_
      clear hs a; intro a hs
      refine r_ok hs m (ok_pick (r := .bool ((!(orderedM have_Routes have_Neighs have_Fdbs)) || (!(orderedM want_Routes want_Neighs want_Fdbs)))) rfl rfl rfl (by rw [hb10]; rfl)) rfl ?_
      clear hs a; intro a hs
      exact wpList_nil (n_then ⟨hs.to ⟨rfl, rfl, rfl, rfl, rfl, trivial⟩, m⟩)
  clear hs m a w9; rintro a w12 ⟨hs, m⟩
  refine wpList_nil (n_then ?_)
  refine c_cond hs rfl (fun h13 => ?_) (fun h13 => ?_)
  · have h13p := h13; simp only [Bool.or_eq_true, Bool.or_eq_false_iff, Bool.and_eq_true, Bool.and_eq_false_iff, Bool.not_eq_true', Bool.not_eq_false', decide_eq_true_eq, decide_eq_false_iff_not, beq_iff_eq, bne_iff_ne, beq_eq_false_iff_ne, bne_eq_false_iff_eq, ne_eq, gt_iff_lt, ge_iff_le, Int.not_lt, Int.not_le] at h13p
    refine c_reg ?_
    refine r_ok hs m (ok_move rfl) rfl ?_
    clear hs a; intro a hs
    refine r_ok hs m (ok_bin rfl rfl rfl) rfl ?_
    clear hs a; intro a hs
    refine r_ok hs m (ok_move rfl) rfl ?_
    clear hs a; intro a hs
    refine l_cut (.c (.c (.c (.c (.n))))) (fun a w => St 182 [(41, .bool (((diffE have_Routes have_Neighs have_Fdbs want_Routes want_Neighs want_Fdbs) == 161) && (((diffM have_Routes have_Neighs have_Fdbs want_Routes want_Neighs want_Fdbs).length : Int) == 0)))] a ∧ Hp w0 (hh w0) [Sv 19 58 v7.v ((diffM have_Routes have_Neighs have_Fdbs want_Routes want_Neighs want_Fdbs).map cOp), Bx p3 29 [vwant_Routes.v, vwant_Neighs.v, vwant_Fdbs.v], Bx p1 29 [vhave_Routes.v, vhave_Neighs.v, vhave_Fdbs.v]] w) ?_ ?_
    · rcases Bool.eq_false_or_eq_true ((diffE have_Routes have_Neighs have_Fdbs want_Routes want_Neighs want_Fdbs) == 161) with hb14 | hb14
      · have hb14p := eq_of_beq hb14
        refine r_okg hs rfl rfl hb14 m (ok_move rfl) rfl ?_
        clear hs a; intro a hs
        refine r_okg hs rfl rfl hb14 m (ok_len (r := ((diffM have_Routes have_Neighs have_Fdbs want_Routes want_Neighs want_Fdbs).length : Int)) m rfl sl35 (rc_own r0) (by simp)) rfl ?_
        clear hs a; intro a hs
        refine r_okg hs rfl rfl hb14 m (ok_bin rfl rfl rfl) rfl ?_
        clear hs a; intro a hs
        refine r_ok hs m (ok_pick (r := .bool (((diffE have_Routes have_Neighs have_Fdbs want_Routes want_Neighs want_Fdbs) == 161) && (((diffM have_Routes have_Neighs have_Fdbs want_Routes want_Neighs want_Fdbs).length : Int) == 0))) rfl rfl rfl (by rw [hb14]; rfl)) rfl ?_
        clear hs a; intro a hs
        exact wpList_nil (n_then ⟨hs.to ⟨rfl, trivial⟩, m⟩)
      · have hb14p := ne_of_beq_false hb14
        refine g_out hs rfl rfl hb14 rfl ?_
        clear hs a; intro a hs
        refine g_out hs rfl rfl hb14 rfl ?_
        clear hs a; intro a hs
        refine g_out hs rfl rfl hb14 rfl ?_
        clear hs a; intro a hs
        refine r_ok hs m (ok_pick (r := .bool (((diffE have_Routes have_Neighs have_Fdbs want_Routes want_Neighs want_Fdbs) == 161) && (((diffM have_Routes have_Neighs have_Fdbs want_Routes want_Neighs want_Fdbs).length : Int) == 0))) rfl rfl rfl (by rw [hb14]; rfl)) rfl ?_
        clear hs a; intro a hs
        exact wpList_nil (n_then ⟨hs.to ⟨rfl, trivial⟩, m⟩)
    clear hs m a w12; rintro a w15 ⟨hs, m⟩
    refine r_ok hs m (ok_assign rfl) rfl ?_
    clear hs a; intro a hs
    refine wpList_nil (n_then ?_)
    refine wp_ret ?_
    refine ret_then (leave hs (vs := [.bool (((diffE have_Routes have_Neighs have_Fdbs want_Routes want_Neighs want_Fdbs) == 161) && (((diffM have_Routes have_Neighs have_Fdbs want_Routes want_Neighs want_Fdbs).length : Int) == 0))]) rfl ⟨rfl, trivial⟩ ?_)
    refine ⟨?_, m.sub .n⟩
    have q16 : (((diffE have_Routes have_Neighs have_Fdbs want_Routes want_Neighs want_Fdbs) == 161) && (((diffM have_Routes have_Neighs have_Fdbs want_Routes want_Neighs want_Fdbs).length : Int) == 0) : Bool) = true := by clear hs m; first | rfl | exact leads_bad (by assumption) | exact (leads_bad (by assumption)).symm | exact decide_eq_true (hwy.fin (by omega))
    first | (rw [q16]; done) | (rw [q16]; rfl) | (rw [q16]; rfl) | (simp only [q16, pack]; done)
  have h13p := h13; simp only [Bool.or_eq_true, Bool.or_eq_false_iff, Bool.and_eq_true, Bool.and_eq_false_iff, Bool.not_eq_true', Bool.not_eq_false', decide_eq_true_eq, decide_eq_false_iff_not, beq_iff_eq, bne_iff_ne, beq_eq_false_iff_ne, bne_eq_false_iff_eq, ne_eq, gt_iff_lt, ge_iff_le, Int.not_lt, Int.not_le] at h13p
  refine wp_skip ?_
  refine n_then ?_
  refine c_seq ?_
  refine c_reg ?_
  refine r_ok hs m (ok_move rfl) rfl ?_
  clear hs a; intro a hs
  refine r_ok hs m (ok_bin rfl rfl rfl) rfl ?_
  clear hs a; intro a hs
  refine wpList_nil (n_then ?_)
  refine c_false hs rfl (by simp [leadsE (by assumption)]) ?_
  refine wp_skip ?_
  refine n_then ?_
  refine c_reg ?_
  refine r_ok hs m (ok_fieldAddr (r := 0) rfl fd29_0 ty25 rfl) rfl ?_
  clear hs a; intro a hs
  refine r_ok hs m (ok_load_sc rfl ty25 (bx_at r2) rfl) rfl ?_
  clear hs a; intro a hs
  refine r_ok hs m (ok_len (r := (have_Routes.length : Int)) m rfl sl25 (rc_fr hhave_Routes) (by simp)) rfl ?_
  clear hs a; intro a hs
  refine r_ok hs m (ok_fieldAddr (r := 0) rfl fd29_0 ty25 rfl) rfl ?_
  clear hs a; intro a hs
  refine r_ok hs m (ok_load_sc rfl ty25 (bx_at r1) rfl) rfl ?_
  clear hs a; intro a hs
  refine r_ok hs m (ok_len (r := (want_Routes.length : Int)) m rfl sl25 (rc_fr hwant_Routes) (by simp)) rfl ?_
  clear hs a; intro a hs
  refine r_ok hs m (ok_max rfl rfl rfl) rfl ?_
  clear hs a; intro a hs
  refine r_ok hs m (ok_assign rfl) rfl ?_
  clear hs a; intro a hs
  refine wpList_nil (n_then ?_)
  refine c_reg ?_
  refine r_ok hs m (ok_fieldAddr (r := 1) rfl fd29_1 ty26 rfl) rfl ?_
  clear hs a; intro a hs
  refine r_ok hs m (ok_load_sc rfl ty26 (bx_at r2) rfl) rfl ?_
  clear hs a; intro a hs
  refine r_ok hs m (ok_len (r := (have_Neighs.length : Int)) m rfl sl26 (rc_fr hhave_Neighs) (by simp)) rfl ?_
  clear hs a; intro a hs
  refine r_ok hs m (ok_fieldAddr (r := 1) rfl fd29_1 ty26 rfl) rfl ?_
  clear hs a; intro a hs
  refine r_ok hs m (ok_load_sc rfl ty26 (bx_at r1) rfl) rfl ?_
  clear hs a; intro a hs
  refine r_ok hs m (ok_len (r := (want_Neighs.length : Int)) m rfl sl26 (rc_fr hwant_Neighs) (by simp)) rfl ?_
  clear hs a; intro a hs
  refine r_ok hs m (ok_max rfl rfl rfl) rfl ?_
  clear hs a; intro a hs
  refine r_ok hs m (ok_assign rfl) rfl ?_
  clear hs a; intro a hs
  refine wpList_nil (n_then ?_)
  refine c_reg ?_
  refine r_ok hs m (ok_fieldAddr (r := 2) rfl fd29_2 ty27 rfl) rfl ?_
  clear hs a; intro a hs
  refine r_ok hs m (ok_load_sc rfl ty27 (bx_at r2) rfl) rfl ?_
  clear hs a; intro a hs
  refine r_ok hs m (ok_len (r := (have_Fdbs.length : Int)) m rfl sl27 (rc_fr hhave_Fdbs) (by simp)) rfl ?_
  clear hs a; intro a hs
  refine r_ok hs m (ok_fieldAddr (r := 2) rfl fd29_2 ty27 rfl) rfl ?_
  clear hs a; intro a hs
  refine r_ok hs m (ok_load_sc rfl ty27 (bx_at r1) rfl) rfl ?_
  clear hs a; intro a hs
  refine r_ok hs m (ok_len (r := (want_Fdbs.length : Int)) m rfl sl27 (rc_fr hwant_Fdbs) (by simp)) rfl ?_
  clear hs a; intro a hs
  refine r_ok hs m (ok_max rfl rfl rfl) rfl ?_
  clear hs a; intro a hs
  refine r_ok hs m (ok_assign rfl) rfl ?_
  clear hs a; intro a hs
  refine wpList_nil (n_then ?_)
  refine c_reg ?_
  refine r_ok hs m (ok_load_ag (vs := [vhave_Routes.v, vhave_Neighs.v, vhave_Fdbs.v]) rfl ty29 (bx_at r2) rfl rfl) rfl ?_
  clear hs a; intro a hs
  refine r_callP hs m rfl rfl ca22 rfl (whole_c vhave_Routes have_Routes vhave_Neighs have_Neighs vhave_Fdbs have_Fdbs _ (m.rd hhave_Routes) (m.rd hhave_Neighs) (m.rd hhave_Fdbs) ) rfl ?_
  clear m hs a w12; intro w18 m a hs
  refine r_ok hs m (ok_move rfl) rfl ?_
  clear hs a; intro a hs
  refine l_cut (.c (.c (.c (.n)))) (fun a w => St 182 [(2, .pointer (some (padd p1 0))), (3, .pointer (some (padd p3 0))), (6, v7.v), (8, .int .i64 (max (have_Routes.length : Int) (want_Routes.length : Int))), (9, .int .i64 (max (have_Neighs.length : Int) (want_Neighs.length : Int))), (10, .int .i64 (max (have_Fdbs.length : Int) (want_Fdbs.length : Int))), (70, .bool ((wholeM have_Routes have_Neighs have_Fdbs) && (wholeM want_Routes want_Neighs want_Fdbs)))] a ∧ Hp w0 (hh w0) [Sv 19 58 v7.v ((diffM have_Routes have_Neighs have_Fdbs want_Routes want_Neighs want_Fdbs).map cOp), Bx p3 29 [vwant_Routes.v, vwant_Neighs.v, vwant_Fdbs.v], Bx p1 29 [vhave_Routes.v, vhave_Neighs.v, vhave_Fdbs.v]] w) ?_ ?_
  · rcases Bool.eq_false_or_eq_true (wholeM have_Routes have_Neighs have_Fdbs) with hb19 | hb19
    · refine r_okg hs rfl rfl hb19 m (ok_load_ag (vs := [vwant_Routes.v, vwant_Neighs.v, vwant_Fdbs.v]) rfl ty29 (bx_at r1) rfl rfl) rfl ?_
      clear hs a; intro a hs
      refine r_callPg hs rfl rfl hb19 m rfl rfl ca22 rfl (whole_c vwant_Routes want_Routes vwant_Neighs want_Neighs vwant_Fdbs want_Fdbs _ (m.rd hwant_Routes) (m.rd hwant_Neighs) (m.rd hwant_Fdbs) ) rfl ?_
      clear m hs a w18; intro w20 m a hs
      refine r_ok hs m (ok_pick (r := .bool ((wholeM have_Routes have_Neighs have_Fdbs) && (wholeM want_Routes want_Neighs want_Fdbs))) rfl rfl rfl (by rw [hb19]; rfl)) rfl ?_
      clear hs a; intro a hs
      exact wpList_nil (n_then ⟨hs.to ⟨rfl, rfl, rfl, rfl, rfl, rfl, rfl, trivial⟩, m⟩)
    · refine g_out hs rfl rfl hb19 rfl ?_
      clear hs a; intro a hs
      refine g_out hs rfl rfl hb19 rfl ?_
      clear hs a; intro a hs
      refine r_ok hs m (ok_pick (r := .bool ((wholeM have_Routes have_Neighs have_Fdbs) && (wholeM want_Routes want_Neighs want_Fdbs))) rfl rfl rfl (by rw [hb19]; rfl)) rfl ?_
      clear hs a; intro a hs
      exact wpList_nil (n_then ⟨hs.to ⟨rfl, rfl, rfl, rfl, rfl, rfl, rfl, trivial⟩, m⟩)
  clear hs m a w18; rintro a w21 ⟨hs, m⟩
  refine r_ok hs m (ok_assign rfl) rfl ?_
  clear hs a; intro a hs
  refine wpList_nil (n_then ?_)
  refine c_reg ?_
  refine r_ok hs m (ok_load_ag (vs := [vhave_Routes.v, vhave_Neighs.v, vhave_Fdbs.v]) rfl ty29 (bx_at r2) rfl rfl) rfl ?_
  clear hs a; intro a hs
  refine r_alloc hs m ze29 rfl ?_
  clear m hs a w21; intro p22 w23 m a hs
  refine r_store (cs' := [vhave_Routes.v, vhave_Neighs.v, vhave_Fdbs.v]) (vs := [vhave_Routes.v, vhave_Neighs.v, vhave_Fdbs.v]) hs m rfl rfl ty29 s0 rfl rfl rfl rfl rfl ?_
  clear m w23; intro w24 m
  refine wpList_nil (n_then ?_)
  refine c_reg ?_
  refine r_ok hs m (ok_assign rfl) rfl ?_
  clear hs a; intro a hs
  refine wpList_nil (n_then ?_)
  refine c_seq ?_
  refine c_reg ?_
  refine r_ok hs m (ok_assign rfl) rfl ?_
  clear hs a; intro a hs
  refine wpList_nil (n_then ?_)
  refine wp_block ?_
  replace m := m.addRo (B := (hh w0)) (E := 51) (k := 4) (v := vhave_Routes.v) (ds := have_Routes.map cRoute) (hhave_Routes)
  have q29 : have_Routes = (stK ⟨have_Routes, have_Neighs, have_Fdbs⟩ (diffM have_Routes have_Neighs have_Fdbs want_Routes want_Neighs want_Fdbs) 0).R := by first | (rw [stK_0]; done) | (rw [stK_succ (by assumption)])
  replace m := m.swp (q := Ro (hh w0) 4 51 vhave_Routes.v (((stK ⟨have_Routes, have_Neighs, have_Fdbs⟩ (diffM have_Routes have_Neighs have_Fdbs want_Routes want_Neighs want_Fdbs) 0).R).map cRoute)) s0 (fun _ e => by rw [← q29]; exact e)
  replace m := m.addRo (B := (hh w0)) (E := 54) (k := 7) (v := vhave_Neighs.v) (ds := have_Neighs.map cNeigh) (hhave_Neighs)
  have q31 : have_Neighs = (stK ⟨have_Routes, have_Neighs, have_Fdbs⟩ (diffM have_Routes have_Neighs have_Fdbs want_Routes want_Neighs want_Fdbs) 0).N := by first | (rw [stK_0]; done) | (rw [stK_succ (by assumption)])
  replace m := m.swp (q := Ro (hh w0) 7 54 vhave_Neighs.v (((stK ⟨have_Routes, have_Neighs, have_Fdbs⟩ (diffM have_Routes have_Neighs have_Fdbs want_Routes want_Neighs want_Fdbs) 0).N).map cNeigh)) s0 (fun _ e => by rw [← q31]; exact e)
  replace m := m.addRo (B := (hh w0)) (E := 56) (k := 7) (v := vhave_Fdbs.v) (ds := have_Fdbs.map cFdb) (hhave_Fdbs)
  have q33 : have_Fdbs = (stK ⟨have_Routes, have_Neighs, have_Fdbs⟩ (diffM have_Routes have_Neighs have_Fdbs want_Routes want_Neighs want_Fdbs) 0).F := by first | (rw [stK_0]; done) | (rw [stK_succ (by assumption)])
  replace m := m.swp (q := Ro (hh w0) 7 56 vhave_Fdbs.v (((stK ⟨have_Routes, have_Neighs, have_Fdbs⟩ (diffM have_Routes have_Neighs have_Fdbs want_Routes want_Neighs want_Fdbs) 0).F).map cFdb)) s0 (fun _ e => by rw [← q33]; exact e)
  refine wp_loop_ghost (fun gn a w => ∃ k : Nat, ∃ rmt : Bool, ∃ v25 : SH, ∃ v26 : SH, ∃ v27 : SH, (k ≤ (diffM have_Routes have_Neighs have_Fdbs want_Routes want_Neighs want_Fdbs).length) ∧ (rmt = ((diffM have_Routes have_Neighs have_Fdbs want_Routes want_Neighs want_Fdbs).take k).any isRem) ∧ gn = (diffM have_Routes have_Neighs have_Fdbs want_Routes want_Neighs want_Fdbs).length - k ∧ St 182 [(3, .pointer (some (padd p3 0))), (6, v7.v), (8, .int .i64 (max (have_Routes.length : Int) (want_Routes.length : Int))), (9, .int .i64 (max (have_Neighs.length : Int) (want_Neighs.length : Int))), (10, .int .i64 (max (have_Fdbs.length : Int) (want_Fdbs.length : Int))), (11, .bool ((wholeM have_Routes have_Neighs have_Fdbs) && (wholeM want_Routes want_Neighs want_Fdbs))), (12, .pointer (some (padd p22 0))), (13, .bool rmt), (14, .int .i64 (k : Int))] a ∧ Hp w0 (hh w0) [Bx p3 29 [vwant_Routes.v, vwant_Neighs.v, vwant_Fdbs.v], Sv 19 58 v7.v ((diffM have_Routes have_Neighs have_Fdbs want_Routes want_Neighs want_Fdbs).map cOp), Bx p22 29 [v25.v, v26.v, v27.v], Ro (hh w0) 4 51 v25.v (((stK ⟨have_Routes, have_Neighs, have_Fdbs⟩ (diffM have_Routes have_Neighs have_Fdbs want_Routes want_Neighs want_Fdbs) k).R).map cRoute), Ro (hh w0) 7 54 v26.v (((stK ⟨have_Routes, have_Neighs, have_Fdbs⟩ (diffM have_Routes have_Neighs have_Fdbs want_Routes want_Neighs want_Fdbs) k).N).map cNeigh), Ro (hh w0) 7 56 v27.v (((stK ⟨have_Routes, have_Neighs, have_Fdbs⟩ (diffM have_Routes have_Neighs have_Fdbs want_Routes want_Neighs want_Fdbs) k).F).map cFdb)] w) ((diffM have_Routes have_Neighs have_Fdbs want_Routes want_Neighs want_Fdbs).length - 0) ⟨0, false, vhave_Routes, vhave_Neighs, vhave_Fdbs, by omega, by simp, rfl, hs.to ⟨rfl, rfl, rfl, rfl, rfl, rfl, rfl, rfl, rfl, trivial⟩, m.sub (.c r5 (.c r4 (.c r3 (.c r2 (.c r1 (.c r0 .n))))))⟩ ?_
  clear hs m a w24
  rintro gn a w34 ⟨k, rmt, v25, v26, v27, hk, hr, rfl, hs, m⟩
  have hwy := leads (k := k) (by assumption) hk
  have hw1 := hwy.lR
  have hw2 := hwy.lN
  have hw3 := hwy.lF
  refine c_seq ?_
  refine c_reg ?_
  refine r_ok hs m (ok_move rfl) rfl ?_
  clear hs a; intro a hs
  refine r_ok hs m (ok_move rfl) rfl ?_
  clear hs a; intro a hs
  refine r_ok hs m (ok_len (r := ((diffM have_Routes have_Neighs have_Fdbs want_Routes want_Neighs want_Fdbs).length : Int)) m rfl sl35 (rc_own r1) (by simp)) rfl ?_
  clear hs a; intro a hs
  refine r_ok hs m (ok_bin rfl rfl rfl) rfl ?_
  clear hs a; intro a hs
  refine wpList_nil (n_then ?_)
  refine c_cond hs rfl (fun h35 => ?_) (fun h35 => ?_)
  rotate_left
  · have h35p := of_decide_eq_false h35
    refine wp_exit ?_
    refine ex_then (ex_then (ex_hit (?_)))
    refine n_then ?_
    refine c_reg ?_
    refine r_ok hs m (ok_load_ag (vs := [v25.v, v26.v, v27.v]) rfl ty29 (bx_at r2) rfl rfl) rfl ?_
    clear hs a; intro a hs
    refine r_ok hs m (ok_load_ag (vs := [vwant_Routes.v, vwant_Neighs.v, vwant_Fdbs.v]) rfl ty29 (bx_at r0) rfl rfl) rfl ?_
    clear hs a; intro a hs
    refine r_call hs rfl rfl ca17 rfl (diff_c v25 ((stK ⟨have_Routes, have_Neighs, have_Fdbs⟩ (diffM have_Routes have_Neighs have_Fdbs want_Routes want_Neighs want_Fdbs) k).R) v26 ((stK ⟨have_Routes, have_Neighs, have_Fdbs⟩ (diffM have_Routes have_Neighs have_Fdbs want_Routes want_Neighs want_Fdbs) k).N) v27 ((stK ⟨have_Routes, have_Neighs, have_Fdbs⟩ (diffM have_Routes have_Neighs have_Fdbs want_Routes want_Neighs want_Fdbs) k).F) vwant_Routes want_Routes vwant_Neighs want_Neighs vwant_Fdbs want_Fdbs _ (m.rdo (hle_refl _) r3) (m.rdo (hle_refl _) r4) (m.rdo (hle_refl _) r5) (m.rd hwant_Routes) (m.rd hwant_Neighs) (m.rd hwant_Fdbs) (by first | omega | rfl | exact bsI_le _ _ | assumption | decide) (by first | omega | rfl | exact bsI_le _ _ | assumption | decide) (by first | omega | rfl | exact bsI_le _ _ | assumption | decide) (by first | omega | rfl | exact bsI_le _ _ | assumption | decide) (by first | omega | rfl | exact bsI_le _ _ | assumption | decide) (by first | omega | rfl | exact bsI_le _ _ | assumption | decide)) rfl ?_
    clear hs a; rintro _ w37 ⟨v36, rfl, hm⟩ a hs
    replace m : Hp w0 (hh w0) [Sv 19 58 v36.v ((diffM ((stK ⟨have_Routes, have_Neighs, have_Fdbs⟩ (diffM have_Routes have_Neighs have_Fdbs want_Routes want_Neighs want_Fdbs) k).R) ((stK ⟨have_Routes, have_Neighs, have_Fdbs⟩ (diffM have_Routes have_Neighs have_Fdbs want_Routes want_Neighs want_Fdbs) k).N) ((stK ⟨have_Routes, have_Neighs, have_Fdbs⟩ (diffM have_Routes have_Neighs have_Fdbs want_Routes want_Neighs want_Fdbs) k).F) want_Routes want_Neighs want_Fdbs).map cOp), Bx p3 29 [vwant_Routes.v, vwant_Neighs.v, vwant_Fdbs.v], Sv 19 58 v7.v ((diffM have_Routes have_Neighs have_Fdbs want_Routes want_Neighs want_Fdbs).map cOp), Bx p22 29 [v25.v, v26.v, v27.v], Ro (hh w0) 4 51 v25.v (((stK ⟨have_Routes, have_Neighs, have_Fdbs⟩ (diffM have_Routes have_Neighs have_Fdbs want_Routes want_Neighs want_Fdbs) k).R).map cRoute), Ro (hh w0) 7 54 v26.v (((stK ⟨have_Routes, have_Neighs, have_Fdbs⟩ (diffM have_Routes have_Neighs have_Fdbs want_Routes want_Neighs want_Fdbs) k).N).map cNeigh), Ro (hh w0) 7 56 v27.v (((stK ⟨have_Routes, have_Neighs, have_Fdbs⟩ (diffM have_Routes have_Neighs have_Fdbs want_Routes want_Neighs want_Fdbs) k).F).map cFdb)] w37 := m.after hm
    clear hm w34
    refine r_ok hs m (ok_move rfl) rfl ?_
    clear hs a; intro a hs
    refine r_ok hs m (ok_extract rfl rfl) rfl ?_
    clear hs a; intro a hs
    refine r_ok hs m (ok_extract rfl rfl) rfl ?_
    clear hs a; intro a hs
    refine r_ok hs m (ok_assign rfl) rfl ?_
    clear hs a; intro a hs
    refine r_ok hs m (ok_assign rfl) rfl ?_
    clear hs a; intro a hs
    refine wpList_nil (n_then ?_)
    refine c_reg ?_
    refine r_ok hs m (ok_move rfl) rfl ?_
    clear hs a; intro a hs
    refine r_ok hs m (ok_bin rfl rfl rfl) rfl ?_
    clear hs a; intro a hs
    refine r_ok hs m (ok_move rfl) rfl ?_
    clear hs a; intro a hs
    have hb38 : ((diffE ((stK ⟨have_Routes, have_Neighs, have_Fdbs⟩ (diffM have_Routes have_Neighs have_Fdbs want_Routes want_Neighs want_Fdbs) k).R) ((stK ⟨have_Routes, have_Neighs, have_Fdbs⟩ (diffM have_Routes have_Neighs have_Fdbs want_Routes want_Neighs want_Fdbs) k).N) ((stK ⟨have_Routes, have_Neighs, have_Fdbs⟩ (diffM have_Routes have_Neighs have_Fdbs want_Routes want_Neighs want_Fdbs) k).F) want_Routes want_Neighs want_Fdbs) == 0) = true := by simp [hwy.E]
    refine r_okg hs rfl rfl hb38 m (ok_move rfl) rfl ?_
    clear hs a; intro a hs
    refine r_okg hs rfl rfl hb38 m (ok_len (r := ((diffM ((stK ⟨have_Routes, have_Neighs, have_Fdbs⟩ (diffM have_Routes have_Neighs have_Fdbs want_Routes want_Neighs want_Fdbs) k).R) ((stK ⟨have_Routes, have_Neighs, have_Fdbs⟩ (diffM have_Routes have_Neighs have_Fdbs want_Routes want_Neighs want_Fdbs) k).N) ((stK ⟨have_Routes, have_Neighs, have_Fdbs⟩ (diffM have_Routes have_Neighs have_Fdbs want_Routes want_Neighs want_Fdbs) k).F) want_Routes want_Neighs want_Fdbs).length : Int)) m rfl sl35 (rc_own r0) (by simp)) rfl ?_
    clear hs a; intro a hs
    refine r_okg hs rfl rfl hb38 m (ok_bin rfl rfl rfl) rfl ?_
    clear hs a; intro a hs
    refine r_ok hs m (ok_pick (r := .bool (((diffM ((stK ⟨have_Routes, have_Neighs, have_Fdbs⟩ (diffM have_Routes have_Neighs have_Fdbs want_Routes want_Neighs want_Fdbs) k).R) ((stK ⟨have_Routes, have_Neighs, have_Fdbs⟩ (diffM have_Routes have_Neighs have_Fdbs want_Routes want_Neighs want_Fdbs) k).N) ((stK ⟨have_Routes, have_Neighs, have_Fdbs⟩ (diffM have_Routes have_Neighs have_Fdbs want_Routes want_Neighs want_Fdbs) k).F) want_Routes want_Neighs want_Fdbs).length : Int) == 0)) rfl rfl rfl (by rw [hb38]; rfl)) rfl ?_
    clear hs a; intro a hs
    refine r_ok hs m (ok_move rfl) rfl ?_
    clear hs a; intro a hs
    have hb39 : (((diffM ((stK ⟨have_Routes, have_Neighs, have_Fdbs⟩ (diffM have_Routes have_Neighs have_Fdbs want_Routes want_Neighs want_Fdbs) k).R) ((stK ⟨have_Routes, have_Neighs, have_Fdbs⟩ (diffM have_Routes have_Neighs have_Fdbs want_Routes want_Neighs want_Fdbs) k).N) ((stK ⟨have_Routes, have_Neighs, have_Fdbs⟩ (diffM have_Routes have_Neighs have_Fdbs want_Routes want_Neighs want_Fdbs) k).F) want_Routes want_Neighs want_Fdbs).length : Int) == 0) = true := by rw [hwy.rest, List.drop_eq_nil_of_le (by omega)]; rfl
    refine r_okg hs rfl rfl hb39 m (ok_load_ag (vs := [v25.v, v26.v, v27.v]) rfl ty29 (bx_at r3) rfl rfl) rfl ?_
    clear hs a; intro a hs
    refine r_okg hs rfl rfl hb39 m (ok_load_ag (vs := [vwant_Routes.v, vwant_Neighs.v, vwant_Fdbs.v]) rfl ty29 (bx_at r1) rfl rfl) rfl ?_
    clear hs a; intro a hs
    refine r_callPg hs rfl rfl hb39 m rfl rfl ca14 rfl (sameTables_c v25 ((stK ⟨have_Routes, have_Neighs, have_Fdbs⟩ (diffM have_Routes have_Neighs have_Fdbs want_Routes want_Neighs want_Fdbs) k).R) v26 ((stK ⟨have_Routes, have_Neighs, have_Fdbs⟩ (diffM have_Routes have_Neighs have_Fdbs want_Routes want_Neighs want_Fdbs) k).N) v27 ((stK ⟨have_Routes, have_Neighs, have_Fdbs⟩ (diffM have_Routes have_Neighs have_Fdbs want_Routes want_Neighs want_Fdbs) k).F) vwant_Routes want_Routes vwant_Neighs want_Neighs vwant_Fdbs want_Fdbs _ (m.rdo (hle_refl _) r4) (m.rdo (hle_refl _) r5) (m.rdo (hle_refl _) r6) (m.rd hwant_Routes) (m.rd hwant_Neighs) (m.rd hwant_Fdbs) ) rfl ?_
    clear m hs a w37; intro w40 m a hs
    refine r_ok hs m (ok_pick (r := .bool (decide (((stK ⟨have_Routes, have_Neighs, have_Fdbs⟩ (diffM have_Routes have_Neighs have_Fdbs want_Routes want_Neighs want_Fdbs) k).R) = want_Routes ∧ ((stK ⟨have_Routes, have_Neighs, have_Fdbs⟩ (diffM have_Routes have_Neighs have_Fdbs want_Routes want_Neighs want_Fdbs) k).N) = want_Neighs ∧ ((stK ⟨have_Routes, have_Neighs, have_Fdbs⟩ (diffM have_Routes have_Neighs have_Fdbs want_Routes want_Neighs want_Fdbs) k).F) = want_Fdbs))) rfl rfl rfl (by rw [hb39]; rfl)) rfl ?_
    clear hs a; intro a hs
    refine r_ok hs m (ok_assign rfl) rfl ?_
    clear hs a; intro a hs
    refine wpList_nil (n_then ?_)
    refine wp_ret ?_
    refine leave hs (vs := [.bool (decide (((stK ⟨have_Routes, have_Neighs, have_Fdbs⟩ (diffM have_Routes have_Neighs have_Fdbs want_Routes want_Neighs want_Fdbs) k).R) = want_Routes ∧ ((stK ⟨have_Routes, have_Neighs, have_Fdbs⟩ (diffM have_Routes have_Neighs have_Fdbs want_Routes want_Neighs want_Fdbs) k).N) = want_Neighs ∧ ((stK ⟨have_Routes, have_Neighs, have_Fdbs⟩ (diffM have_Routes have_Neighs have_Fdbs want_Routes want_Neighs want_Fdbs) k).F) = want_Fdbs))]) rfl ⟨rfl, trivial⟩ ?_
    refine ⟨?_, m.sub .n⟩
    have q41 : (decide (((stK ⟨have_Routes, have_Neighs, have_Fdbs⟩ (diffM have_Routes have_Neighs have_Fdbs want_Routes want_Neighs want_Fdbs) k).R) = want_Routes ∧ ((stK ⟨have_Routes, have_Neighs, have_Fdbs⟩ (diffM have_Routes have_Neighs have_Fdbs want_Routes want_Neighs want_Fdbs) k).N) = want_Neighs ∧ ((stK ⟨have_Routes, have_Neighs, have_Fdbs⟩ (diffM have_Routes have_Neighs have_Fdbs want_Routes want_Neighs want_Fdbs) k).F) = want_Fdbs) : Bool) = true := by clear hs m; first | rfl | exact leads_bad (by assumption) | exact (leads_bad (by assumption)).symm | exact decide_eq_true (hwy.fin (by omega))
    first | (rw [q41]; done) | (rw [q41]; rfl) | (rw [q41]; rfl) | (simp only [q41, pack]; done)
  have h35p := of_decide_eq_true h35
  refine wp_skip ?_
  refine n_then ?_
  refine c_seq ?_
  refine wp_block ?_
  refine c_seq ?_
  refine c_reg ?_
  refine r_ok hs m (ok_move rfl) rfl ?_
  clear hs a; intro a hs
  refine r_ok hs m (ok_bin rfl rfl rfl) rfl ?_
  clear hs a; intro a hs
  refine wpList_nil (n_then ?_)
  refine c_cond hs rfl (fun h42 => ?_) (fun h42 => ?_)
  · have h42p := of_decide_eq_true h42
    refine c_reg ?_
    refine r_ok hs m (ok_load_ag (vs := [v25.v, v26.v, v27.v]) rfl ty29 (bx_at r2) rfl rfl) rfl ?_
    clear hs a; intro a hs
    refine r_ok hs m (ok_load_ag (vs := [vwant_Routes.v, vwant_Neighs.v, vwant_Fdbs.v]) rfl ty29 (bx_at r0) rfl rfl) rfl ?_
    clear hs a; intro a hs
    refine r_call hs rfl rfl ca17 rfl (diff_c v25 ((stK ⟨have_Routes, have_Neighs, have_Fdbs⟩ (diffM have_Routes have_Neighs have_Fdbs want_Routes want_Neighs want_Fdbs) k).R) v26 ((stK ⟨have_Routes, have_Neighs, have_Fdbs⟩ (diffM have_Routes have_Neighs have_Fdbs want_Routes want_Neighs want_Fdbs) k).N) v27 ((stK ⟨have_Routes, have_Neighs, have_Fdbs⟩ (diffM have_Routes have_Neighs have_Fdbs want_Routes want_Neighs want_Fdbs) k).F) vwant_Routes want_Routes vwant_Neighs want_Neighs vwant_Fdbs want_Fdbs _ (m.rdo (hle_refl _) r3) (m.rdo (hle_refl _) r4) (m.rdo (hle_refl _) r5) (m.rd hwant_Routes) (m.rd hwant_Neighs) (m.rd hwant_Fdbs) (by first | omega | rfl | exact bsI_le _ _ | assumption | decide) (by first | omega | rfl | exact bsI_le _ _ | assumption | decide) (by first | omega | rfl | exact bsI_le _ _ | assumption | decide) (by first | omega | rfl | exact bsI_le _ _ | assumption | decide) (by first | omega | rfl | exact bsI_le _ _ | assumption | decide) (by first | omega | rfl | exact bsI_le _ _ | assumption | decide)) rfl ?_
    clear hs a; rintro _ w44 ⟨v43, rfl, hm⟩ a hs
    replace m : Hp w0 (hh w0) [Sv 19 58 v43.v ((diffM ((stK ⟨have_Routes, have_Neighs, have_Fdbs⟩ (diffM have_Routes have_Neighs have_Fdbs want_Routes want_Neighs want_Fdbs) k).R) ((stK ⟨have_Routes, have_Neighs, have_Fdbs⟩ (diffM have_Routes have_Neighs have_Fdbs want_Routes want_Neighs want_Fdbs) k).N) ((stK ⟨have_Routes, have_Neighs, have_Fdbs⟩ (diffM have_Routes have_Neighs have_Fdbs want_Routes want_Neighs want_Fdbs) k).F) want_Routes want_Neighs want_Fdbs).map cOp), Bx p3 29 [vwant_Routes.v, vwant_Neighs.v, vwant_Fdbs.v], Sv 19 58 v7.v ((diffM have_Routes have_Neighs have_Fdbs want_Routes want_Neighs want_Fdbs).map cOp), Bx p22 29 [v25.v, v26.v, v27.v], Ro (hh w0) 4 51 v25.v (((stK ⟨have_Routes, have_Neighs, have_Fdbs⟩ (diffM have_Routes have_Neighs have_Fdbs want_Routes want_Neighs want_Fdbs) k).R).map cRoute), Ro (hh w0) 7 54 v26.v (((stK ⟨have_Routes, have_Neighs, have_Fdbs⟩ (diffM have_Routes have_Neighs have_Fdbs want_Routes want_Neighs want_Fdbs) k).N).map cNeigh), Ro (hh w0) 7 56 v27.v (((stK ⟨have_Routes, have_Neighs, have_Fdbs⟩ (diffM have_Routes have_Neighs have_Fdbs want_Routes want_Neighs want_Fdbs) k).F).map cFdb)] w44 := m.after hm
    clear hm w34
    refine r_ok hs m (ok_move rfl) rfl ?_
    clear hs a; intro a hs
    refine r_ok hs m (ok_extract rfl rfl) rfl ?_
    clear hs a; intro a hs
    refine r_ok hs m (ok_extract rfl rfl) rfl ?_
    clear hs a; intro a hs
    refine r_ok hs m (ok_assign rfl) rfl ?_
    clear hs a; intro a hs
    refine r_ok hs m (ok_assign rfl) rfl ?_
    clear hs a; intro a hs
    refine wpList_nil (n_then ?_)
    refine c_reg ?_
    refine r_ok hs m (ok_move rfl) rfl ?_
    clear hs a; intro a hs
    refine r_ok hs m (ok_bin rfl rfl rfl) rfl ?_
    clear hs a; intro a hs
    refine r_ok hs m (ok_move rfl) rfl ?_
    clear hs a; intro a hs
    have hb45 : ((diffE ((stK ⟨have_Routes, have_Neighs, have_Fdbs⟩ (diffM have_Routes have_Neighs have_Fdbs want_Routes want_Neighs want_Fdbs) k).R) ((stK ⟨have_Routes, have_Neighs, have_Fdbs⟩ (diffM have_Routes have_Neighs have_Fdbs want_Routes want_Neighs want_Fdbs) k).N) ((stK ⟨have_Routes, have_Neighs, have_Fdbs⟩ (diffM have_Routes have_Neighs have_Fdbs want_Routes want_Neighs want_Fdbs) k).F) want_Routes want_Neighs want_Fdbs) != 0) = false := by simp [hwy.E]
    refine r_okg hs rfl rfl hb45 m (ok_move rfl) rfl ?_
    clear hs a; intro a hs
    refine r_okg hs rfl rfl hb45 m (ok_move rfl) rfl ?_
    clear hs a; intro a hs
    refine r_okg hs rfl rfl hb45 m (ok_move rfl) rfl ?_
    clear hs a; intro a hs
    have hc46 := ((m.rdv r2)).ncapM
    refine r_okg hs rfl rfl hb45 m (ok_sliceH (i := k) (j := (diffM have_Routes have_Neighs have_Fdbs want_Routes want_Neighs want_Fdbs).length) (c := v7.c) rfl sl35 ty58 ⟨_, rfl⟩ (by show _ = _; omega) rfl (fun _ => rfl) (by omega) (by omega) (by omega)) rfl ?_
    clear hs a; intro a hs
    refine r_callPg hs rfl rfl hb45 m rfl rfl ca20 rfl (sameOps_c v43 (diffM ((stK ⟨have_Routes, have_Neighs, have_Fdbs⟩ (diffM have_Routes have_Neighs have_Fdbs want_Routes want_Neighs want_Fdbs) k).R) ((stK ⟨have_Routes, have_Neighs, have_Fdbs⟩ (diffM have_Routes have_Neighs have_Fdbs want_Routes want_Neighs want_Fdbs) k).N) ((stK ⟨have_Routes, have_Neighs, have_Fdbs⟩ (diffM have_Routes have_Neighs have_Fdbs want_Routes want_Neighs want_Fdbs) k).F) want_Routes want_Neighs want_Fdbs) (subH3 19 v7 k ((diffM have_Routes have_Neighs have_Fdbs want_Routes want_Neighs want_Fdbs).length) v7.c) ((diffM have_Routes have_Neighs have_Fdbs want_Routes want_Neighs want_Fdbs).drop k) _ (m.rdv r0) ((m.rdv r2).win (lo := k) (hi := (diffM have_Routes have_Neighs have_Fdbs want_Routes want_Neighs want_Fdbs).length) (mx := v7.c) (ys := (diffM have_Routes have_Neighs have_Fdbs want_Routes want_Neighs want_Fdbs).drop k) (by omega) (by omega) (by omega) (by omega) (by simp)) ) rfl ?_
    clear m hs a w44; intro w47 m a hs
    refine r_okg hs rfl rfl hb45 m (ok_not rfl) rfl ?_
    clear hs a; intro a hs
    refine r_ok hs m (ok_pick (r := .bool (!(decide (diffM ((stK ⟨have_Routes, have_Neighs, have_Fdbs⟩ (diffM have_Routes have_Neighs have_Fdbs want_Routes want_Neighs want_Fdbs) k).R) ((stK ⟨have_Routes, have_Neighs, have_Fdbs⟩ (diffM have_Routes have_Neighs have_Fdbs want_Routes want_Neighs want_Fdbs) k).N) ((stK ⟨have_Routes, have_Neighs, have_Fdbs⟩ (diffM have_Routes have_Neighs have_Fdbs want_Routes want_Neighs want_Fdbs) k).F) want_Routes want_Neighs want_Fdbs = (diffM have_Routes have_Neighs have_Fdbs want_Routes want_Neighs want_Fdbs).drop k)))) rfl rfl rfl (by rw [hb45]; rfl)) rfl ?_
    clear hs a; intro a hs
    refine wpList_nil (n_then ?_)
    refine c_false hs rfl (by simp [hwy.rest]) ?_
    refine wp_skip ?_
    refine n_then ?_
    refine c_seq ?_
    refine c_reg ?_
    refine r_ok hs m (ok_move rfl) rfl ?_
    clear hs a; intro a hs
    refine r_ok hs m (ok_move rfl) rfl ?_
    clear hs a; intro a hs
    obtain ⟨e49, he50⟩ := get_of_lt (l := diffM have_Routes have_Neighs have_Fdbs want_Routes want_Neighs want_Fdbs) (i := k) (by omega)
    refine elO (c := cOp) (e := e49) hs m (x := (.tmp 96)) (ix := (.tmp 97)) rfl rfl sl35 ty58 r2 (by omega) he50 fun p51 hp52 ok53 => ?_
    refine r_ok hs m (ok53 _ _ _ _ _) rfl ?_
    clear hs a; intro a hs
    refine r_ok hs m (ok_fieldAddr (r := 0) rfl fd58_0 ty3 rfl) rfl ?_
    clear hs a; intro a hs
    refine r_ok hs m (ok_load_sc rfl ty3 (el_at hp52 r2 (get_map _ he50)) rfl) rfl ?_
    clear hs a; intro a hs
    refine r_ok hs m (ok_bin rfl rfl rfl) rfl ?_
    clear hs a; intro a hs
    refine r_ok hs m (ok_move rfl) rfl ?_
    clear hs a; intro a hs
    refine l_cut (.c (.c (.c (.c (.c (.c (.c (.n)))))))) (fun a w => St 182 [(3, .pointer (some (padd p3 0))), (6, v7.v), (8, .int .i64 (max (have_Routes.length : Int) (want_Routes.length : Int))), (9, .int .i64 (max (have_Neighs.length : Int) (want_Neighs.length : Int))), (10, .int .i64 (max (have_Fdbs.length : Int) (want_Fdbs.length : Int))), (11, .bool ((wholeM have_Routes have_Neighs have_Fdbs) && (wholeM want_Routes want_Neighs want_Fdbs))), (12, .pointer (some (padd p22 0))), (13, .bool rmt), (14, .int .i64 (k : Int)), (89, v43.v), (90, v7.v), (91, .int .i64 (k : Int)), (92, (subH3 19 v7 k ((diffM have_Routes have_Neighs have_Fdbs want_Routes want_Neighs want_Fdbs).length) v7.c).v), (93, .bool (decide (diffM ((stK ⟨have_Routes, have_Neighs, have_Fdbs⟩ (diffM have_Routes have_Neighs have_Fdbs want_Routes want_Neighs want_Fdbs) k).R) ((stK ⟨have_Routes, have_Neighs, have_Fdbs⟩ (diffM have_Routes have_Neighs have_Fdbs want_Routes want_Neighs want_Fdbs) k).N) ((stK ⟨have_Routes, have_Neighs, have_Fdbs⟩ (diffM have_Routes have_Neighs have_Fdbs want_Routes want_Neighs want_Fdbs) k).F) want_Routes want_Neighs want_Fdbs = (diffM have_Routes have_Neighs have_Fdbs want_Routes want_Neighs want_Fdbs).drop k))), (94, .bool (!(decide (diffM ((stK ⟨have_Routes, have_Neighs, have_Fdbs⟩ (diffM have_Routes have_Neighs have_Fdbs want_Routes want_Neighs want_Fdbs) k).R) ((stK ⟨have_Routes, have_Neighs, have_Fdbs⟩ (diffM have_Routes have_Neighs have_Fdbs want_Routes want_Neighs want_Fdbs) k).N) ((stK ⟨have_Routes, have_Neighs, have_Fdbs⟩ (diffM have_Routes have_Neighs have_Fdbs want_Routes want_Neighs want_Fdbs) k).F) want_Routes want_Neighs want_Fdbs = (diffM have_Routes have_Neighs have_Fdbs want_Routes want_Neighs want_Fdbs).drop k)))), (109, .bool ((e49.Kind.v == 2) && e49.Route.Local))] a ∧ Hp w0 (hh w0) [Sv 19 58 v43.v ((diffM ((stK ⟨have_Routes, have_Neighs, have_Fdbs⟩ (diffM have_Routes have_Neighs have_Fdbs want_Routes want_Neighs want_Fdbs) k).R) ((stK ⟨have_Routes, have_Neighs, have_Fdbs⟩ (diffM have_Routes have_Neighs have_Fdbs want_Routes want_Neighs want_Fdbs) k).N) ((stK ⟨have_Routes, have_Neighs, have_Fdbs⟩ (diffM have_Routes have_Neighs have_Fdbs want_Routes want_Neighs want_Fdbs) k).F) want_Routes want_Neighs want_Fdbs).map cOp), Bx p3 29 [vwant_Routes.v, vwant_Neighs.v, vwant_Fdbs.v], Sv 19 58 v7.v ((diffM have_Routes have_Neighs have_Fdbs want_Routes want_Neighs want_Fdbs).map cOp), Bx p22 29 [v25.v, v26.v, v27.v], Ro (hh w0) 4 51 v25.v (((stK ⟨have_Routes, have_Neighs, have_Fdbs⟩ (diffM have_Routes have_Neighs have_Fdbs want_Routes want_Neighs want_Fdbs) k).R).map cRoute), Ro (hh w0) 7 54 v26.v (((stK ⟨have_Routes, have_Neighs, have_Fdbs⟩ (diffM have_Routes have_Neighs have_Fdbs want_Routes want_Neighs want_Fdbs) k).N).map cNeigh), Ro (hh w0) 7 56 v27.v (((stK ⟨have_Routes, have_Neighs, have_Fdbs⟩ (diffM have_Routes have_Neighs have_Fdbs want_Routes want_Neighs want_Fdbs) k).F).map cFdb)] w) ?_ ?_
    · rcases Bool.eq_false_or_eq_true (e49.Kind.v == 2) with hb54 | hb54
      · have hb54p := eq_of_beq hb54
        refine r_okg hs rfl rfl hb54 m (ok_move rfl) rfl ?_
        clear hs a; intro a hs
        refine r_okg hs rfl rfl hb54 m (ok_move rfl) rfl ?_
        clear hs a; intro a hs
        refine elO (c := cOp) (e := e49) hs m (x := (.tmp 103)) (ix := (.tmp 104)) rfl rfl sl35 ty58 r2 (by omega) he50 fun p55 hp56 ok57 => ?_
        refine r_okg hs rfl rfl hb54 m (ok57 _ _ _ _ _) rfl ?_
        clear hs a; intro a hs
        refine r_okg hs rfl rfl hb54 m (ok_fieldAddr (r := 1) rfl fd58_1 ty51 rfl) rfl ?_
        clear hs a; intro a hs
        refine r_okg hs rfl rfl hb54 m (ok_fieldAddr (r := 4) rfl fd51_2 ty4 rfl) rfl ?_
        clear hs a; intro a hs
        refine r_okg hs rfl rfl hb54 m (ok_load_sc rfl ty4 (el_at hp56 r2 (get_map _ he50)) rfl) rfl ?_
        clear hs a; intro a hs
        refine r_ok hs m (ok_pick (r := .bool ((e49.Kind.v == 2) && e49.Route.Local)) rfl rfl rfl (by rw [hb54]; rfl)) rfl ?_
        clear hs a; intro a hs
        exact wpList_nil (n_then ⟨hs.to ⟨rfl, rfl, rfl, rfl, rfl, rfl, rfl, rfl, rfl, rfl, rfl, rfl, rfl, rfl, rfl, rfl, trivial⟩, m⟩)
      · have hb54p := ne_of_beq_false hb54
        refine g_out hs rfl rfl hb54 rfl ?_
        clear hs a; intro a hs
        refine g_out hs rfl rfl hb54 rfl ?_
        clear hs a; intro a hs
        refine g_out hs rfl rfl hb54 rfl ?_
        clear hs a; intro a hs
        refine g_out hs rfl rfl hb54 rfl ?_
        clear hs a; intro a hs
        refine g_out hs rfl rfl hb54 rfl ?_
        clear hs a; intro a hs
        refine g_out hs rfl rfl hb54 rfl ?_
        clear hs a; intro a hs
        refine r_ok hs m (ok_pick (r := .bool ((e49.Kind.v == 2) && e49.Route.Local)) rfl rfl rfl (by rw [hb54]; rfl)) rfl ?_
        clear hs a; intro a hs
        exact wpList_nil (n_then ⟨hs.to ⟨rfl, rfl, rfl, rfl, rfl, rfl, rfl, rfl, rfl, rfl, rfl, rfl, rfl, rfl, rfl, rfl, trivial⟩, m⟩)
    clear hs m a w47; rintro a w58 ⟨hs, m⟩
    refine r_ok hs m (ok_move rfl) rfl ?_
    clear hs a; intro a hs
    refine l_cut (.c (.c (.n))) (fun a w => St 182 [(3, .pointer (some (padd p3 0))), (6, v7.v), (8, .int .i64 (max (have_Routes.length : Int) (want_Routes.length : Int))), (9, .int .i64 (max (have_Neighs.length : Int) (want_Neighs.length : Int))), (10, .int .i64 (max (have_Fdbs.length : Int) (want_Fdbs.length : Int))), (11, .bool ((wholeM have_Routes have_Neighs have_Fdbs) && (wholeM want_Routes want_Neighs want_Fdbs))), (12, .pointer (some (padd p22 0))), (13, .bool rmt), (14, .int .i64 (k : Int)), (89, v43.v), (90, v7.v), (91, .int .i64 (k : Int)), (92, (subH3 19 v7 k ((diffM have_Routes have_Neighs have_Fdbs want_Routes want_Neighs want_Fdbs).length) v7.c).v), (93, .bool (decide (diffM ((stK ⟨have_Routes, have_Neighs, have_Fdbs⟩ (diffM have_Routes have_Neighs have_Fdbs want_Routes want_Neighs want_Fdbs) k).R) ((stK ⟨have_Routes, have_Neighs, have_Fdbs⟩ (diffM have_Routes have_Neighs have_Fdbs want_Routes want_Neighs want_Fdbs) k).N) ((stK ⟨have_Routes, have_Neighs, have_Fdbs⟩ (diffM have_Routes have_Neighs have_Fdbs want_Routes want_Neighs want_Fdbs) k).F) want_Routes want_Neighs want_Fdbs = (diffM have_Routes have_Neighs have_Fdbs want_Routes want_Neighs want_Fdbs).drop k))), (94, .bool (!(decide (diffM ((stK ⟨have_Routes, have_Neighs, have_Fdbs⟩ (diffM have_Routes have_Neighs have_Fdbs want_Routes want_Neighs want_Fdbs) k).R) ((stK ⟨have_Routes, have_Neighs, have_Fdbs⟩ (diffM have_Routes have_Neighs have_Fdbs want_Routes want_Neighs want_Fdbs) k).N) ((stK ⟨have_Routes, have_Neighs, have_Fdbs⟩ (diffM have_Routes have_Neighs have_Fdbs want_Routes want_Neighs want_Fdbs) k).F) want_Routes want_Neighs want_Fdbs = (diffM have_Routes have_Neighs have_Fdbs want_Routes want_Neighs want_Fdbs).drop k)))), (112, .bool (((e49.Kind.v == 2) && e49.Route.Local) && rmt))] a ∧ Hp w0 (hh w0) [Sv 19 58 v43.v ((diffM ((stK ⟨have_Routes, have_Neighs, have_Fdbs⟩ (diffM have_Routes have_Neighs have_Fdbs want_Routes want_Neighs want_Fdbs) k).R) ((stK ⟨have_Routes, have_Neighs, have_Fdbs⟩ (diffM have_Routes have_Neighs have_Fdbs want_Routes want_Neighs want_Fdbs) k).N) ((stK ⟨have_Routes, have_Neighs, have_Fdbs⟩ (diffM have_Routes have_Neighs have_Fdbs want_Routes want_Neighs want_Fdbs) k).F) want_Routes want_Neighs want_Fdbs).map cOp), Bx p3 29 [vwant_Routes.v, vwant_Neighs.v, vwant_Fdbs.v], Sv 19 58 v7.v ((diffM have_Routes have_Neighs have_Fdbs want_Routes want_Neighs want_Fdbs).map cOp), Bx p22 29 [v25.v, v26.v, v27.v], Ro (hh w0) 4 51 v25.v (((stK ⟨have_Routes, have_Neighs, have_Fdbs⟩ (diffM have_Routes have_Neighs have_Fdbs want_Routes want_Neighs want_Fdbs) k).R).map cRoute), Ro (hh w0) 7 54 v26.v (((stK ⟨have_Routes, have_Neighs, have_Fdbs⟩ (diffM have_Routes have_Neighs have_Fdbs want_Routes want_Neighs want_Fdbs) k).N).map cNeigh), Ro (hh w0) 7 56 v27.v (((stK ⟨have_Routes, have_Neighs, have_Fdbs⟩ (diffM have_Routes have_Neighs have_Fdbs want_Routes want_Neighs want_Fdbs) k).F).map cFdb)] w) ?_ ?_
    · rcases Bool.eq_false_or_eq_true ((e49.Kind.v == 2) && e49.Route.Local) with hb59 | hb59
      · have hb59p := hb59; simp only [Bool.or_eq_true, Bool.or_eq_false_iff, Bool.and_eq_true, Bool.and_eq_false_iff, Bool.not_eq_true', Bool.not_eq_false', decide_eq_true_eq, decide_eq_false_iff_not, beq_iff_eq, bne_iff_ne, beq_eq_false_iff_ne, bne_eq_false_iff_eq, ne_eq, gt_iff_lt, ge_iff_le, Int.not_lt, Int.not_le] at hb59p
        refine r_okg hs rfl rfl hb59 m (ok_move rfl) rfl ?_
        clear hs a; intro a hs
        refine r_ok hs m (ok_pick (r := .bool (((e49.Kind.v == 2) && e49.Route.Local) && rmt)) rfl rfl rfl (by rw [hb59]; rfl)) rfl ?_
        clear hs a; intro a hs
        exact wpList_nil (n_then ⟨hs.to ⟨rfl, rfl, rfl, rfl, rfl, rfl, rfl, rfl, rfl, rfl, rfl, rfl, rfl, rfl, rfl, rfl, trivial⟩, m⟩)
      · have hb59p := hb59; simp only [Bool.or_eq_true, Bool.or_eq_false_iff, Bool.and_eq_true, Bool.and_eq_false_iff, Bool.not_eq_true', Bool.not_eq_false', decide_eq_true_eq, decide_eq_false_iff_not, beq_iff_eq, bne_iff_ne, beq_eq_false_iff_ne, bne_eq_false_iff_eq, ne_eq, gt_iff_lt, ge_iff_le, Int.not_lt, Int.not_le] at hb59p
        refine g_out hs rfl rfl hb59 rfl ?_
        clear hs a; intro a hs
        refine r_ok hs m (ok_pick (r := .bool (((e49.Kind.v == 2) && e49.Route.Local) && rmt)) rfl rfl rfl (by rw [hb59]; rfl)) rfl ?_
        clear hs a; intro a hs
        exact wpList_nil (n_then ⟨hs.to ⟨rfl, rfl, rfl, rfl, rfl, rfl, rfl, rfl, rfl, rfl, rfl, rfl, rfl, rfl, rfl, rfl, trivial⟩, m⟩)
    clear hs m a w58; rintro a w60 ⟨hs, m⟩
    refine wpList_nil (n_then ?_)
    refine c_false hs rfl (by exact hwy.loc _ (by assumption) _ hr) ?_
    refine wp_skip ?_
    refine n_then ?_
    refine c_reg ?_
    refine r_ok hs m (ok_move rfl) rfl ?_
    clear hs a; intro a hs
    refine r_ok hs m (ok_move rfl) rfl ?_
    clear hs a; intro a hs
    refine l_cut (.c (.c (.c (.c (.c (.c (.c (.c (.c (.c (.c (.c (.c (.c (.c (.c (.n))))))))))))))))) (fun a w => St 182 [(3, .pointer (some (padd p3 0))), (6, v7.v), (8, .int .i64 (max (have_Routes.length : Int) (want_Routes.length : Int))), (9, .int .i64 (max (have_Neighs.length : Int) (want_Neighs.length : Int))), (10, .int .i64 (max (have_Fdbs.length : Int) (want_Fdbs.length : Int))), (11, .bool ((wholeM have_Routes have_Neighs have_Fdbs) && (wholeM want_Routes want_Neighs want_Fdbs))), (12, .pointer (some (padd p22 0))), (14, .int .i64 (k : Int)), (89, v43.v), (90, v7.v), (91, .int .i64 (k : Int)), (92, (subH3 19 v7 k ((diffM have_Routes have_Neighs have_Fdbs want_Routes want_Neighs want_Fdbs).length) v7.c).v), (93, .bool (decide (diffM ((stK ⟨have_Routes, have_Neighs, have_Fdbs⟩ (diffM have_Routes have_Neighs have_Fdbs want_Routes want_Neighs want_Fdbs) k).R) ((stK ⟨have_Routes, have_Neighs, have_Fdbs⟩ (diffM have_Routes have_Neighs have_Fdbs want_Routes want_Neighs want_Fdbs) k).N) ((stK ⟨have_Routes, have_Neighs, have_Fdbs⟩ (diffM have_Routes have_Neighs have_Fdbs want_Routes want_Neighs want_Fdbs) k).F) want_Routes want_Neighs want_Fdbs = (diffM have_Routes have_Neighs have_Fdbs want_Routes want_Neighs want_Fdbs).drop k))), (94, .bool (!(decide (diffM ((stK ⟨have_Routes, have_Neighs, have_Fdbs⟩ (diffM have_Routes have_Neighs have_Fdbs want_Routes want_Neighs want_Fdbs) k).R) ((stK ⟨have_Routes, have_Neighs, have_Fdbs⟩ (diffM have_Routes have_Neighs have_Fdbs want_Routes want_Neighs want_Fdbs) k).N) ((stK ⟨have_Routes, have_Neighs, have_Fdbs⟩ (diffM have_Routes have_Neighs have_Fdbs want_Routes want_Neighs want_Fdbs) k).F) want_Routes want_Neighs want_Fdbs = (diffM have_Routes have_Neighs have_Fdbs want_Routes want_Neighs want_Fdbs).drop k)))), (130, .bool (rmt || ((e49.Kind.v == 2) && !e49.Route.Local)))] a ∧ Hp w0 (hh w0) [Sv 19 58 v43.v ((diffM ((stK ⟨have_Routes, have_Neighs, have_Fdbs⟩ (diffM have_Routes have_Neighs have_Fdbs want_Routes want_Neighs want_Fdbs) k).R) ((stK ⟨have_Routes, have_Neighs, have_Fdbs⟩ (diffM have_Routes have_Neighs have_Fdbs want_Routes want_Neighs want_Fdbs) k).N) ((stK ⟨have_Routes, have_Neighs, have_Fdbs⟩ (diffM have_Routes have_Neighs have_Fdbs want_Routes want_Neighs want_Fdbs) k).F) want_Routes want_Neighs want_Fdbs).map cOp), Bx p3 29 [vwant_Routes.v, vwant_Neighs.v, vwant_Fdbs.v], Sv 19 58 v7.v ((diffM have_Routes have_Neighs have_Fdbs want_Routes want_Neighs want_Fdbs).map cOp), Bx p22 29 [v25.v, v26.v, v27.v], Ro (hh w0) 4 51 v25.v (((stK ⟨have_Routes, have_Neighs, have_Fdbs⟩ (diffM have_Routes have_Neighs have_Fdbs want_Routes want_Neighs want_Fdbs) k).R).map cRoute), Ro (hh w0) 7 54 v26.v (((stK ⟨have_Routes, have_Neighs, have_Fdbs⟩ (diffM have_Routes have_Neighs have_Fdbs want_Routes want_Neighs want_Fdbs) k).N).map cNeigh), Ro (hh w0) 7 56 v27.v (((stK ⟨have_Routes, have_Neighs, have_Fdbs⟩ (diffM have_Routes have_Neighs have_Fdbs want_Routes want_Neighs want_Fdbs) k).F).map cFdb)] w) ?_ ?_
    · rcases Bool.eq_false_or_eq_true rmt with hb62 | hb62
      · refine g_out hs rfl rfl hb62 rfl ?_
        clear hs a; intro a hs
        refine g_out hs rfl rfl hb62 rfl ?_
        clear hs a; intro a hs
        refine g_out hs rfl rfl hb62 rfl ?_
        clear hs a; intro a hs
        refine g_out hs rfl rfl hb62 rfl ?_
        clear hs a; intro a hs
        refine g_out hs rfl rfl hb62 rfl ?_
        clear hs a; intro a hs
        refine g_out hs rfl rfl hb62 rfl ?_
        clear hs a; intro a hs
        refine g_out hs rfl rfl hb62 rfl ?_
        clear hs a; intro a hs
        refine g_outU hs rfl rfl rfl ?_
        clear hs a; intro a hs
        refine g_outU hs rfl rfl rfl ?_
        clear hs a; intro a hs
        refine g_outU hs rfl rfl rfl ?_
        clear hs a; intro a hs
        refine g_outU hs rfl rfl rfl ?_
        clear hs a; intro a hs
        refine g_outU hs rfl rfl rfl ?_
        clear hs a; intro a hs
        refine g_outU hs rfl rfl rfl ?_
        clear hs a; intro a hs
        refine g_outU hs rfl rfl rfl ?_
        clear hs a; intro a hs
        refine g_out hs rfl rfl hb62 rfl ?_
        clear hs a; intro a hs
        refine r_ok hs m (ok_pick (r := .bool (rmt || ((e49.Kind.v == 2) && !e49.Route.Local))) rfl rfl rfl (by rw [hb62]; rfl)) rfl ?_
        clear hs a; intro a hs
        exact wpList_nil (n_then ⟨hs.to ⟨rfl, rfl, rfl, rfl, rfl, rfl, rfl, rfl, rfl, rfl, rfl, rfl, rfl, rfl, rfl, trivial⟩, m⟩)
      · refine r_okg hs rfl rfl hb62 m (ok_move rfl) rfl ?_
        clear hs a; intro a hs
        refine r_okg hs rfl rfl hb62 m (ok_move rfl) rfl ?_
        clear hs a; intro a hs
        refine elO (c := cOp) (e := e49) hs m (x := (.tmp 115)) (ix := (.tmp 116)) rfl rfl sl35 ty58 r2 (by omega) he50 fun p63 hp64 ok65 => ?_
        refine r_okg hs rfl rfl hb62 m (ok65 _ _ _ _ _) rfl ?_
        clear hs a; intro a hs
        refine r_okg hs rfl rfl hb62 m (ok_fieldAddr (r := 0) rfl fd58_0 ty3 rfl) rfl ?_
        clear hs a; intro a hs
        refine r_okg hs rfl rfl hb62 m (ok_load_sc rfl ty3 (el_at hp64 r2 (get_map _ he50)) rfl) rfl ?_
        clear hs a; intro a hs
        refine r_okg hs rfl rfl hb62 m (ok_bin rfl rfl rfl) rfl ?_
        clear hs a; intro a hs
        refine r_okg hs rfl rfl hb62 m (ok_move rfl) rfl ?_
        clear hs a; intro a hs
        refine l_cut (.c (.c (.c (.c (.c (.c (.c (.c (.n))))))))) (fun a w => St 182 [(3, .pointer (some (padd p3 0))), (6, v7.v), (8, .int .i64 (max (have_Routes.length : Int) (want_Routes.length : Int))), (9, .int .i64 (max (have_Neighs.length : Int) (want_Neighs.length : Int))), (10, .int .i64 (max (have_Fdbs.length : Int) (want_Fdbs.length : Int))), (11, .bool ((wholeM have_Routes have_Neighs have_Fdbs) && (wholeM want_Routes want_Neighs want_Fdbs))), (12, .pointer (some (padd p22 0))), (14, .int .i64 (k : Int)), (89, v43.v), (90, v7.v), (91, .int .i64 (k : Int)), (92, (subH3 19 v7 k ((diffM have_Routes have_Neighs have_Fdbs want_Routes want_Neighs want_Fdbs).length) v7.c).v), (93, .bool (decide (diffM ((stK ⟨have_Routes, have_Neighs, have_Fdbs⟩ (diffM have_Routes have_Neighs have_Fdbs want_Routes want_Neighs want_Fdbs) k).R) ((stK ⟨have_Routes, have_Neighs, have_Fdbs⟩ (diffM have_Routes have_Neighs have_Fdbs want_Routes want_Neighs want_Fdbs) k).N) ((stK ⟨have_Routes, have_Neighs, have_Fdbs⟩ (diffM have_Routes have_Neighs have_Fdbs want_Routes want_Neighs want_Fdbs) k).F) want_Routes want_Neighs want_Fdbs = (diffM have_Routes have_Neighs have_Fdbs want_Routes want_Neighs want_Fdbs).drop k))), (94, .bool (!(decide (diffM ((stK ⟨have_Routes, have_Neighs, have_Fdbs⟩ (diffM have_Routes have_Neighs have_Fdbs want_Routes want_Neighs want_Fdbs) k).R) ((stK ⟨have_Routes, have_Neighs, have_Fdbs⟩ (diffM have_Routes have_Neighs have_Fdbs want_Routes want_Neighs want_Fdbs) k).N) ((stK ⟨have_Routes, have_Neighs, have_Fdbs⟩ (diffM have_Routes have_Neighs have_Fdbs want_Routes want_Neighs want_Fdbs) k).F) want_Routes want_Neighs want_Fdbs = (diffM have_Routes have_Neighs have_Fdbs want_Routes want_Neighs want_Fdbs).drop k)))), (114, .bool rmt), (115, v7.v), (116, .int .i64 (k : Int)), (117, .pointer (some (padd p63 0))), (118, .pointer (some (padd p63 0))), (119, .int .i64 e49.Kind.v), (120, .bool (e49.Kind.v == 2)), (121, .bool (e49.Kind.v == 2)), (129, .bool ((e49.Kind.v == 2) && !e49.Route.Local))] a ∧ Hp w0 (hh w0) [Sv 19 58 v43.v ((diffM ((stK ⟨have_Routes, have_Neighs, have_Fdbs⟩ (diffM have_Routes have_Neighs have_Fdbs want_Routes want_Neighs want_Fdbs) k).R) ((stK ⟨have_Routes, have_Neighs, have_Fdbs⟩ (diffM have_Routes have_Neighs have_Fdbs want_Routes want_Neighs want_Fdbs) k).N) ((stK ⟨have_Routes, have_Neighs, have_Fdbs⟩ (diffM have_Routes have_Neighs have_Fdbs want_Routes want_Neighs want_Fdbs) k).F) want_Routes want_Neighs want_Fdbs).map cOp), Bx p3 29 [vwant_Routes.v, vwant_Neighs.v, vwant_Fdbs.v], Sv 19 58 v7.v ((diffM have_Routes have_Neighs have_Fdbs want_Routes want_Neighs want_Fdbs).map cOp), Bx p22 29 [v25.v, v26.v, v27.v], Ro (hh w0) 4 51 v25.v (((stK ⟨have_Routes, have_Neighs, have_Fdbs⟩ (diffM have_Routes have_Neighs have_Fdbs want_Routes want_Neighs want_Fdbs) k).R).map cRoute), Ro (hh w0) 7 54 v26.v (((stK ⟨have_Routes, have_Neighs, have_Fdbs⟩ (diffM have_Routes have_Neighs have_Fdbs want_Routes want_Neighs want_Fdbs) k).N).map cNeigh), Ro (hh w0) 7 56 v27.v (((stK ⟨have_Routes, have_Neighs, have_Fdbs⟩ (diffM have_Routes have_Neighs have_Fdbs want_Routes want_Neighs want_Fdbs) k).F).map cFdb)] w) ?_ ?_
        · rcases Bool.eq_false_or_eq_true (e49.Kind.v == 2) with hb66 | hb66
          · have hb66p := eq_of_beq hb66
            refine r_okg hs rfl rfl hb66 m (ok_move rfl) rfl ?_
            clear hs a; intro a hs
            refine r_okg hs rfl rfl hb66 m (ok_move rfl) rfl ?_
            clear hs a; intro a hs
            refine elO (c := cOp) (e := e49) hs m (x := (.tmp 122)) (ix := (.tmp 123)) rfl rfl sl35 ty58 r2 (by omega) he50 fun p67 hp68 ok69 => ?_
            refine r_okg hs rfl rfl hb66 m (ok69 _ _ _ _ _) rfl ?_
            clear hs a; intro a hs
            refine r_okg hs rfl rfl hb66 m (ok_fieldAddr (r := 1) rfl fd58_1 ty51 rfl) rfl ?_
            clear hs a; intro a hs
            refine r_okg hs rfl rfl hb66 m (ok_fieldAddr (r := 4) rfl fd51_2 ty4 rfl) rfl ?_
            clear hs a; intro a hs
            refine r_okg hs rfl rfl hb66 m (ok_load_sc rfl ty4 (el_at hp68 r2 (get_map _ he50)) rfl) rfl ?_
            clear hs a; intro a hs
            refine r_okg hs rfl rfl hb66 m (ok_not rfl) rfl ?_
            clear hs a; intro a hs
            refine r_okg hs rfl rfl hb62 m (ok_pick (r := .bool ((e49.Kind.v == 2) && !e49.Route.Local)) rfl rfl rfl (by rw [hb66]; rfl)) rfl ?_
            clear hs a; intro a hs
            exact wpList_nil (n_then ⟨hs.to ⟨rfl, rfl, rfl, rfl, rfl, rfl, rfl, rfl, rfl, rfl, rfl, rfl, rfl, rfl, rfl, rfl, rfl, rfl, rfl, rfl, rfl, rfl, rfl, trivial⟩, m⟩)
          · have hb66p := ne_of_beq_false hb66
            refine g_out hs rfl rfl hb66 rfl ?_
            clear hs a; intro a hs
            refine g_out hs rfl rfl hb66 rfl ?_
            clear hs a; intro a hs
            refine g_out hs rfl rfl hb66 rfl ?_
            clear hs a; intro a hs
            refine g_out hs rfl rfl hb66 rfl ?_
            clear hs a; intro a hs
            refine g_out hs rfl rfl hb66 rfl ?_
            clear hs a; intro a hs
            refine g_out hs rfl rfl hb66 rfl ?_
            clear hs a; intro a hs
            refine g_out hs rfl rfl hb66 rfl ?_
            clear hs a; intro a hs
            refine r_okg hs rfl rfl hb62 m (ok_pick (r := .bool ((e49.Kind.v == 2) && !e49.Route.Local)) rfl rfl rfl (by rw [hb66]; rfl)) rfl ?_
            clear hs a; intro a hs
            exact wpList_nil (n_then ⟨hs.to ⟨rfl, rfl, rfl, rfl, rfl, rfl, rfl, rfl, rfl, rfl, rfl, rfl, rfl, rfl, rfl, rfl, rfl, rfl, rfl, rfl, rfl, rfl, rfl, trivial⟩, m⟩)
        clear hs m a w60; rintro a w70 ⟨hs, m⟩
        refine r_ok hs m (ok_pick (r := .bool (rmt || ((e49.Kind.v == 2) && !e49.Route.Local))) rfl rfl rfl (by rw [hb62]; rfl)) rfl ?_
        clear hs a; intro a hs
        exact wpList_nil (n_then ⟨hs.to ⟨rfl, rfl, rfl, rfl, rfl, rfl, rfl, rfl, rfl, rfl, rfl, rfl, rfl, rfl, rfl, trivial⟩, m⟩)
    clear hs m a w60; rintro a w71 ⟨hs, m⟩
    refine r_ok hs m (ok_assign rfl) rfl ?_
    clear hs a; intro a hs
    refine wpList_nil (n_then ?_)
    refine c_drawH (Hp w0 (hh w0) [Sv 19 58 v43.v ((diffM ((stK ⟨have_Routes, have_Neighs, have_Fdbs⟩ (diffM have_Routes have_Neighs have_Fdbs want_Routes want_Neighs want_Fdbs) k).R) ((stK ⟨have_Routes, have_Neighs, have_Fdbs⟩ (diffM have_Routes have_Neighs have_Fdbs want_Routes want_Neighs want_Fdbs) k).N) ((stK ⟨have_Routes, have_Neighs, have_Fdbs⟩ (diffM have_Routes have_Neighs have_Fdbs want_Routes want_Neighs want_Fdbs) k).F) want_Routes want_Neighs want_Fdbs).map cOp), Bx p3 29 [vwant_Routes.v, vwant_Neighs.v, vwant_Fdbs.v], Sv 19 58 v7.v ((diffM have_Routes have_Neighs have_Fdbs want_Routes want_Neighs want_Fdbs).map cOp)]) m mo ?_; clear m w71; intro w72 m
    refine h_ok (i := 1) rfl (by kernel_rfl) (by kernel_rfl) (by kernel_rfl) hs (m.sub (.c r0 (.c r0 (.c r0 .n)))) (ok_move rfl) rfl ?_
    clear hs a; intro a hs
    refine h_ok (i := 2) rfl (by kernel_rfl) (by kernel_rfl) (by kernel_rfl) hs (m.sub (.c r0 (.c r0 (.c r0 .n)))) (ok_move rfl) rfl ?_
    clear hs a; intro a hs
    refine elO (c := cOp) (e := e49) hs (m.sub (.c r0 (.c r0 (.c r0 .n)))) (x := (.tmp 132)) (ix := (.tmp 133)) rfl rfl sl35 ty58 r2 (by omega) he50 fun p73 hp74 ok75 => ?_
    refine h_ok (i := 3) rfl (by kernel_rfl) (by kernel_rfl) (by kernel_rfl) hs (m.sub (.c r0 (.c r0 (.c r0 .n)))) (ok75 _ _ _ _ _) rfl ?_
    clear hs a; intro a hs
    refine h_ok (i := 4) rfl (by kernel_rfl) (by kernel_rfl) (by kernel_rfl) hs (m.sub (.c r0 (.c r0 (.c r0 .n)))) (ok_load_ag (vs := cOp e49) rfl ty58 (el_at hp74 r2 (get_map _ he50)) rfl rfl) rfl ?_
    clear hs a; intro a hs
    refine h_eff (i := 0) (by kernel_rfl) rfl ?_
    refine r_ok hs m (ok_load_ag (vs := [v25.v, v26.v, v27.v]) rfl ty29 (bx_at r3) rfl rfl) rfl ?_
    clear hs a; intro a hs
    refine wpList_nil (n_then ⟨(m.sub (.c r0 (.c r0 (.c r0 .n)))), ?_⟩)
    refine h_eff (i := 5) (by kernel_rfl) rfl ?_
    obtain ⟨R1, hR, hR2, ⟨y1, sy, ly⟩, mc, back⟩ := Hp.split (Pc := [Ro (hh w0) 4 51 v25.v (((stK ⟨have_Routes, have_Neighs, have_Fdbs⟩ (diffM have_Routes have_Neighs have_Fdbs want_Routes want_Neighs want_Fdbs) k).R).map cRoute), Ro (hh w0) 7 54 v26.v (((stK ⟨have_Routes, have_Neighs, have_Fdbs⟩ (diffM have_Routes have_Neighs have_Fdbs want_Routes want_Neighs want_Fdbs) k).N).map cNeigh), Ro (hh w0) 7 56 v27.v (((stK ⟨have_Routes, have_Neighs, have_Fdbs⟩ (diffM have_Routes have_Neighs have_Fdbs want_Routes want_Neighs want_Fdbs) k).F).map cFdb)]) (Ps := [Sv 19 58 v43.v ((diffM ((stK ⟨have_Routes, have_Neighs, have_Fdbs⟩ (diffM have_Routes have_Neighs have_Fdbs want_Routes want_Neighs want_Fdbs) k).R) ((stK ⟨have_Routes, have_Neighs, have_Fdbs⟩ (diffM have_Routes have_Neighs have_Fdbs want_Routes want_Neighs want_Fdbs) k).N) ((stK ⟨have_Routes, have_Neighs, have_Fdbs⟩ (diffM have_Routes have_Neighs have_Fdbs want_Routes want_Neighs want_Fdbs) k).F) want_Routes want_Neighs want_Fdbs).map cOp), Bx p3 29 [vwant_Routes.v, vwant_Neighs.v, vwant_Fdbs.v], Sv 19 58 v7.v ((diffM have_Routes have_Neighs have_Fdbs want_Routes want_Neighs want_Fdbs).map cOp), Bx p22 29 [v25.v, v26.v, v27.v]]) (m.sub (.c r4 (.c r4 (.c r4 (.c r0 (.c r0 (.c r0 (.c r0 .n))))))))
    refine r_call hs rfl rfl ca25 rfl (after_c v25 ((stK ⟨have_Routes, have_Neighs, have_Fdbs⟩ (diffM have_Routes have_Neighs have_Fdbs want_Routes want_Neighs want_Fdbs) k).R) v26 ((stK ⟨have_Routes, have_Neighs, have_Fdbs⟩ (diffM have_Routes have_Neighs have_Fdbs want_Routes want_Neighs want_Fdbs) k).N) v27 ((stK ⟨have_Routes, have_Neighs, have_Fdbs⟩ (diffM have_Routes have_Neighs have_Fdbs want_Routes want_Neighs want_Fdbs) k).F) e49 _ R1 (hh w0) (hle_trans (hle_refl _) hR)  (by first | omega | rfl | exact bsI_le _ _ | assumption | decide) (by first | omega | rfl | exact bsI_le _ _ | assumption | decide) (by first | omega | rfl | exact bsI_le _ _ | assumption | decide) mc) rfl ?_
    clear hs a; rintro _ w79 ⟨v76, v77, v78, rfl, hm⟩ a hs
    replace m : Hp w0 (hh w0) [Ro (hh w0) 4 51 v76.v (((afterT ⟨(stK ⟨have_Routes, have_Neighs, have_Fdbs⟩ (diffM have_Routes have_Neighs have_Fdbs want_Routes want_Neighs want_Fdbs) k).R, (stK ⟨have_Routes, have_Neighs, have_Fdbs⟩ (diffM have_Routes have_Neighs have_Fdbs want_Routes want_Neighs want_Fdbs) k).N, (stK ⟨have_Routes, have_Neighs, have_Fdbs⟩ (diffM have_Routes have_Neighs have_Fdbs want_Routes want_Neighs want_Fdbs) k).F⟩ e49).R).map cRoute), Ro (hh w0) 7 54 v77.v (((afterT ⟨(stK ⟨have_Routes, have_Neighs, have_Fdbs⟩ (diffM have_Routes have_Neighs have_Fdbs want_Routes want_Neighs want_Fdbs) k).R, (stK ⟨have_Routes, have_Neighs, have_Fdbs⟩ (diffM have_Routes have_Neighs have_Fdbs want_Routes want_Neighs want_Fdbs) k).N, (stK ⟨have_Routes, have_Neighs, have_Fdbs⟩ (diffM have_Routes have_Neighs have_Fdbs want_Routes want_Neighs want_Fdbs) k).F⟩ e49).N).map cNeigh), Ro (hh w0) 7 56 v78.v (((afterT ⟨(stK ⟨have_Routes, have_Neighs, have_Fdbs⟩ (diffM have_Routes have_Neighs have_Fdbs want_Routes want_Neighs want_Fdbs) k).R, (stK ⟨have_Routes, have_Neighs, have_Fdbs⟩ (diffM have_Routes have_Neighs have_Fdbs want_Routes want_Neighs want_Fdbs) k).N, (stK ⟨have_Routes, have_Neighs, have_Fdbs⟩ (diffM have_Routes have_Neighs have_Fdbs want_Routes want_Neighs want_Fdbs) k).F⟩ e49).F).map cFdb), Sv 19 58 v43.v ((diffM ((stK ⟨have_Routes, have_Neighs, have_Fdbs⟩ (diffM have_Routes have_Neighs have_Fdbs want_Routes want_Neighs want_Fdbs) k).R) ((stK ⟨have_Routes, have_Neighs, have_Fdbs⟩ (diffM have_Routes have_Neighs have_Fdbs want_Routes want_Neighs want_Fdbs) k).N) ((stK ⟨have_Routes, have_Neighs, have_Fdbs⟩ (diffM have_Routes have_Neighs have_Fdbs want_Routes want_Neighs want_Fdbs) k).F) want_Routes want_Neighs want_Fdbs).map cOp), Bx p3 29 [vwant_Routes.v, vwant_Neighs.v, vwant_Fdbs.v], Sv 19 58 v7.v ((diffM have_Routes have_Neighs have_Fdbs want_Routes want_Neighs want_Fdbs).map cOp), Bx p22 29 [v25.v, v26.v, v27.v]] w79 := back _ _ hm
    clear hm back mc sy ly hR2 hR y1 R1 w72
    refine wpList_nil (n_then ⟨(m.sub (.c r3 (.c r3 (.c r3 .n)))), ?_⟩)
    refine h_eff (i := 6) (by kernel_rfl) rfl ?_
    refine r_store (cs' := [v76.v, v77.v, v78.v]) (vs := [v76.v, v77.v, v78.v]) hs m rfl rfl ty29 s6 rfl rfl rfl rfl rfl ?_
    clear m w79; intro w80 m
    refine wpList_nil (n_then ⟨(m.sub (.c r3 (.c r3 (.c r3 .n)))), ?_⟩)
    refine h_done (by kernel_rfl) (n_then ?_)
    refine c_reg ?_
    refine r_ok hs m (ok_fieldAddr (r := 0) rfl fd29_0 ty25 rfl) rfl ?_
    clear hs a; intro a hs
    refine r_ok hs m (ok_load_sc rfl ty25 (bx_at r6) rfl) rfl ?_
    clear hs a; intro a hs
    refine r_ok hs m (ok_len (r := (((afterT ⟨(stK ⟨have_Routes, have_Neighs, have_Fdbs⟩ (diffM have_Routes have_Neighs have_Fdbs want_Routes want_Neighs want_Fdbs) k).R, (stK ⟨have_Routes, have_Neighs, have_Fdbs⟩ (diffM have_Routes have_Neighs have_Fdbs want_Routes want_Neighs want_Fdbs) k).N, (stK ⟨have_Routes, have_Neighs, have_Fdbs⟩ (diffM have_Routes have_Neighs have_Fdbs want_Routes want_Neighs want_Fdbs) k).F⟩ e49).R).length : Int)) m rfl sl25 (rc_ro (hle_refl _) r0) (by simp)) rfl ?_
    clear hs a; intro a hs
    refine r_ok hs m (ok_move rfl) rfl ?_
    clear hs a; intro a hs
    refine r_ok hs m (ok_bin rfl rfl rfl) rfl ?_
    clear hs a; intro a hs
    refine r_ok hs m (ok_move rfl) rfl ?_
    clear hs a; intro a hs
    have hb81 : (decide ((((afterT ⟨(stK ⟨have_Routes, have_Neighs, have_Fdbs⟩ (diffM have_Routes have_Neighs have_Fdbs want_Routes want_Neighs want_Fdbs) k).R, (stK ⟨have_Routes, have_Neighs, have_Fdbs⟩ (diffM have_Routes have_Neighs have_Fdbs want_Routes want_Neighs want_Fdbs) k).N, (stK ⟨have_Routes, have_Neighs, have_Fdbs⟩ (diffM have_Routes have_Neighs have_Fdbs want_Routes want_Neighs want_Fdbs) k).F⟩ e49).R).length : Int) > (max (have_Routes.length : Int) (want_Routes.length : Int)))) = false := by exact decide_eq_false (by have hn := leads_next (k := k) (by assumption) (by omega) (by assumption); have q1 := hn.lR; have q2 := hn.lN; have q3 := hn.lF; omega)
    refine r_okg hs rfl rfl hb81 m (ok_fieldAddr (r := 1) rfl fd29_1 ty26 rfl) rfl ?_
    clear hs a; intro a hs
    refine r_okg hs rfl rfl hb81 m (ok_load_sc rfl ty26 (bx_at r6) rfl) rfl ?_
    clear hs a; intro a hs
    refine r_okg hs rfl rfl hb81 m (ok_len (r := (((afterT ⟨(stK ⟨have_Routes, have_Neighs, have_Fdbs⟩ (diffM have_Routes have_Neighs have_Fdbs want_Routes want_Neighs want_Fdbs) k).R, (stK ⟨have_Routes, have_Neighs, have_Fdbs⟩ (diffM have_Routes have_Neighs have_Fdbs want_Routes want_Neighs want_Fdbs) k).N, (stK ⟨have_Routes, have_Neighs, have_Fdbs⟩ (diffM have_Routes have_Neighs have_Fdbs want_Routes want_Neighs want_Fdbs) k).F⟩ e49).N).length : Int)) m rfl sl26 (rc_ro (hle_refl _) r1) (by simp)) rfl ?_
    clear hs a; intro a hs
    refine r_okg hs rfl rfl hb81 m (ok_move rfl) rfl ?_
    clear hs a; intro a hs
    refine r_okg hs rfl rfl hb81 m (ok_bin rfl rfl rfl) rfl ?_
    clear hs a; intro a hs
    refine r_ok hs m (ok_pick (r := .bool (decide ((((afterT ⟨(stK ⟨have_Routes, have_Neighs, have_Fdbs⟩ (diffM have_Routes have_Neighs have_Fdbs want_Routes want_Neighs want_Fdbs) k).R, (stK ⟨have_Routes, have_Neighs, have_Fdbs⟩ (diffM have_Routes have_Neighs have_Fdbs want_Routes want_Neighs want_Fdbs) k).N, (stK ⟨have_Routes, have_Neighs, have_Fdbs⟩ (diffM have_Routes have_Neighs have_Fdbs want_Routes want_Neighs want_Fdbs) k).F⟩ e49).N).length : Int) > (max (have_Neighs.length : Int) (want_Neighs.length : Int))))) rfl rfl rfl (by rw [hb81]; rfl)) rfl ?_
    clear hs a; intro a hs
    refine r_ok hs m (ok_move rfl) rfl ?_
    clear hs a; intro a hs
    have hb82 : (decide ((((afterT ⟨(stK ⟨have_Routes, have_Neighs, have_Fdbs⟩ (diffM have_Routes have_Neighs have_Fdbs want_Routes want_Neighs want_Fdbs) k).R, (stK ⟨have_Routes, have_Neighs, have_Fdbs⟩ (diffM have_Routes have_Neighs have_Fdbs want_Routes want_Neighs want_Fdbs) k).N, (stK ⟨have_Routes, have_Neighs, have_Fdbs⟩ (diffM have_Routes have_Neighs have_Fdbs want_Routes want_Neighs want_Fdbs) k).F⟩ e49).N).length : Int) > (max (have_Neighs.length : Int) (want_Neighs.length : Int)))) = false := by exact decide_eq_false (by have hn := leads_next (k := k) (by assumption) (by omega) (by assumption); have q1 := hn.lR; have q2 := hn.lN; have q3 := hn.lF; omega)
    refine r_okg hs rfl rfl hb82 m (ok_fieldAddr (r := 2) rfl fd29_2 ty27 rfl) rfl ?_
    clear hs a; intro a hs
    refine r_okg hs rfl rfl hb82 m (ok_load_sc rfl ty27 (bx_at r6) rfl) rfl ?_
    clear hs a; intro a hs
    refine r_okg hs rfl rfl hb82 m (ok_len (r := (((afterT ⟨(stK ⟨have_Routes, have_Neighs, have_Fdbs⟩ (diffM have_Routes have_Neighs have_Fdbs want_Routes want_Neighs want_Fdbs) k).R, (stK ⟨have_Routes, have_Neighs, have_Fdbs⟩ (diffM have_Routes have_Neighs have_Fdbs want_Routes want_Neighs want_Fdbs) k).N, (stK ⟨have_Routes, have_Neighs, have_Fdbs⟩ (diffM have_Routes have_Neighs have_Fdbs want_Routes want_Neighs want_Fdbs) k).F⟩ e49).F).length : Int)) m rfl sl27 (rc_ro (hle_refl _) r2) (by simp)) rfl ?_
    clear hs a; intro a hs
    refine r_okg hs rfl rfl hb82 m (ok_move rfl) rfl ?_
    clear hs a; intro a hs
    refine r_okg hs rfl rfl hb82 m (ok_bin rfl rfl rfl) rfl ?_
    clear hs a; intro a hs
    refine r_ok hs m (ok_pick (r := .bool (decide ((((afterT ⟨(stK ⟨have_Routes, have_Neighs, have_Fdbs⟩ (diffM have_Routes have_Neighs have_Fdbs want_Routes want_Neighs want_Fdbs) k).R, (stK ⟨have_Routes, have_Neighs, have_Fdbs⟩ (diffM have_Routes have_Neighs have_Fdbs want_Routes want_Neighs want_Fdbs) k).N, (stK ⟨have_Routes, have_Neighs, have_Fdbs⟩ (diffM have_Routes have_Neighs have_Fdbs want_Routes want_Neighs want_Fdbs) k).F⟩ e49).F).length : Int) > (max (have_Fdbs.length : Int) (want_Fdbs.length : Int))))) rfl rfl rfl (by rw [hb82]; rfl)) rfl ?_
    clear hs a; intro a hs
    refine r_ok hs m (ok_move rfl) rfl ?_
    clear hs a; intro a hs
    have hb83 : (decide ((((afterT ⟨(stK ⟨have_Routes, have_Neighs, have_Fdbs⟩ (diffM have_Routes have_Neighs have_Fdbs want_Routes want_Neighs want_Fdbs) k).R, (stK ⟨have_Routes, have_Neighs, have_Fdbs⟩ (diffM have_Routes have_Neighs have_Fdbs want_Routes want_Neighs want_Fdbs) k).N, (stK ⟨have_Routes, have_Neighs, have_Fdbs⟩ (diffM have_Routes have_Neighs have_Fdbs want_Routes want_Neighs want_Fdbs) k).F⟩ e49).F).length : Int) > (max (have_Fdbs.length : Int) (want_Fdbs.length : Int)))) = false := by exact decide_eq_false (by have hn := leads_next (k := k) (by assumption) (by omega) (by assumption); have q1 := hn.lR; have q2 := hn.lN; have q3 := hn.lF; omega)
    refine r_okg hs rfl rfl hb83 m (ok_move rfl) rfl ?_
    clear hs a; intro a hs
    refine r_okg hs rfl rfl hb83 m (ok_move rfl) rfl ?_
    clear hs a; intro a hs
    rcases Bool.eq_false_or_eq_true ((wholeM have_Routes have_Neighs have_Fdbs) && (wholeM want_Routes want_Neighs want_Fdbs)) with hb84 | hb84
    · have hb84p := hb84; simp only [Bool.or_eq_true, Bool.or_eq_false_iff, Bool.and_eq_true, Bool.and_eq_false_iff, Bool.not_eq_true', Bool.not_eq_false', decide_eq_true_eq, decide_eq_false_iff_not, beq_iff_eq, bne_iff_ne, beq_eq_false_iff_ne, bne_eq_false_iff_eq, ne_eq, gt_iff_lt, ge_iff_le, Int.not_lt, Int.not_le] at hb84p
      refine r_okg hs rfl rfl hb84 m (ok_load_ag (vs := [v76.v, v77.v, v78.v]) rfl ty29 (bx_at r6) rfl rfl) rfl ?_
      clear hs a; intro a hs
      refine r_callPg hs rfl rfl hb84 m rfl rfl ca22 rfl (whole_c v76 ((afterT ⟨(stK ⟨have_Routes, have_Neighs, have_Fdbs⟩ (diffM have_Routes have_Neighs have_Fdbs want_Routes want_Neighs want_Fdbs) k).R, (stK ⟨have_Routes, have_Neighs, have_Fdbs⟩ (diffM have_Routes have_Neighs have_Fdbs want_Routes want_Neighs want_Fdbs) k).N, (stK ⟨have_Routes, have_Neighs, have_Fdbs⟩ (diffM have_Routes have_Neighs have_Fdbs want_Routes want_Neighs want_Fdbs) k).F⟩ e49).R) v77 ((afterT ⟨(stK ⟨have_Routes, have_Neighs, have_Fdbs⟩ (diffM have_Routes have_Neighs have_Fdbs want_Routes want_Neighs want_Fdbs) k).R, (stK ⟨have_Routes, have_Neighs, have_Fdbs⟩ (diffM have_Routes have_Neighs have_Fdbs want_Routes want_Neighs want_Fdbs) k).N, (stK ⟨have_Routes, have_Neighs, have_Fdbs⟩ (diffM have_Routes have_Neighs have_Fdbs want_Routes want_Neighs want_Fdbs) k).F⟩ e49).N) v78 ((afterT ⟨(stK ⟨have_Routes, have_Neighs, have_Fdbs⟩ (diffM have_Routes have_Neighs have_Fdbs want_Routes want_Neighs want_Fdbs) k).R, (stK ⟨have_Routes, have_Neighs, have_Fdbs⟩ (diffM have_Routes have_Neighs have_Fdbs want_Routes want_Neighs want_Fdbs) k).N, (stK ⟨have_Routes, have_Neighs, have_Fdbs⟩ (diffM have_Routes have_Neighs have_Fdbs want_Routes want_Neighs want_Fdbs) k).F⟩ e49).F) _ (m.rdo (hle_refl _) r0) (m.rdo (hle_refl _) r1) (m.rdo (hle_refl _) r2) ) rfl ?_
      clear m hs a w80; intro w85 m a hs
      refine r_okg hs rfl rfl hb84 m (ok_not rfl) rfl ?_
      clear hs a; intro a hs
      refine r_okg hs rfl rfl hb83 m (ok_pick (r := .bool (!(wholeM ((afterT ⟨(stK ⟨have_Routes, have_Neighs, have_Fdbs⟩ (diffM have_Routes have_Neighs have_Fdbs want_Routes want_Neighs want_Fdbs) k).R, (stK ⟨have_Routes, have_Neighs, have_Fdbs⟩ (diffM have_Routes have_Neighs have_Fdbs want_Routes want_Neighs want_Fdbs) k).N, (stK ⟨have_Routes, have_Neighs, have_Fdbs⟩ (diffM have_Routes have_Neighs have_Fdbs want_Routes want_Neighs want_Fdbs) k).F⟩ e49).R) ((afterT ⟨(stK ⟨have_Routes, have_Neighs, have_Fdbs⟩ (diffM have_Routes have_Neighs have_Fdbs want_Routes want_Neighs want_Fdbs) k).R, (stK ⟨have_Routes, have_Neighs, have_Fdbs⟩ (diffM have_Routes have_Neighs have_Fdbs want_Routes want_Neighs want_Fdbs) k).N, (stK ⟨have_Routes, have_Neighs, have_Fdbs⟩ (diffM have_Routes have_Neighs have_Fdbs want_Routes want_Neighs want_Fdbs) k).F⟩ e49).N) ((afterT ⟨(stK ⟨have_Routes, have_Neighs, have_Fdbs⟩ (diffM have_Routes have_Neighs have_Fdbs want_Routes want_Neighs want_Fdbs) k).R, (stK ⟨have_Routes, have_Neighs, have_Fdbs⟩ (diffM have_Routes have_Neighs have_Fdbs want_Routes want_Neighs want_Fdbs) k).N, (stK ⟨have_Routes, have_Neighs, have_Fdbs⟩ (diffM have_Routes have_Neighs have_Fdbs want_Routes want_Neighs want_Fdbs) k).F⟩ e49).F)))) rfl rfl rfl (by rw [hb84]; rfl)) rfl ?_
      clear hs a; intro a hs
      refine r_ok hs m (ok_pick (r := .bool (!(wholeM ((afterT ⟨(stK ⟨have_Routes, have_Neighs, have_Fdbs⟩ (diffM have_Routes have_Neighs have_Fdbs want_Routes want_Neighs want_Fdbs) k).R, (stK ⟨have_Routes, have_Neighs, have_Fdbs⟩ (diffM have_Routes have_Neighs have_Fdbs want_Routes want_Neighs want_Fdbs) k).N, (stK ⟨have_Routes, have_Neighs, have_Fdbs⟩ (diffM have_Routes have_Neighs have_Fdbs want_Routes want_Neighs want_Fdbs) k).F⟩ e49).R) ((afterT ⟨(stK ⟨have_Routes, have_Neighs, have_Fdbs⟩ (diffM have_Routes have_Neighs have_Fdbs want_Routes want_Neighs want_Fdbs) k).R, (stK ⟨have_Routes, have_Neighs, have_Fdbs⟩ (diffM have_Routes have_Neighs have_Fdbs want_Routes want_Neighs want_Fdbs) k).N, (stK ⟨have_Routes, have_Neighs, have_Fdbs⟩ (diffM have_Routes have_Neighs have_Fdbs want_Routes want_Neighs want_Fdbs) k).F⟩ e49).N) ((afterT ⟨(stK ⟨have_Routes, have_Neighs, have_Fdbs⟩ (diffM have_Routes have_Neighs have_Fdbs want_Routes want_Neighs want_Fdbs) k).R, (stK ⟨have_Routes, have_Neighs, have_Fdbs⟩ (diffM have_Routes have_Neighs have_Fdbs want_Routes want_Neighs want_Fdbs) k).N, (stK ⟨have_Routes, have_Neighs, have_Fdbs⟩ (diffM have_Routes have_Neighs have_Fdbs want_Routes want_Neighs want_Fdbs) k).F⟩ e49).F)))) rfl rfl rfl (by rw [hb83]; rfl)) rfl ?_
      clear hs a; intro a hs
      refine wpList_nil (n_then ?_)
      refine c_false hs rfl (by (have hn := leads_next (k := k) (by assumption) (by omega) (by assumption); simp [hn.wh (by assumption)])) ?_
      refine wp_skip ?_
      refine n_block (n_then ?_)
      refine c_last ?_
      refine r_ok hs m (ok_move rfl) rfl ?_
      clear hs a; intro a hs
      refine r_ok hs m (ok_add (r := (k : Int) + 1) rfl rfl (wrap_i64 (by omega) (by omega))) rfl ?_
      clear hs a; intro a hs
      refine r_ok hs m (ok_assign rfl) rfl ?_
      clear hs a; intro a hs
      refine wpList_nil (n_then ?_)
      have q87 : (afterT ⟨(stK ⟨have_Routes, have_Neighs, have_Fdbs⟩ (diffM have_Routes have_Neighs have_Fdbs want_Routes want_Neighs want_Fdbs) k).R, (stK ⟨have_Routes, have_Neighs, have_Fdbs⟩ (diffM have_Routes have_Neighs have_Fdbs want_Routes want_Neighs want_Fdbs) k).N, (stK ⟨have_Routes, have_Neighs, have_Fdbs⟩ (diffM have_Routes have_Neighs have_Fdbs want_Routes want_Neighs want_Fdbs) k).F⟩ e49).R = (stK ⟨have_Routes, have_Neighs, have_Fdbs⟩ (diffM have_Routes have_Neighs have_Fdbs want_Routes want_Neighs want_Fdbs) (k + 1)).R := by first | (rw [stK_0]; done) | (rw [stK_succ (by assumption)])
      rw [q87] at m
      have q88 : (afterT ⟨(stK ⟨have_Routes, have_Neighs, have_Fdbs⟩ (diffM have_Routes have_Neighs have_Fdbs want_Routes want_Neighs want_Fdbs) k).R, (stK ⟨have_Routes, have_Neighs, have_Fdbs⟩ (diffM have_Routes have_Neighs have_Fdbs want_Routes want_Neighs want_Fdbs) k).N, (stK ⟨have_Routes, have_Neighs, have_Fdbs⟩ (diffM have_Routes have_Neighs have_Fdbs want_Routes want_Neighs want_Fdbs) k).F⟩ e49).N = (stK ⟨have_Routes, have_Neighs, have_Fdbs⟩ (diffM have_Routes have_Neighs have_Fdbs want_Routes want_Neighs want_Fdbs) (k + 1)).N := by first | (rw [stK_0]; done) | (rw [stK_succ (by assumption)])
      rw [q88] at m
      have q89 : (afterT ⟨(stK ⟨have_Routes, have_Neighs, have_Fdbs⟩ (diffM have_Routes have_Neighs have_Fdbs want_Routes want_Neighs want_Fdbs) k).R, (stK ⟨have_Routes, have_Neighs, have_Fdbs⟩ (diffM have_Routes have_Neighs have_Fdbs want_Routes want_Neighs want_Fdbs) k).N, (stK ⟨have_Routes, have_Neighs, have_Fdbs⟩ (diffM have_Routes have_Neighs have_Fdbs want_Routes want_Neighs want_Fdbs) k).F⟩ e49).F = (stK ⟨have_Routes, have_Neighs, have_Fdbs⟩ (diffM have_Routes have_Neighs have_Fdbs want_Routes want_Neighs want_Fdbs) (k + 1)).F := by first | (rw [stK_0]; done) | (rw [stK_succ (by assumption)])
      rw [q89] at m
      exact ⟨(diffM have_Routes have_Neighs have_Fdbs want_Routes want_Neighs want_Fdbs).length - (k + 1), by omega, k + 1, rmt || ((e49.Kind.v == 2) && !e49.Route.Local), v76, v77, v78, by omega, by rw [any_take_succ (by assumption), ← hr]; rfl, rfl, hs.to ⟨rfl, rfl, rfl, rfl, rfl, rfl, rfl, rfl, rfl, trivial⟩, m.sub (.c r4 (.c r4 (.c r4 (.c r0 (.c r0 (.c r0 .n))))))⟩
    · have hb84p := hb84; simp only [Bool.or_eq_true, Bool.or_eq_false_iff, Bool.and_eq_true, Bool.and_eq_false_iff, Bool.not_eq_true', Bool.not_eq_false', decide_eq_true_eq, decide_eq_false_iff_not, beq_iff_eq, bne_iff_ne, beq_eq_false_iff_ne, bne_eq_false_iff_eq, ne_eq, gt_iff_lt, ge_iff_le, Int.not_lt, Int.not_le] at hb84p
      refine g_out hs rfl rfl hb84 rfl ?_
      clear hs a; intro a hs
      refine g_out hs rfl rfl hb84 rfl ?_
      clear hs a; intro a hs
      refine g_out hs rfl rfl hb84 rfl ?_
      clear hs a; intro a hs
      refine r_okg hs rfl rfl hb83 m (ok_pick (r := .bool false) rfl rfl rfl (by rw [hb84]; rfl)) rfl ?_
      clear hs a; intro a hs
      refine r_ok hs m (ok_pick (r := .bool false) rfl rfl rfl (by rw [hb83]; rfl)) rfl ?_
      clear hs a; intro a hs
      refine wpList_nil (n_then ?_)
      refine c_false hs rfl rfl ?_
      refine wp_skip ?_
      refine n_block (n_then ?_)
      refine c_last ?_
      refine r_ok hs m (ok_move rfl) rfl ?_
      clear hs a; intro a hs
      refine r_ok hs m (ok_add (r := (k : Int) + 1) rfl rfl (wrap_i64 (by omega) (by omega))) rfl ?_
      clear hs a; intro a hs
      refine r_ok hs m (ok_assign rfl) rfl ?_
      clear hs a; intro a hs
      refine wpList_nil (n_then ?_)
      have q91 : (afterT ⟨(stK ⟨have_Routes, have_Neighs, have_Fdbs⟩ (diffM have_Routes have_Neighs have_Fdbs want_Routes want_Neighs want_Fdbs) k).R, (stK ⟨have_Routes, have_Neighs, have_Fdbs⟩ (diffM have_Routes have_Neighs have_Fdbs want_Routes want_Neighs want_Fdbs) k).N, (stK ⟨have_Routes, have_Neighs, have_Fdbs⟩ (diffM have_Routes have_Neighs have_Fdbs want_Routes want_Neighs want_Fdbs) k).F⟩ e49).R = (stK ⟨have_Routes, have_Neighs, have_Fdbs⟩ (diffM have_Routes have_Neighs have_Fdbs want_Routes want_Neighs want_Fdbs) (k + 1)).R := by first | (rw [stK_0]; done) | (rw [stK_succ (by assumption)])
      rw [q91] at m
      have q92 : (afterT ⟨(stK ⟨have_Routes, have_Neighs, have_Fdbs⟩ (diffM have_Routes have_Neighs have_Fdbs want_Routes want_Neighs want_Fdbs) k).R, (stK ⟨have_Routes, have_Neighs, have_Fdbs⟩ (diffM have_Routes have_Neighs have_Fdbs want_Routes want_Neighs want_Fdbs) k).N, (stK ⟨have_Routes, have_Neighs, have_Fdbs⟩ (diffM have_Routes have_Neighs have_Fdbs want_Routes want_Neighs want_Fdbs) k).F⟩ e49).N = (stK ⟨have_Routes, have_Neighs, have_Fdbs⟩ (diffM have_Routes have_Neighs have_Fdbs want_Routes want_Neighs want_Fdbs) (k + 1)).N := by first | (rw [stK_0]; done) | (rw [stK_succ (by assumption)])
      rw [q92] at m
      have q93 : (afterT ⟨(stK ⟨have_Routes, have_Neighs, have_Fdbs⟩ (diffM have_Routes have_Neighs have_Fdbs want_Routes want_Neighs want_Fdbs) k).R, (stK ⟨have_Routes, have_Neighs, have_Fdbs⟩ (diffM have_Routes have_Neighs have_Fdbs want_Routes want_Neighs want_Fdbs) k).N, (stK ⟨have_Routes, have_Neighs, have_Fdbs⟩ (diffM have_Routes have_Neighs have_Fdbs want_Routes want_Neighs want_Fdbs) k).F⟩ e49).F = (stK ⟨have_Routes, have_Neighs, have_Fdbs⟩ (diffM have_Routes have_Neighs have_Fdbs want_Routes want_Neighs want_Fdbs) (k + 1)).F := by first | (rw [stK_0]; done) | (rw [stK_succ (by assumption)])
      rw [q93] at m
      exact ⟨(diffM have_Routes have_Neighs have_Fdbs want_Routes want_Neighs want_Fdbs).length - (k + 1), by omega, k + 1, rmt || ((e49.Kind.v == 2) && !e49.Route.Local), v76, v77, v78, by omega, by rw [any_take_succ (by assumption), ← hr]; rfl, rfl, hs.to ⟨rfl, rfl, rfl, rfl, rfl, rfl, rfl, rfl, rfl, trivial⟩, m.sub (.c r4 (.c r4 (.c r4 (.c r0 (.c r0 (.c r0 .n))))))⟩
  have h42p := of_decide_eq_false h42
  refine wp_skip ?_
  refine n_then ?_
  refine c_seq ?_
  refine c_reg ?_
  refine r_ok hs m (ok_move rfl) rfl ?_
  clear hs a; intro a hs
  refine r_ok hs m (ok_move rfl) rfl ?_
  clear hs a; intro a hs
  obtain ⟨e94, he95⟩ := get_of_lt (l := diffM have_Routes have_Neighs have_Fdbs want_Routes want_Neighs want_Fdbs) (i := k) (by omega)
  refine elO (c := cOp) (e := e94) hs m (x := (.tmp 96)) (ix := (.tmp 97)) rfl rfl sl35 ty58 r1 (by omega) he95 fun p96 hp97 ok98 => ?_
  refine r_ok hs m (ok98 _ _ _ _ _) rfl ?_
  clear hs a; intro a hs
  refine r_ok hs m (ok_fieldAddr (r := 0) rfl fd58_0 ty3 rfl) rfl ?_
  clear hs a; intro a hs
  refine r_ok hs m (ok_load_sc rfl ty3 (el_at hp97 r1 (get_map _ he95)) rfl) rfl ?_
  clear hs a; intro a hs
  refine r_ok hs m (ok_bin rfl rfl rfl) rfl ?_
  clear hs a; intro a hs
  refine r_ok hs m (ok_move rfl) rfl ?_
  clear hs a; intro a hs
  refine l_cut (.c (.c (.c (.c (.c (.c (.c (.n)))))))) (fun a w => St 182 [(3, .pointer (some (padd p3 0))), (6, v7.v), (8, .int .i64 (max (have_Routes.length : Int) (want_Routes.length : Int))), (9, .int .i64 (max (have_Neighs.length : Int) (want_Neighs.length : Int))), (10, .int .i64 (max (have_Fdbs.length : Int) (want_Fdbs.length : Int))), (11, .bool ((wholeM have_Routes have_Neighs have_Fdbs) && (wholeM want_Routes want_Neighs want_Fdbs))), (12, .pointer (some (padd p22 0))), (13, .bool rmt), (14, .int .i64 (k : Int)), (109, .bool ((e94.Kind.v == 2) && e94.Route.Local))] a ∧ Hp w0 (hh w0) [Bx p3 29 [vwant_Routes.v, vwant_Neighs.v, vwant_Fdbs.v], Sv 19 58 v7.v ((diffM have_Routes have_Neighs have_Fdbs want_Routes want_Neighs want_Fdbs).map cOp), Bx p22 29 [v25.v, v26.v, v27.v], Ro (hh w0) 4 51 v25.v (((stK ⟨have_Routes, have_Neighs, have_Fdbs⟩ (diffM have_Routes have_Neighs have_Fdbs want_Routes want_Neighs want_Fdbs) k).R).map cRoute), Ro (hh w0) 7 54 v26.v (((stK ⟨have_Routes, have_Neighs, have_Fdbs⟩ (diffM have_Routes have_Neighs have_Fdbs want_Routes want_Neighs want_Fdbs) k).N).map cNeigh), Ro (hh w0) 7 56 v27.v (((stK ⟨have_Routes, have_Neighs, have_Fdbs⟩ (diffM have_Routes have_Neighs have_Fdbs want_Routes want_Neighs want_Fdbs) k).F).map cFdb)] w) ?_ ?_
  · rcases Bool.eq_false_or_eq_true (e94.Kind.v == 2) with hb99 | hb99
    · have hb99p := eq_of_beq hb99
      refine r_okg hs rfl rfl hb99 m (ok_move rfl) rfl ?_
      clear hs a; intro a hs
      refine r_okg hs rfl rfl hb99 m (ok_move rfl) rfl ?_
      clear hs a; intro a hs
      refine elO (c := cOp) (e := e94) hs m (x := (.tmp 103)) (ix := (.tmp 104)) rfl rfl sl35 ty58 r1 (by omega) he95 fun p100 hp101 ok102 => ?_
      refine r_okg hs rfl rfl hb99 m (ok102 _ _ _ _ _) rfl ?_
      clear hs a; intro a hs
      refine r_okg hs rfl rfl hb99 m (ok_fieldAddr (r := 1) rfl fd58_1 ty51 rfl) rfl ?_
      clear hs a; intro a hs
      refine r_okg hs rfl rfl hb99 m (ok_fieldAddr (r := 4) rfl fd51_2 ty4 rfl) rfl ?_
      clear hs a; intro a hs
      refine r_okg hs rfl rfl hb99 m (ok_load_sc rfl ty4 (el_at hp101 r1 (get_map _ he95)) rfl) rfl ?_
      clear hs a; intro a hs
      refine r_ok hs m (ok_pick (r := .bool ((e94.Kind.v == 2) && e94.Route.Local)) rfl rfl rfl (by rw [hb99]; rfl)) rfl ?_
      clear hs a; intro a hs
      exact wpList_nil (n_then ⟨hs.to ⟨rfl, rfl, rfl, rfl, rfl, rfl, rfl, rfl, rfl, rfl, trivial⟩, m⟩)
    · have hb99p := ne_of_beq_false hb99
      refine g_out hs rfl rfl hb99 rfl ?_
      clear hs a; intro a hs
      refine g_out hs rfl rfl hb99 rfl ?_
      clear hs a; intro a hs
      refine g_out hs rfl rfl hb99 rfl ?_
      clear hs a; intro a hs
      refine g_out hs rfl rfl hb99 rfl ?_
      clear hs a; intro a hs
      refine g_out hs rfl rfl hb99 rfl ?_
      clear hs a; intro a hs
      refine g_out hs rfl rfl hb99 rfl ?_
      clear hs a; intro a hs
      refine r_ok hs m (ok_pick (r := .bool ((e94.Kind.v == 2) && e94.Route.Local)) rfl rfl rfl (by rw [hb99]; rfl)) rfl ?_
      clear hs a; intro a hs
      exact wpList_nil (n_then ⟨hs.to ⟨rfl, rfl, rfl, rfl, rfl, rfl, rfl, rfl, rfl, rfl, trivial⟩, m⟩)
  clear hs m a w34; rintro a w103 ⟨hs, m⟩
  refine r_ok hs m (ok_move rfl) rfl ?_
  clear hs a; intro a hs
  refine l_cut (.c (.c (.n))) (fun a w => St 182 [(3, .pointer (some (padd p3 0))), (6, v7.v), (8, .int .i64 (max (have_Routes.length : Int) (want_Routes.length : Int))), (9, .int .i64 (max (have_Neighs.length : Int) (want_Neighs.length : Int))), (10, .int .i64 (max (have_Fdbs.length : Int) (want_Fdbs.length : Int))), (11, .bool ((wholeM have_Routes have_Neighs have_Fdbs) && (wholeM want_Routes want_Neighs want_Fdbs))), (12, .pointer (some (padd p22 0))), (13, .bool rmt), (14, .int .i64 (k : Int)), (112, .bool (((e94.Kind.v == 2) && e94.Route.Local) && rmt))] a ∧ Hp w0 (hh w0) [Bx p3 29 [vwant_Routes.v, vwant_Neighs.v, vwant_Fdbs.v], Sv 19 58 v7.v ((diffM have_Routes have_Neighs have_Fdbs want_Routes want_Neighs want_Fdbs).map cOp), Bx p22 29 [v25.v, v26.v, v27.v], Ro (hh w0) 4 51 v25.v (((stK ⟨have_Routes, have_Neighs, have_Fdbs⟩ (diffM have_Routes have_Neighs have_Fdbs want_Routes want_Neighs want_Fdbs) k).R).map cRoute), Ro (hh w0) 7 54 v26.v (((stK ⟨have_Routes, have_Neighs, have_Fdbs⟩ (diffM have_Routes have_Neighs have_Fdbs want_Routes want_Neighs want_Fdbs) k).N).map cNeigh), Ro (hh w0) 7 56 v27.v (((stK ⟨have_Routes, have_Neighs, have_Fdbs⟩ (diffM have_Routes have_Neighs have_Fdbs want_Routes want_Neighs want_Fdbs) k).F).map cFdb)] w) ?_ ?_
  · rcases Bool.eq_false_or_eq_true ((e94.Kind.v == 2) && e94.Route.Local) with hb104 | hb104
    · have hb104p := hb104; simp only [Bool.or_eq_true, Bool.or_eq_false_iff, Bool.and_eq_true, Bool.and_eq_false_iff, Bool.not_eq_true', Bool.not_eq_false', decide_eq_true_eq, decide_eq_false_iff_not, beq_iff_eq, bne_iff_ne, beq_eq_false_iff_ne, bne_eq_false_iff_eq, ne_eq, gt_iff_lt, ge_iff_le, Int.not_lt, Int.not_le] at hb104p
      refine r_okg hs rfl rfl hb104 m (ok_move rfl) rfl ?_
      clear hs a; intro a hs
      refine r_ok hs m (ok_pick (r := .bool (((e94.Kind.v == 2) && e94.Route.Local) && rmt)) rfl rfl rfl (by rw [hb104]; rfl)) rfl ?_
      clear hs a; intro a hs
      exact wpList_nil (n_then ⟨hs.to ⟨rfl, rfl, rfl, rfl, rfl, rfl, rfl, rfl, rfl, rfl, trivial⟩, m⟩)
    · have hb104p := hb104; simp only [Bool.or_eq_true, Bool.or_eq_false_iff, Bool.and_eq_true, Bool.and_eq_false_iff, Bool.not_eq_true', Bool.not_eq_false', decide_eq_true_eq, decide_eq_false_iff_not, beq_iff_eq, bne_iff_ne, beq_eq_false_iff_ne, bne_eq_false_iff_eq, ne_eq, gt_iff_lt, ge_iff_le, Int.not_lt, Int.not_le] at hb104p
      refine g_out hs rfl rfl hb104 rfl ?_
      clear hs a; intro a hs
      refine r_ok hs m (ok_pick (r := .bool (((e94.Kind.v == 2) && e94.Route.Local) && rmt)) rfl rfl rfl (by rw [hb104]; rfl)) rfl ?_
      clear hs a; intro a hs
      exact wpList_nil (n_then ⟨hs.to ⟨rfl, rfl, rfl, rfl, rfl, rfl, rfl, rfl, rfl, rfl, trivial⟩, m⟩)
  clear hs m a w103; rintro a w105 ⟨hs, m⟩
  refine wpList_nil (n_then ?_)
  refine c_false hs rfl (by exact hwy.loc _ (by assumption) _ hr) ?_
  refine wp_skip ?_
  refine n_then ?_
  refine c_reg ?_
  refine r_ok hs m (ok_move rfl) rfl ?_
  clear hs a; intro a hs
  refine r_ok hs m (ok_move rfl) rfl ?_
  clear hs a; intro a hs
  refine l_cut (.c (.c (.c (.c (.c (.c (.c (.c (.c (.c (.c (.c (.c (.c (.c (.c (.n))))))))))))))))) (fun a w => St 182 [(3, .pointer (some (padd p3 0))), (6, v7.v), (8, .int .i64 (max (have_Routes.length : Int) (want_Routes.length : Int))), (9, .int .i64 (max (have_Neighs.length : Int) (want_Neighs.length : Int))), (10, .int .i64 (max (have_Fdbs.length : Int) (want_Fdbs.length : Int))), (11, .bool ((wholeM have_Routes have_Neighs have_Fdbs) && (wholeM want_Routes want_Neighs want_Fdbs))), (12, .pointer (some (padd p22 0))), (14, .int .i64 (k : Int)), (130, .bool (rmt || ((e94.Kind.v == 2) && !e94.Route.Local)))] a ∧ Hp w0 (hh w0) [Bx p3 29 [vwant_Routes.v, vwant_Neighs.v, vwant_Fdbs.v], Sv 19 58 v7.v ((diffM have_Routes have_Neighs have_Fdbs want_Routes want_Neighs want_Fdbs).map cOp), Bx p22 29 [v25.v, v26.v, v27.v], Ro (hh w0) 4 51 v25.v (((stK ⟨have_Routes, have_Neighs, have_Fdbs⟩ (diffM have_Routes have_Neighs have_Fdbs want_Routes want_Neighs want_Fdbs) k).R).map cRoute), Ro (hh w0) 7 54 v26.v (((stK ⟨have_Routes, have_Neighs, have_Fdbs⟩ (diffM have_Routes have_Neighs have_Fdbs want_Routes want_Neighs want_Fdbs) k).N).map cNeigh), Ro (hh w0) 7 56 v27.v (((stK ⟨have_Routes, have_Neighs, have_Fdbs⟩ (diffM have_Routes have_Neighs have_Fdbs want_Routes want_Neighs want_Fdbs) k).F).map cFdb)] w) ?_ ?_
  · rcases Bool.eq_false_or_eq_true rmt with hb107 | hb107
    · refine g_out hs rfl rfl hb107 rfl ?_
      clear hs a; intro a hs
      refine g_out hs rfl rfl hb107 rfl ?_
      clear hs a; intro a hs
      refine g_out hs rfl rfl hb107 rfl ?_
      clear hs a; intro a hs
      refine g_out hs rfl rfl hb107 rfl ?_
      clear hs a; intro a hs
      refine g_out hs rfl rfl hb107 rfl ?_
      clear hs a; intro a hs
      refine g_out hs rfl rfl hb107 rfl ?_
      clear hs a; intro a hs
      refine g_out hs rfl rfl hb107 rfl ?_
      clear hs a; intro a hs
      refine g_outU hs rfl rfl rfl ?_
      clear hs a; intro a hs
      refine g_outU hs rfl rfl rfl ?_
      clear hs a; intro a hs
      refine g_outU hs rfl rfl rfl ?_
      clear hs a; intro a hs
      refine g_outU hs rfl rfl rfl ?_
      clear hs a; intro a hs
      refine g_outU hs rfl rfl rfl ?_
      clear hs a; intro a hs
      refine g_outU hs rfl rfl rfl ?_
      clear hs a; intro a hs
      refine g_outU hs rfl rfl rfl ?_
      clear hs a; intro a hs
      refine g_out hs rfl rfl hb107 rfl ?_
      clear hs a; intro a hs
      refine r_ok hs m (ok_pick (r := .bool (rmt || ((e94.Kind.v == 2) && !e94.Route.Local))) rfl rfl rfl (by rw [hb107]; rfl)) rfl ?_
      clear hs a; intro a hs
      exact wpList_nil (n_then ⟨hs.to ⟨rfl, rfl, rfl, rfl, rfl, rfl, rfl, rfl, rfl, trivial⟩, m⟩)
    · refine r_okg hs rfl rfl hb107 m (ok_move rfl) rfl ?_
      clear hs a; intro a hs
      refine r_okg hs rfl rfl hb107 m (ok_move rfl) rfl ?_
      clear hs a; intro a hs
      refine elO (c := cOp) (e := e94) hs m (x := (.tmp 115)) (ix := (.tmp 116)) rfl rfl sl35 ty58 r1 (by omega) he95 fun p108 hp109 ok110 => ?_
      refine r_okg hs rfl rfl hb107 m (ok110 _ _ _ _ _) rfl ?_
      clear hs a; intro a hs
      refine r_okg hs rfl rfl hb107 m (ok_fieldAddr (r := 0) rfl fd58_0 ty3 rfl) rfl ?_
      clear hs a; intro a hs
      refine r_okg hs rfl rfl hb107 m (ok_load_sc rfl ty3 (el_at hp109 r1 (get_map _ he95)) rfl) rfl ?_
      clear hs a; intro a hs
      refine r_okg hs rfl rfl hb107 m (ok_bin rfl rfl rfl) rfl ?_
      clear hs a; intro a hs
      refine r_okg hs rfl rfl hb107 m (ok_move rfl) rfl ?_
      clear hs a; intro a hs
      refine l_cut (.c (.c (.c (.c (.c (.c (.c (.c (.n))))))))) (fun a w => St 182 [(3, .pointer (some (padd p3 0))), (6, v7.v), (8, .int .i64 (max (have_Routes.length : Int) (want_Routes.length : Int))), (9, .int .i64 (max (have_Neighs.length : Int) (want_Neighs.length : Int))), (10, .int .i64 (max (have_Fdbs.length : Int) (want_Fdbs.length : Int))), (11, .bool ((wholeM have_Routes have_Neighs have_Fdbs) && (wholeM want_Routes want_Neighs want_Fdbs))), (12, .pointer (some (padd p22 0))), (14, .int .i64 (k : Int)), (114, .bool rmt), (115, v7.v), (116, .int .i64 (k : Int)), (117, .pointer (some (padd p108 0))), (118, .pointer (some (padd p108 0))), (119, .int .i64 e94.Kind.v), (120, .bool (e94.Kind.v == 2)), (121, .bool (e94.Kind.v == 2)), (129, .bool ((e94.Kind.v == 2) && !e94.Route.Local))] a ∧ Hp w0 (hh w0) [Bx p3 29 [vwant_Routes.v, vwant_Neighs.v, vwant_Fdbs.v], Sv 19 58 v7.v ((diffM have_Routes have_Neighs have_Fdbs want_Routes want_Neighs want_Fdbs).map cOp), Bx p22 29 [v25.v, v26.v, v27.v], Ro (hh w0) 4 51 v25.v (((stK ⟨have_Routes, have_Neighs, have_Fdbs⟩ (diffM have_Routes have_Neighs have_Fdbs want_Routes want_Neighs want_Fdbs) k).R).map cRoute), Ro (hh w0) 7 54 v26.v (((stK ⟨have_Routes, have_Neighs, have_Fdbs⟩ (diffM have_Routes have_Neighs have_Fdbs want_Routes want_Neighs want_Fdbs) k).N).map cNeigh), Ro (hh w0) 7 56 v27.v (((stK ⟨have_Routes, have_Neighs, have_Fdbs⟩ (diffM have_Routes have_Neighs have_Fdbs want_Routes want_Neighs want_Fdbs) k).F).map cFdb)] w) ?_ ?_
      · rcases Bool.eq_false_or_eq_true (e94.Kind.v == 2) with hb111 | hb111
        · have hb111p := eq_of_beq hb111
          refine r_okg hs rfl rfl hb111 m (ok_move rfl) rfl ?_
          clear hs a; intro a hs
          refine r_okg hs rfl rfl hb111 m (ok_move rfl) rfl ?_
          clear hs a; intro a hs
          refine elO (c := cOp) (e := e94) hs m (x := (.tmp 122)) (ix := (.tmp 123)) rfl rfl sl35 ty58 r1 (by omega) he95 fun p112 hp113 ok114 => ?_
          refine r_okg hs rfl rfl hb111 m (ok114 _ _ _ _ _) rfl ?_
          clear hs a; intro a hs
          refine r_okg hs rfl rfl hb111 m (ok_fieldAddr (r := 1) rfl fd58_1 ty51 rfl) rfl ?_
          clear hs a; intro a hs
          refine r_okg hs rfl rfl hb111 m (ok_fieldAddr (r := 4) rfl fd51_2 ty4 rfl) rfl ?_
          clear hs a; intro a hs
          refine r_okg hs rfl rfl hb111 m (ok_load_sc rfl ty4 (el_at hp113 r1 (get_map _ he95)) rfl) rfl ?_
          clear hs a; intro a hs
          refine r_okg hs rfl rfl hb111 m (ok_not rfl) rfl ?_
          clear hs a; intro a hs
          refine r_okg hs rfl rfl hb107 m (ok_pick (r := .bool ((e94.Kind.v == 2) && !e94.Route.Local)) rfl rfl rfl (by rw [hb111]; rfl)) rfl ?_
          clear hs a; intro a hs
          exact wpList_nil (n_then ⟨hs.to ⟨rfl, rfl, rfl, rfl, rfl, rfl, rfl, rfl, rfl, rfl, rfl, rfl, rfl, rfl, rfl, rfl, rfl, trivial⟩, m⟩)
        · have hb111p := ne_of_beq_false hb111
          refine g_out hs rfl rfl hb111 rfl ?_
          clear hs a; intro a hs
          refine g_out hs rfl rfl hb111 rfl ?_
          clear hs a; intro a hs
          refine g_out hs rfl rfl hb111 rfl ?_
          clear hs a; intro a hs
          refine g_out hs rfl rfl hb111 rfl ?_
          clear hs a; intro a hs
          refine g_out hs rfl rfl hb111 rfl ?_
          clear hs a; intro a hs
          refine g_out hs rfl rfl hb111 rfl ?_
          clear hs a; intro a hs
          refine g_out hs rfl rfl hb111 rfl ?_
          clear hs a; intro a hs
          refine r_okg hs rfl rfl hb107 m (ok_pick (r := .bool ((e94.Kind.v == 2) && !e94.Route.Local)) rfl rfl rfl (by rw [hb111]; rfl)) rfl ?_
          clear hs a; intro a hs
          exact wpList_nil (n_then ⟨hs.to ⟨rfl, rfl, rfl, rfl, rfl, rfl, rfl, rfl, rfl, rfl, rfl, rfl, rfl, rfl, rfl, rfl, rfl, trivial⟩, m⟩)
      clear hs m a w105; rintro a w115 ⟨hs, m⟩
      refine r_ok hs m (ok_pick (r := .bool (rmt || ((e94.Kind.v == 2) && !e94.Route.Local))) rfl rfl rfl (by rw [hb107]; rfl)) rfl ?_
      clear hs a; intro a hs
      exact wpList_nil (n_then ⟨hs.to ⟨rfl, rfl, rfl, rfl, rfl, rfl, rfl, rfl, rfl, trivial⟩, m⟩)
  clear hs m a w105; rintro a w116 ⟨hs, m⟩
  refine r_ok hs m (ok_assign rfl) rfl ?_
  clear hs a; intro a hs
  refine wpList_nil (n_then ?_)
  refine c_drawH (Hp w0 (hh w0) [Bx p3 29 [vwant_Routes.v, vwant_Neighs.v, vwant_Fdbs.v], Sv 19 58 v7.v ((diffM have_Routes have_Neighs have_Fdbs want_Routes want_Neighs want_Fdbs).map cOp)]) m mo ?_; clear m w116; intro w117 m
  refine h_ok (i := 1) rfl (by kernel_rfl) (by kernel_rfl) (by kernel_rfl) hs (m.sub (.c r0 (.c r0 .n))) (ok_move rfl) rfl ?_
  clear hs a; intro a hs
  refine h_ok (i := 2) rfl (by kernel_rfl) (by kernel_rfl) (by kernel_rfl) hs (m.sub (.c r0 (.c r0 .n))) (ok_move rfl) rfl ?_
  clear hs a; intro a hs
  refine elO (c := cOp) (e := e94) hs (m.sub (.c r0 (.c r0 .n))) (x := (.tmp 132)) (ix := (.tmp 133)) rfl rfl sl35 ty58 r1 (by omega) he95 fun p118 hp119 ok120 => ?_
  refine h_ok (i := 3) rfl (by kernel_rfl) (by kernel_rfl) (by kernel_rfl) hs (m.sub (.c r0 (.c r0 .n))) (ok120 _ _ _ _ _) rfl ?_
  clear hs a; intro a hs
  refine h_ok (i := 4) rfl (by kernel_rfl) (by kernel_rfl) (by kernel_rfl) hs (m.sub (.c r0 (.c r0 .n))) (ok_load_ag (vs := cOp e94) rfl ty58 (el_at hp119 r1 (get_map _ he95)) rfl rfl) rfl ?_
  clear hs a; intro a hs
  refine h_eff (i := 0) (by kernel_rfl) rfl ?_
  refine r_ok hs m (ok_load_ag (vs := [v25.v, v26.v, v27.v]) rfl ty29 (bx_at r2) rfl rfl) rfl ?_
  clear hs a; intro a hs
  refine wpList_nil (n_then ⟨(m.sub (.c r0 (.c r0 .n))), ?_⟩)
  refine h_eff (i := 5) (by kernel_rfl) rfl ?_
  obtain ⟨R1, hR, hR2, ⟨y1, sy, ly⟩, mc, back⟩ := Hp.split (Pc := [Ro (hh w0) 4 51 v25.v (((stK ⟨have_Routes, have_Neighs, have_Fdbs⟩ (diffM have_Routes have_Neighs have_Fdbs want_Routes want_Neighs want_Fdbs) k).R).map cRoute), Ro (hh w0) 7 54 v26.v (((stK ⟨have_Routes, have_Neighs, have_Fdbs⟩ (diffM have_Routes have_Neighs have_Fdbs want_Routes want_Neighs want_Fdbs) k).N).map cNeigh), Ro (hh w0) 7 56 v27.v (((stK ⟨have_Routes, have_Neighs, have_Fdbs⟩ (diffM have_Routes have_Neighs have_Fdbs want_Routes want_Neighs want_Fdbs) k).F).map cFdb)]) (Ps := [Bx p3 29 [vwant_Routes.v, vwant_Neighs.v, vwant_Fdbs.v], Sv 19 58 v7.v ((diffM have_Routes have_Neighs have_Fdbs want_Routes want_Neighs want_Fdbs).map cOp), Bx p22 29 [v25.v, v26.v, v27.v]]) (m.sub (.c r3 (.c r3 (.c r3 (.c r0 (.c r0 (.c r0 .n)))))))
  refine r_call hs rfl rfl ca25 rfl (after_c v25 ((stK ⟨have_Routes, have_Neighs, have_Fdbs⟩ (diffM have_Routes have_Neighs have_Fdbs want_Routes want_Neighs want_Fdbs) k).R) v26 ((stK ⟨have_Routes, have_Neighs, have_Fdbs⟩ (diffM have_Routes have_Neighs have_Fdbs want_Routes want_Neighs want_Fdbs) k).N) v27 ((stK ⟨have_Routes, have_Neighs, have_Fdbs⟩ (diffM have_Routes have_Neighs have_Fdbs want_Routes want_Neighs want_Fdbs) k).F) e94 _ R1 (hh w0) (hle_trans (hle_refl _) hR)  (by first | omega | rfl | exact bsI_le _ _ | assumption | decide) (by first | omega | rfl | exact bsI_le _ _ | assumption | decide) (by first | omega | rfl | exact bsI_le _ _ | assumption | decide) mc) rfl ?_
  clear hs a; rintro _ w124 ⟨v121, v122, v123, rfl, hm⟩ a hs
  replace m : Hp w0 (hh w0) [Ro (hh w0) 4 51 v121.v (((afterT ⟨(stK ⟨have_Routes, have_Neighs, have_Fdbs⟩ (diffM have_Routes have_Neighs have_Fdbs want_Routes want_Neighs want_Fdbs) k).R, (stK ⟨have_Routes, have_Neighs, have_Fdbs⟩ (diffM have_Routes have_Neighs have_Fdbs want_Routes want_Neighs want_Fdbs) k).N, (stK ⟨have_Routes, have_Neighs, have_Fdbs⟩ (diffM have_Routes have_Neighs have_Fdbs want_Routes want_Neighs want_Fdbs) k).F⟩ e94).R).map cRoute), Ro (hh w0) 7 54 v122.v (((afterT ⟨(stK ⟨have_Routes, have_Neighs, have_Fdbs⟩ (diffM have_Routes have_Neighs have_Fdbs want_Routes want_Neighs want_Fdbs) k).R, (stK ⟨have_Routes, have_Neighs, have_Fdbs⟩ (diffM have_Routes have_Neighs have_Fdbs want_Routes want_Neighs want_Fdbs) k).N, (stK ⟨have_Routes, have_Neighs, have_Fdbs⟩ (diffM have_Routes have_Neighs have_Fdbs want_Routes want_Neighs want_Fdbs) k).F⟩ e94).N).map cNeigh), Ro (hh w0) 7 56 v123.v (((afterT ⟨(stK ⟨have_Routes, have_Neighs, have_Fdbs⟩ (diffM have_Routes have_Neighs have_Fdbs want_Routes want_Neighs want_Fdbs) k).R, (stK ⟨have_Routes, have_Neighs, have_Fdbs⟩ (diffM have_Routes have_Neighs have_Fdbs want_Routes want_Neighs want_Fdbs) k).N, (stK ⟨have_Routes, have_Neighs, have_Fdbs⟩ (diffM have_Routes have_Neighs have_Fdbs want_Routes want_Neighs want_Fdbs) k).F⟩ e94).F).map cFdb), Bx p3 29 [vwant_Routes.v, vwant_Neighs.v, vwant_Fdbs.v], Sv 19 58 v7.v ((diffM have_Routes have_Neighs have_Fdbs want_Routes want_Neighs want_Fdbs).map cOp), Bx p22 29 [v25.v, v26.v, v27.v]] w124 := back _ _ hm
  clear hm back mc sy ly hR2 hR y1 R1 w117
  refine wpList_nil (n_then ⟨(m.sub (.c r3 (.c r3 .n))), ?_⟩)
  refine h_eff (i := 6) (by kernel_rfl) rfl ?_
  refine r_store (cs' := [v121.v, v122.v, v123.v]) (vs := [v121.v, v122.v, v123.v]) hs m rfl rfl ty29 s5 rfl rfl rfl rfl rfl ?_
  clear m w124; intro w125 m
  refine wpList_nil (n_then ⟨(m.sub (.c r3 (.c r3 .n))), ?_⟩)
  refine h_done (by kernel_rfl) (n_then ?_)
  refine c_reg ?_
  refine r_ok hs m (ok_fieldAddr (r := 0) rfl fd29_0 ty25 rfl) rfl ?_
  clear hs a; intro a hs
  refine r_ok hs m (ok_load_sc rfl ty25 (bx_at r5) rfl) rfl ?_
  clear hs a; intro a hs
  refine r_ok hs m (ok_len (r := (((afterT ⟨(stK ⟨have_Routes, have_Neighs, have_Fdbs⟩ (diffM have_Routes have_Neighs have_Fdbs want_Routes want_Neighs want_Fdbs) k).R, (stK ⟨have_Routes, have_Neighs, have_Fdbs⟩ (diffM have_Routes have_Neighs have_Fdbs want_Routes want_Neighs want_Fdbs) k).N, (stK ⟨have_Routes, have_Neighs, have_Fdbs⟩ (diffM have_Routes have_Neighs have_Fdbs want_Routes want_Neighs want_Fdbs) k).F⟩ e94).R).length : Int)) m rfl sl25 (rc_ro (hle_refl _) r0) (by simp)) rfl ?_
  clear hs a; intro a hs
  refine r_ok hs m (ok_move rfl) rfl ?_
  clear hs a; intro a hs
  refine r_ok hs m (ok_bin rfl rfl rfl) rfl ?_
  clear hs a; intro a hs
  refine r_ok hs m (ok_move rfl) rfl ?_
  clear hs a; intro a hs
  have hb126 : (decide ((((afterT ⟨(stK ⟨have_Routes, have_Neighs, have_Fdbs⟩ (diffM have_Routes have_Neighs have_Fdbs want_Routes want_Neighs want_Fdbs) k).R, (stK ⟨have_Routes, have_Neighs, have_Fdbs⟩ (diffM have_Routes have_Neighs have_Fdbs want_Routes want_Neighs want_Fdbs) k).N, (stK ⟨have_Routes, have_Neighs, have_Fdbs⟩ (diffM have_Routes have_Neighs have_Fdbs want_Routes want_Neighs want_Fdbs) k).F⟩ e94).R).length : Int) > (max (have_Routes.length : Int) (want_Routes.length : Int)))) = false := by exact decide_eq_false (by have hn := leads_next (k := k) (by assumption) (by omega) (by assumption); have q1 := hn.lR; have q2 := hn.lN; have q3 := hn.lF; omega)
  refine r_okg hs rfl rfl hb126 m (ok_fieldAddr (r := 1) rfl fd29_1 ty26 rfl) rfl ?_
  clear hs a; intro a hs
  refine r_okg hs rfl rfl hb126 m (ok_load_sc rfl ty26 (bx_at r5) rfl) rfl ?_
  clear hs a; intro a hs
  refine r_okg hs rfl rfl hb126 m (ok_len (r := (((afterT ⟨(stK ⟨have_Routes, have_Neighs, have_Fdbs⟩ (diffM have_Routes have_Neighs have_Fdbs want_Routes want_Neighs want_Fdbs) k).R, (stK ⟨have_Routes, have_Neighs, have_Fdbs⟩ (diffM have_Routes have_Neighs have_Fdbs want_Routes want_Neighs want_Fdbs) k).N, (stK ⟨have_Routes, have_Neighs, have_Fdbs⟩ (diffM have_Routes have_Neighs have_Fdbs want_Routes want_Neighs want_Fdbs) k).F⟩ e94).N).length : Int)) m rfl sl26 (rc_ro (hle_refl _) r1) (by simp)) rfl ?_
  clear hs a; intro a hs
  refine r_okg hs rfl rfl hb126 m (ok_move rfl) rfl ?_
  clear hs a; intro a hs
  refine r_okg hs rfl rfl hb126 m (ok_bin rfl rfl rfl) rfl ?_
  clear hs a; intro a hs
  refine r_ok hs m (ok_pick (r := .bool (decide ((((afterT ⟨(stK ⟨have_Routes, have_Neighs, have_Fdbs⟩ (diffM have_Routes have_Neighs have_Fdbs want_Routes want_Neighs want_Fdbs) k).R, (stK ⟨have_Routes, have_Neighs, have_Fdbs⟩ (diffM have_Routes have_Neighs have_Fdbs want_Routes want_Neighs want_Fdbs) k).N, (stK ⟨have_Routes, have_Neighs, have_Fdbs⟩ (diffM have_Routes have_Neighs have_Fdbs want_Routes want_Neighs want_Fdbs) k).F⟩ e94).N).length : Int) > (max (have_Neighs.length : Int) (want_Neighs.length : Int))))) rfl rfl rfl (by rw [hb126]; rfl)) rfl ?_
  clear hs a; intro a hs
  refine r_ok hs m (ok_move rfl) rfl ?_
  clear hs a; intro a hs
  have hb127 : (decide ((((afterT ⟨(stK ⟨have_Routes, have_Neighs, have_Fdbs⟩ (diffM have_Routes have_Neighs have_Fdbs want_Routes want_Neighs want_Fdbs) k).R, (stK ⟨have_Routes, have_Neighs, have_Fdbs⟩ (diffM have_Routes have_Neighs have_Fdbs want_Routes want_Neighs want_Fdbs) k).N, (stK ⟨have_Routes, have_Neighs, have_Fdbs⟩ (diffM have_Routes have_Neighs have_Fdbs want_Routes want_Neighs want_Fdbs) k).F⟩ e94).N).length : Int) > (max (have_Neighs.length : Int) (want_Neighs.length : Int)))) = false := by exact decide_eq_false (by have hn := leads_next (k := k) (by assumption) (by omega) (by assumption); have q1 := hn.lR; have q2 := hn.lN; have q3 := hn.lF; omega)
  refine r_okg hs rfl rfl hb127 m (ok_fieldAddr (r := 2) rfl fd29_2 ty27 rfl) rfl ?_
  clear hs a; intro a hs
  refine r_okg hs rfl rfl hb127 m (ok_load_sc rfl ty27 (bx_at r5) rfl) rfl ?_
  clear hs a; intro a hs
  refine r_okg hs rfl rfl hb127 m (ok_len (r := (((afterT ⟨(stK ⟨have_Routes, have_Neighs, have_Fdbs⟩ (diffM have_Routes have_Neighs have_Fdbs want_Routes want_Neighs want_Fdbs) k).R, (stK ⟨have_Routes, have_Neighs, have_Fdbs⟩ (diffM have_Routes have_Neighs have_Fdbs want_Routes want_Neighs want_Fdbs) k).N, (stK ⟨have_Routes, have_Neighs, have_Fdbs⟩ (diffM have_Routes have_Neighs have_Fdbs want_Routes want_Neighs want_Fdbs) k).F⟩ e94).F).length : Int)) m rfl sl27 (rc_ro (hle_refl _) r2) (by simp)) rfl ?_
  clear hs a; intro a hs
  refine r_okg hs rfl rfl hb127 m (ok_move rfl) rfl ?_
  clear hs a; intro a hs
  refine r_okg hs rfl rfl hb127 m (ok_bin rfl rfl rfl) rfl ?_
  clear hs a; intro a hs
  refine r_ok hs m (ok_pick (r := .bool (decide ((((afterT ⟨(stK ⟨have_Routes, have_Neighs, have_Fdbs⟩ (diffM have_Routes have_Neighs have_Fdbs want_Routes want_Neighs want_Fdbs) k).R, (stK ⟨have_Routes, have_Neighs, have_Fdbs⟩ (diffM have_Routes have_Neighs have_Fdbs want_Routes want_Neighs want_Fdbs) k).N, (stK ⟨have_Routes, have_Neighs, have_Fdbs⟩ (diffM have_Routes have_Neighs have_Fdbs want_Routes want_Neighs want_Fdbs) k).F⟩ e94).F).length : Int) > (max (have_Fdbs.length : Int) (want_Fdbs.length : Int))))) rfl rfl rfl (by rw [hb127]; rfl)) rfl ?_
  clear hs a; intro a hs
  refine r_ok hs m (ok_move rfl) rfl ?_
  clear hs a; intro a hs
  have hb128 : (decide ((((afterT ⟨(stK ⟨have_Routes, have_Neighs, have_Fdbs⟩ (diffM have_Routes have_Neighs have_Fdbs want_Routes want_Neighs want_Fdbs) k).R, (stK ⟨have_Routes, have_Neighs, have_Fdbs⟩ (diffM have_Routes have_Neighs have_Fdbs want_Routes want_Neighs want_Fdbs) k).N, (stK ⟨have_Routes, have_Neighs, have_Fdbs⟩ (diffM have_Routes have_Neighs have_Fdbs want_Routes want_Neighs want_Fdbs) k).F⟩ e94).F).length : Int) > (max (have_Fdbs.length : Int) (want_Fdbs.length : Int)))) = false := by exact decide_eq_false (by have hn := leads_next (k := k) (by assumption) (by omega) (by assumption); have q1 := hn.lR; have q2 := hn.lN; have q3 := hn.lF; omega)
  refine r_okg hs rfl rfl hb128 m (ok_move rfl) rfl ?_
  clear hs a; intro a hs
  refine r_okg hs rfl rfl hb128 m (ok_move rfl) rfl ?_
  clear hs a; intro a hs
  rcases Bool.eq_false_or_eq_true ((wholeM have_Routes have_Neighs have_Fdbs) && (wholeM want_Routes want_Neighs want_Fdbs)) with hb129 | hb129
  · have hb129p := hb129; simp only [Bool.or_eq_true, Bool.or_eq_false_iff, Bool.and_eq_true, Bool.and_eq_false_iff, Bool.not_eq_true', Bool.not_eq_false', decide_eq_true_eq, decide_eq_false_iff_not, beq_iff_eq, bne_iff_ne, beq_eq_false_iff_ne, bne_eq_false_iff_eq, ne_eq, gt_iff_lt, ge_iff_le, Int.not_lt, Int.not_le] at hb129p
    refine r_okg hs rfl rfl hb129 m (ok_load_ag (vs := [v121.v, v122.v, v123.v]) rfl ty29 (bx_at r5) rfl rfl) rfl ?_
    clear hs a; intro a hs
    refine r_callPg hs rfl rfl hb129 m rfl rfl ca22 rfl (whole_c v121 ((afterT ⟨(stK ⟨have_Routes, have_Neighs, have_Fdbs⟩ (diffM have_Routes have_Neighs have_Fdbs want_Routes want_Neighs want_Fdbs) k).R, (stK ⟨have_Routes, have_Neighs, have_Fdbs⟩ (diffM have_Routes have_Neighs have_Fdbs want_Routes want_Neighs want_Fdbs) k).N, (stK ⟨have_Routes, have_Neighs, have_Fdbs⟩ (diffM have_Routes have_Neighs have_Fdbs want_Routes want_Neighs want_Fdbs) k).F⟩ e94).R) v122 ((afterT ⟨(stK ⟨have_Routes, have_Neighs, have_Fdbs⟩ (diffM have_Routes have_Neighs have_Fdbs want_Routes want_Neighs want_Fdbs) k).R, (stK ⟨have_Routes, have_Neighs, have_Fdbs⟩ (diffM have_Routes have_Neighs have_Fdbs want_Routes want_Neighs want_Fdbs) k).N, (stK ⟨have_Routes, have_Neighs, have_Fdbs⟩ (diffM have_Routes have_Neighs have_Fdbs want_Routes want_Neighs want_Fdbs) k).F⟩ e94).N) v123 ((afterT ⟨(stK ⟨have_Routes, have_Neighs, have_Fdbs⟩ (diffM have_Routes have_Neighs have_Fdbs want_Routes want_Neighs want_Fdbs) k).R, (stK ⟨have_Routes, have_Neighs, have_Fdbs⟩ (diffM have_Routes have_Neighs have_Fdbs want_Routes want_Neighs want_Fdbs) k).N, (stK ⟨have_Routes, have_Neighs, have_Fdbs⟩ (diffM have_Routes have_Neighs have_Fdbs want_Routes want_Neighs want_Fdbs) k).F⟩ e94).F) _ (m.rdo (hle_refl _) r0) (m.rdo (hle_refl _) r1) (m.rdo (hle_refl _) r2) ) rfl ?_
    clear m hs a w125; intro w130 m a hs
    refine r_okg hs rfl rfl hb129 m (ok_not rfl) rfl ?_
    clear hs a; intro a hs
    refine r_okg hs rfl rfl hb128 m (ok_pick (r := .bool (!(wholeM ((afterT ⟨(stK ⟨have_Routes, have_Neighs, have_Fdbs⟩ (diffM have_Routes have_Neighs have_Fdbs want_Routes want_Neighs want_Fdbs) k).R, (stK ⟨have_Routes, have_Neighs, have_Fdbs⟩ (diffM have_Routes have_Neighs have_Fdbs want_Routes want_Neighs want_Fdbs) k).N, (stK ⟨have_Routes, have_Neighs, have_Fdbs⟩ (diffM have_Routes have_Neighs have_Fdbs want_Routes want_Neighs want_Fdbs) k).F⟩ e94).R) ((afterT ⟨(stK ⟨have_Routes, have_Neighs, have_Fdbs⟩ (diffM have_Routes have_Neighs have_Fdbs want_Routes want_Neighs want_Fdbs) k).R, (stK ⟨have_Routes, have_Neighs, have_Fdbs⟩ (diffM have_Routes have_Neighs have_Fdbs want_Routes want_Neighs want_Fdbs) k).N, (stK ⟨have_Routes, have_Neighs, have_Fdbs⟩ (diffM have_Routes have_Neighs have_Fdbs want_Routes want_Neighs want_Fdbs) k).F⟩ e94).N) ((afterT ⟨(stK ⟨have_Routes, have_Neighs, have_Fdbs⟩ (diffM have_Routes have_Neighs have_Fdbs want_Routes want_Neighs want_Fdbs) k).R, (stK ⟨have_Routes, have_Neighs, have_Fdbs⟩ (diffM have_Routes have_Neighs have_Fdbs want_Routes want_Neighs want_Fdbs) k).N, (stK ⟨have_Routes, have_Neighs, have_Fdbs⟩ (diffM have_Routes have_Neighs have_Fdbs want_Routes want_Neighs want_Fdbs) k).F⟩ e94).F)))) rfl rfl rfl (by rw [hb129]; rfl)) rfl ?_
    clear hs a; intro a hs
    refine r_ok hs m (ok_pick (r := .bool (!(wholeM ((afterT ⟨(stK ⟨have_Routes, have_Neighs, have_Fdbs⟩ (diffM have_Routes have_Neighs have_Fdbs want_Routes want_Neighs want_Fdbs) k).R, (stK ⟨have_Routes, have_Neighs, have_Fdbs⟩ (diffM have_Routes have_Neighs have_Fdbs want_Routes want_Neighs want_Fdbs) k).N, (stK ⟨have_Routes, have_Neighs, have_Fdbs⟩ (diffM have_Routes have_Neighs have_Fdbs want_Routes want_Neighs want_Fdbs) k).F⟩ e94).R) ((afterT ⟨(stK ⟨have_Routes, have_Neighs, have_Fdbs⟩ (diffM have_Routes have_Neighs have_Fdbs want_Routes want_Neighs want_Fdbs) k).R, (stK ⟨have_Routes, have_Neighs, have_Fdbs⟩ (diffM have_Routes have_Neighs have_Fdbs want_Routes want_Neighs want_Fdbs) k).N, (stK ⟨have_Routes, have_Neighs, have_Fdbs⟩ (diffM have_Routes have_Neighs have_Fdbs want_Routes want_Neighs want_Fdbs) k).F⟩ e94).N) ((afterT ⟨(stK ⟨have_Routes, have_Neighs, have_Fdbs⟩ (diffM have_Routes have_Neighs have_Fdbs want_Routes want_Neighs want_Fdbs) k).R, (stK ⟨have_Routes, have_Neighs, have_Fdbs⟩ (diffM have_Routes have_Neighs have_Fdbs want_Routes want_Neighs want_Fdbs) k).N, (stK ⟨have_Routes, have_Neighs, have_Fdbs⟩ (diffM have_Routes have_Neighs have_Fdbs want_Routes want_Neighs want_Fdbs) k).F⟩ e94).F)))) rfl rfl rfl (by rw [hb128]; rfl)) rfl ?_
    clear hs a; intro a hs
    refine wpList_nil (n_then ?_)
    refine c_false hs rfl (by (have hn := leads_next (k := k) (by assumption) (by omega) (by assumption); simp [hn.wh (by assumption)])) ?_
    refine wp_skip ?_
    refine n_block (n_then ?_)
    refine c_last ?_
    refine r_ok hs m (ok_move rfl) rfl ?_
    clear hs a; intro a hs
    refine r_ok hs m (ok_add (r := (k : Int) + 1) rfl rfl (wrap_i64 (by omega) (by omega))) rfl ?_
    clear hs a; intro a hs
    refine r_ok hs m (ok_assign rfl) rfl ?_
    clear hs a; intro a hs
    refine wpList_nil (n_then ?_)
    have q132 : (afterT ⟨(stK ⟨have_Routes, have_Neighs, have_Fdbs⟩ (diffM have_Routes have_Neighs have_Fdbs want_Routes want_Neighs want_Fdbs) k).R, (stK ⟨have_Routes, have_Neighs, have_Fdbs⟩ (diffM have_Routes have_Neighs have_Fdbs want_Routes want_Neighs want_Fdbs) k).N, (stK ⟨have_Routes, have_Neighs, have_Fdbs⟩ (diffM have_Routes have_Neighs have_Fdbs want_Routes want_Neighs want_Fdbs) k).F⟩ e94).R = (stK ⟨have_Routes, have_Neighs, have_Fdbs⟩ (diffM have_Routes have_Neighs have_Fdbs want_Routes want_Neighs want_Fdbs) (k + 1)).R := by first | (rw [stK_0]; done) | (rw [stK_succ (by assumption)])
    rw [q132] at m
    have q133 : (afterT ⟨(stK ⟨have_Routes, have_Neighs, have_Fdbs⟩ (diffM have_Routes have_Neighs have_Fdbs want_Routes want_Neighs want_Fdbs) k).R, (stK ⟨have_Routes, have_Neighs, have_Fdbs⟩ (diffM have_Routes have_Neighs have_Fdbs want_Routes want_Neighs want_Fdbs) k).N, (stK ⟨have_Routes, have_Neighs, have_Fdbs⟩ (diffM have_Routes have_Neighs have_Fdbs want_Routes want_Neighs want_Fdbs) k).F⟩ e94).N = (stK ⟨have_Routes, have_Neighs, have_Fdbs⟩ (diffM have_Routes have_Neighs have_Fdbs want_Routes want_Neighs want_Fdbs) (k + 1)).N := by first | (rw [stK_0]; done) | (rw [stK_succ (by assumption)])
    rw [q133] at m
    have q134 : (afterT ⟨(stK ⟨have_Routes, have_Neighs, have_Fdbs⟩ (diffM have_Routes have_Neighs have_Fdbs want_Routes want_Neighs want_Fdbs) k).R, (stK ⟨have_Routes, have_Neighs, have_Fdbs⟩ (diffM have_Routes have_Neighs have_Fdbs want_Routes want_Neighs want_Fdbs) k).N, (stK ⟨have_Routes, have_Neighs, have_Fdbs⟩ (diffM have_Routes have_Neighs have_Fdbs want_Routes want_Neighs want_Fdbs) k).F⟩ e94).F = (stK ⟨have_Routes, have_Neighs, have_Fdbs⟩ (diffM have_Routes have_Neighs have_Fdbs want_Routes want_Neighs want_Fdbs) (k + 1)).F := by first | (rw [stK_0]; done) | (rw [stK_succ (by assumption)])
    rw [q134] at m
    exact ⟨(diffM have_Routes have_Neighs have_Fdbs want_Routes want_Neighs want_Fdbs).length - (k + 1), by omega, k + 1, rmt || ((e94.Kind.v == 2) && !e94.Route.Local), v121, v122, v123, by omega, by rw [any_take_succ (by assumption), ← hr]; rfl, rfl, hs.to ⟨rfl, rfl, rfl, rfl, rfl, rfl, rfl, rfl, rfl, trivial⟩, m.sub (.c r3 (.c r3 (.c r3 (.c r0 (.c r0 (.c r0 .n))))))⟩
  · have hb129p := hb129; simp only [Bool.or_eq_true, Bool.or_eq_false_iff, Bool.and_eq_true, Bool.and_eq_false_iff, Bool.not_eq_true', Bool.not_eq_false', decide_eq_true_eq, decide_eq_false_iff_not, beq_iff_eq, bne_iff_ne, beq_eq_false_iff_ne, bne_eq_false_iff_eq, ne_eq, gt_iff_lt, ge_iff_le, Int.not_lt, Int.not_le] at hb129p
    refine g_out hs rfl rfl hb129 rfl ?_
    clear hs a; intro a hs
    refine g_out hs rfl rfl hb129 rfl ?_
    clear hs a; intro a hs
    refine g_out hs rfl rfl hb129 rfl ?_
    clear hs a; intro a hs
    refine r_okg hs rfl rfl hb128 m (ok_pick (r := .bool false) rfl rfl rfl (by rw [hb129]; rfl)) rfl ?_
    clear hs a; intro a hs
    refine r_ok hs m (ok_pick (r := .bool false) rfl rfl rfl (by rw [hb128]; rfl)) rfl ?_
    clear hs a; intro a hs
    refine wpList_nil (n_then ?_)
    refine c_false hs rfl rfl ?_
    refine wp_skip ?_
    refine n_block (n_then ?_)
    refine c_last ?_
    refine r_ok hs m (ok_move rfl) rfl ?_
    clear hs a; intro a hs
    refine r_ok hs m (ok_add (r := (k : Int) + 1) rfl rfl (wrap_i64 (by omega) (by omega))) rfl ?_
    clear hs a; intro a hs
    refine r_ok hs m (ok_assign rfl) rfl ?_
    clear hs a; intro a hs
    refine wpList_nil (n_then ?_)
    have q136 : (afterT ⟨(stK ⟨have_Routes, have_Neighs, have_Fdbs⟩ (diffM have_Routes have_Neighs have_Fdbs want_Routes want_Neighs want_Fdbs) k).R, (stK ⟨have_Routes, have_Neighs, have_Fdbs⟩ (diffM have_Routes have_Neighs have_Fdbs want_Routes want_Neighs want_Fdbs) k).N, (stK ⟨have_Routes, have_Neighs, have_Fdbs⟩ (diffM have_Routes have_Neighs have_Fdbs want_Routes want_Neighs want_Fdbs) k).F⟩ e94).R = (stK ⟨have_Routes, have_Neighs, have_Fdbs⟩ (diffM have_Routes have_Neighs have_Fdbs want_Routes want_Neighs want_Fdbs) (k + 1)).R := by first | (rw [stK_0]; done) | (rw [stK_succ (by assumption)])
    rw [q136] at m
    have q137 : (afterT ⟨(stK ⟨have_Routes, have_Neighs, have_Fdbs⟩ (diffM have_Routes have_Neighs have_Fdbs want_Routes want_Neighs want_Fdbs) k).R, (stK ⟨have_Routes, have_Neighs, have_Fdbs⟩ (diffM have_Routes have_Neighs have_Fdbs want_Routes want_Neighs want_Fdbs) k).N, (stK ⟨have_Routes, have_Neighs, have_Fdbs⟩ (diffM have_Routes have_Neighs have_Fdbs want_Routes want_Neighs want_Fdbs) k).F⟩ e94).N = (stK ⟨have_Routes, have_Neighs, have_Fdbs⟩ (diffM have_Routes have_Neighs have_Fdbs want_Routes want_Neighs want_Fdbs) (k + 1)).N := by first | (rw [stK_0]; done) | (rw [stK_succ (by assumption)])
    rw [q137] at m
    have q138 : (afterT ⟨(stK ⟨have_Routes, have_Neighs, have_Fdbs⟩ (diffM have_Routes have_Neighs have_Fdbs want_Routes want_Neighs want_Fdbs) k).R, (stK ⟨have_Routes, have_Neighs, have_Fdbs⟩ (diffM have_Routes have_Neighs have_Fdbs want_Routes want_Neighs want_Fdbs) k).N, (stK ⟨have_Routes, have_Neighs, have_Fdbs⟩ (diffM have_Routes have_Neighs have_Fdbs want_Routes want_Neighs want_Fdbs) k).F⟩ e94).F = (stK ⟨have_Routes, have_Neighs, have_Fdbs⟩ (diffM have_Routes have_Neighs have_Fdbs want_Routes want_Neighs want_Fdbs) (k + 1)).F := by first | (rw [stK_0]; done) | (rw [stK_succ (by assumption)])
    rw [q138] at m
    exact ⟨(diffM have_Routes have_Neighs have_Fdbs want_Routes want_Neighs want_Fdbs).length - (k + 1), by omega, k + 1, rmt || ((e94.Kind.v == 2) && !e94.Route.Local), v121, v122, v123, by omega, by rw [any_take_succ (by assumption), ← hr]; rfl, rfl, hs.to ⟨rfl, rfl, rfl, rfl, rfl, rfl, rfl, rfl, rfl, trivial⟩, m.sub (.c r3 (.c r3 (.c r3 (.c r0 (.c r0 (.c r0 .n))))))⟩
end Go.Proofs.YtnbpodjbemfpbaaGreat.Fw
