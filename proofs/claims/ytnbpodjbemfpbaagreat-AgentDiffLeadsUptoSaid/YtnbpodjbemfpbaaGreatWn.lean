/-
  Walks: printed by wip/tool/agent.py.
-/
import Derived.Test.YtnbpodjbemfpbaaGreatWi
import Derived.Test.YtnbpodjbemfpbaaGreatWj
import Derived.Test.YtnbpodjbemfpbaaGreatPl4
import Derived.KernelRfl
set_option linter.all false
set_option maxHeartbeats 4000000
set_option maxRecDepth 100000
namespace Go.Proofs.YtnbpodjbemfpbaaGreat.Fw
open Go
theorem inOrder_c (vt_Routes : SH) (t_Routes : List TRoute) (vt_Neighs : SH) (t_Neighs : List TNeigh) (vt_Fdbs : SH) (t_Fdbs : List TFdb) (w0 : World) (ht_Routes : RdS (hh w0) 4 vt_Routes.v (t_Routes.map cRoute)) (ht_Neighs : RdS (hh w0) 7 vt_Neighs.v (t_Neighs.map cNeigh)) (ht_Fdbs : RdS (hh w0) 7 vt_Fdbs.v (t_Fdbs.map cFdb)) : Pure Tryz.prog 56 [.agg ⟨[vt_Routes.v, vt_Neighs.v, vt_Fdbs.v]⟩] (.bool (inOrderM t_Routes t_Neighs t_Fdbs)) w0 := by
  have lvt_Routes := ht_Routes.bd
  have lvt_Neighs := ht_Neighs.bd
  have lvt_Fdbs := ht_Fdbs.bd
  refine enter (n := 30) Tryz.func56 rfl rfl rfl fun a (hs : St 30 [(0, .agg ⟨[vt_Routes.v, vt_Neighs.v, vt_Fdbs.v]⟩)] a) => ?_
  have m := Hp.start w0
  refine c_reg ?_
  refine r_box (cs := [vt_Routes.v, vt_Neighs.v, vt_Fdbs.v]) hs m rfl rfl rfl ?_
  clear m hs a; intro p1 w2 m a hs
  refine r_ok hs m (ok_assign rfl) rfl ?_
  clear hs a; intro a hs
  refine wpList_nil (n_then ?_)
  refine c_seq ?_
  refine c_reg ?_
  refine r_ok hs m (ok_fieldAddr (r := 0) rfl fd29_0 ty25 rfl) rfl ?_
  clear hs a; intro a hs
  refine r_ok hs m (ok_load_sc rfl ty25 (bx_at r0) rfl) rfl ?_
  clear hs a; intro a hs
  refine r_ok hs m (ok_len (r := (t_Routes.length : Int)) m rfl sl25 (rc_fr ht_Routes) (by simp)) rfl ?_
  clear hs a; intro a hs
  refine r_ok hs m (ok_move rfl) rfl ?_
  clear hs a; intro a hs
  refine wpList_nil (n_then ?_)
  refine wp_block ?_
  refine wp_loop_ghost (fun gn a w => ∃ k : Nat, (k ≤ t_Routes.length) ∧ (allK (validAt t_Routes) k = true) ∧ gn = t_Routes.length - k ∧ St 30 [(1, .pointer (some (padd p1 0))), (6, vt_Routes.v), (7, .int .i64 (t_Routes.length : Int)), (8, .int .i64 (k : Int))] a ∧ Hp w0 (hh w0) [Bx p1 29 [vt_Routes.v, vt_Neighs.v, vt_Fdbs.v]] w) (t_Routes.length - 0) ⟨0, by omega, by rfl, rfl, hs.to ⟨rfl, rfl, rfl, rfl, trivial⟩, m.sub (.c r0 .n)⟩ ?_
  clear hs m a w2
  rintro gn a w3 ⟨k, hk, ho, rfl, hs, m⟩
  refine c_reg ?_
  refine r_ok hs m (ok_bin rfl rfl rfl) rfl ?_
  clear hs a; intro a hs
  refine wpList_nil (n_then ?_)
  refine c_seq ?_
  refine c_cond hs rfl (fun h4 => ?_) (fun h4 => ?_)
  rotate_left
  · have h4p := of_decide_eq_false h4
    refine wp_exit ?_
    refine ex_then (ex_then (ex_hit (?_)))
    refine n_then ?_
    refine c_reg ?_
    refine r_ok hs m (ok_fieldAddr (r := 0) rfl fd29_0 ty25 rfl) rfl ?_
    clear hs a; intro a hs
    refine r_ok hs m (ok_load_sc rfl ty25 (bx_at r0) rfl) rfl ?_
    clear hs a; intro a hs
    refine r_callP hs m rfl rfl ca109 rfl (risesRoute_c vt_Routes t_Routes _ (m.rd ht_Routes) ) rfl ?_
    clear m hs a w3; intro w5 m a hs
    refine r_ok hs m (ok_move rfl) rfl ?_
    clear hs a; intro a hs
    refine l_cut (.c (.c (.c (.c (.n))))) (fun a w => St 30 [(1, .pointer (some (padd p1 0))), (24, .bool ((risesM cmpRoute t_Routes) && (risesM cmpNeigh t_Neighs)))] a ∧ Hp w0 (hh w0) [Bx p1 29 [vt_Routes.v, vt_Neighs.v, vt_Fdbs.v]] w) ?_ ?_
    · rcases Bool.eq_false_or_eq_true (risesM cmpRoute t_Routes) with hb6 | hb6
      · refine r_okg hs rfl rfl hb6 m (ok_fieldAddr (r := 1) rfl fd29_1 ty26 rfl) rfl ?_
        clear hs a; intro a hs
        refine r_okg hs rfl rfl hb6 m (ok_load_sc rfl ty26 (bx_at r0) rfl) rfl ?_
        clear hs a; intro a hs
        refine r_callPg hs rfl rfl hb6 m rfl rfl ca110 rfl (risesNeigh_c vt_Neighs t_Neighs _ (m.rd ht_Neighs) ) rfl ?_
        clear m hs a w5; intro w7 m a hs
        refine r_ok hs m (ok_pick (r := .bool ((risesM cmpRoute t_Routes) && (risesM cmpNeigh t_Neighs))) rfl rfl rfl (by rw [hb6]; rfl)) rfl ?_
        clear hs a; intro a hs
        exact wpList_nil (n_then ⟨hs.to ⟨rfl, rfl, trivial⟩, m⟩)
      · refine g_out hs rfl rfl hb6 rfl ?_
        clear hs a; intro a hs
        refine g_out hs rfl rfl hb6 rfl ?_
        clear hs a; intro a hs
        refine g_out hs rfl rfl hb6 rfl ?_
        clear hs a; intro a hs
        refine r_ok hs m (ok_pick (r := .bool ((risesM cmpRoute t_Routes) && (risesM cmpNeigh t_Neighs))) rfl rfl rfl (by rw [hb6]; rfl)) rfl ?_
        clear hs a; intro a hs
        exact wpList_nil (n_then ⟨hs.to ⟨rfl, rfl, trivial⟩, m⟩)
    clear hs m a w5; rintro a w8 ⟨hs, m⟩
    refine r_ok hs m (ok_move rfl) rfl ?_
    clear hs a; intro a hs
    refine l_cut (.c (.c (.c (.c (.n))))) (fun a w => St 30 [(29, .bool (((risesM cmpRoute t_Routes) && (risesM cmpNeigh t_Neighs)) && (risesM cmpFdb t_Fdbs)))] a ∧ Hp w0 (hh w0) [Bx p1 29 [vt_Routes.v, vt_Neighs.v, vt_Fdbs.v]] w) ?_ ?_
    · rcases Bool.eq_false_or_eq_true ((risesM cmpRoute t_Routes) && (risesM cmpNeigh t_Neighs)) with hb9 | hb9
      · have hb9p := hb9; simp only [Bool.or_eq_true, Bool.or_eq_false_iff, Bool.and_eq_true, Bool.and_eq_false_iff, Bool.not_eq_true', Bool.not_eq_false', decide_eq_true_eq, decide_eq_false_iff_not, beq_iff_eq, bne_iff_ne, beq_eq_false_iff_ne, bne_eq_false_iff_eq, ne_eq, gt_iff_lt, ge_iff_le, Int.not_lt, Int.not_le] at hb9p
        refine r_okg hs rfl rfl hb9 m (ok_fieldAddr (r := 2) rfl fd29_2 ty27 rfl) rfl ?_
        clear hs a; intro a hs
        refine r_okg hs rfl rfl hb9 m (ok_load_sc rfl ty27 (bx_at r0) rfl) rfl ?_
        clear hs a; intro a hs
        refine r_callPg hs rfl rfl hb9 m rfl rfl ca111 rfl (risesFdb_c vt_Fdbs t_Fdbs _ (m.rd ht_Fdbs) ) rfl ?_
        clear m hs a w8; intro w10 m a hs
        refine r_ok hs m (ok_pick (r := .bool (((risesM cmpRoute t_Routes) && (risesM cmpNeigh t_Neighs)) && (risesM cmpFdb t_Fdbs))) rfl rfl rfl (by rw [hb9]; rfl)) rfl ?_
        clear hs a; intro a hs
        exact wpList_nil (n_then ⟨hs.to ⟨rfl, trivial⟩, m⟩)
      · have hb9p := hb9; simp only [Bool.or_eq_true, Bool.or_eq_false_iff, Bool.and_eq_true, Bool.and_eq_false_iff, Bool.not_eq_true', Bool.not_eq_false', decide_eq_true_eq, decide_eq_false_iff_not, beq_iff_eq, bne_iff_ne, beq_eq_false_iff_ne, bne_eq_false_iff_eq, ne_eq, gt_iff_lt, ge_iff_le, Int.not_lt, Int.not_le] at hb9p
        refine g_out hs rfl rfl hb9 rfl ?_
        clear hs a; intro a hs
        refine g_out hs rfl rfl hb9 rfl ?_
        clear hs a; intro a hs
        refine g_out hs rfl rfl hb9 rfl ?_
        clear hs a; intro a hs
        refine r_ok hs m (ok_pick (r := .bool (((risesM cmpRoute t_Routes) && (risesM cmpNeigh t_Neighs)) && (risesM cmpFdb t_Fdbs))) rfl rfl rfl (by rw [hb9]; rfl)) rfl ?_
        clear hs a; intro a hs
        exact wpList_nil (n_then ⟨hs.to ⟨rfl, trivial⟩, m⟩)
    clear hs m a w8; rintro a w11 ⟨hs, m⟩
    refine r_ok hs m (ok_assign rfl) rfl ?_
    clear hs a; intro a hs
    refine wpList_nil (n_then ?_)
    refine wp_ret ?_
    refine leave hs (vs := [.bool (((risesM cmpRoute t_Routes) && (risesM cmpNeigh t_Neighs)) && (risesM cmpFdb t_Fdbs))]) rfl ⟨rfl, trivial⟩ ?_
    refine ⟨?_, m.sub .n⟩
    have q12 : (((risesM cmpRoute t_Routes) && (risesM cmpNeigh t_Neighs)) && (risesM cmpFdb t_Fdbs) : Bool) = inOrderM t_Routes t_Neighs t_Fdbs := by clear hs m; first | exact inOrder_f (k := k) (by omega) (by assumption) (by assumption) | exact inOrder_t (by omega) ho
    first | (rw [q12]; done) | (rw [q12]; rfl) | (rw [q12]; rfl) | (simp only [q12, pack]; done)
  have h4p := of_decide_eq_true h4
  refine wp_skip ?_
  refine n_then ?_
  refine c_seq ?_
  refine wp_block ?_
  refine c_reg ?_
  obtain ⟨e13, he14⟩ := get_of_lt (l := t_Routes) (i := k) (by omega)
  refine elF (c := cRoute) (e := e13) hs m (x := (.tmp 6)) (ix := (.tmp 8)) rfl rfl sl25 ty51 ht_Routes (by omega) he14 fun p15 hp16 ok17 => ?_
  refine r_ok hs m (ok17 _ _ _ _ _) rfl ?_
  clear hs a; intro a hs
  refine r_ok hs m (ok_load_ag (vs := cRoute e13) rfl ty51 (fr_at hp16) rfl rfl) rfl ?_
  clear hs a; intro a hs
  refine r_alloc hs m ze51 rfl ?_
  clear m hs a w3; intro p18 w19 m a hs
  refine r_store (cs' := cRoute e13) (vs := cRoute e13) hs m rfl rfl ty51 s0 rfl rfl rfl rfl rfl ?_
  clear m w19; intro w20 m
  refine wpList_nil (n_then ?_)
  refine c_reg ?_
  refine r_ok hs m (ok_fieldAddr (r := 0) rfl fd51_0 ty44 rfl) rfl ?_
  clear hs a; intro a hs
  refine r_ok hs m (ok_load_ag (vs := cPrefix e13.Dst) rfl ty44 (bx_at r0) rfl rfl) rfl ?_
  clear hs a; intro a hs
  refine r_callP hs m rfl rfl ca43 rfl (valid_c e13.Dst _  ) rfl ?_
  clear m hs a w20; intro w21 m a hs
  refine r_ok hs m (ok_not rfl) rfl ?_
  clear hs a; intro a hs
  refine wpList_nil (n_then ?_)
  refine c_cond hs rfl (fun h22 => ?_) (fun h22 => ?_)
  · have h22p := h22; simp only [Bool.or_eq_true, Bool.or_eq_false_iff, Bool.and_eq_true, Bool.and_eq_false_iff, Bool.not_eq_true', Bool.not_eq_false', decide_eq_true_eq, decide_eq_false_iff_not, beq_iff_eq, bne_iff_ne, beq_eq_false_iff_ne, bne_eq_false_iff_eq, ne_eq, gt_iff_lt, ge_iff_le, Int.not_lt, Int.not_le] at h22p
    refine c_reg ?_
    refine r_ok hs m (ok_assign rfl) rfl ?_
    clear hs a; intro a hs
    refine wpList_nil (n_then ?_)
    refine wp_ret ?_
    refine ret_block (ret_then (ret_then (ret_block (ret_then (leave hs (vs := [.bool false]) rfl ⟨rfl, trivial⟩ ?_)))))
    refine ⟨?_, m.sub .n⟩
    have q23 : (false : Bool) = inOrderM t_Routes t_Neighs t_Fdbs := by clear hs m; first | exact inOrder_f (k := k) (by omega) (by assumption) (by assumption) | exact inOrder_t (by omega) ho
    first | (rw [q23]; done) | (rw [q23]; rfl) | (rw [q23]; rfl) | (simp only [q23, pack]; done)
  have h22p := h22; simp only [Bool.or_eq_true, Bool.or_eq_false_iff, Bool.and_eq_true, Bool.and_eq_false_iff, Bool.not_eq_true', Bool.not_eq_false', decide_eq_true_eq, decide_eq_false_iff_not, beq_iff_eq, bne_iff_ne, beq_eq_false_iff_ne, bne_eq_false_iff_eq, ne_eq, gt_iff_lt, ge_iff_le, Int.not_lt, Int.not_le] at h22p
  refine wp_skip ?_
  refine n_block (n_then ?_)
  refine c_last ?_
  refine r_ok hs m (ok_add (r := (k : Int) + 1) rfl rfl (wrap_i64 (by omega) (by omega))) rfl ?_
  clear hs a; intro a hs
  refine r_ok hs m (ok_move rfl) rfl ?_
  clear hs a; intro a hs
  refine wpList_nil (n_then ?_)
  exact ⟨t_Routes.length - (k + 1), by omega, k + 1, by omega, by exact allK_succ ho (validAt_t (by assumption) (by assumption)), rfl, hs.to ⟨rfl, rfl, rfl, rfl, trivial⟩, m.sub (.c r1 .n)⟩
theorem wayOf_c (vt_Routes : SH) (t_Routes : List TRoute) (vt_Neighs : SH) (t_Neighs : List TNeigh) (vt_Fdbs : SH) (t_Fdbs : List TFdb) (r : TRoute) (w0 : World) (ht_Routes : RdS (hh w0) 4 vt_Routes.v (t_Routes.map cRoute)) (ht_Neighs : RdS (hh w0) 7 vt_Neighs.v (t_Neighs.map cNeigh)) (ht_Fdbs : RdS (hh w0) 7 vt_Fdbs.v (t_Fdbs.map cFdb)) : Pure Tryz.prog 113 [.agg ⟨[vt_Routes.v, vt_Neighs.v, vt_Fdbs.v]⟩, .agg ⟨cRoute r⟩] (.agg ⟨cagent_way (wayM t_Neighs t_Fdbs r)⟩) w0 := by
  have lvt_Routes := ht_Routes.bd
  have lvt_Neighs := ht_Neighs.bd
  have lvt_Fdbs := ht_Fdbs.bd
  refine enter (n := 35) Tryz.func113 rfl rfl rfl fun a (hs : St 35 [(0, .agg ⟨[vt_Routes.v, vt_Neighs.v, vt_Fdbs.v]⟩), (1, .agg ⟨cRoute r⟩)] a) => ?_
  have m := Hp.start w0
  refine c_reg ?_
  refine r_box (cs := [vt_Routes.v, vt_Neighs.v, vt_Fdbs.v]) hs m rfl rfl rfl ?_
  clear m hs a; intro p1 w2 m a hs
  refine r_box (cs := cRoute r) hs m rfl rfl rfl ?_
  clear m hs a w2; intro p3 w4 m a hs
  refine r_alloc hs m ze180 rfl ?_
  clear m hs a w4; intro p5 w6 m a hs
  refine wpList_nil (n_then ?_)
  refine c_reg ?_
  refine r_ok hs m (ok_fieldAddr (r := 1) rfl fd29_1 ty26 rfl) rfl ?_
  clear hs a; intro a hs
  refine r_ok hs m (ok_load_sc rfl ty26 (bx_at r2) rfl) rfl ?_
  clear hs a; intro a hs
  refine r_ok hs m (ok_fieldAddr (r := 2) rfl fd51_1 ty42 rfl) rfl ?_
  clear hs a; intro a hs
  refine r_ok hs m (ok_load_sc rfl ty42 (bx_at r1) rfl) rfl ?_
  clear hs a; intro a hs
  refine r_ok hs m (ok_build (cs := cNeigh (⟨r.Via, (⟨⟨0, rfl⟩, ⟨0, rfl⟩, ⟨0, rfl⟩, ⟨0, rfl⟩, ⟨0, rfl⟩, ⟨0, rfl⟩⟩ : TMAC)⟩ : TNeigh)) st54 ze54 rfl rfl) rfl ?_
  clear hs a; intro a hs
  refine r_callP hs m rfl rfl ca114 rfl (getNeigh_c vt_Neighs t_Neighs (⟨r.Via, (⟨⟨0, rfl⟩, ⟨0, rfl⟩, ⟨0, rfl⟩, ⟨0, rfl⟩, ⟨0, rfl⟩, ⟨0, rfl⟩⟩ : TMAC)⟩ : TNeigh) _ (m.rd ht_Neighs) ) rfl ?_
  clear m hs a w6; intro w7 m a hs
  refine r_ok hs m (ok_move rfl) rfl ?_
  clear hs a; intro a hs
  refine r_ok hs m (ok_extract rfl rfl) rfl ?_
  clear hs a; intro a hs
  refine r_ok hs m (ok_extract rfl rfl) rfl ?_
  clear hs a; intro a hs
  refine r_alloc hs m ze54 rfl ?_
  clear m hs a w7; intro p8 w9 m a hs
  refine r_store (cs' := cNeigh (getM cmpNeigh zNeigh t_Neighs (⟨r.Via, (⟨⟨0, rfl⟩, ⟨0, rfl⟩, ⟨0, rfl⟩, ⟨0, rfl⟩, ⟨0, rfl⟩, ⟨0, rfl⟩⟩ : TMAC)⟩ : TNeigh))) (vs := cNeigh (getM cmpNeigh zNeigh t_Neighs (⟨r.Via, (⟨⟨0, rfl⟩, ⟨0, rfl⟩, ⟨0, rfl⟩, ⟨0, rfl⟩, ⟨0, rfl⟩, ⟨0, rfl⟩⟩ : TMAC)⟩ : TNeigh))) hs m rfl rfl ty54 s0 rfl rfl rfl rfl rfl ?_
  clear m w9; intro w10 m
  refine r_ok hs m (ok_assign rfl) rfl ?_
  clear hs a; intro a hs
  refine wpList_nil (n_then ?_)
  refine c_seq ?_
  refine c_reg ?_
  refine r_ok hs m (ok_move rfl) rfl ?_
  clear hs a; intro a hs
  refine r_ok hs m (ok_not rfl) rfl ?_
  clear hs a; intro a hs
  refine wpList_nil (n_then ?_)
  refine c_cond hs rfl (fun h11 => ?_) (fun h11 => ?_)
  · have h11p := h11; simp only [Bool.or_eq_true, Bool.or_eq_false_iff, Bool.and_eq_true, Bool.and_eq_false_iff, Bool.not_eq_true', Bool.not_eq_false', decide_eq_true_eq, decide_eq_false_iff_not, beq_iff_eq, bne_iff_ne, beq_eq_false_iff_ne, bne_eq_false_iff_eq, ne_eq, gt_iff_lt, ge_iff_le, Int.not_lt, Int.not_le] at h11p
    refine c_reg ?_
    refine r_ok hs m (ok_build (cs := cagent_way (⟨false, false, (⟨⟨0, rfl⟩, ⟨0, rfl⟩, ⟨0, rfl⟩, ⟨0, rfl⟩, ⟨0, rfl⟩, ⟨0, rfl⟩⟩ : TMAC), ⟨0, rfl⟩⟩ : Tagent_way)) st180 ze180 rfl rfl) rfl ?_
    clear hs a; intro a hs
    refine r_store (cs' := cagent_way (⟨false, false, (⟨⟨0, rfl⟩, ⟨0, rfl⟩, ⟨0, rfl⟩, ⟨0, rfl⟩, ⟨0, rfl⟩, ⟨0, rfl⟩⟩ : TMAC), ⟨0, rfl⟩⟩ : Tagent_way)) (vs := cagent_way (⟨false, false, (⟨⟨0, rfl⟩, ⟨0, rfl⟩, ⟨0, rfl⟩, ⟨0, rfl⟩, ⟨0, rfl⟩, ⟨0, rfl⟩⟩ : TMAC), ⟨0, rfl⟩⟩ : Tagent_way)) hs m rfl rfl ty180 s1 rfl rfl rfl rfl rfl ?_
    clear m w10; intro w12 m
    refine wpList_nil (n_then ?_)
    refine wp_ret ?_
    refine ret_then (leave hs (vs := [.agg ⟨cagent_way (⟨false, false, (⟨⟨0, rfl⟩, ⟨0, rfl⟩, ⟨0, rfl⟩, ⟨0, rfl⟩, ⟨0, rfl⟩, ⟨0, rfl⟩⟩ : TMAC), ⟨0, rfl⟩⟩ : Tagent_way)⟩]) rfl ⟨resv_cell (cs := cagent_way (⟨false, false, (⟨⟨0, rfl⟩, ⟨0, rfl⟩, ⟨0, rfl⟩, ⟨0, rfl⟩, ⟨0, rfl⟩, ⟨0, rfl⟩⟩ : TMAC), ⟨0, rfl⟩⟩ : Tagent_way)) m rfl ty180 r1 rfl, trivial⟩ ?_)
    refine ⟨?_, m.sub .n⟩
    have q13 : ((⟨false, false, (⟨⟨0, rfl⟩, ⟨0, rfl⟩, ⟨0, rfl⟩, ⟨0, rfl⟩, ⟨0, rfl⟩, ⟨0, rfl⟩⟩ : TMAC), ⟨0, rfl⟩⟩ : Tagent_way) : Tagent_way) = wayM t_Neighs t_Fdbs r := by clear hs m; first | exact wayM_f (by assumption) | exact wayM_t (by assumption)
    first | (rw [q13]; done) | (rw [q13]; rfl) | (rw [q13]; rfl) | (simp only [q13, pack]; done)
  have h11p := h11; simp only [Bool.or_eq_true, Bool.or_eq_false_iff, Bool.and_eq_true, Bool.and_eq_false_iff, Bool.not_eq_true', Bool.not_eq_false', decide_eq_true_eq, decide_eq_false_iff_not, beq_iff_eq, bne_iff_ne, beq_eq_false_iff_ne, bne_eq_false_iff_eq, ne_eq, gt_iff_lt, ge_iff_le, Int.not_lt, Int.not_le] at h11p
  refine wp_skip ?_
  refine n_then ?_
  refine c_reg ?_
  refine r_ok hs m (ok_fieldAddr (r := 2) rfl fd29_2 ty27 rfl) rfl ?_
  clear hs a; intro a hs
  refine r_ok hs m (ok_load_sc rfl ty27 (bx_at r3) rfl) rfl ?_
  clear hs a; intro a hs
  refine r_ok hs m (ok_fieldAddr (r := 1) rfl fd54_1 ty46 rfl) rfl ?_
  clear hs a; intro a hs
  refine r_ok hs m (ok_load_ag (vs := cMAC ((getM cmpNeigh zNeigh t_Neighs (⟨r.Via, (⟨⟨0, rfl⟩, ⟨0, rfl⟩, ⟨0, rfl⟩, ⟨0, rfl⟩, ⟨0, rfl⟩, ⟨0, rfl⟩⟩ : TMAC)⟩ : TNeigh)).MAC)) rfl ty46 (bx_at r0) rfl rfl) rfl ?_
  clear hs a; intro a hs
  refine r_ok hs m (ok_build (cs := cFdb (⟨(getM cmpNeigh zNeigh t_Neighs (⟨r.Via, (⟨⟨0, rfl⟩, ⟨0, rfl⟩, ⟨0, rfl⟩, ⟨0, rfl⟩, ⟨0, rfl⟩, ⟨0, rfl⟩⟩ : TMAC)⟩ : TNeigh)).MAC, ⟨0, rfl⟩⟩ : TFdb)) st56 ze56 rfl rfl) rfl ?_
  clear hs a; intro a hs
  refine r_callP hs m rfl rfl ca115 rfl (getFdb_c vt_Fdbs t_Fdbs (⟨(getM cmpNeigh zNeigh t_Neighs (⟨r.Via, (⟨⟨0, rfl⟩, ⟨0, rfl⟩, ⟨0, rfl⟩, ⟨0, rfl⟩, ⟨0, rfl⟩, ⟨0, rfl⟩⟩ : TMAC)⟩ : TNeigh)).MAC, ⟨0, rfl⟩⟩ : TFdb) _ (m.rd ht_Fdbs) ) rfl ?_
  clear m hs a w10; intro w14 m a hs
  refine r_ok hs m (ok_move rfl) rfl ?_
  clear hs a; intro a hs
  refine r_ok hs m (ok_extract rfl rfl) rfl ?_
  clear hs a; intro a hs
  refine r_ok hs m (ok_extract rfl rfl) rfl ?_
  clear hs a; intro a hs
  refine r_alloc hs m ze56 rfl ?_
  clear m hs a w14; intro p15 w16 m a hs
  refine r_store (cs' := cFdb (getM cmpFdb zFdb t_Fdbs (⟨(getM cmpNeigh zNeigh t_Neighs (⟨r.Via, (⟨⟨0, rfl⟩, ⟨0, rfl⟩, ⟨0, rfl⟩, ⟨0, rfl⟩, ⟨0, rfl⟩, ⟨0, rfl⟩⟩ : TMAC)⟩ : TNeigh)).MAC, ⟨0, rfl⟩⟩ : TFdb))) (vs := cFdb (getM cmpFdb zFdb t_Fdbs (⟨(getM cmpNeigh zNeigh t_Neighs (⟨r.Via, (⟨⟨0, rfl⟩, ⟨0, rfl⟩, ⟨0, rfl⟩, ⟨0, rfl⟩, ⟨0, rfl⟩, ⟨0, rfl⟩⟩ : TMAC)⟩ : TNeigh)).MAC, ⟨0, rfl⟩⟩ : TFdb))) hs m rfl rfl ty56 s0 rfl rfl rfl rfl rfl ?_
  clear m w16; intro w17 m
  refine r_ok hs m (ok_assign rfl) rfl ?_
  clear hs a; intro a hs
  refine wpList_nil (n_then ?_)
  refine c_reg ?_
  refine r_ok hs m (ok_move rfl) rfl ?_
  clear hs a; intro a hs
  refine r_ok hs m (ok_fieldAddr (r := 1) rfl fd54_1 ty46 rfl) rfl ?_
  clear hs a; intro a hs
  refine r_ok hs m (ok_load_ag (vs := cMAC ((getM cmpNeigh zNeigh t_Neighs (⟨r.Via, (⟨⟨0, rfl⟩, ⟨0, rfl⟩, ⟨0, rfl⟩, ⟨0, rfl⟩, ⟨0, rfl⟩, ⟨0, rfl⟩⟩ : TMAC)⟩ : TNeigh)).MAC)) rfl ty46 (bx_at r1) rfl rfl) rfl ?_
  clear hs a; intro a hs
  refine r_ok hs m (ok_fieldAddr (r := 6) rfl fd56_1 ty42 rfl) rfl ?_
  clear hs a; intro a hs
  refine r_ok hs m (ok_load_sc rfl ty42 (bx_at r0) rfl) rfl ?_
  clear hs a; intro a hs
  refine r_ok hs m (ok_build (cs := cagent_way (⟨true, bsHit cmpFdb t_Fdbs (⟨(getM cmpNeigh zNeigh t_Neighs (⟨r.Via, (⟨⟨0, rfl⟩, ⟨0, rfl⟩, ⟨0, rfl⟩, ⟨0, rfl⟩, ⟨0, rfl⟩, ⟨0, rfl⟩⟩ : TMAC)⟩ : TNeigh)).MAC, ⟨0, rfl⟩⟩ : TFdb), (getM cmpNeigh zNeigh t_Neighs (⟨r.Via, (⟨⟨0, rfl⟩, ⟨0, rfl⟩, ⟨0, rfl⟩, ⟨0, rfl⟩, ⟨0, rfl⟩, ⟨0, rfl⟩⟩ : TMAC)⟩ : TNeigh)).MAC, (getM cmpFdb zFdb t_Fdbs (⟨(getM cmpNeigh zNeigh t_Neighs (⟨r.Via, (⟨⟨0, rfl⟩, ⟨0, rfl⟩, ⟨0, rfl⟩, ⟨0, rfl⟩, ⟨0, rfl⟩, ⟨0, rfl⟩⟩ : TMAC)⟩ : TNeigh)).MAC, ⟨0, rfl⟩⟩ : TFdb)).To⟩ : Tagent_way)) st180 ze180 rfl rfl) rfl ?_
  clear hs a; intro a hs
  refine r_store (cs' := cagent_way (⟨true, bsHit cmpFdb t_Fdbs (⟨(getM cmpNeigh zNeigh t_Neighs (⟨r.Via, (⟨⟨0, rfl⟩, ⟨0, rfl⟩, ⟨0, rfl⟩, ⟨0, rfl⟩, ⟨0, rfl⟩, ⟨0, rfl⟩⟩ : TMAC)⟩ : TNeigh)).MAC, ⟨0, rfl⟩⟩ : TFdb), (getM cmpNeigh zNeigh t_Neighs (⟨r.Via, (⟨⟨0, rfl⟩, ⟨0, rfl⟩, ⟨0, rfl⟩, ⟨0, rfl⟩, ⟨0, rfl⟩, ⟨0, rfl⟩⟩ : TMAC)⟩ : TNeigh)).MAC, (getM cmpFdb zFdb t_Fdbs (⟨(getM cmpNeigh zNeigh t_Neighs (⟨r.Via, (⟨⟨0, rfl⟩, ⟨0, rfl⟩, ⟨0, rfl⟩, ⟨0, rfl⟩, ⟨0, rfl⟩, ⟨0, rfl⟩⟩ : TMAC)⟩ : TNeigh)).MAC, ⟨0, rfl⟩⟩ : TFdb)).To⟩ : Tagent_way)) (vs := cagent_way (⟨true, bsHit cmpFdb t_Fdbs (⟨(getM cmpNeigh zNeigh t_Neighs (⟨r.Via, (⟨⟨0, rfl⟩, ⟨0, rfl⟩, ⟨0, rfl⟩, ⟨0, rfl⟩, ⟨0, rfl⟩, ⟨0, rfl⟩⟩ : TMAC)⟩ : TNeigh)).MAC, ⟨0, rfl⟩⟩ : TFdb), (getM cmpNeigh zNeigh t_Neighs (⟨r.Via, (⟨⟨0, rfl⟩, ⟨0, rfl⟩, ⟨0, rfl⟩, ⟨0, rfl⟩, ⟨0, rfl⟩, ⟨0, rfl⟩⟩ : TMAC)⟩ : TNeigh)).MAC, (getM cmpFdb zFdb t_Fdbs (⟨(getM cmpNeigh zNeigh t_Neighs (⟨r.Via, (⟨⟨0, rfl⟩, ⟨0, rfl⟩, ⟨0, rfl⟩, ⟨0, rfl⟩, ⟨0, rfl⟩, ⟨0, rfl⟩⟩ : TMAC)⟩ : TNeigh)).MAC, ⟨0, rfl⟩⟩ : TFdb)).To⟩ : Tagent_way)) hs m rfl rfl ty180 s2 rfl rfl rfl rfl rfl ?_
  clear m w17; intro w18 m
  refine wpList_nil (n_then ?_)
  refine wp_ret ?_
  refine leave hs (vs := [.agg ⟨cagent_way (⟨true, bsHit cmpFdb t_Fdbs (⟨(getM cmpNeigh zNeigh t_Neighs (⟨r.Via, (⟨⟨0, rfl⟩, ⟨0, rfl⟩, ⟨0, rfl⟩, ⟨0, rfl⟩, ⟨0, rfl⟩, ⟨0, rfl⟩⟩ : TMAC)⟩ : TNeigh)).MAC, ⟨0, rfl⟩⟩ : TFdb), (getM cmpNeigh zNeigh t_Neighs (⟨r.Via, (⟨⟨0, rfl⟩, ⟨0, rfl⟩, ⟨0, rfl⟩, ⟨0, rfl⟩, ⟨0, rfl⟩, ⟨0, rfl⟩⟩ : TMAC)⟩ : TNeigh)).MAC, (getM cmpFdb zFdb t_Fdbs (⟨(getM cmpNeigh zNeigh t_Neighs (⟨r.Via, (⟨⟨0, rfl⟩, ⟨0, rfl⟩, ⟨0, rfl⟩, ⟨0, rfl⟩, ⟨0, rfl⟩, ⟨0, rfl⟩⟩ : TMAC)⟩ : TNeigh)).MAC, ⟨0, rfl⟩⟩ : TFdb)).To⟩ : Tagent_way)⟩]) rfl ⟨resv_cell (cs := cagent_way (⟨true, bsHit cmpFdb t_Fdbs (⟨(getM cmpNeigh zNeigh t_Neighs (⟨r.Via, (⟨⟨0, rfl⟩, ⟨0, rfl⟩, ⟨0, rfl⟩, ⟨0, rfl⟩, ⟨0, rfl⟩, ⟨0, rfl⟩⟩ : TMAC)⟩ : TNeigh)).MAC, ⟨0, rfl⟩⟩ : TFdb), (getM cmpNeigh zNeigh t_Neighs (⟨r.Via, (⟨⟨0, rfl⟩, ⟨0, rfl⟩, ⟨0, rfl⟩, ⟨0, rfl⟩, ⟨0, rfl⟩, ⟨0, rfl⟩⟩ : TMAC)⟩ : TNeigh)).MAC, (getM cmpFdb zFdb t_Fdbs (⟨(getM cmpNeigh zNeigh t_Neighs (⟨r.Via, (⟨⟨0, rfl⟩, ⟨0, rfl⟩, ⟨0, rfl⟩, ⟨0, rfl⟩, ⟨0, rfl⟩, ⟨0, rfl⟩⟩ : TMAC)⟩ : TNeigh)).MAC, ⟨0, rfl⟩⟩ : TFdb)).To⟩ : Tagent_way)) m rfl ty180 r2 rfl, trivial⟩ ?_
  refine ⟨?_, m.sub .n⟩
  have q19 : ((⟨true, bsHit cmpFdb t_Fdbs (⟨(getM cmpNeigh zNeigh t_Neighs (⟨r.Via, (⟨⟨0, rfl⟩, ⟨0, rfl⟩, ⟨0, rfl⟩, ⟨0, rfl⟩, ⟨0, rfl⟩, ⟨0, rfl⟩⟩ : TMAC)⟩ : TNeigh)).MAC, ⟨0, rfl⟩⟩ : TFdb), (getM cmpNeigh zNeigh t_Neighs (⟨r.Via, (⟨⟨0, rfl⟩, ⟨0, rfl⟩, ⟨0, rfl⟩, ⟨0, rfl⟩, ⟨0, rfl⟩, ⟨0, rfl⟩⟩ : TMAC)⟩ : TNeigh)).MAC, (getM cmpFdb zFdb t_Fdbs (⟨(getM cmpNeigh zNeigh t_Neighs (⟨r.Via, (⟨⟨0, rfl⟩, ⟨0, rfl⟩, ⟨0, rfl⟩, ⟨0, rfl⟩, ⟨0, rfl⟩, ⟨0, rfl⟩⟩ : TMAC)⟩ : TNeigh)).MAC, ⟨0, rfl⟩⟩ : TFdb)).To⟩ : Tagent_way) : Tagent_way) = wayM t_Neighs t_Fdbs r := by clear hs m; first | exact wayM_f (by assumption) | exact wayM_t (by assumption)
  first | (rw [q19]; done) | (rw [q19]; rfl) | (rw [q19]; rfl) | (simp only [q19, pack]; done)
theorem stays_c (vx_Routes : SH) (x_Routes : List TRoute) (vx_Neighs : SH) (x_Neighs : List TNeigh) (vx_Fdbs : SH) (x_Fdbs : List TFdb) (vy_Routes : SH) (y_Routes : List TRoute) (vy_Neighs : SH) (y_Neighs : List TNeigh) (vy_Fdbs : SH) (y_Fdbs : List TFdb) (r : TRoute) (w0 : World) (hx_Routes : RdS (hh w0) 4 vx_Routes.v (x_Routes.map cRoute)) (hx_Neighs : RdS (hh w0) 7 vx_Neighs.v (x_Neighs.map cNeigh)) (hx_Fdbs : RdS (hh w0) 7 vx_Fdbs.v (x_Fdbs.map cFdb)) (hy_Routes : RdS (hh w0) 4 vy_Routes.v (y_Routes.map cRoute)) (hy_Neighs : RdS (hh w0) 7 vy_Neighs.v (y_Neighs.map cNeigh)) (hy_Fdbs : RdS (hh w0) 7 vy_Fdbs.v (y_Fdbs.map cFdb)) : Pure Tryz.prog 57 [.agg ⟨[vx_Routes.v, vx_Neighs.v, vx_Fdbs.v]⟩, .agg ⟨[vy_Routes.v, vy_Neighs.v, vy_Fdbs.v]⟩, .agg ⟨cRoute r⟩] (.bool (staysM x_Neighs x_Fdbs y_Routes y_Neighs y_Fdbs r)) w0 := by
  have lvx_Routes := hx_Routes.bd
  have lvx_Neighs := hx_Neighs.bd
  have lvx_Fdbs := hx_Fdbs.bd
  have lvy_Routes := hy_Routes.bd
  have lvy_Neighs := hy_Neighs.bd
  have lvy_Fdbs := hy_Fdbs.bd
  refine enter (n := 35) Tryz.func57 rfl rfl rfl fun a (hs : St 35 [(0, .agg ⟨[vx_Routes.v, vx_Neighs.v, vx_Fdbs.v]⟩), (1, .agg ⟨[vy_Routes.v, vy_Neighs.v, vy_Fdbs.v]⟩), (2, .agg ⟨cRoute r⟩)] a) => ?_
  have m := Hp.start w0
  refine c_reg ?_
  refine r_box (cs := [vx_Routes.v, vx_Neighs.v, vx_Fdbs.v]) hs m rfl rfl rfl ?_
  clear m hs a; intro p1 w2 m a hs
  refine r_box (cs := [vy_Routes.v, vy_Neighs.v, vy_Fdbs.v]) hs m rfl rfl rfl ?_
  clear m hs a w2; intro p3 w4 m a hs
  refine r_box (cs := cRoute r) hs m rfl rfl rfl ?_
  clear m hs a w4; intro p5 w6 m a hs
  refine r_ok hs m (ok_assign rfl) rfl ?_
  clear hs a; intro a hs
  refine wpList_nil (n_then ?_)
  refine c_reg ?_
  refine r_ok hs m (ok_fieldAddr (r := 0) rfl fd29_0 ty25 rfl) rfl ?_
  clear hs a; intro a hs
  refine r_ok hs m (ok_load_sc rfl ty25 (bx_at r1) rfl) rfl ?_
  clear hs a; intro a hs
  refine r_ok hs m (ok_load_ag (vs := cRoute r) rfl ty51 (bx_at r0) rfl rfl) rfl ?_
  clear hs a; intro a hs
  refine r_callP hs m rfl rfl ca112 rfl (getRoute_c vy_Routes y_Routes r _ (m.rd hy_Routes) ) rfl ?_
  clear m hs a w6; intro w7 m a hs
  refine r_ok hs m (ok_move rfl) rfl ?_
  clear hs a; intro a hs
  refine r_ok hs m (ok_extract rfl rfl) rfl ?_
  clear hs a; intro a hs
  refine r_ok hs m (ok_extract rfl rfl) rfl ?_
  clear hs a; intro a hs
  refine r_alloc hs m ze51 rfl ?_
  clear m hs a w7; intro p8 w9 m a hs
  refine r_store (cs' := cRoute (getM cmpRoute zRoute y_Routes r)) (vs := cRoute (getM cmpRoute zRoute y_Routes r)) hs m rfl rfl ty51 s0 rfl rfl rfl rfl rfl ?_
  clear m w9; intro w10 m
  refine r_ok hs m (ok_assign rfl) rfl ?_
  clear hs a; intro a hs
  refine wpList_nil (n_then ?_)
  refine c_draw m mo (by kernel_rfl) ?_
  refine q_ok hs (ok_move rfl) rfl ?_
  clear hs a; intro a hs
  refine q_ok hs (ok_move rfl) rfl ?_
  clear hs a; intro a hs
  refine q_cut (.c (.c (.c (.c (.n))))) (fun a => St 35 [(3, .pointer (some (padd p1 0))), (4, .pointer (some (padd p3 0))), (5, .pointer (some (padd p5 0))), (21, .bool ((bsHit cmpRoute y_Routes r) && (decide (getM cmpRoute zRoute y_Routes r = r))))] a) ?_ ?_
  · rcases Bool.eq_false_or_eq_true (bsHit cmpRoute y_Routes r) with hb11 | hb11
    · refine q_okg hs rfl rfl hb11 (ok_load_ag (vs := cRoute (getM cmpRoute zRoute y_Routes r)) rfl ty51 (bx_at r0) rfl rfl) rfl ?_
      clear hs a; intro a hs
      refine q_okg hs rfl rfl hb11 (ok_load_ag (vs := cRoute r) rfl ty51 (bx_at r1) rfl rfl) rfl ?_
      clear hs a; intro a hs
      refine q_okg hs rfl rfl hb11 (ok_eqv (b := decide (getM cmpRoute zRoute y_Routes r = r)) rfl rfl eqT51 (fRoute _) (fRoute _) (iRoute (getM cmpRoute zRoute y_Routes r) r)) rfl ?_
      clear hs a; intro a hs
      refine q_ok hs (ok_pick (r := .bool ((bsHit cmpRoute y_Routes r) && (decide (getM cmpRoute zRoute y_Routes r = r)))) rfl rfl rfl (by rw [hb11]; rfl)) rfl ?_
      clear hs a; intro a hs
      exact wpQuiet_nil (hs.to ⟨rfl, rfl, rfl, rfl, trivial⟩)
    · refine q_out hs rfl rfl hb11 rfl ?_
      clear hs a; intro a hs
      refine q_out hs rfl rfl hb11 rfl ?_
      clear hs a; intro a hs
      refine q_out hs rfl rfl hb11 rfl ?_
      clear hs a; intro a hs
      refine q_ok hs (ok_pick (r := .bool ((bsHit cmpRoute y_Routes r) && (decide (getM cmpRoute zRoute y_Routes r = r)))) rfl rfl rfl (by rw [hb11]; rfl)) rfl ?_
      clear hs a; intro a hs
      exact wpQuiet_nil (hs.to ⟨rfl, rfl, rfl, rfl, trivial⟩)
  clear hs a; intro a hs
  refine q_ok hs (ok_move rfl) rfl ?_
  clear hs a; intro a hs
  refine q_cut (.c (.c (.c (.c (.c (.c (.c (.c (.c (.c (.c (.c (.n))))))))))))) (fun a => St 35 [(34, .bool (((bsHit cmpRoute y_Routes r) && (decide (getM cmpRoute zRoute y_Routes r = r))) && (r.Local || (decide (wayM x_Neighs x_Fdbs r = wayM y_Neighs y_Fdbs r)))))] a) ?_ ?_
  · rcases Bool.eq_false_or_eq_true ((bsHit cmpRoute y_Routes r) && (decide (getM cmpRoute zRoute y_Routes r = r))) with hb12 | hb12
    · have hb12p := hb12; simp only [Bool.or_eq_true, Bool.or_eq_false_iff, Bool.and_eq_true, Bool.and_eq_false_iff, Bool.not_eq_true', Bool.not_eq_false', decide_eq_true_eq, decide_eq_false_iff_not, beq_iff_eq, bne_iff_ne, beq_eq_false_iff_ne, bne_eq_false_iff_eq, ne_eq, gt_iff_lt, ge_iff_le, Int.not_lt, Int.not_le] at hb12p
      refine q_okg hs rfl rfl hb12 (ok_fieldAddr (r := 3) rfl fd51_2 ty4 rfl) rfl ?_
      clear hs a; intro a hs
      refine q_okg hs rfl rfl hb12 (ok_load_sc rfl ty4 (bx_at r1) rfl) rfl ?_
      clear hs a; intro a hs
      refine q_okg hs rfl rfl hb12 (ok_move rfl) rfl ?_
      clear hs a; intro a hs
      refine q_cut (.c (.c (.c (.c (.c (.c (.c (.c (.n))))))))) (fun a => St 35 [(22, .bool ((bsHit cmpRoute y_Routes r) && (decide (getM cmpRoute zRoute y_Routes r = r)))), (33, .bool (r.Local || (decide (wayM x_Neighs x_Fdbs r = wayM y_Neighs y_Fdbs r))))] a) ?_ ?_
      · rcases Bool.eq_false_or_eq_true r.Local with hb13 | hb13
        · refine q_out hs rfl rfl hb13 rfl ?_
          clear hs a; intro a hs
          refine q_out hs rfl rfl hb13 rfl ?_
          clear hs a; intro a hs
          refine q_out hs rfl rfl hb13 rfl ?_
          clear hs a; intro a hs
          refine q_out hs rfl rfl hb13 rfl ?_
          clear hs a; intro a hs
          refine q_out hs rfl rfl hb13 rfl ?_
          clear hs a; intro a hs
          refine q_out hs rfl rfl hb13 rfl ?_
          clear hs a; intro a hs
          refine q_out hs rfl rfl hb13 rfl ?_
          clear hs a; intro a hs
          refine q_okg hs rfl rfl hb12 (ok_pick (r := .bool (r.Local || (decide (wayM x_Neighs x_Fdbs r = wayM y_Neighs y_Fdbs r)))) rfl rfl rfl (by rw [hb13]; rfl)) rfl ?_
          clear hs a; intro a hs
          exact wpQuiet_nil (hs.to ⟨rfl, rfl, trivial⟩)
        · refine q_okg hs rfl rfl hb13 (ok_load_ag (vs := [vx_Routes.v, vx_Neighs.v, vx_Fdbs.v]) rfl ty29 (bx_at r3) rfl rfl) rfl ?_
          clear hs a; intro a hs
          refine q_okg hs rfl rfl hb13 (ok_load_ag (vs := cRoute r) rfl ty51 (bx_at r1) rfl rfl) rfl ?_
          clear hs a; intro a hs
          refine q_callPg hs rfl rfl hb13 rfl rfl ca113 rfl (fun w m => wayOf_c vx_Routes x_Routes vx_Neighs x_Neighs vx_Fdbs x_Fdbs r w (m.rd hx_Routes) (m.rd hx_Neighs) (m.rd hx_Fdbs) ) rfl ?_
          clear hs a; intro a hs
          refine q_okg hs rfl rfl hb13 (ok_load_ag (vs := [vy_Routes.v, vy_Neighs.v, vy_Fdbs.v]) rfl ty29 (bx_at r2) rfl rfl) rfl ?_
          clear hs a; intro a hs
          refine q_okg hs rfl rfl hb13 (ok_load_ag (vs := cRoute r) rfl ty51 (bx_at r1) rfl rfl) rfl ?_
          clear hs a; intro a hs
          refine q_callPg hs rfl rfl hb13 rfl rfl ca113 rfl (fun w m => wayOf_c vy_Routes y_Routes vy_Neighs y_Neighs vy_Fdbs y_Fdbs r w (m.rd hy_Routes) (m.rd hy_Neighs) (m.rd hy_Fdbs) ) rfl ?_
          clear hs a; intro a hs
          refine q_okg hs rfl rfl hb13 (ok_eqv (b := decide (wayM x_Neighs x_Fdbs r = wayM y_Neighs y_Fdbs r)) rfl rfl eqT180 (fagent_way _) (fagent_way _) (iagent_way (wayM x_Neighs x_Fdbs r) (wayM y_Neighs y_Fdbs r))) rfl ?_
          clear hs a; intro a hs
          refine q_okg hs rfl rfl hb12 (ok_pick (r := .bool (r.Local || (decide (wayM x_Neighs x_Fdbs r = wayM y_Neighs y_Fdbs r)))) rfl rfl rfl (by rw [hb13]; rfl)) rfl ?_
          clear hs a; intro a hs
          exact wpQuiet_nil (hs.to ⟨rfl, rfl, trivial⟩)
      clear hs a; intro a hs
      refine q_ok hs (ok_pick (r := .bool (((bsHit cmpRoute y_Routes r) && (decide (getM cmpRoute zRoute y_Routes r = r))) && (r.Local || (decide (wayM x_Neighs x_Fdbs r = wayM y_Neighs y_Fdbs r))))) rfl rfl rfl (by rw [hb12]; rfl)) rfl ?_
      clear hs a; intro a hs
      exact wpQuiet_nil (hs.to ⟨rfl, trivial⟩)
    · have hb12p := hb12; simp only [Bool.or_eq_true, Bool.or_eq_false_iff, Bool.and_eq_true, Bool.and_eq_false_iff, Bool.not_eq_true', Bool.not_eq_false', decide_eq_true_eq, decide_eq_false_iff_not, beq_iff_eq, bne_iff_ne, beq_eq_false_iff_ne, bne_eq_false_iff_eq, ne_eq, gt_iff_lt, ge_iff_le, Int.not_lt, Int.not_le] at hb12p
      refine q_out hs rfl rfl hb12 rfl ?_
      clear hs a; intro a hs
      refine q_out hs rfl rfl hb12 rfl ?_
      clear hs a; intro a hs
      refine q_out hs rfl rfl hb12 rfl ?_
      clear hs a; intro a hs
      refine q_outU hs rfl rfl rfl ?_
      clear hs a; intro a hs
      refine q_outU hs rfl rfl rfl ?_
      clear hs a; intro a hs
      refine q_outU hs rfl rfl rfl ?_
      clear hs a; intro a hs
      refine q_outU hs rfl rfl rfl ?_
      clear hs a; intro a hs
      refine q_outU hs rfl rfl rfl ?_
      clear hs a; intro a hs
      refine q_outU hs rfl rfl rfl ?_
      clear hs a; intro a hs
      refine q_outU hs rfl rfl rfl ?_
      clear hs a; intro a hs
      refine q_out hs rfl rfl hb12 rfl ?_
      clear hs a; intro a hs
      refine q_ok hs (ok_pick (r := .bool (((bsHit cmpRoute y_Routes r) && (decide (getM cmpRoute zRoute y_Routes r = r))) && (r.Local || (decide (wayM x_Neighs x_Fdbs r = wayM y_Neighs y_Fdbs r))))) rfl rfl rfl (by rw [hb12]; rfl)) rfl ?_
      clear hs a; intro a hs
      exact wpQuiet_nil (hs.to ⟨rfl, trivial⟩)
  clear hs a; intro a hs
  refine q_ok hs (ok_assign rfl) rfl ?_
  clear hs a; intro a hs
  refine wpQuiet_nil ?_; clear m w10; intro w14 m
  refine wp_ret ?_
  refine leave hs (vs := [.bool (((bsHit cmpRoute y_Routes r) && (decide (getM cmpRoute zRoute y_Routes r = r))) && (r.Local || (decide (wayM x_Neighs x_Fdbs r = wayM y_Neighs y_Fdbs r))))]) rfl ⟨rfl, trivial⟩ ?_
  refine ⟨?_, m.sub .n⟩
  have q15 : (((bsHit cmpRoute y_Routes r) && (decide (getM cmpRoute zRoute y_Routes r = r))) && (r.Local || (decide (wayM x_Neighs x_Fdbs r = wayM y_Neighs y_Fdbs r))) : Bool) = staysM x_Neighs x_Fdbs y_Routes y_Neighs y_Fdbs r := by clear hs m; rfl
  first | (rw [q15]; done) | (rw [q15]; rfl) | (rw [q15]; rfl) | (simp only [q15, pack]; done)
end Go.Proofs.YtnbpodjbemfpbaaGreat.Fw
