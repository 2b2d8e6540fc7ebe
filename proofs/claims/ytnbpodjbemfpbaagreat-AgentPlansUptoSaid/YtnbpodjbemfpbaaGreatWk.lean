/-
  Walks: printed by wip/tool/agent.py.
-/
import Derived.Test.YtnbpodjbemfpbaaGreatWj
import Derived.KernelRfl
set_option linter.all false
set_option maxHeartbeats 4000000
set_option maxRecDepth 100000
namespace Go.Proofs.YtnbpodjbemfpbaaGreat.Fw
open Go

theorem withRoute_c (vt_Routes : SH) (t_Routes : List TRoute) (vt_Neighs : SH) (t_Neighs : List TNeigh) (vt_Fdbs : SH) (t_Fdbs : List TFdb) (r : TRoute) (w0 : World) (R : Hh) (A1 : t_Routes.length < 4294967290) (m : Hp w0 R [Sv 4 51 vt_Routes.v (t_Routes.map cRoute), Sv 7 54 vt_Neighs.v (t_Neighs.map cNeigh), Sv 7 56 vt_Fdbs.v (t_Fdbs.map cFdb)] w0) : Calls Tryz.prog 51 ⟨[.agg ⟨[vt_Routes.v, vt_Neighs.v, vt_Fdbs.v]⟩, .agg ⟨cRoute r⟩]⟩ w0 fun e w' => ∃ v, e = .returned v ∧ (∃ x0 : SH, ∃ x1 : SH, ∃ x2 : SH, v = (.agg ⟨[x0.v, x1.v, x2.v]⟩) ∧ Hp w0 R [Sv 4 51 x0.v ((wRoute r t_Routes).map cRoute), Sv 7 54 x1.v (t_Neighs.map cNeigh), Sv 7 56 x2.v (t_Fdbs.map cFdb)] w') := by
  have lvt_Routes := (m.rdv r0).bd
  have lvt_Neighs := (m.rdv r1).bd
  have lvt_Fdbs := (m.rdv r2).bd
  refine enter (n := 59) Tryz.func51 rfl rfl rfl fun a (hs : St 59 [(0, .agg ⟨[vt_Routes.v, vt_Neighs.v, vt_Fdbs.v]⟩), (1, .agg ⟨cRoute r⟩)] a) => ?_
  refine c_reg ?_
  refine r_box (cs := [vt_Routes.v, vt_Neighs.v, vt_Fdbs.v]) hs m rfl rfl rfl ?_
  clear m hs a; intro p1 w2 m a hs
  refine r_box (cs := cRoute r) hs m rfl rfl rfl ?_
  clear m hs a w2; intro p3 w4 m a hs
  refine r_alloc hs m ze29 rfl ?_
  clear m hs a w4; intro p5 w6 m a hs
  refine wpList_nil (n_then ?_)
  refine c_reg ?_
  refine r_ok hs m (ok_assign rfl) rfl ?_
  clear hs a; intro a hs
  refine wpList_nil (n_then ?_)
  refine c_reg ?_
  refine r_ok hs m (ok_assign rfl) rfl ?_
  clear hs a; intro a hs
  refine wpList_nil (n_then ?_)
  refine c_seq ?_
  refine c_reg ?_
  refine r_ok hs m (ok_assign rfl) rfl ?_
  clear hs a; intro a hs
  refine wpList_nil (n_then ?_)
  refine wp_block ?_
  replace m := m.nilSvM cRoute 4 51
  have q9 : ([] : List TRoute) = (accG (fun e => lowerM r.Dst e.Dst) r (t_Routes.take 0)).1 := by first | rw [accG_0] | exact accG_eq_t (by assumption) hin (by assumption) | exact accG_eq_f (by assumption) hin (by assumption)
  rw [q9] at m
  refine wp_loop_ghost (fun gn a w => ∃ k : Nat, ∃ inn : Bool, ∃ v7 : SH, (k ≤ t_Routes.length) ∧ ((t_Routes.take k).any (fun e => decide (e.Dst = r.Dst)) = false) ∧ ((accG (fun e => lowerM r.Dst e.Dst) r (t_Routes.take k)).2 = inn) ∧ gn = t_Routes.length - k ∧ St 59 [(2, .pointer (some (padd p1 0))), (3, .pointer (some (padd p3 0))), (4, .pointer (some (padd p5 0))), (5, v7.v), (6, .bool inn), (7, .int .i64 (k : Int))] a ∧ Hp w0 R [Bx p1 29 [vt_Routes.v, vt_Neighs.v, vt_Fdbs.v], Bx p3 51 (cRoute r), Bx p5 29 [nilH.v, nilH.v, nilH.v], Sv 4 51 vt_Routes.v (t_Routes.map cRoute), Sv 7 54 vt_Neighs.v (t_Neighs.map cNeigh), Sv 7 56 vt_Fdbs.v (t_Fdbs.map cFdb), Sv 4 51 v7.v (((accG (fun e => lowerM r.Dst e.Dst) r (t_Routes.take k)).1).map cRoute)] w) (t_Routes.length - 0) ⟨0, false, nilH, by omega, by rfl, by rw [accG_0], rfl, hs.to ⟨rfl, rfl, rfl, rfl, rfl, rfl, trivial⟩, m.sub (.c r3 (.c r2 (.c r1 (.c r1 (.c r1 (.c r1 (.c r0 .n)))))))⟩ ?_
  clear hs m a w6
  rintro gn a w10 ⟨k, inn, v7, hk, hno, hin, rfl, hs, m⟩
  have hal := accG_len (lw := fun e => lowerM r.Dst e.Dst) (x := r) (l := t_Routes) (k := k)
  refine c_seq ?_
  refine c_reg ?_
  refine r_ok hs m (ok_move rfl) rfl ?_
  clear hs a; intro a hs
  refine r_ok hs m (ok_fieldAddr (r := 0) rfl fd29_0 ty25 rfl) rfl ?_
  clear hs a; intro a hs
  refine r_ok hs m (ok_load_sc rfl ty25 (bx_at r0) rfl) rfl ?_
  clear hs a; intro a hs
  refine r_ok hs m (ok_len (r := (t_Routes.length : Int)) m rfl sl25 (rc_own r3) (by simp)) rfl ?_
  clear hs a; intro a hs
  refine r_ok hs m (ok_bin rfl rfl rfl) rfl ?_
  clear hs a; intro a hs
  refine wpList_nil (n_then ?_)
  refine c_cond hs rfl (fun h11 => ?_) (fun h11 => ?_)
  rotate_left
  · have h11p := of_decide_eq_false h11
    refine wp_exit ?_
    refine ex_then (ex_then (ex_hit (?_)))
    refine n_then ?_
    refine c_seq ?_
    refine c_reg ?_
    refine r_ok hs m (ok_move rfl) rfl ?_
    clear hs a; intro a hs
    refine r_ok hs m (ok_not rfl) rfl ?_
    clear hs a; intro a hs
    refine wpList_nil (n_then ?_)
    refine c_cond hs rfl (fun h12 => ?_) (fun h12 => ?_)
    · have h12p := h12; simp only [Bool.or_eq_true, Bool.or_eq_false_iff, Bool.and_eq_true, Bool.and_eq_false_iff, Bool.not_eq_true', Bool.not_eq_false', decide_eq_true_eq, decide_eq_false_iff_not, beq_iff_eq, bne_iff_ne, beq_eq_false_iff_ne, bne_eq_false_iff_eq, ne_eq, gt_iff_lt, ge_iff_le, Int.not_lt, Int.not_le] at h12p
      refine c_last ?_
      refine r_ok hs m (ok_move rfl) rfl ?_
      clear hs a; intro a hs
      refine r_ok hs m (ok_load_ag (vs := cRoute r) rfl ty51 (bx_at r1) rfl rfl) rfl ?_
      clear hs a; intro a hs
      refine r_buildM (c := cRoute) (ys := [r]) hs m sl25 ty51 ze51 rfl rfl rfl rfl rfl (fun _ => rfl) rfl rfl rfl ?_
      clear m hs a w10; intro v13 w14 m a hs
      refine r_appendM (c := cRoute) (xs := (accG (fun e => lowerM r.Dst e.Dst) r (t_Routes.take k)).1) (ys := [r]) hs m rfl rfl sl25 ni25 ty51 ze51 rfl by51 rfl r7 (m.rdv r0) (fun _ => rfl) (by first | omega | (simp; done) | (simp; omega)) rfl ?_
      clear m hs a w14; intro v15 w16 m a hs
      refine r_ok hs m (ok_assign rfl) rfl ?_
      clear hs a; intro a hs
      refine wpList_nil (n_then ?_)
      refine c_reg ?_
      refine r_ok hs m (ok_move rfl) rfl ?_
      clear hs a; intro a hs
      refine r_ok hs m (ok_fieldAddr (r := 0) rfl fd29_0 ty25 rfl) rfl ?_
      clear hs a; intro a hs
      refine r_store (cs' := [v15.v, vt_Neighs.v, vt_Fdbs.v]) (vs := [v15.v]) hs m rfl rfl ty25 s2 rfl rfl rfl rfl rfl ?_
      clear m w16; intro w17 m
      refine wpList_nil (n_then ?_)
      refine c_reg ?_
      refine r_ok hs m (ok_load_ag (vs := [v15.v, vt_Neighs.v, vt_Fdbs.v]) rfl ty29 (bx_at r2) rfl rfl) rfl ?_
      clear hs a; intro a hs
      refine r_store (cs' := [v15.v, vt_Neighs.v, vt_Fdbs.v]) (vs := [v15.v, vt_Neighs.v, vt_Fdbs.v]) hs m rfl rfl ty29 s4 rfl rfl rfl rfl rfl ?_
      clear m w17; intro w18 m
      refine wpList_nil (n_then ?_)
      refine wp_ret ?_
      refine leave hs (vs := [.agg ⟨[v15.v, vt_Neighs.v, vt_Fdbs.v]⟩]) rfl ⟨resv_cell (cs := [v15.v, vt_Neighs.v, vt_Fdbs.v]) m rfl ty29 r4 rfl, trivial⟩ ?_
      have q19 : ((accG (fun e => lowerM r.Dst e.Dst) r (t_Routes.take k)).1) ++ [r] = wRoute r t_Routes := by first | exact (withG_hit (by assumption) (by assumption)).symm | exact withG_t (by omega) hno hin (by simpa using (by assumption)) | exact withG_f (by omega) hno hin (by simpa using (by assumption))
      rw [q19] at m
      refine ⟨_, rfl, v15, vt_Neighs, vt_Fdbs, ?_, m.sub (.c r0 (.c r5 (.c r5 .n)))⟩
      rfl
    have h12p := h12; simp only [Bool.or_eq_true, Bool.or_eq_false_iff, Bool.and_eq_true, Bool.and_eq_false_iff, Bool.not_eq_true', Bool.not_eq_false', decide_eq_true_eq, decide_eq_false_iff_not, beq_iff_eq, bne_iff_ne, beq_eq_false_iff_ne, bne_eq_false_iff_eq, ne_eq, gt_iff_lt, ge_iff_le, Int.not_lt, Int.not_le] at h12p
    refine wp_skip ?_
    refine n_then ?_
    refine c_reg ?_
    refine r_ok hs m (ok_move rfl) rfl ?_
    clear hs a; intro a hs
    refine r_ok hs m (ok_fieldAddr (r := 0) rfl fd29_0 ty25 rfl) rfl ?_
    clear hs a; intro a hs
    refine r_store (cs' := [v7.v, vt_Neighs.v, vt_Fdbs.v]) (vs := [v7.v]) hs m rfl rfl ty25 s0 rfl rfl rfl rfl rfl ?_
    clear m w10; intro w20 m
    refine wpList_nil (n_then ?_)
    refine c_reg ?_
    refine r_ok hs m (ok_load_ag (vs := [v7.v, vt_Neighs.v, vt_Fdbs.v]) rfl ty29 (bx_at r0) rfl rfl) rfl ?_
    clear hs a; intro a hs
    refine r_store (cs' := [v7.v, vt_Neighs.v, vt_Fdbs.v]) (vs := [v7.v, vt_Neighs.v, vt_Fdbs.v]) hs m rfl rfl ty29 s2 rfl rfl rfl rfl rfl ?_
    clear m w20; intro w21 m
    refine wpList_nil (n_then ?_)
    refine wp_ret ?_
    refine leave hs (vs := [.agg ⟨[v7.v, vt_Neighs.v, vt_Fdbs.v]⟩]) rfl ⟨resv_cell (cs := [v7.v, vt_Neighs.v, vt_Fdbs.v]) m rfl ty29 r2 rfl, trivial⟩ ?_
    have q22 : (accG (fun e => lowerM r.Dst e.Dst) r (t_Routes.take k)).1 = wRoute r t_Routes := by first | exact (withG_hit (by assumption) (by assumption)).symm | exact withG_t (by omega) hno hin (by simpa using (by assumption)) | exact withG_f (by omega) hno hin (by simpa using (by assumption))
    rw [q22] at m
    refine ⟨_, rfl, v7, vt_Neighs, vt_Fdbs, ?_, m.sub (.c r6 (.c r4 (.c r4 .n)))⟩
    rfl
  have h11p := of_decide_eq_true h11
  refine wp_skip ?_
  refine n_then ?_
  refine c_seq ?_
  refine wp_block ?_
  refine c_seq ?_
  refine c_draw m mo (by kernel_rfl) ?_
  refine q_ok hs (ok_fieldAddr (r := 0) rfl fd29_0 ty25 rfl) rfl ?_
  clear hs a; intro a hs
  refine q_ok hs (ok_load_sc rfl ty25 (bx_at r0) rfl) rfl ?_
  clear hs a; intro a hs
  refine q_ok hs (ok_move rfl) rfl ?_
  clear hs a; intro a hs
  obtain ⟨e23, he24⟩ := get_of_lt (l := t_Routes) (i := k) (by omega)
  refine elO (c := cRoute) (e := e23) hs m (x := (.tmp 16)) (ix := (.tmp 17)) rfl rfl sl25 ty51 r3 (by omega) he24 fun p25 hp26 ok27 => ?_
  refine q_ok hs (ok27 _ _ _ _ _) rfl ?_
  clear hs a; intro a hs
  refine q_ok hs (ok_fieldAddr (r := 0) rfl fd51_0 ty44 rfl) rfl ?_
  clear hs a; intro a hs
  refine q_ok hs (ok_load_ag (vs := cPrefix e23.Dst) rfl ty44 (el_at hp26 r3 (get_map _ he24)) rfl rfl) rfl ?_
  clear hs a; intro a hs
  refine q_ok hs (ok_fieldAddr (r := 0) rfl fd51_0 ty44 rfl) rfl ?_
  clear hs a; intro a hs
  refine q_ok hs (ok_load_ag (vs := cPrefix r.Dst) rfl ty44 (bx_at r1) rfl rfl) rfl ?_
  clear hs a; intro a hs
  refine q_ok hs (ok_eqv (b := decide (e23.Dst = r.Dst)) rfl rfl eqT44 (fPrefix _) (fPrefix _) (iPrefix e23.Dst r.Dst)) rfl ?_
  clear hs a; intro a hs
  refine wpQuiet_nil ?_; clear m w10; intro w28 m
  refine c_cond hs rfl (fun h29 => ?_) (fun h29 => ?_)
  · have h29p := of_decide_eq_true h29
    refine c_reg ?_
    refine r_ok hs m (ok_load_ag (vs := [vt_Routes.v, vt_Neighs.v, vt_Fdbs.v]) rfl ty29 (bx_at r0) rfl rfl) rfl ?_
    clear hs a; intro a hs
    refine r_store (cs' := [vt_Routes.v, vt_Neighs.v, vt_Fdbs.v]) (vs := [vt_Routes.v, vt_Neighs.v, vt_Fdbs.v]) hs m rfl rfl ty29 s2 rfl rfl rfl rfl rfl ?_
    clear m w28; intro w30 m
    refine wpList_nil (n_then ?_)
    refine wp_ret ?_
    refine ret_then (ret_block (ret_then (ret_then (ret_block (ret_then (leave hs (vs := [.agg ⟨[vt_Routes.v, vt_Neighs.v, vt_Fdbs.v]⟩]) rfl ⟨resv_cell (cs := [vt_Routes.v, vt_Neighs.v, vt_Fdbs.v]) m rfl ty29 r2 rfl, trivial⟩ ?_))))))
    have q31 : t_Routes = wRoute r t_Routes := by first | exact (withG_hit (by assumption) (by assumption)).symm | exact withG_t (by omega) hno hin (by simpa using (by assumption)) | exact withG_f (by omega) hno hin (by simpa using (by assumption))
    rw [q31] at m
    refine ⟨_, rfl, vt_Routes, vt_Neighs, vt_Fdbs, ?_, m.sub (.c r3 (.c r3 (.c r3 .n)))⟩
    rfl
  have h29p := of_decide_eq_false h29
  refine wp_skip ?_
  refine n_then ?_
  refine c_seq ?_
  refine c_draw m mo (by kernel_rfl) ?_
  refine q_ok hs (ok_move rfl) rfl ?_
  clear hs a; intro a hs
  refine q_ok hs (ok_not rfl) rfl ?_
  clear hs a; intro a hs
  refine q_ok hs (ok_move rfl) rfl ?_
  clear hs a; intro a hs
  refine q_cut (.c (.c (.c (.c (.c (.c (.c (.c (.c (.c (.n))))))))))) (fun a => St 59 [(2, .pointer (some (padd p1 0))), (3, .pointer (some (padd p3 0))), (4, .pointer (some (padd p5 0))), (5, v7.v), (6, .bool inn), (7, .int .i64 (k : Int)), (37, .bool (!inn && (lowerM r.Dst e23.Dst)))] a) ?_ ?_
  · rcases Bool.eq_false_or_eq_true !inn with hb32 | hb32
    · have hb32p := hb32; simp only [Bool.or_eq_true, Bool.or_eq_false_iff, Bool.and_eq_true, Bool.and_eq_false_iff, Bool.not_eq_true', Bool.not_eq_false', decide_eq_true_eq, decide_eq_false_iff_not, beq_iff_eq, bne_iff_ne, beq_eq_false_iff_ne, bne_eq_false_iff_eq, ne_eq, gt_iff_lt, ge_iff_le, Int.not_lt, Int.not_le] at hb32p
      refine q_okg hs rfl rfl hb32 (ok_fieldAddr (r := 0) rfl fd51_0 ty44 rfl) rfl ?_
      clear hs a; intro a hs
      refine q_okg hs rfl rfl hb32 (ok_load_ag (vs := cPrefix r.Dst) rfl ty44 (bx_at r1) rfl rfl) rfl ?_
      clear hs a; intro a hs
      refine q_okg hs rfl rfl hb32 (ok_fieldAddr (r := 0) rfl fd29_0 ty25 rfl) rfl ?_
      clear hs a; intro a hs
      refine q_okg hs rfl rfl hb32 (ok_load_sc rfl ty25 (bx_at r0) rfl) rfl ?_
      clear hs a; intro a hs
      refine q_okg hs rfl rfl hb32 (ok_move rfl) rfl ?_
      clear hs a; intro a hs
      refine elO (c := cRoute) (e := e23) hs m (x := (.tmp 31)) (ix := (.tmp 32)) rfl rfl sl25 ty51 r3 (by omega) he24 fun p33 hp34 ok35 => ?_
      refine q_okg hs rfl rfl hb32 (ok35 _ _ _ _ _) rfl ?_
      clear hs a; intro a hs
      refine q_okg hs rfl rfl hb32 (ok_fieldAddr (r := 0) rfl fd51_0 ty44 rfl) rfl ?_
      clear hs a; intro a hs
      refine q_okg hs rfl rfl hb32 (ok_load_ag (vs := cPrefix e23.Dst) rfl ty44 (el_at hp34 r3 (get_map _ he24)) rfl rfl) rfl ?_
      clear hs a; intro a hs
      refine q_callPg hs rfl rfl hb32 rfl rfl ca107 rfl (fun w m => lower_c r.Dst e23.Dst w  ) rfl ?_
      clear hs a; intro a hs
      refine q_ok hs (ok_pick (r := .bool (!inn && (lowerM r.Dst e23.Dst))) rfl rfl rfl (by rw [hb32]; rfl)) rfl ?_
      clear hs a; intro a hs
      exact wpQuiet_nil (hs.to ⟨rfl, rfl, rfl, rfl, rfl, rfl, rfl, trivial⟩)
    · have hb32p := hb32; simp only [Bool.or_eq_true, Bool.or_eq_false_iff, Bool.and_eq_true, Bool.and_eq_false_iff, Bool.not_eq_true', Bool.not_eq_false', decide_eq_true_eq, decide_eq_false_iff_not, beq_iff_eq, bne_iff_ne, beq_eq_false_iff_ne, bne_eq_false_iff_eq, ne_eq, gt_iff_lt, ge_iff_le, Int.not_lt, Int.not_le] at hb32p
      refine q_out hs rfl rfl hb32 rfl ?_
      clear hs a; intro a hs
      refine q_out hs rfl rfl hb32 rfl ?_
      clear hs a; intro a hs
      refine q_out hs rfl rfl hb32 rfl ?_
      clear hs a; intro a hs
      refine q_out hs rfl rfl hb32 rfl ?_
      clear hs a; intro a hs
      refine q_out hs rfl rfl hb32 rfl ?_
      clear hs a; intro a hs
      refine q_out hs rfl rfl hb32 rfl ?_
      clear hs a; intro a hs
      refine q_out hs rfl rfl hb32 rfl ?_
      clear hs a; intro a hs
      refine q_out hs rfl rfl hb32 rfl ?_
      clear hs a; intro a hs
      refine q_out hs rfl rfl hb32 rfl ?_
      clear hs a; intro a hs
      refine q_ok hs (ok_pick (r := .bool (!inn && (lowerM r.Dst e23.Dst))) rfl rfl rfl (by rw [hb32]; rfl)) rfl ?_
      clear hs a; intro a hs
      exact wpQuiet_nil (hs.to ⟨rfl, rfl, rfl, rfl, rfl, rfl, rfl, trivial⟩)
  clear hs a; intro a hs
  refine wpQuiet_nil ?_; clear m w28; intro w36 m
  refine c_cond hs rfl (fun h37 => ?_) (fun h37 => ?_)
  · have h37p := h37; simp only [Bool.or_eq_true, Bool.or_eq_false_iff, Bool.and_eq_true, Bool.and_eq_false_iff, Bool.not_eq_true', Bool.not_eq_false', decide_eq_true_eq, decide_eq_false_iff_not, beq_iff_eq, bne_iff_ne, beq_eq_false_iff_ne, bne_eq_false_iff_eq, ne_eq, gt_iff_lt, ge_iff_le, Int.not_lt, Int.not_le] at h37p
    refine c_reg ?_
    refine r_ok hs m (ok_move rfl) rfl ?_
    clear hs a; intro a hs
    refine r_ok hs m (ok_load_ag (vs := cRoute r) rfl ty51 (bx_at r1) rfl rfl) rfl ?_
    clear hs a; intro a hs
    refine r_buildM (c := cRoute) (ys := [r]) hs m sl25 ty51 ze51 rfl rfl rfl rfl rfl (fun _ => rfl) rfl rfl rfl ?_
    clear m hs a w36; intro v38 w39 m a hs
    refine r_appendM (c := cRoute) (xs := (accG (fun e => lowerM r.Dst e.Dst) r (t_Routes.take k)).1) (ys := [r]) hs m rfl rfl sl25 ni25 ty51 ze51 rfl by51 rfl r7 (m.rdv r0) (fun _ => rfl) (by first | omega | (simp; done) | (simp; omega)) rfl ?_
    clear m hs a w39; intro v40 w41 m a hs
    refine r_ok hs m (ok_assign rfl) rfl ?_
    clear hs a; intro a hs
    refine wpList_nil (n_then ?_)
    refine c_last ?_
    refine r_ok hs m (ok_assign rfl) rfl ?_
    clear hs a; intro a hs
    refine wpList_nil (n_then ?_)
    refine c_last ?_
    refine r_ok hs m (ok_move rfl) rfl ?_
    clear hs a; intro a hs
    refine r_ok hs m (ok_fieldAddr (r := 0) rfl fd29_0 ty25 rfl) rfl ?_
    clear hs a; intro a hs
    refine r_ok hs m (ok_load_sc rfl ty25 (bx_at r2) rfl) rfl ?_
    clear hs a; intro a hs
    refine r_ok hs m (ok_move rfl) rfl ?_
    clear hs a; intro a hs
    refine elO (c := cRoute) (e := e23) hs m (x := (.tmp 44)) (ix := (.tmp 45)) rfl rfl sl25 ty51 r5 (by omega) he24 fun p42 hp43 ok44 => ?_
    refine r_ok hs m (ok44 _ _ _ _ _) rfl ?_
    clear hs a; intro a hs
    refine r_ok hs m (ok_load_ag (vs := cRoute e23) rfl ty51 (el_at hp43 r5 (get_map _ he24)) rfl rfl) rfl ?_
    clear hs a; intro a hs
    refine r_buildM (c := cRoute) (ys := [e23]) hs m sl25 ty51 ze51 rfl rfl rfl rfl rfl (fun _ => rfl) rfl rfl rfl ?_
    clear m hs a w41; intro v45 w46 m a hs
    refine r_appendM (c := cRoute) (xs := ((accG (fun e => lowerM r.Dst e.Dst) r (t_Routes.take k)).1) ++ [r]) (ys := [e23]) hs m rfl rfl sl25 ni25 ty51 ze51 rfl by51 rfl r1 (m.rdv r0) (fun _ => rfl) (by first | omega | (simp; done) | (simp; omega)) rfl ?_
    clear m hs a w46; intro v47 w48 m a hs
    refine r_ok hs m (ok_assign rfl) rfl ?_
    clear hs a; intro a hs
    refine wpList_nil (n_block (n_then ?_))
    refine c_last ?_
    refine r_ok hs m (ok_move rfl) rfl ?_
    clear hs a; intro a hs
    refine r_ok hs m (ok_add (r := (k : Int) + 1) rfl rfl (wrap_i64 (by omega) (by omega))) rfl ?_
    clear hs a; intro a hs
    refine r_ok hs m (ok_assign rfl) rfl ?_
    clear hs a; intro a hs
    refine wpList_nil (n_then ?_)
    have q49 : ((accG (fun e => lowerM r.Dst e.Dst) r (t_Routes.take k)).1) ++ [r] ++ [e23] = (accG (fun e => lowerM r.Dst e.Dst) r (t_Routes.take (k + 1))).1 := by first | rw [accG_0] | exact accG_eq_t (by assumption) hin (by assumption) | exact accG_eq_f (by assumption) hin (by assumption)
    rw [q49] at m
    exact ⟨t_Routes.length - (k + 1), by omega, k + 1, true, v47, by omega, by exact any_succ hno (by assumption) (by assumption), by first | exact accG_in_t (by assumption) hin (by assumption) | exact accG_in_f (by assumption) hin (by assumption), rfl, hs.to ⟨rfl, rfl, rfl, rfl, rfl, rfl, trivial⟩, m.sub (.c r3 (.c r3 (.c r3 (.c r3 (.c r3 (.c r3 (.c r0 .n)))))))⟩
  have h37p := h37; simp only [Bool.or_eq_true, Bool.or_eq_false_iff, Bool.and_eq_true, Bool.and_eq_false_iff, Bool.not_eq_true', Bool.not_eq_false', decide_eq_true_eq, decide_eq_false_iff_not, beq_iff_eq, bne_iff_ne, beq_eq_false_iff_ne, bne_eq_false_iff_eq, ne_eq, gt_iff_lt, ge_iff_le, Int.not_lt, Int.not_le] at h37p
  refine wp_skip ?_
  refine n_then ?_
  refine c_last ?_
  refine r_ok hs m (ok_move rfl) rfl ?_
  clear hs a; intro a hs
  refine r_ok hs m (ok_fieldAddr (r := 0) rfl fd29_0 ty25 rfl) rfl ?_
  clear hs a; intro a hs
  refine r_ok hs m (ok_load_sc rfl ty25 (bx_at r0) rfl) rfl ?_
  clear hs a; intro a hs
  refine r_ok hs m (ok_move rfl) rfl ?_
  clear hs a; intro a hs
  refine elO (c := cRoute) (e := e23) hs m (x := (.tmp 44)) (ix := (.tmp 45)) rfl rfl sl25 ty51 r3 (by omega) he24 fun p50 hp51 ok52 => ?_
  refine r_ok hs m (ok52 _ _ _ _ _) rfl ?_
  clear hs a; intro a hs
  refine r_ok hs m (ok_load_ag (vs := cRoute e23) rfl ty51 (el_at hp51 r3 (get_map _ he24)) rfl rfl) rfl ?_
  clear hs a; intro a hs
  refine r_buildM (c := cRoute) (ys := [e23]) hs m sl25 ty51 ze51 rfl rfl rfl rfl rfl (fun _ => rfl) rfl rfl rfl ?_
  clear m hs a w36; intro v53 w54 m a hs
  refine r_appendM (c := cRoute) (xs := (accG (fun e => lowerM r.Dst e.Dst) r (t_Routes.take k)).1) (ys := [e23]) hs m rfl rfl sl25 ni25 ty51 ze51 rfl by51 rfl r7 (m.rdv r0) (fun _ => rfl) (by first | omega | (simp; done) | (simp; omega)) rfl ?_
  clear m hs a w54; intro v55 w56 m a hs
  refine r_ok hs m (ok_assign rfl) rfl ?_
  clear hs a; intro a hs
  refine wpList_nil (n_block (n_then ?_))
  refine c_last ?_
  refine r_ok hs m (ok_move rfl) rfl ?_
  clear hs a; intro a hs
  refine r_ok hs m (ok_add (r := (k : Int) + 1) rfl rfl (wrap_i64 (by omega) (by omega))) rfl ?_
  clear hs a; intro a hs
  refine r_ok hs m (ok_assign rfl) rfl ?_
  clear hs a; intro a hs
  refine wpList_nil (n_then ?_)
  have q57 : ((accG (fun e => lowerM r.Dst e.Dst) r (t_Routes.take k)).1) ++ [e23] = (accG (fun e => lowerM r.Dst e.Dst) r (t_Routes.take (k + 1))).1 := by first | rw [accG_0] | exact accG_eq_t (by assumption) hin (by assumption) | exact accG_eq_f (by assumption) hin (by assumption)
  rw [q57] at m
  exact ⟨t_Routes.length - (k + 1), by omega, k + 1, inn, v55, by omega, by exact any_succ hno (by assumption) (by assumption), by first | exact accG_in_t (by assumption) hin (by assumption) | exact accG_in_f (by assumption) hin (by assumption), rfl, hs.to ⟨rfl, rfl, rfl, rfl, rfl, rfl, trivial⟩, m.sub (.c r2 (.c r2 (.c r2 (.c r2 (.c r2 (.c r2 (.c r0 .n)))))))⟩

theorem withNeigh_c (vt_Routes : SH) (t_Routes : List TRoute) (vt_Neighs : SH) (t_Neighs : List TNeigh) (vt_Fdbs : SH) (t_Fdbs : List TFdb) (q : TNeigh) (w0 : World) (R : Hh) (A1 : t_Neighs.length < 4294967290) (m : Hp w0 R [Sv 4 51 vt_Routes.v (t_Routes.map cRoute), Sv 7 54 vt_Neighs.v (t_Neighs.map cNeigh), Sv 7 56 vt_Fdbs.v (t_Fdbs.map cFdb)] w0) : Calls Tryz.prog 52 ⟨[.agg ⟨[vt_Routes.v, vt_Neighs.v, vt_Fdbs.v]⟩, .agg ⟨cNeigh q⟩]⟩ w0 fun e w' => ∃ v, e = .returned v ∧ (∃ x0 : SH, ∃ x1 : SH, ∃ x2 : SH, v = (.agg ⟨[x0.v, x1.v, x2.v]⟩) ∧ Hp w0 R [Sv 4 51 x0.v (t_Routes.map cRoute), Sv 7 54 x1.v ((wNeigh q t_Neighs).map cNeigh), Sv 7 56 x2.v (t_Fdbs.map cFdb)] w') := by
  have lvt_Routes := (m.rdv r0).bd
  have lvt_Neighs := (m.rdv r1).bd
  have lvt_Fdbs := (m.rdv r2).bd
  refine enter (n := 59) Tryz.func52 rfl rfl rfl fun a (hs : St 59 [(0, .agg ⟨[vt_Routes.v, vt_Neighs.v, vt_Fdbs.v]⟩), (1, .agg ⟨cNeigh q⟩)] a) => ?_
  refine c_reg ?_
  refine r_box (cs := [vt_Routes.v, vt_Neighs.v, vt_Fdbs.v]) hs m rfl rfl rfl ?_
  clear m hs a; intro p1 w2 m a hs
  refine r_box (cs := cNeigh q) hs m rfl rfl rfl ?_
  clear m hs a w2; intro p3 w4 m a hs
  refine r_alloc hs m ze29 rfl ?_
  clear m hs a w4; intro p5 w6 m a hs
  refine wpList_nil (n_then ?_)
  refine c_reg ?_
  refine r_ok hs m (ok_assign rfl) rfl ?_
  clear hs a; intro a hs
  refine wpList_nil (n_then ?_)
  refine c_reg ?_
  refine r_ok hs m (ok_assign rfl) rfl ?_
  clear hs a; intro a hs
  refine wpList_nil (n_then ?_)
  refine c_seq ?_
  refine c_reg ?_
  refine r_ok hs m (ok_assign rfl) rfl ?_
  clear hs a; intro a hs
  refine wpList_nil (n_then ?_)
  refine wp_block ?_
  replace m := m.nilSvM cNeigh 7 54
  have q9 : ([] : List TNeigh) = (accG (fun e => decide (q.IP.v < e.IP.v)) q (t_Neighs.take 0)).1 := by first | rw [accG_0] | exact accG_eq_t (by assumption) hin (by assumption) | exact accG_eq_f (by assumption) hin (by assumption)
  rw [q9] at m
  refine wp_loop_ghost (fun gn a w => ∃ k : Nat, ∃ inn : Bool, ∃ v7 : SH, (k ≤ t_Neighs.length) ∧ ((t_Neighs.take k).any (fun e => e.IP.v == q.IP.v) = false) ∧ ((accG (fun e => decide (q.IP.v < e.IP.v)) q (t_Neighs.take k)).2 = inn) ∧ gn = t_Neighs.length - k ∧ St 59 [(2, .pointer (some (padd p1 0))), (3, .pointer (some (padd p3 0))), (4, .pointer (some (padd p5 0))), (5, v7.v), (6, .bool inn), (7, .int .i64 (k : Int))] a ∧ Hp w0 R [Bx p1 29 [vt_Routes.v, vt_Neighs.v, vt_Fdbs.v], Bx p3 54 (cNeigh q), Bx p5 29 [nilH.v, nilH.v, nilH.v], Sv 4 51 vt_Routes.v (t_Routes.map cRoute), Sv 7 54 vt_Neighs.v (t_Neighs.map cNeigh), Sv 7 56 vt_Fdbs.v (t_Fdbs.map cFdb), Sv 7 54 v7.v (((accG (fun e => decide (q.IP.v < e.IP.v)) q (t_Neighs.take k)).1).map cNeigh)] w) (t_Neighs.length - 0) ⟨0, false, nilH, by omega, by rfl, by rw [accG_0], rfl, hs.to ⟨rfl, rfl, rfl, rfl, rfl, rfl, trivial⟩, m.sub (.c r3 (.c r2 (.c r1 (.c r1 (.c r1 (.c r1 (.c r0 .n)))))))⟩ ?_
  clear hs m a w6
  rintro gn a w10 ⟨k, inn, v7, hk, hno, hin, rfl, hs, m⟩
  have hal := accG_len (lw := fun e => decide (q.IP.v < e.IP.v)) (x := q) (l := t_Neighs) (k := k)
  refine c_seq ?_
  refine c_reg ?_
  refine r_ok hs m (ok_move rfl) rfl ?_
  clear hs a; intro a hs
  refine r_ok hs m (ok_fieldAddr (r := 1) rfl fd29_1 ty26 rfl) rfl ?_
  clear hs a; intro a hs
  refine r_ok hs m (ok_load_sc rfl ty26 (bx_at r0) rfl) rfl ?_
  clear hs a; intro a hs
  refine r_ok hs m (ok_len (r := (t_Neighs.length : Int)) m rfl sl26 (rc_own r4) (by simp)) rfl ?_
  clear hs a; intro a hs
  refine r_ok hs m (ok_bin rfl rfl rfl) rfl ?_
  clear hs a; intro a hs
  refine wpList_nil (n_then ?_)
  refine c_cond hs rfl (fun h11 => ?_) (fun h11 => ?_)
  rotate_left
  · have h11p := of_decide_eq_false h11
    refine wp_exit ?_
    refine ex_then (ex_then (ex_hit (?_)))
    refine n_then ?_
    refine c_seq ?_
    refine c_reg ?_
    refine r_ok hs m (ok_move rfl) rfl ?_
    clear hs a; intro a hs
    refine r_ok hs m (ok_not rfl) rfl ?_
    clear hs a; intro a hs
    refine wpList_nil (n_then ?_)
    refine c_cond hs rfl (fun h12 => ?_) (fun h12 => ?_)
    · have h12p := h12; simp only [Bool.or_eq_true, Bool.or_eq_false_iff, Bool.and_eq_true, Bool.and_eq_false_iff, Bool.not_eq_true', Bool.not_eq_false', decide_eq_true_eq, decide_eq_false_iff_not, beq_iff_eq, bne_iff_ne, beq_eq_false_iff_ne, bne_eq_false_iff_eq, ne_eq, gt_iff_lt, ge_iff_le, Int.not_lt, Int.not_le] at h12p
      refine c_last ?_
      refine r_ok hs m (ok_move rfl) rfl ?_
      clear hs a; intro a hs
      refine r_ok hs m (ok_load_ag (vs := cNeigh q) rfl ty54 (bx_at r1) rfl rfl) rfl ?_
      clear hs a; intro a hs
      refine r_buildM (c := cNeigh) (ys := [q]) hs m sl26 ty54 ze54 rfl rfl rfl rfl rfl (fun _ => rfl) rfl rfl rfl ?_
      clear m hs a w10; intro v13 w14 m a hs
      refine r_appendM (c := cNeigh) (xs := (accG (fun e => decide (q.IP.v < e.IP.v)) q (t_Neighs.take k)).1) (ys := [q]) hs m rfl rfl sl26 ni26 ty54 ze54 rfl by54 rfl r7 (m.rdv r0) (fun _ => rfl) (by first | omega | (simp; done) | (simp; omega)) rfl ?_
      clear m hs a w14; intro v15 w16 m a hs
      refine r_ok hs m (ok_assign rfl) rfl ?_
      clear hs a; intro a hs
      refine wpList_nil (n_then ?_)
      refine c_reg ?_
      refine r_ok hs m (ok_move rfl) rfl ?_
      clear hs a; intro a hs
      refine r_ok hs m (ok_fieldAddr (r := 1) rfl fd29_1 ty26 rfl) rfl ?_
      clear hs a; intro a hs
      refine r_store (cs' := [vt_Routes.v, v15.v, vt_Fdbs.v]) (vs := [v15.v]) hs m rfl rfl ty26 s2 rfl rfl rfl rfl rfl ?_
      clear m w16; intro w17 m
      refine wpList_nil (n_then ?_)
      refine c_reg ?_
      refine r_ok hs m (ok_load_ag (vs := [vt_Routes.v, v15.v, vt_Fdbs.v]) rfl ty29 (bx_at r2) rfl rfl) rfl ?_
      clear hs a; intro a hs
      refine r_store (cs' := [vt_Routes.v, v15.v, vt_Fdbs.v]) (vs := [vt_Routes.v, v15.v, vt_Fdbs.v]) hs m rfl rfl ty29 s4 rfl rfl rfl rfl rfl ?_
      clear m w17; intro w18 m
      refine wpList_nil (n_then ?_)
      refine wp_ret ?_
      refine leave hs (vs := [.agg ⟨[vt_Routes.v, v15.v, vt_Fdbs.v]⟩]) rfl ⟨resv_cell (cs := [vt_Routes.v, v15.v, vt_Fdbs.v]) m rfl ty29 r4 rfl, trivial⟩ ?_
      have q19 : ((accG (fun e => decide (q.IP.v < e.IP.v)) q (t_Neighs.take k)).1) ++ [q] = wNeigh q t_Neighs := by first | exact (withG_hit (by assumption) (by assumption)).symm | exact withG_t (by omega) hno hin (by simpa using (by assumption)) | exact withG_f (by omega) hno hin (by simpa using (by assumption))
      rw [q19] at m
      refine ⟨_, rfl, vt_Routes, v15, vt_Fdbs, ?_, m.sub (.c r5 (.c r0 (.c r5 .n)))⟩
      rfl
    have h12p := h12; simp only [Bool.or_eq_true, Bool.or_eq_false_iff, Bool.and_eq_true, Bool.and_eq_false_iff, Bool.not_eq_true', Bool.not_eq_false', decide_eq_true_eq, decide_eq_false_iff_not, beq_iff_eq, bne_iff_ne, beq_eq_false_iff_ne, bne_eq_false_iff_eq, ne_eq, gt_iff_lt, ge_iff_le, Int.not_lt, Int.not_le] at h12p
    refine wp_skip ?_
    refine n_then ?_
    refine c_reg ?_
    refine r_ok hs m (ok_move rfl) rfl ?_
    clear hs a; intro a hs
    refine r_ok hs m (ok_fieldAddr (r := 1) rfl fd29_1 ty26 rfl) rfl ?_
    clear hs a; intro a hs
    refine r_store (cs' := [vt_Routes.v, v7.v, vt_Fdbs.v]) (vs := [v7.v]) hs m rfl rfl ty26 s0 rfl rfl rfl rfl rfl ?_
    clear m w10; intro w20 m
    refine wpList_nil (n_then ?_)
    refine c_reg ?_
    refine r_ok hs m (ok_load_ag (vs := [vt_Routes.v, v7.v, vt_Fdbs.v]) rfl ty29 (bx_at r0) rfl rfl) rfl ?_
    clear hs a; intro a hs
    refine r_store (cs' := [vt_Routes.v, v7.v, vt_Fdbs.v]) (vs := [vt_Routes.v, v7.v, vt_Fdbs.v]) hs m rfl rfl ty29 s2 rfl rfl rfl rfl rfl ?_
    clear m w20; intro w21 m
    refine wpList_nil (n_then ?_)
    refine wp_ret ?_
    refine leave hs (vs := [.agg ⟨[vt_Routes.v, v7.v, vt_Fdbs.v]⟩]) rfl ⟨resv_cell (cs := [vt_Routes.v, v7.v, vt_Fdbs.v]) m rfl ty29 r2 rfl, trivial⟩ ?_
    have q22 : (accG (fun e => decide (q.IP.v < e.IP.v)) q (t_Neighs.take k)).1 = wNeigh q t_Neighs := by first | exact (withG_hit (by assumption) (by assumption)).symm | exact withG_t (by omega) hno hin (by simpa using (by assumption)) | exact withG_f (by omega) hno hin (by simpa using (by assumption))
    rw [q22] at m
    refine ⟨_, rfl, vt_Routes, v7, vt_Fdbs, ?_, m.sub (.c r3 (.c r5 (.c r4 .n)))⟩
    rfl
  have h11p := of_decide_eq_true h11
  refine wp_skip ?_
  refine n_then ?_
  refine c_seq ?_
  refine wp_block ?_
  refine c_seq ?_
  refine c_draw m mo (by kernel_rfl) ?_
  refine q_ok hs (ok_fieldAddr (r := 1) rfl fd29_1 ty26 rfl) rfl ?_
  clear hs a; intro a hs
  refine q_ok hs (ok_load_sc rfl ty26 (bx_at r0) rfl) rfl ?_
  clear hs a; intro a hs
  refine q_ok hs (ok_move rfl) rfl ?_
  clear hs a; intro a hs
  obtain ⟨e23, he24⟩ := get_of_lt (l := t_Neighs) (i := k) (by omega)
  refine elO (c := cNeigh) (e := e23) hs m (x := (.tmp 16)) (ix := (.tmp 17)) rfl rfl sl26 ty54 r4 (by omega) he24 fun p25 hp26 ok27 => ?_
  refine q_ok hs (ok27 _ _ _ _ _) rfl ?_
  clear hs a; intro a hs
  refine q_ok hs (ok_fieldAddr (r := 0) rfl fd54_0 ty42 rfl) rfl ?_
  clear hs a; intro a hs
  refine q_ok hs (ok_load_sc rfl ty42 (el_at hp26 r4 (get_map _ he24)) rfl) rfl ?_
  clear hs a; intro a hs
  refine q_ok hs (ok_fieldAddr (r := 0) rfl fd54_0 ty42 rfl) rfl ?_
  clear hs a; intro a hs
  refine q_ok hs (ok_load_sc rfl ty42 (bx_at r1) rfl) rfl ?_
  clear hs a; intro a hs
  refine q_ok hs (ok_bin rfl rfl rfl) rfl ?_
  clear hs a; intro a hs
  refine wpQuiet_nil ?_; clear m w10; intro w28 m
  refine c_cond hs rfl (fun h29 => ?_) (fun h29 => ?_)
  · have h29p := eq_of_beq h29
    refine c_reg ?_
    refine r_ok hs m (ok_load_ag (vs := [vt_Routes.v, vt_Neighs.v, vt_Fdbs.v]) rfl ty29 (bx_at r0) rfl rfl) rfl ?_
    clear hs a; intro a hs
    refine r_store (cs' := [vt_Routes.v, vt_Neighs.v, vt_Fdbs.v]) (vs := [vt_Routes.v, vt_Neighs.v, vt_Fdbs.v]) hs m rfl rfl ty29 s2 rfl rfl rfl rfl rfl ?_
    clear m w28; intro w30 m
    refine wpList_nil (n_then ?_)
    refine wp_ret ?_
    refine ret_then (ret_block (ret_then (ret_then (ret_block (ret_then (leave hs (vs := [.agg ⟨[vt_Routes.v, vt_Neighs.v, vt_Fdbs.v]⟩]) rfl ⟨resv_cell (cs := [vt_Routes.v, vt_Neighs.v, vt_Fdbs.v]) m rfl ty29 r2 rfl, trivial⟩ ?_))))))
    have q31 : t_Neighs = wNeigh q t_Neighs := by first | exact (withG_hit (by assumption) (by assumption)).symm | exact withG_t (by omega) hno hin (by simpa using (by assumption)) | exact withG_f (by omega) hno hin (by simpa using (by assumption))
    rw [q31] at m
    refine ⟨_, rfl, vt_Routes, vt_Neighs, vt_Fdbs, ?_, m.sub (.c r3 (.c r3 (.c r3 .n)))⟩
    rfl
  have h29p := ne_of_beq_false h29
  refine wp_skip ?_
  refine n_then ?_
  refine c_seq ?_
  refine c_draw m mo (by kernel_rfl) ?_
  refine q_ok hs (ok_move rfl) rfl ?_
  clear hs a; intro a hs
  refine q_ok hs (ok_not rfl) rfl ?_
  clear hs a; intro a hs
  refine q_ok hs (ok_move rfl) rfl ?_
  clear hs a; intro a hs
  refine q_cut (.c (.c (.c (.c (.c (.c (.c (.c (.c (.c (.n))))))))))) (fun a => St 59 [(2, .pointer (some (padd p1 0))), (3, .pointer (some (padd p3 0))), (4, .pointer (some (padd p5 0))), (5, v7.v), (6, .bool inn), (7, .int .i64 (k : Int)), (37, .bool (!inn && (decide (q.IP.v < e23.IP.v))))] a) ?_ ?_
  · rcases Bool.eq_false_or_eq_true !inn with hb32 | hb32
    · have hb32p := hb32; simp only [Bool.or_eq_true, Bool.or_eq_false_iff, Bool.and_eq_true, Bool.and_eq_false_iff, Bool.not_eq_true', Bool.not_eq_false', decide_eq_true_eq, decide_eq_false_iff_not, beq_iff_eq, bne_iff_ne, beq_eq_false_iff_ne, bne_eq_false_iff_eq, ne_eq, gt_iff_lt, ge_iff_le, Int.not_lt, Int.not_le] at hb32p
      refine q_okg hs rfl rfl hb32 (ok_fieldAddr (r := 0) rfl fd54_0 ty42 rfl) rfl ?_
      clear hs a; intro a hs
      refine q_okg hs rfl rfl hb32 (ok_load_sc rfl ty42 (bx_at r1) rfl) rfl ?_
      clear hs a; intro a hs
      refine q_okg hs rfl rfl hb32 (ok_fieldAddr (r := 1) rfl fd29_1 ty26 rfl) rfl ?_
      clear hs a; intro a hs
      refine q_okg hs rfl rfl hb32 (ok_load_sc rfl ty26 (bx_at r0) rfl) rfl ?_
      clear hs a; intro a hs
      refine q_okg hs rfl rfl hb32 (ok_move rfl) rfl ?_
      clear hs a; intro a hs
      refine elO (c := cNeigh) (e := e23) hs m (x := (.tmp 31)) (ix := (.tmp 32)) rfl rfl sl26 ty54 r4 (by omega) he24 fun p33 hp34 ok35 => ?_
      refine q_okg hs rfl rfl hb32 (ok35 _ _ _ _ _) rfl ?_
      clear hs a; intro a hs
      refine q_okg hs rfl rfl hb32 (ok_fieldAddr (r := 0) rfl fd54_0 ty42 rfl) rfl ?_
      clear hs a; intro a hs
      refine q_okg hs rfl rfl hb32 (ok_load_sc rfl ty42 (el_at hp34 r4 (get_map _ he24)) rfl) rfl ?_
      clear hs a; intro a hs
      refine q_okg hs rfl rfl hb32 (ok_bin rfl rfl rfl) rfl ?_
      clear hs a; intro a hs
      refine q_ok hs (ok_pick (r := .bool (!inn && (decide (q.IP.v < e23.IP.v)))) rfl rfl rfl (by rw [hb32]; rfl)) rfl ?_
      clear hs a; intro a hs
      exact wpQuiet_nil (hs.to ⟨rfl, rfl, rfl, rfl, rfl, rfl, rfl, trivial⟩)
    · have hb32p := hb32; simp only [Bool.or_eq_true, Bool.or_eq_false_iff, Bool.and_eq_true, Bool.and_eq_false_iff, Bool.not_eq_true', Bool.not_eq_false', decide_eq_true_eq, decide_eq_false_iff_not, beq_iff_eq, bne_iff_ne, beq_eq_false_iff_ne, bne_eq_false_iff_eq, ne_eq, gt_iff_lt, ge_iff_le, Int.not_lt, Int.not_le] at hb32p
      refine q_out hs rfl rfl hb32 rfl ?_
      clear hs a; intro a hs
      refine q_out hs rfl rfl hb32 rfl ?_
      clear hs a; intro a hs
      refine q_out hs rfl rfl hb32 rfl ?_
      clear hs a; intro a hs
      refine q_out hs rfl rfl hb32 rfl ?_
      clear hs a; intro a hs
      refine q_out hs rfl rfl hb32 rfl ?_
      clear hs a; intro a hs
      refine q_out hs rfl rfl hb32 rfl ?_
      clear hs a; intro a hs
      refine q_out hs rfl rfl hb32 rfl ?_
      clear hs a; intro a hs
      refine q_out hs rfl rfl hb32 rfl ?_
      clear hs a; intro a hs
      refine q_out hs rfl rfl hb32 rfl ?_
      clear hs a; intro a hs
      refine q_ok hs (ok_pick (r := .bool (!inn && (decide (q.IP.v < e23.IP.v)))) rfl rfl rfl (by rw [hb32]; rfl)) rfl ?_
      clear hs a; intro a hs
      exact wpQuiet_nil (hs.to ⟨rfl, rfl, rfl, rfl, rfl, rfl, rfl, trivial⟩)
  clear hs a; intro a hs
  refine wpQuiet_nil ?_; clear m w28; intro w36 m
  refine c_cond hs rfl (fun h37 => ?_) (fun h37 => ?_)
  · have h37p := h37; simp only [Bool.or_eq_true, Bool.or_eq_false_iff, Bool.and_eq_true, Bool.and_eq_false_iff, Bool.not_eq_true', Bool.not_eq_false', decide_eq_true_eq, decide_eq_false_iff_not, beq_iff_eq, bne_iff_ne, beq_eq_false_iff_ne, bne_eq_false_iff_eq, ne_eq, gt_iff_lt, ge_iff_le, Int.not_lt, Int.not_le] at h37p
    refine c_reg ?_
    refine r_ok hs m (ok_move rfl) rfl ?_
    clear hs a; intro a hs
    refine r_ok hs m (ok_load_ag (vs := cNeigh q) rfl ty54 (bx_at r1) rfl rfl) rfl ?_
    clear hs a; intro a hs
    refine r_buildM (c := cNeigh) (ys := [q]) hs m sl26 ty54 ze54 rfl rfl rfl rfl rfl (fun _ => rfl) rfl rfl rfl ?_
    clear m hs a w36; intro v38 w39 m a hs
    refine r_appendM (c := cNeigh) (xs := (accG (fun e => decide (q.IP.v < e.IP.v)) q (t_Neighs.take k)).1) (ys := [q]) hs m rfl rfl sl26 ni26 ty54 ze54 rfl by54 rfl r7 (m.rdv r0) (fun _ => rfl) (by first | omega | (simp; done) | (simp; omega)) rfl ?_
    clear m hs a w39; intro v40 w41 m a hs
    refine r_ok hs m (ok_assign rfl) rfl ?_
    clear hs a; intro a hs
    refine wpList_nil (n_then ?_)
    refine c_last ?_
    refine r_ok hs m (ok_assign rfl) rfl ?_
    clear hs a; intro a hs
    refine wpList_nil (n_then ?_)
    refine c_last ?_
    refine r_ok hs m (ok_move rfl) rfl ?_
    clear hs a; intro a hs
    refine r_ok hs m (ok_fieldAddr (r := 1) rfl fd29_1 ty26 rfl) rfl ?_
    clear hs a; intro a hs
    refine r_ok hs m (ok_load_sc rfl ty26 (bx_at r2) rfl) rfl ?_
    clear hs a; intro a hs
    refine r_ok hs m (ok_move rfl) rfl ?_
    clear hs a; intro a hs
    refine elO (c := cNeigh) (e := e23) hs m (x := (.tmp 44)) (ix := (.tmp 45)) rfl rfl sl26 ty54 r6 (by omega) he24 fun p42 hp43 ok44 => ?_
    refine r_ok hs m (ok44 _ _ _ _ _) rfl ?_
    clear hs a; intro a hs
    refine r_ok hs m (ok_load_ag (vs := cNeigh e23) rfl ty54 (el_at hp43 r6 (get_map _ he24)) rfl rfl) rfl ?_
    clear hs a; intro a hs
    refine r_buildM (c := cNeigh) (ys := [e23]) hs m sl26 ty54 ze54 rfl rfl rfl rfl rfl (fun _ => rfl) rfl rfl rfl ?_
    clear m hs a w41; intro v45 w46 m a hs
    refine r_appendM (c := cNeigh) (xs := ((accG (fun e => decide (q.IP.v < e.IP.v)) q (t_Neighs.take k)).1) ++ [q]) (ys := [e23]) hs m rfl rfl sl26 ni26 ty54 ze54 rfl by54 rfl r1 (m.rdv r0) (fun _ => rfl) (by first | omega | (simp; done) | (simp; omega)) rfl ?_
    clear m hs a w46; intro v47 w48 m a hs
    refine r_ok hs m (ok_assign rfl) rfl ?_
    clear hs a; intro a hs
    refine wpList_nil (n_block (n_then ?_))
    refine c_last ?_
    refine r_ok hs m (ok_move rfl) rfl ?_
    clear hs a; intro a hs
    refine r_ok hs m (ok_add (r := (k : Int) + 1) rfl rfl (wrap_i64 (by omega) (by omega))) rfl ?_
    clear hs a; intro a hs
    refine r_ok hs m (ok_assign rfl) rfl ?_
    clear hs a; intro a hs
    refine wpList_nil (n_then ?_)
    have q49 : ((accG (fun e => decide (q.IP.v < e.IP.v)) q (t_Neighs.take k)).1) ++ [q] ++ [e23] = (accG (fun e => decide (q.IP.v < e.IP.v)) q (t_Neighs.take (k + 1))).1 := by first | rw [accG_0] | exact accG_eq_t (by assumption) hin (by assumption) | exact accG_eq_f (by assumption) hin (by assumption)
    rw [q49] at m
    exact ⟨t_Neighs.length - (k + 1), by omega, k + 1, true, v47, by omega, by exact any_succ hno (by assumption) (by assumption), by first | exact accG_in_t (by assumption) hin (by assumption) | exact accG_in_f (by assumption) hin (by assumption), rfl, hs.to ⟨rfl, rfl, rfl, rfl, rfl, rfl, trivial⟩, m.sub (.c r3 (.c r3 (.c r3 (.c r3 (.c r3 (.c r3 (.c r0 .n)))))))⟩
  have h37p := h37; simp only [Bool.or_eq_true, Bool.or_eq_false_iff, Bool.and_eq_true, Bool.and_eq_false_iff, Bool.not_eq_true', Bool.not_eq_false', decide_eq_true_eq, decide_eq_false_iff_not, beq_iff_eq, bne_iff_ne, beq_eq_false_iff_ne, bne_eq_false_iff_eq, ne_eq, gt_iff_lt, ge_iff_le, Int.not_lt, Int.not_le] at h37p
  refine wp_skip ?_
  refine n_then ?_
  refine c_last ?_
  refine r_ok hs m (ok_move rfl) rfl ?_
  clear hs a; intro a hs
  refine r_ok hs m (ok_fieldAddr (r := 1) rfl fd29_1 ty26 rfl) rfl ?_
  clear hs a; intro a hs
  refine r_ok hs m (ok_load_sc rfl ty26 (bx_at r0) rfl) rfl ?_
  clear hs a; intro a hs
  refine r_ok hs m (ok_move rfl) rfl ?_
  clear hs a; intro a hs
  refine elO (c := cNeigh) (e := e23) hs m (x := (.tmp 44)) (ix := (.tmp 45)) rfl rfl sl26 ty54 r4 (by omega) he24 fun p50 hp51 ok52 => ?_
  refine r_ok hs m (ok52 _ _ _ _ _) rfl ?_
  clear hs a; intro a hs
  refine r_ok hs m (ok_load_ag (vs := cNeigh e23) rfl ty54 (el_at hp51 r4 (get_map _ he24)) rfl rfl) rfl ?_
  clear hs a; intro a hs
  refine r_buildM (c := cNeigh) (ys := [e23]) hs m sl26 ty54 ze54 rfl rfl rfl rfl rfl (fun _ => rfl) rfl rfl rfl ?_
  clear m hs a w36; intro v53 w54 m a hs
  refine r_appendM (c := cNeigh) (xs := (accG (fun e => decide (q.IP.v < e.IP.v)) q (t_Neighs.take k)).1) (ys := [e23]) hs m rfl rfl sl26 ni26 ty54 ze54 rfl by54 rfl r7 (m.rdv r0) (fun _ => rfl) (by first | omega | (simp; done) | (simp; omega)) rfl ?_
  clear m hs a w54; intro v55 w56 m a hs
  refine r_ok hs m (ok_assign rfl) rfl ?_
  clear hs a; intro a hs
  refine wpList_nil (n_block (n_then ?_))
  refine c_last ?_
  refine r_ok hs m (ok_move rfl) rfl ?_
  clear hs a; intro a hs
  refine r_ok hs m (ok_add (r := (k : Int) + 1) rfl rfl (wrap_i64 (by omega) (by omega))) rfl ?_
  clear hs a; intro a hs
  refine r_ok hs m (ok_assign rfl) rfl ?_
  clear hs a; intro a hs
  refine wpList_nil (n_then ?_)
  have q57 : ((accG (fun e => decide (q.IP.v < e.IP.v)) q (t_Neighs.take k)).1) ++ [e23] = (accG (fun e => decide (q.IP.v < e.IP.v)) q (t_Neighs.take (k + 1))).1 := by first | rw [accG_0] | exact accG_eq_t (by assumption) hin (by assumption) | exact accG_eq_f (by assumption) hin (by assumption)
  rw [q57] at m
  exact ⟨t_Neighs.length - (k + 1), by omega, k + 1, inn, v55, by omega, by exact any_succ hno (by assumption) (by assumption), by first | exact accG_in_t (by assumption) hin (by assumption) | exact accG_in_f (by assumption) hin (by assumption), rfl, hs.to ⟨rfl, rfl, rfl, rfl, rfl, rfl, trivial⟩, m.sub (.c r2 (.c r2 (.c r2 (.c r2 (.c r2 (.c r2 (.c r0 .n)))))))⟩

theorem withFdb_c (vt_Routes : SH) (t_Routes : List TRoute) (vt_Neighs : SH) (t_Neighs : List TNeigh) (vt_Fdbs : SH) (t_Fdbs : List TFdb) (f : TFdb) (w0 : World) (R : Hh) (A1 : t_Fdbs.length < 4294967290) (m : Hp w0 R [Sv 4 51 vt_Routes.v (t_Routes.map cRoute), Sv 7 54 vt_Neighs.v (t_Neighs.map cNeigh), Sv 7 56 vt_Fdbs.v (t_Fdbs.map cFdb)] w0) : Calls Tryz.prog 53 ⟨[.agg ⟨[vt_Routes.v, vt_Neighs.v, vt_Fdbs.v]⟩, .agg ⟨cFdb f⟩]⟩ w0 fun e w' => ∃ v, e = .returned v ∧ (∃ x0 : SH, ∃ x1 : SH, ∃ x2 : SH, v = (.agg ⟨[x0.v, x1.v, x2.v]⟩) ∧ Hp w0 R [Sv 4 51 x0.v (t_Routes.map cRoute), Sv 7 54 x1.v (t_Neighs.map cNeigh), Sv 7 56 x2.v ((wFdb f t_Fdbs).map cFdb)] w') := by
  have lvt_Routes := (m.rdv r0).bd
  have lvt_Neighs := (m.rdv r1).bd
  have lvt_Fdbs := (m.rdv r2).bd
  refine enter (n := 65) Tryz.func53 rfl rfl rfl fun a (hs : St 65 [(0, .agg ⟨[vt_Routes.v, vt_Neighs.v, vt_Fdbs.v]⟩), (1, .agg ⟨cFdb f⟩)] a) => ?_
  refine c_reg ?_
  refine r_box (cs := [vt_Routes.v, vt_Neighs.v, vt_Fdbs.v]) hs m rfl rfl rfl ?_
  clear m hs a; intro p1 w2 m a hs
  refine r_box (cs := cFdb f) hs m rfl rfl rfl ?_
  clear m hs a w2; intro p3 w4 m a hs
  refine r_alloc hs m ze29 rfl ?_
  clear m hs a w4; intro p5 w6 m a hs
  refine wpList_nil (n_then ?_)
  refine c_reg ?_
  refine r_ok hs m (ok_assign rfl) rfl ?_
  clear hs a; intro a hs
  refine wpList_nil (n_then ?_)
  refine c_reg ?_
  refine r_ok hs m (ok_assign rfl) rfl ?_
  clear hs a; intro a hs
  refine wpList_nil (n_then ?_)
  refine c_seq ?_
  refine c_reg ?_
  refine r_ok hs m (ok_assign rfl) rfl ?_
  clear hs a; intro a hs
  refine wpList_nil (n_then ?_)
  refine wp_block ?_
  replace m := m.nilSvM cFdb 7 56
  have q9 : ([] : List TFdb) = (accG (fun e => decide (weightM f.MAC < weightM e.MAC)) f (t_Fdbs.take 0)).1 := by first | rw [accG_0] | exact accG_eq_t (by assumption) hin (by assumption) | exact accG_eq_f (by assumption) hin (by assumption)
  rw [q9] at m
  refine wp_loop_ghost (fun gn a w => ∃ k : Nat, ∃ inn : Bool, ∃ v7 : SH, (k ≤ t_Fdbs.length) ∧ ((t_Fdbs.take k).any (fun e => decide (e.MAC = f.MAC)) = false) ∧ ((accG (fun e => decide (weightM f.MAC < weightM e.MAC)) f (t_Fdbs.take k)).2 = inn) ∧ gn = t_Fdbs.length - k ∧ St 65 [(2, .pointer (some (padd p1 0))), (3, .pointer (some (padd p3 0))), (4, .pointer (some (padd p5 0))), (5, v7.v), (6, .bool inn), (7, .int .i64 (k : Int))] a ∧ Hp w0 R [Bx p1 29 [vt_Routes.v, vt_Neighs.v, vt_Fdbs.v], Bx p3 56 (cFdb f), Bx p5 29 [nilH.v, nilH.v, nilH.v], Sv 4 51 vt_Routes.v (t_Routes.map cRoute), Sv 7 54 vt_Neighs.v (t_Neighs.map cNeigh), Sv 7 56 vt_Fdbs.v (t_Fdbs.map cFdb), Sv 7 56 v7.v (((accG (fun e => decide (weightM f.MAC < weightM e.MAC)) f (t_Fdbs.take k)).1).map cFdb)] w) (t_Fdbs.length - 0) ⟨0, false, nilH, by omega, by rfl, by rw [accG_0], rfl, hs.to ⟨rfl, rfl, rfl, rfl, rfl, rfl, trivial⟩, m.sub (.c r3 (.c r2 (.c r1 (.c r1 (.c r1 (.c r1 (.c r0 .n)))))))⟩ ?_
  clear hs m a w6
  rintro gn a w10 ⟨k, inn, v7, hk, hno, hin, rfl, hs, m⟩
  have hal := accG_len (lw := fun e => decide (weightM f.MAC < weightM e.MAC)) (x := f) (l := t_Fdbs) (k := k)
  refine c_seq ?_
  refine c_reg ?_
  refine r_ok hs m (ok_move rfl) rfl ?_
  clear hs a; intro a hs
  refine r_ok hs m (ok_fieldAddr (r := 2) rfl fd29_2 ty27 rfl) rfl ?_
  clear hs a; intro a hs
  refine r_ok hs m (ok_load_sc rfl ty27 (bx_at r0) rfl) rfl ?_
  clear hs a; intro a hs
  refine r_ok hs m (ok_len (r := (t_Fdbs.length : Int)) m rfl sl27 (rc_own r5) (by simp)) rfl ?_
  clear hs a; intro a hs
  refine r_ok hs m (ok_bin rfl rfl rfl) rfl ?_
  clear hs a; intro a hs
  refine wpList_nil (n_then ?_)
  refine c_cond hs rfl (fun h11 => ?_) (fun h11 => ?_)
  rotate_left
  · have h11p := of_decide_eq_false h11
    refine wp_exit ?_
    refine ex_then (ex_then (ex_hit (?_)))
    refine n_then ?_
    refine c_seq ?_
    refine c_reg ?_
    refine r_ok hs m (ok_move rfl) rfl ?_
    clear hs a; intro a hs
    refine r_ok hs m (ok_not rfl) rfl ?_
    clear hs a; intro a hs
    refine wpList_nil (n_then ?_)
    refine c_cond hs rfl (fun h12 => ?_) (fun h12 => ?_)
    · have h12p := h12; simp only [Bool.or_eq_true, Bool.or_eq_false_iff, Bool.and_eq_true, Bool.and_eq_false_iff, Bool.not_eq_true', Bool.not_eq_false', decide_eq_true_eq, decide_eq_false_iff_not, beq_iff_eq, bne_iff_ne, beq_eq_false_iff_ne, bne_eq_false_iff_eq, ne_eq, gt_iff_lt, ge_iff_le, Int.not_lt, Int.not_le] at h12p
      refine c_last ?_
      refine r_ok hs m (ok_move rfl) rfl ?_
      clear hs a; intro a hs
      refine r_ok hs m (ok_load_ag (vs := cFdb f) rfl ty56 (bx_at r1) rfl rfl) rfl ?_
      clear hs a; intro a hs
      refine r_buildM (c := cFdb) (ys := [f]) hs m sl27 ty56 ze56 rfl rfl rfl rfl rfl (fun _ => rfl) rfl rfl rfl ?_
      clear m hs a w10; intro v13 w14 m a hs
      refine r_appendM (c := cFdb) (xs := (accG (fun e => decide (weightM f.MAC < weightM e.MAC)) f (t_Fdbs.take k)).1) (ys := [f]) hs m rfl rfl sl27 ni27 ty56 ze56 rfl by56 rfl r7 (m.rdv r0) (fun _ => rfl) (by first | omega | (simp; done) | (simp; omega)) rfl ?_
      clear m hs a w14; intro v15 w16 m a hs
      refine r_ok hs m (ok_assign rfl) rfl ?_
      clear hs a; intro a hs
      refine wpList_nil (n_then ?_)
      refine c_reg ?_
      refine r_ok hs m (ok_move rfl) rfl ?_
      clear hs a; intro a hs
      refine r_ok hs m (ok_fieldAddr (r := 2) rfl fd29_2 ty27 rfl) rfl ?_
      clear hs a; intro a hs
      refine r_store (cs' := [vt_Routes.v, vt_Neighs.v, v15.v]) (vs := [v15.v]) hs m rfl rfl ty27 s2 rfl rfl rfl rfl rfl ?_
      clear m w16; intro w17 m
      refine wpList_nil (n_then ?_)
      refine c_reg ?_
      refine r_ok hs m (ok_load_ag (vs := [vt_Routes.v, vt_Neighs.v, v15.v]) rfl ty29 (bx_at r2) rfl rfl) rfl ?_
      clear hs a; intro a hs
      refine r_store (cs' := [vt_Routes.v, vt_Neighs.v, v15.v]) (vs := [vt_Routes.v, vt_Neighs.v, v15.v]) hs m rfl rfl ty29 s4 rfl rfl rfl rfl rfl ?_
      clear m w17; intro w18 m
      refine wpList_nil (n_then ?_)
      refine wp_ret ?_
      refine leave hs (vs := [.agg ⟨[vt_Routes.v, vt_Neighs.v, v15.v]⟩]) rfl ⟨resv_cell (cs := [vt_Routes.v, vt_Neighs.v, v15.v]) m rfl ty29 r4 rfl, trivial⟩ ?_
      have q19 : ((accG (fun e => decide (weightM f.MAC < weightM e.MAC)) f (t_Fdbs.take k)).1) ++ [f] = wFdb f t_Fdbs := by first | exact (withG_hit (by assumption) (by assumption)).symm | exact withG_t (by omega) hno hin (by simpa using (by assumption)) | exact withG_f (by omega) hno hin (by simpa using (by assumption))
      rw [q19] at m
      refine ⟨_, rfl, vt_Routes, vt_Neighs, v15, ?_, m.sub (.c r5 (.c r5 (.c r0 .n)))⟩
      rfl
    have h12p := h12; simp only [Bool.or_eq_true, Bool.or_eq_false_iff, Bool.and_eq_true, Bool.and_eq_false_iff, Bool.not_eq_true', Bool.not_eq_false', decide_eq_true_eq, decide_eq_false_iff_not, beq_iff_eq, bne_iff_ne, beq_eq_false_iff_ne, bne_eq_false_iff_eq, ne_eq, gt_iff_lt, ge_iff_le, Int.not_lt, Int.not_le] at h12p
    refine wp_skip ?_
    refine n_then ?_
    refine c_reg ?_
    refine r_ok hs m (ok_move rfl) rfl ?_
    clear hs a; intro a hs
    refine r_ok hs m (ok_fieldAddr (r := 2) rfl fd29_2 ty27 rfl) rfl ?_
    clear hs a; intro a hs
    refine r_store (cs' := [vt_Routes.v, vt_Neighs.v, v7.v]) (vs := [v7.v]) hs m rfl rfl ty27 s0 rfl rfl rfl rfl rfl ?_
    clear m w10; intro w20 m
    refine wpList_nil (n_then ?_)
    refine c_reg ?_
    refine r_ok hs m (ok_load_ag (vs := [vt_Routes.v, vt_Neighs.v, v7.v]) rfl ty29 (bx_at r0) rfl rfl) rfl ?_
    clear hs a; intro a hs
    refine r_store (cs' := [vt_Routes.v, vt_Neighs.v, v7.v]) (vs := [vt_Routes.v, vt_Neighs.v, v7.v]) hs m rfl rfl ty29 s2 rfl rfl rfl rfl rfl ?_
    clear m w20; intro w21 m
    refine wpList_nil (n_then ?_)
    refine wp_ret ?_
    refine leave hs (vs := [.agg ⟨[vt_Routes.v, vt_Neighs.v, v7.v]⟩]) rfl ⟨resv_cell (cs := [vt_Routes.v, vt_Neighs.v, v7.v]) m rfl ty29 r2 rfl, trivial⟩ ?_
    have q22 : (accG (fun e => decide (weightM f.MAC < weightM e.MAC)) f (t_Fdbs.take k)).1 = wFdb f t_Fdbs := by first | exact (withG_hit (by assumption) (by assumption)).symm | exact withG_t (by omega) hno hin (by simpa using (by assumption)) | exact withG_f (by omega) hno hin (by simpa using (by assumption))
    rw [q22] at m
    refine ⟨_, rfl, vt_Routes, vt_Neighs, v7, ?_, m.sub (.c r3 (.c r3 (.c r4 .n)))⟩
    rfl
  have h11p := of_decide_eq_true h11
  refine wp_skip ?_
  refine n_then ?_
  refine c_seq ?_
  refine wp_block ?_
  refine c_seq ?_
  refine c_draw m mo (by kernel_rfl) ?_
  refine q_ok hs (ok_fieldAddr (r := 2) rfl fd29_2 ty27 rfl) rfl ?_
  clear hs a; intro a hs
  refine q_ok hs (ok_load_sc rfl ty27 (bx_at r0) rfl) rfl ?_
  clear hs a; intro a hs
  refine q_ok hs (ok_move rfl) rfl ?_
  clear hs a; intro a hs
  obtain ⟨e23, he24⟩ := get_of_lt (l := t_Fdbs) (i := k) (by omega)
  refine elO (c := cFdb) (e := e23) hs m (x := (.tmp 18)) (ix := (.tmp 19)) rfl rfl sl27 ty56 r5 (by omega) he24 fun p25 hp26 ok27 => ?_
  refine q_ok hs (ok27 _ _ _ _ _) rfl ?_
  clear hs a; intro a hs
  refine q_ok hs (ok_fieldAddr (r := 0) rfl fd56_0 ty46 rfl) rfl ?_
  clear hs a; intro a hs
  refine q_ok hs (ok_load_ag (vs := cMAC e23.MAC) rfl ty46 (el_at hp26 r5 (get_map _ he24)) rfl rfl) rfl ?_
  clear hs a; intro a hs
  refine q_ok hs (ok_fieldAddr (r := 0) rfl fd56_0 ty46 rfl) rfl ?_
  clear hs a; intro a hs
  refine q_ok hs (ok_load_ag (vs := cMAC f.MAC) rfl ty46 (bx_at r1) rfl rfl) rfl ?_
  clear hs a; intro a hs
  refine q_ok hs (ok_eqv (b := decide (e23.MAC = f.MAC)) rfl rfl eqT46 (fMAC _) (fMAC _) (iMAC e23.MAC f.MAC)) rfl ?_
  clear hs a; intro a hs
  refine wpQuiet_nil ?_; clear m w10; intro w28 m
  refine c_cond hs rfl (fun h29 => ?_) (fun h29 => ?_)
  · have h29p := of_decide_eq_true h29
    refine c_reg ?_
    refine r_ok hs m (ok_load_ag (vs := [vt_Routes.v, vt_Neighs.v, vt_Fdbs.v]) rfl ty29 (bx_at r0) rfl rfl) rfl ?_
    clear hs a; intro a hs
    refine r_store (cs' := [vt_Routes.v, vt_Neighs.v, vt_Fdbs.v]) (vs := [vt_Routes.v, vt_Neighs.v, vt_Fdbs.v]) hs m rfl rfl ty29 s2 rfl rfl rfl rfl rfl ?_
    clear m w28; intro w30 m
    refine wpList_nil (n_then ?_)
    refine wp_ret ?_
    refine ret_then (ret_block (ret_then (ret_then (ret_block (ret_then (leave hs (vs := [.agg ⟨[vt_Routes.v, vt_Neighs.v, vt_Fdbs.v]⟩]) rfl ⟨resv_cell (cs := [vt_Routes.v, vt_Neighs.v, vt_Fdbs.v]) m rfl ty29 r2 rfl, trivial⟩ ?_))))))
    have q31 : t_Fdbs = wFdb f t_Fdbs := by first | exact (withG_hit (by assumption) (by assumption)).symm | exact withG_t (by omega) hno hin (by simpa using (by assumption)) | exact withG_f (by omega) hno hin (by simpa using (by assumption))
    rw [q31] at m
    refine ⟨_, rfl, vt_Routes, vt_Neighs, vt_Fdbs, ?_, m.sub (.c r3 (.c r3 (.c r3 .n)))⟩
    rfl
  have h29p := of_decide_eq_false h29
  refine wp_skip ?_
  refine n_then ?_
  refine c_reg ?_
  refine r_ok hs m (ok_fieldAddr (r := 0) rfl fd56_0 ty46 rfl) rfl ?_
  clear hs a; intro a hs
  refine r_ok hs m (ok_load_ag (vs := cMAC f.MAC) rfl ty46 (bx_at r1) rfl rfl) rfl ?_
  clear hs a; intro a hs
  refine r_callP hs m rfl rfl ca108 rfl (weight_c f.MAC _  ) rfl ?_
  clear m hs a w28; intro w32 m a hs
  refine r_ok hs m (ok_assign rfl) rfl ?_
  clear hs a; intro a hs
  refine wpList_nil (n_then ?_)
  refine c_reg ?_
  refine r_ok hs m (ok_fieldAddr (r := 2) rfl fd29_2 ty27 rfl) rfl ?_
  clear hs a; intro a hs
  refine r_ok hs m (ok_load_sc rfl ty27 (bx_at r0) rfl) rfl ?_
  clear hs a; intro a hs
  refine r_ok hs m (ok_move rfl) rfl ?_
  clear hs a; intro a hs
  refine elO (c := cFdb) (e := e23) hs m (x := (.tmp 31)) (ix := (.tmp 32)) rfl rfl sl27 ty56 r5 (by omega) he24 fun p33 hp34 ok35 => ?_
  refine r_ok hs m (ok35 _ _ _ _ _) rfl ?_
  clear hs a; intro a hs
  refine r_ok hs m (ok_fieldAddr (r := 0) rfl fd56_0 ty46 rfl) rfl ?_
  clear hs a; intro a hs
  refine r_ok hs m (ok_load_ag (vs := cMAC e23.MAC) rfl ty46 (el_at hp34 r5 (get_map _ he24)) rfl rfl) rfl ?_
  clear hs a; intro a hs
  refine r_callP hs m rfl rfl ca108 rfl (weight_c e23.MAC _  ) rfl ?_
  clear m hs a w32; intro w36 m a hs
  refine r_ok hs m (ok_assign rfl) rfl ?_
  clear hs a; intro a hs
  refine wpList_nil (n_then ?_)
  refine c_seq ?_
  refine c_reg ?_
  refine r_ok hs m (ok_move rfl) rfl ?_
  clear hs a; intro a hs
  refine r_ok hs m (ok_not rfl) rfl ?_
  clear hs a; intro a hs
  refine r_ok hs m (ok_move rfl) rfl ?_
  clear hs a; intro a hs
  refine l_cut (.c (.c (.c (.c (.n))))) (fun a w => St 65 [(2, .pointer (some (padd p1 0))), (3, .pointer (some (padd p3 0))), (4, .pointer (some (padd p5 0))), (5, v7.v), (6, .bool inn), (7, .int .i64 (k : Int)), (43, .bool (!inn && (decide ((weightM f.MAC) < (weightM e23.MAC)))))] a ∧ Hp w0 R [Bx p1 29 [vt_Routes.v, vt_Neighs.v, vt_Fdbs.v], Bx p3 56 (cFdb f), Bx p5 29 [nilH.v, nilH.v, nilH.v], Sv 4 51 vt_Routes.v (t_Routes.map cRoute), Sv 7 54 vt_Neighs.v (t_Neighs.map cNeigh), Sv 7 56 vt_Fdbs.v (t_Fdbs.map cFdb), Sv 7 56 v7.v (((accG (fun e => decide (weightM f.MAC < weightM e.MAC)) f (t_Fdbs.take k)).1).map cFdb)] w) ?_ ?_
  · rcases Bool.eq_false_or_eq_true !inn with hb37 | hb37
    · have hb37p := hb37; simp only [Bool.or_eq_true, Bool.or_eq_false_iff, Bool.and_eq_true, Bool.and_eq_false_iff, Bool.not_eq_true', Bool.not_eq_false', decide_eq_true_eq, decide_eq_false_iff_not, beq_iff_eq, bne_iff_ne, beq_eq_false_iff_ne, bne_eq_false_iff_eq, ne_eq, gt_iff_lt, ge_iff_le, Int.not_lt, Int.not_le] at hb37p
      refine r_okg hs rfl rfl hb37 m (ok_move rfl) rfl ?_
      clear hs a; intro a hs
      refine r_okg hs rfl rfl hb37 m (ok_move rfl) rfl ?_
      clear hs a; intro a hs
      refine r_okg hs rfl rfl hb37 m (ok_bin rfl rfl rfl) rfl ?_
      clear hs a; intro a hs
      refine r_ok hs m (ok_pick (r := .bool (!inn && (decide ((weightM f.MAC) < (weightM e23.MAC))))) rfl rfl rfl (by rw [hb37]; rfl)) rfl ?_
      clear hs a; intro a hs
      exact wpList_nil (n_then ⟨hs.to ⟨rfl, rfl, rfl, rfl, rfl, rfl, rfl, trivial⟩, m⟩)
    · have hb37p := hb37; simp only [Bool.or_eq_true, Bool.or_eq_false_iff, Bool.and_eq_true, Bool.and_eq_false_iff, Bool.not_eq_true', Bool.not_eq_false', decide_eq_true_eq, decide_eq_false_iff_not, beq_iff_eq, bne_iff_ne, beq_eq_false_iff_ne, bne_eq_false_iff_eq, ne_eq, gt_iff_lt, ge_iff_le, Int.not_lt, Int.not_le] at hb37p
      refine g_out hs rfl rfl hb37 rfl ?_
      clear hs a; intro a hs
      refine g_out hs rfl rfl hb37 rfl ?_
      clear hs a; intro a hs
      refine g_out hs rfl rfl hb37 rfl ?_
      clear hs a; intro a hs
      refine r_ok hs m (ok_pick (r := .bool (!inn && (decide ((weightM f.MAC) < (weightM e23.MAC))))) rfl rfl rfl (by rw [hb37]; rfl)) rfl ?_
      clear hs a; intro a hs
      exact wpList_nil (n_then ⟨hs.to ⟨rfl, rfl, rfl, rfl, rfl, rfl, rfl, trivial⟩, m⟩)
  clear hs m a w36; rintro a w38 ⟨hs, m⟩
  refine wpList_nil (n_then ?_)
  refine c_cond hs rfl (fun h39 => ?_) (fun h39 => ?_)
  · have h39p := h39; simp only [Bool.or_eq_true, Bool.or_eq_false_iff, Bool.and_eq_true, Bool.and_eq_false_iff, Bool.not_eq_true', Bool.not_eq_false', decide_eq_true_eq, decide_eq_false_iff_not, beq_iff_eq, bne_iff_ne, beq_eq_false_iff_ne, bne_eq_false_iff_eq, ne_eq, gt_iff_lt, ge_iff_le, Int.not_lt, Int.not_le] at h39p
    refine c_reg ?_
    refine r_ok hs m (ok_move rfl) rfl ?_
    clear hs a; intro a hs
    refine r_ok hs m (ok_load_ag (vs := cFdb f) rfl ty56 (bx_at r1) rfl rfl) rfl ?_
    clear hs a; intro a hs
    refine r_buildM (c := cFdb) (ys := [f]) hs m sl27 ty56 ze56 rfl rfl rfl rfl rfl (fun _ => rfl) rfl rfl rfl ?_
    clear m hs a w38; intro v40 w41 m a hs
    refine r_appendM (c := cFdb) (xs := (accG (fun e => decide (weightM f.MAC < weightM e.MAC)) f (t_Fdbs.take k)).1) (ys := [f]) hs m rfl rfl sl27 ni27 ty56 ze56 rfl by56 rfl r7 (m.rdv r0) (fun _ => rfl) (by first | omega | (simp; done) | (simp; omega)) rfl ?_
    clear m hs a w41; intro v42 w43 m a hs
    refine r_ok hs m (ok_assign rfl) rfl ?_
    clear hs a; intro a hs
    refine wpList_nil (n_then ?_)
    refine c_last ?_
    refine r_ok hs m (ok_assign rfl) rfl ?_
    clear hs a; intro a hs
    refine wpList_nil (n_then ?_)
    refine c_last ?_
    refine r_ok hs m (ok_move rfl) rfl ?_
    clear hs a; intro a hs
    refine r_ok hs m (ok_fieldAddr (r := 2) rfl fd29_2 ty27 rfl) rfl ?_
    clear hs a; intro a hs
    refine r_ok hs m (ok_load_sc rfl ty27 (bx_at r2) rfl) rfl ?_
    clear hs a; intro a hs
    refine r_ok hs m (ok_move rfl) rfl ?_
    clear hs a; intro a hs
    refine elO (c := cFdb) (e := e23) hs m (x := (.tmp 50)) (ix := (.tmp 51)) rfl rfl sl27 ty56 r7 (by omega) he24 fun p44 hp45 ok46 => ?_
    refine r_ok hs m (ok46 _ _ _ _ _) rfl ?_
    clear hs a; intro a hs
    refine r_ok hs m (ok_load_ag (vs := cFdb e23) rfl ty56 (el_at hp45 r7 (get_map _ he24)) rfl rfl) rfl ?_
    clear hs a; intro a hs
    refine r_buildM (c := cFdb) (ys := [e23]) hs m sl27 ty56 ze56 rfl rfl rfl rfl rfl (fun _ => rfl) rfl rfl rfl ?_
    clear m hs a w43; intro v47 w48 m a hs
    refine r_appendM (c := cFdb) (xs := ((accG (fun e => decide (weightM f.MAC < weightM e.MAC)) f (t_Fdbs.take k)).1) ++ [f]) (ys := [e23]) hs m rfl rfl sl27 ni27 ty56 ze56 rfl by56 rfl r1 (m.rdv r0) (fun _ => rfl) (by first | omega | (simp; done) | (simp; omega)) rfl ?_
    clear m hs a w48; intro v49 w50 m a hs
    refine r_ok hs m (ok_assign rfl) rfl ?_
    clear hs a; intro a hs
    refine wpList_nil (n_block (n_then ?_))
    refine c_last ?_
    refine r_ok hs m (ok_move rfl) rfl ?_
    clear hs a; intro a hs
    refine r_ok hs m (ok_add (r := (k : Int) + 1) rfl rfl (wrap_i64 (by omega) (by omega))) rfl ?_
    clear hs a; intro a hs
    refine r_ok hs m (ok_assign rfl) rfl ?_
    clear hs a; intro a hs
    refine wpList_nil (n_then ?_)
    have q51 : ((accG (fun e => decide (weightM f.MAC < weightM e.MAC)) f (t_Fdbs.take k)).1) ++ [f] ++ [e23] = (accG (fun e => decide (weightM f.MAC < weightM e.MAC)) f (t_Fdbs.take (k + 1))).1 := by first | rw [accG_0] | exact accG_eq_t (by assumption) hin (by assumption) | exact accG_eq_f (by assumption) hin (by assumption)
    rw [q51] at m
    exact ⟨t_Fdbs.length - (k + 1), by omega, k + 1, true, v49, by omega, by exact any_succ hno (by assumption) (by assumption), by first | exact accG_in_t (by assumption) hin (by assumption) | exact accG_in_f (by assumption) hin (by assumption), rfl, hs.to ⟨rfl, rfl, rfl, rfl, rfl, rfl, trivial⟩, m.sub (.c r3 (.c r3 (.c r3 (.c r3 (.c r3 (.c r3 (.c r0 .n)))))))⟩
  have h39p := h39; simp only [Bool.or_eq_true, Bool.or_eq_false_iff, Bool.and_eq_true, Bool.and_eq_false_iff, Bool.not_eq_true', Bool.not_eq_false', decide_eq_true_eq, decide_eq_false_iff_not, beq_iff_eq, bne_iff_ne, beq_eq_false_iff_ne, bne_eq_false_iff_eq, ne_eq, gt_iff_lt, ge_iff_le, Int.not_lt, Int.not_le] at h39p
  refine wp_skip ?_
  refine n_then ?_
  refine c_last ?_
  refine r_ok hs m (ok_move rfl) rfl ?_
  clear hs a; intro a hs
  refine r_ok hs m (ok_fieldAddr (r := 2) rfl fd29_2 ty27 rfl) rfl ?_
  clear hs a; intro a hs
  refine r_ok hs m (ok_load_sc rfl ty27 (bx_at r0) rfl) rfl ?_
  clear hs a; intro a hs
  refine r_ok hs m (ok_move rfl) rfl ?_
  clear hs a; intro a hs
  refine elO (c := cFdb) (e := e23) hs m (x := (.tmp 50)) (ix := (.tmp 51)) rfl rfl sl27 ty56 r5 (by omega) he24 fun p52 hp53 ok54 => ?_
  refine r_ok hs m (ok54 _ _ _ _ _) rfl ?_
  clear hs a; intro a hs
  refine r_ok hs m (ok_load_ag (vs := cFdb e23) rfl ty56 (el_at hp53 r5 (get_map _ he24)) rfl rfl) rfl ?_
  clear hs a; intro a hs
  refine r_buildM (c := cFdb) (ys := [e23]) hs m sl27 ty56 ze56 rfl rfl rfl rfl rfl (fun _ => rfl) rfl rfl rfl ?_
  clear m hs a w38; intro v55 w56 m a hs
  refine r_appendM (c := cFdb) (xs := (accG (fun e => decide (weightM f.MAC < weightM e.MAC)) f (t_Fdbs.take k)).1) (ys := [e23]) hs m rfl rfl sl27 ni27 ty56 ze56 rfl by56 rfl r7 (m.rdv r0) (fun _ => rfl) (by first | omega | (simp; done) | (simp; omega)) rfl ?_
  clear m hs a w56; intro v57 w58 m a hs
  refine r_ok hs m (ok_assign rfl) rfl ?_
  clear hs a; intro a hs
  refine wpList_nil (n_block (n_then ?_))
  refine c_last ?_
  refine r_ok hs m (ok_move rfl) rfl ?_
  clear hs a; intro a hs
  refine r_ok hs m (ok_add (r := (k : Int) + 1) rfl rfl (wrap_i64 (by omega) (by omega))) rfl ?_
  clear hs a; intro a hs
  refine r_ok hs m (ok_assign rfl) rfl ?_
  clear hs a; intro a hs
  refine wpList_nil (n_then ?_)
  have q59 : ((accG (fun e => decide (weightM f.MAC < weightM e.MAC)) f (t_Fdbs.take k)).1) ++ [e23] = (accG (fun e => decide (weightM f.MAC < weightM e.MAC)) f (t_Fdbs.take (k + 1))).1 := by first | rw [accG_0] | exact accG_eq_t (by assumption) hin (by assumption) | exact accG_eq_f (by assumption) hin (by assumption)
  rw [q59] at m
  exact ⟨t_Fdbs.length - (k + 1), by omega, k + 1, inn, v57, by omega, by exact any_succ hno (by assumption) (by assumption), by first | exact accG_in_t (by assumption) hin (by assumption) | exact accG_in_f (by assumption) hin (by assumption), rfl, hs.to ⟨rfl, rfl, rfl, rfl, rfl, rfl, trivial⟩, m.sub (.c r2 (.c r2 (.c r2 (.c r2 (.c r2 (.c r2 (.c r0 .n)))))))⟩

end Go.Proofs.YtnbpodjbemfpbaaGreat.Fw
