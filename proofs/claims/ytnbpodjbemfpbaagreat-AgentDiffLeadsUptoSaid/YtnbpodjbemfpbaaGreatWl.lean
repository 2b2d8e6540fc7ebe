/-
  Walks: printed by wip/tool/agent.py.
-/
import Derived.Test.YtnbpodjbemfpbaaGreatWk
import Derived.KernelRfl
set_option linter.all false
set_option maxHeartbeats 4000000
set_option maxRecDepth 100000
namespace Go.Proofs.YtnbpodjbemfpbaaGreat.Fw
open Go
theorem plan_c (vleases : SH) (leases : List TLease) (host : Int) (w0 : World) (hleases : RdS (hh w0) 12 vleases.v (leases.map cLease)) (A1 : leases.length ≤ 2599999999990) : Calls Tryz.prog 12 ⟨[vleases.v, .int .i64 host]⟩ w0 fun e w' => ∃ v, e = .returned v ∧ (∃ x0 : SH, ∃ x1 : SH, ∃ x2 : SH, v = (.agg ⟨[x0.v, x1.v, x2.v]⟩) ∧ Hp w0 (hh w0) [Sv 4 51 x0.v (((planM leases host).R).map cRoute), Sv 7 54 x1.v (((planM leases host).N).map cNeigh), Sv 7 56 x2.v (((planM leases host).F).map cFdb)] w') := by
  have lvleases := hleases.bd
  refine enter (n := 60) Tryz.func12 rfl rfl rfl fun a (hs : St 60 [(0, vleases.v), (1, .int .i64 host)] a) => ?_
  have m := Hp.start w0
  refine c_reg ?_
  refine r_alloc hs m ze29 rfl ?_
  clear m hs a; intro p1 w2 m a hs
  refine wpList_nil (n_then ?_)
  refine c_reg ?_
  refine r_alloc hs m ze29 rfl ?_
  clear m hs a w2; intro p3 w4 m a hs
  refine wpList_nil (n_then ?_)
  refine c_seq ?_
  refine c_reg ?_
  refine r_ok hs m (ok_move rfl) rfl ?_
  clear hs a; intro a hs
  refine r_ok hs m (ok_len (r := (leases.length : Int)) m rfl sl22 (rc_fr hleases) (by simp)) rfl ?_
  clear hs a; intro a hs
  refine r_ok hs m (ok_move rfl) rfl ?_
  clear hs a; intro a hs
  refine wpList_nil (n_then ?_)
  refine wp_block ?_
  replace m := m.nilSvM cRoute 4 51
  have q9 : ([] : List TRoute) = (planK leases host 0).R := by first | rw [planK_0] | rw [planK_inv (by assumption) (by assumption)] | rw [planK_loc (by assumption) (by assumption) (by assumption)] | rw [planK_far (by assumption) (by assumption) (by assumption)]
  rw [q9] at m
  replace m := m.nilSvM cNeigh 7 54
  have q11 : ([] : List TNeigh) = (planK leases host 0).N := by first | rw [planK_0] | rw [planK_inv (by assumption) (by assumption)] | rw [planK_loc (by assumption) (by assumption) (by assumption)] | rw [planK_far (by assumption) (by assumption) (by assumption)]
  rw [q11] at m
  replace m := m.nilSvM cFdb 7 56
  have q13 : ([] : List TFdb) = (planK leases host 0).F := by first | rw [planK_0] | rw [planK_inv (by assumption) (by assumption)] | rw [planK_loc (by assumption) (by assumption) (by assumption)] | rw [planK_far (by assumption) (by assumption) (by assumption)]
  rw [q13] at m
  refine wp_loop_ghost (fun gn a w => ∃ k : Nat, ∃ v5 : SH, ∃ v6 : SH, ∃ v7 : SH, (k ≤ leases.length) ∧ gn = leases.length - k ∧ St 60 [(1, .int .i64 host), (4, .pointer (some (padd p1 0))), (5, .pointer (some (padd p3 0))), (8, vleases.v), (9, .int .i64 (leases.length : Int)), (10, .int .i64 (k : Int))] a ∧ Hp w0 (hh w0) [Bx p1 29 [nilH.v, nilH.v, nilH.v], Bx p3 29 [v5.v, v6.v, v7.v], Sv 4 51 v5.v (((planK leases host k).R).map cRoute), Sv 7 54 v6.v (((planK leases host k).N).map cNeigh), Sv 7 56 v7.v (((planK leases host k).F).map cFdb)] w) (leases.length - 0) ⟨0, nilH, nilH, nilH, by omega, rfl, hs.to ⟨rfl, rfl, rfl, rfl, rfl, rfl, trivial⟩, m.sub (.c r4 (.c r3 (.c r2 (.c r1 (.c r0 .n)))))⟩ ?_
  clear hs m a w4
  rintro gn a w14 ⟨k, v5, v6, v7, hk, rfl, hs, m⟩
  have hal := planK_len leases host k
  refine c_reg ?_
  refine r_ok hs m (ok_bin rfl rfl rfl) rfl ?_
  clear hs a; intro a hs
  refine wpList_nil (n_then ?_)
  refine c_seq ?_
  refine c_cond hs rfl (fun h15 => ?_) (fun h15 => ?_)
  rotate_left
  · have h15p := of_decide_eq_false h15
    refine wp_exit ?_
    refine ex_then (ex_then (ex_hit (?_)))
    refine n_then ?_
    refine c_reg ?_
    refine r_ok hs m (ok_load_ag (vs := [v5.v, v6.v, v7.v]) rfl ty29 (bx_at r1) rfl rfl) rfl ?_
    clear hs a; intro a hs
    refine r_store (cs' := [v5.v, v6.v, v7.v]) (vs := [v5.v, v6.v, v7.v]) hs m rfl rfl ty29 s0 rfl rfl rfl rfl rfl ?_
    clear m w14; intro w16 m
    refine wpList_nil (n_then ?_)
    refine wp_ret ?_
    refine leave hs (vs := [.agg ⟨[v5.v, v6.v, v7.v]⟩]) rfl ⟨resv_cell (cs := [v5.v, v6.v, v7.v]) m rfl ty29 r0 rfl, trivial⟩ ?_
    have q17 : (planK leases host k).R = (planM leases host).R := by rw [planK_end (by omega)]
    rw [q17] at m
    have q18 : (planK leases host k).N = (planM leases host).N := by rw [planK_end (by omega)]
    rw [q18] at m
    have q19 : (planK leases host k).F = (planM leases host).F := by rw [planK_end (by omega)]
    rw [q19] at m
    refine ⟨_, rfl, v5, v6, v7, ?_, m.sub (.c r2 (.c r2 (.c r2 .n)))⟩
    rfl
  have h15p := of_decide_eq_true h15
  refine wp_skip ?_
  refine n_then ?_
  refine c_seq ?_
  refine wp_block ?_
  refine c_reg ?_
  obtain ⟨e20, he21⟩ := get_of_lt (l := leases) (i := k) (by omega)
  refine elF (c := cLease) (e := e20) hs m (x := (.tmp 8)) (ix := (.tmp 10)) rfl rfl sl22 ty48 hleases (by omega) he21 fun p22 hp23 ok24 => ?_
  refine r_ok hs m (ok24 _ _ _ _ _) rfl ?_
  clear hs a; intro a hs
  refine r_ok hs m (ok_load_ag (vs := cLease e20) rfl ty48 (fr_at hp23) rfl rfl) rfl ?_
  clear hs a; intro a hs
  refine r_alloc hs m ze48 rfl ?_
  clear m hs a w14; intro p25 w26 m a hs
  refine r_store (cs' := cLease e20) (vs := cLease e20) hs m rfl rfl ty48 s0 rfl rfl rfl rfl rfl ?_
  clear m w26; intro w27 m
  refine wpList_nil (n_then ?_)
  refine c_seq ?_
  refine c_reg ?_
  refine r_ok hs m (ok_fieldAddr (r := 1) rfl fd48_1 ty44 rfl) rfl ?_
  clear hs a; intro a hs
  refine r_ok hs m (ok_load_ag (vs := cPrefix e20.Subnet) rfl ty44 (bx_at r0) rfl rfl) rfl ?_
  clear hs a; intro a hs
  refine r_callP hs m rfl rfl ca43 rfl (valid_c e20.Subnet _  ) rfl ?_
  clear m hs a w27; intro w28 m a hs
  refine r_ok hs m (ok_not rfl) rfl ?_
  clear hs a; intro a hs
  refine wpList_nil (n_then ?_)
  refine c_cond hs rfl (fun h29 => ?_) (fun h29 => ?_)
  · have h29p := h29; simp only [Bool.or_eq_true, Bool.or_eq_false_iff, Bool.and_eq_true, Bool.and_eq_false_iff, Bool.not_eq_true', Bool.not_eq_false', decide_eq_true_eq, decide_eq_false_iff_not, beq_iff_eq, bne_iff_ne, beq_eq_false_iff_ne, bne_eq_false_iff_eq, ne_eq, gt_iff_lt, ge_iff_le, Int.not_lt, Int.not_le] at h29p
    refine wp_exit ?_
    refine ex_then (ex_hit (?_))
    refine n_then ?_
    refine c_last ?_
    refine r_ok hs m (ok_add (r := (k : Int) + 1) rfl rfl (wrap_i64 (by omega) (by omega))) rfl ?_
    clear hs a; intro a hs
    refine r_ok hs m (ok_move rfl) rfl ?_
    clear hs a; intro a hs
    refine wpList_nil (n_then ?_)
    have q30 : (planK leases host k).R = (planK leases host (k + 1)).R := by first | rw [planK_0] | rw [planK_inv (by assumption) (by assumption)] | rw [planK_loc (by assumption) (by assumption) (by assumption)] | rw [planK_far (by assumption) (by assumption) (by assumption)]
    rw [q30] at m
    have q31 : (planK leases host k).N = (planK leases host (k + 1)).N := by first | rw [planK_0] | rw [planK_inv (by assumption) (by assumption)] | rw [planK_loc (by assumption) (by assumption) (by assumption)] | rw [planK_far (by assumption) (by assumption) (by assumption)]
    rw [q31] at m
    have q32 : (planK leases host k).F = (planK leases host (k + 1)).F := by first | rw [planK_0] | rw [planK_inv (by assumption) (by assumption)] | rw [planK_loc (by assumption) (by assumption) (by assumption)] | rw [planK_far (by assumption) (by assumption) (by assumption)]
    rw [q32] at m
    exact ⟨leases.length - (k + 1), by omega, k + 1, v5, v6, v7, by omega, rfl, hs.to ⟨rfl, rfl, rfl, rfl, rfl, rfl, trivial⟩, m.sub (.c r1 (.c r1 (.c r1 (.c r1 (.c r1 .n)))))⟩
  have h29p := h29; simp only [Bool.or_eq_true, Bool.or_eq_false_iff, Bool.and_eq_true, Bool.and_eq_false_iff, Bool.not_eq_true', Bool.not_eq_false', decide_eq_true_eq, decide_eq_false_iff_not, beq_iff_eq, bne_iff_ne, beq_eq_false_iff_ne, bne_eq_false_iff_eq, ne_eq, gt_iff_lt, ge_iff_le, Int.not_lt, Int.not_le] at h29p
  refine wp_skip ?_
  refine n_then ?_
  refine c_seq ?_
  refine c_reg ?_
  refine r_ok hs m (ok_fieldAddr (r := 0) rfl fd48_0 ty3 rfl) rfl ?_
  clear hs a; intro a hs
  refine r_ok hs m (ok_load_sc rfl ty3 (bx_at r0) rfl) rfl ?_
  clear hs a; intro a hs
  refine r_ok hs m (ok_move rfl) rfl ?_
  clear hs a; intro a hs
  refine r_ok hs m (ok_bin rfl rfl rfl) rfl ?_
  clear hs a; intro a hs
  refine wpList_nil (n_then ?_)
  refine c_cond hs rfl (fun h33 => ?_) (fun h33 => ?_)
  · have h33p := eq_of_beq h33
    refine c_reg ?_
    refine r_ok hs m (ok_fieldAddr (r := 0) rfl fd29_0 ty25 rfl) rfl ?_
    clear hs a; intro a hs
    refine r_ok hs m (ok_load_sc rfl ty25 (bx_at r2) rfl) rfl ?_
    clear hs a; intro a hs
    refine r_ok hs m (ok_fieldAddr (r := 1) rfl fd48_1 ty44 rfl) rfl ?_
    clear hs a; intro a hs
    refine r_ok hs m (ok_load_ag (vs := cPrefix e20.Subnet) rfl ty44 (bx_at r0) rfl rfl) rfl ?_
    clear hs a; intro a hs
    refine r_ok hs m (ok_build (cs := cRoute (⟨e20.Subnet, ⟨0, rfl⟩, true⟩ : TRoute)) st51 ze51 rfl rfl) rfl ?_
    clear hs a; intro a hs
    obtain ⟨R1, hR, hR2, ⟨y1, sy, ly⟩, mc, back⟩ := Hp.split (Pc := [Sv 4 51 v5.v (((planK leases host k).R).map cRoute)]) (Ps := [Bx p25 48 (cLease e20), Bx p1 29 [nilH.v, nilH.v, nilH.v], Bx p3 29 [v5.v, v6.v, v7.v], Sv 7 54 v6.v (((planK leases host k).N).map cNeigh), Sv 7 56 v7.v (((planK leases host k).F).map cFdb)]) (m.sub (.c r3 (.c r0 (.c r0 (.c r0 (.c r0 (.c r0 .n)))))))
    refine r_call hs rfl rfl ca44 rfl (setRoute_c v5 ((planK leases host k).R) (⟨e20.Subnet, ⟨0, rfl⟩, true⟩ : TRoute) _ R1  (by first | omega | rfl | exact bsI_le _ _ | assumption | decide) mc) rfl ?_
    clear hs a; rintro _ w35 ⟨v34, rfl, hm⟩ a hs
    replace m : Hp w0 (hh w0) [Sv 4 51 v34.v ((setM cmpRoute ((planK leases host k).R) (⟨e20.Subnet, ⟨0, rfl⟩, true⟩ : TRoute)).map cRoute), Bx p25 48 (cLease e20), Bx p1 29 [nilH.v, nilH.v, nilH.v], Bx p3 29 [v5.v, v6.v, v7.v], Sv 7 54 v6.v (((planK leases host k).N).map cNeigh), Sv 7 56 v7.v (((planK leases host k).F).map cFdb)] w35 := back _ _ hm
    clear hm back mc sy ly hR2 hR y1 R1 w28
    refine r_ok hs m (ok_fieldAddr (r := 0) rfl fd29_0 ty25 rfl) rfl ?_
    clear hs a; intro a hs
    refine r_store (cs' := [v34.v, v6.v, v7.v]) (vs := [v34.v]) hs m rfl rfl ty25 s3 rfl rfl rfl rfl rfl ?_
    clear m w35; intro w36 m
    refine wpList_nil (n_then ?_)
    refine wp_exit ?_
    refine ex_then (ex_hit (?_))
    refine n_then ?_
    refine c_last ?_
    refine r_ok hs m (ok_add (r := (k : Int) + 1) rfl rfl (wrap_i64 (by omega) (by omega))) rfl ?_
    clear hs a; intro a hs
    refine r_ok hs m (ok_move rfl) rfl ?_
    clear hs a; intro a hs
    refine wpList_nil (n_then ?_)
    have q37 : setM cmpRoute ((planK leases host k).R) (⟨e20.Subnet, ⟨0, rfl⟩, true⟩ : TRoute) = (planK leases host (k + 1)).R := by first | rw [planK_0] | rw [planK_inv (by assumption) (by assumption)] | rw [planK_loc (by assumption) (by assumption) (by assumption)] | rw [planK_far (by assumption) (by assumption) (by assumption)]
    rw [q37] at m
    have q38 : (planK leases host k).N = (planK leases host (k + 1)).N := by first | rw [planK_0] | rw [planK_inv (by assumption) (by assumption)] | rw [planK_loc (by assumption) (by assumption) (by assumption)] | rw [planK_far (by assumption) (by assumption) (by assumption)]
    rw [q38] at m
    have q39 : (planK leases host k).F = (planK leases host (k + 1)).F := by first | rw [planK_0] | rw [planK_inv (by assumption) (by assumption)] | rw [planK_loc (by assumption) (by assumption) (by assumption)] | rw [planK_far (by assumption) (by assumption) (by assumption)]
    rw [q39] at m
    exact ⟨leases.length - (k + 1), by omega, k + 1, v34, v6, v7, by omega, rfl, hs.to ⟨rfl, rfl, rfl, rfl, rfl, rfl, trivial⟩, m.sub (.c r2 (.c r2 (.c r0 (.c r1 (.c r1 .n)))))⟩
  have h33p := ne_of_beq_false h33
  refine wp_skip ?_
  refine n_then ?_
  refine c_reg ?_
  refine r_ok hs m (ok_fieldAddr (r := 0) rfl fd29_0 ty25 rfl) rfl ?_
  clear hs a; intro a hs
  refine r_ok hs m (ok_load_sc rfl ty25 (bx_at r2) rfl) rfl ?_
  clear hs a; intro a hs
  refine r_ok hs m (ok_fieldAddr (r := 1) rfl fd48_1 ty44 rfl) rfl ?_
  clear hs a; intro a hs
  refine r_ok hs m (ok_load_ag (vs := cPrefix e20.Subnet) rfl ty44 (bx_at r0) rfl rfl) rfl ?_
  clear hs a; intro a hs
  refine r_ok hs m (ok_fieldAddr (r := 1) rfl fd48_1 ty44 rfl) rfl ?_
  clear hs a; intro a hs
  refine r_ok hs m (ok_fieldAddr (r := 1) rfl fd44_0 ty42 rfl) rfl ?_
  clear hs a; intro a hs
  refine r_ok hs m (ok_load_sc rfl ty42 (bx_at r0) rfl) rfl ?_
  clear hs a; intro a hs
  refine r_ok hs m (ok_build (cs := cRoute (⟨e20.Subnet, e20.Subnet.Addr, false⟩ : TRoute)) st51 ze51 rfl rfl) rfl ?_
  clear hs a; intro a hs
  obtain ⟨R1, hR, hR2, ⟨y1, sy, ly⟩, mc, back⟩ := Hp.split (Pc := [Sv 4 51 v5.v (((planK leases host k).R).map cRoute)]) (Ps := [Bx p25 48 (cLease e20), Bx p1 29 [nilH.v, nilH.v, nilH.v], Bx p3 29 [v5.v, v6.v, v7.v], Sv 7 54 v6.v (((planK leases host k).N).map cNeigh), Sv 7 56 v7.v (((planK leases host k).F).map cFdb)]) (m.sub (.c r3 (.c r0 (.c r0 (.c r0 (.c r0 (.c r0 .n)))))))
  refine r_call hs rfl rfl ca44 rfl (setRoute_c v5 ((planK leases host k).R) (⟨e20.Subnet, e20.Subnet.Addr, false⟩ : TRoute) _ R1  (by first | omega | rfl | exact bsI_le _ _ | assumption | decide) mc) rfl ?_
  clear hs a; rintro _ w41 ⟨v40, rfl, hm⟩ a hs
  replace m : Hp w0 (hh w0) [Sv 4 51 v40.v ((setM cmpRoute ((planK leases host k).R) (⟨e20.Subnet, e20.Subnet.Addr, false⟩ : TRoute)).map cRoute), Bx p25 48 (cLease e20), Bx p1 29 [nilH.v, nilH.v, nilH.v], Bx p3 29 [v5.v, v6.v, v7.v], Sv 7 54 v6.v (((planK leases host k).N).map cNeigh), Sv 7 56 v7.v (((planK leases host k).F).map cFdb)] w41 := back _ _ hm
  clear hm back mc sy ly hR2 hR y1 R1 w28
  refine r_ok hs m (ok_fieldAddr (r := 0) rfl fd29_0 ty25 rfl) rfl ?_
  clear hs a; intro a hs
  refine r_store (cs' := [v40.v, v6.v, v7.v]) (vs := [v40.v]) hs m rfl rfl ty25 s3 rfl rfl rfl rfl rfl ?_
  clear m w41; intro w42 m
  refine wpList_nil (n_then ?_)
  refine c_reg ?_
  refine r_ok hs m (ok_fieldAddr (r := 1) rfl fd29_1 ty26 rfl) rfl ?_
  clear hs a; intro a hs
  refine r_ok hs m (ok_load_sc rfl ty26 (bx_at r3) rfl) rfl ?_
  clear hs a; intro a hs
  refine r_ok hs m (ok_fieldAddr (r := 1) rfl fd48_1 ty44 rfl) rfl ?_
  clear hs a; intro a hs
  refine r_ok hs m (ok_fieldAddr (r := 1) rfl fd44_0 ty42 rfl) rfl ?_
  clear hs a; intro a hs
  refine r_ok hs m (ok_load_sc rfl ty42 (bx_at r1) rfl) rfl ?_
  clear hs a; intro a hs
  refine r_ok hs m (ok_fieldAddr (r := 4) rfl fd48_3 ty46 rfl) rfl ?_
  clear hs a; intro a hs
  refine r_ok hs m (ok_load_ag (vs := cMAC e20.MAC) rfl ty46 (bx_at r1) rfl rfl) rfl ?_
  clear hs a; intro a hs
  refine r_ok hs m (ok_build (cs := cNeigh (⟨e20.Subnet.Addr, e20.MAC⟩ : TNeigh)) st54 ze54 rfl rfl) rfl ?_
  clear hs a; intro a hs
  obtain ⟨R1, hR, hR2, ⟨y1, sy, ly⟩, mc, back⟩ := Hp.split (Pc := [Sv 7 54 v6.v (((planK leases host k).N).map cNeigh)]) (Ps := [Sv 4 51 v40.v ((setM cmpRoute ((planK leases host k).R) (⟨e20.Subnet, e20.Subnet.Addr, false⟩ : TRoute)).map cRoute), Bx p25 48 (cLease e20), Bx p1 29 [nilH.v, nilH.v, nilH.v], Bx p3 29 [v40.v, v6.v, v7.v], Sv 7 56 v7.v (((planK leases host k).F).map cFdb)]) (m.sub (.c r4 (.c r0 (.c r0 (.c r0 (.c r0 (.c r0 .n)))))))
  refine r_call hs rfl rfl ca46 rfl (setNeigh_c v6 ((planK leases host k).N) (⟨e20.Subnet.Addr, e20.MAC⟩ : TNeigh) _ R1  (by first | omega | rfl | exact bsI_le _ _ | assumption | decide) mc) rfl ?_
  clear hs a; rintro _ w44 ⟨v43, rfl, hm⟩ a hs
  replace m : Hp w0 (hh w0) [Sv 7 54 v43.v ((setM cmpNeigh ((planK leases host k).N) (⟨e20.Subnet.Addr, e20.MAC⟩ : TNeigh)).map cNeigh), Sv 4 51 v40.v ((setM cmpRoute ((planK leases host k).R) (⟨e20.Subnet, e20.Subnet.Addr, false⟩ : TRoute)).map cRoute), Bx p25 48 (cLease e20), Bx p1 29 [nilH.v, nilH.v, nilH.v], Bx p3 29 [v40.v, v6.v, v7.v], Sv 7 56 v7.v (((planK leases host k).F).map cFdb)] w44 := back _ _ hm
  clear hm back mc sy ly hR2 hR y1 R1 w42
  refine r_ok hs m (ok_fieldAddr (r := 1) rfl fd29_1 ty26 rfl) rfl ?_
  clear hs a; intro a hs
  refine r_store (cs' := [v40.v, v43.v, v7.v]) (vs := [v43.v]) hs m rfl rfl ty26 s4 rfl rfl rfl rfl rfl ?_
  clear m w44; intro w45 m
  refine wpList_nil (n_then ?_)
  refine c_last ?_
  refine r_ok hs m (ok_fieldAddr (r := 2) rfl fd29_2 ty27 rfl) rfl ?_
  clear hs a; intro a hs
  refine r_ok hs m (ok_load_sc rfl ty27 (bx_at r4) rfl) rfl ?_
  clear hs a; intro a hs
  refine r_ok hs m (ok_fieldAddr (r := 4) rfl fd48_3 ty46 rfl) rfl ?_
  clear hs a; intro a hs
  refine r_ok hs m (ok_load_ag (vs := cMAC e20.MAC) rfl ty46 (bx_at r2) rfl rfl) rfl ?_
  clear hs a; intro a hs
  refine r_ok hs m (ok_fieldAddr (r := 3) rfl fd48_2 ty42 rfl) rfl ?_
  clear hs a; intro a hs
  refine r_ok hs m (ok_load_sc rfl ty42 (bx_at r2) rfl) rfl ?_
  clear hs a; intro a hs
  refine r_ok hs m (ok_build (cs := cFdb (⟨e20.MAC, e20.Pub⟩ : TFdb)) st56 ze56 rfl rfl) rfl ?_
  clear hs a; intro a hs
  obtain ⟨R1, hR, hR2, ⟨y1, sy, ly⟩, mc, back⟩ := Hp.split (Pc := [Sv 7 56 v7.v (((planK leases host k).F).map cFdb)]) (Ps := [Sv 7 54 v43.v ((setM cmpNeigh ((planK leases host k).N) (⟨e20.Subnet.Addr, e20.MAC⟩ : TNeigh)).map cNeigh), Sv 4 51 v40.v ((setM cmpRoute ((planK leases host k).R) (⟨e20.Subnet, e20.Subnet.Addr, false⟩ : TRoute)).map cRoute), Bx p25 48 (cLease e20), Bx p1 29 [nilH.v, nilH.v, nilH.v], Bx p3 29 [v40.v, v43.v, v7.v]]) (m.sub (.c r5 (.c r0 (.c r0 (.c r0 (.c r0 (.c r0 .n)))))))
  refine r_call hs rfl rfl ca48 rfl (setFdb_c v7 ((planK leases host k).F) (⟨e20.MAC, e20.Pub⟩ : TFdb) _ R1  (by first | omega | rfl | exact bsI_le _ _ | assumption | decide) mc) rfl ?_
  clear hs a; rintro _ w47 ⟨v46, rfl, hm⟩ a hs
  replace m : Hp w0 (hh w0) [Sv 7 56 v46.v ((setM cmpFdb ((planK leases host k).F) (⟨e20.MAC, e20.Pub⟩ : TFdb)).map cFdb), Sv 7 54 v43.v ((setM cmpNeigh ((planK leases host k).N) (⟨e20.Subnet.Addr, e20.MAC⟩ : TNeigh)).map cNeigh), Sv 4 51 v40.v ((setM cmpRoute ((planK leases host k).R) (⟨e20.Subnet, e20.Subnet.Addr, false⟩ : TRoute)).map cRoute), Bx p25 48 (cLease e20), Bx p1 29 [nilH.v, nilH.v, nilH.v], Bx p3 29 [v40.v, v43.v, v7.v]] w47 := back _ _ hm
  clear hm back mc sy ly hR2 hR y1 R1 w45
  refine r_ok hs m (ok_fieldAddr (r := 2) rfl fd29_2 ty27 rfl) rfl ?_
  clear hs a; intro a hs
  refine r_store (cs' := [v40.v, v43.v, v46.v]) (vs := [v46.v]) hs m rfl rfl ty27 s5 rfl rfl rfl rfl rfl ?_
  clear m w47; intro w48 m
  refine wpList_nil (n_block (n_then ?_))
  refine c_last ?_
  refine r_ok hs m (ok_add (r := (k : Int) + 1) rfl rfl (wrap_i64 (by omega) (by omega))) rfl ?_
  clear hs a; intro a hs
  refine r_ok hs m (ok_move rfl) rfl ?_
  clear hs a; intro a hs
  refine wpList_nil (n_then ?_)
  have q49 : setM cmpRoute ((planK leases host k).R) (⟨e20.Subnet, e20.Subnet.Addr, false⟩ : TRoute) = (planK leases host (k + 1)).R := by first | rw [planK_0] | rw [planK_inv (by assumption) (by assumption)] | rw [planK_loc (by assumption) (by assumption) (by assumption)] | rw [planK_far (by assumption) (by assumption) (by assumption)]
  rw [q49] at m
  have q50 : setM cmpNeigh ((planK leases host k).N) (⟨e20.Subnet.Addr, e20.MAC⟩ : TNeigh) = (planK leases host (k + 1)).N := by first | rw [planK_0] | rw [planK_inv (by assumption) (by assumption)] | rw [planK_loc (by assumption) (by assumption) (by assumption)] | rw [planK_far (by assumption) (by assumption) (by assumption)]
  rw [q50] at m
  have q51 : setM cmpFdb ((planK leases host k).F) (⟨e20.MAC, e20.Pub⟩ : TFdb) = (planK leases host (k + 1)).F := by first | rw [planK_0] | rw [planK_inv (by assumption) (by assumption)] | rw [planK_loc (by assumption) (by assumption) (by assumption)] | rw [planK_far (by assumption) (by assumption) (by assumption)]
  rw [q51] at m
  exact ⟨leases.length - (k + 1), by omega, k + 1, v40, v43, v46, by omega, rfl, hs.to ⟨rfl, rfl, rfl, rfl, rfl, rfl, trivial⟩, m.sub (.c r4 (.c r4 (.c r2 (.c r1 (.c r0 .n)))))⟩
end Go.Proofs.YtnbpodjbemfpbaaGreat.Fw
