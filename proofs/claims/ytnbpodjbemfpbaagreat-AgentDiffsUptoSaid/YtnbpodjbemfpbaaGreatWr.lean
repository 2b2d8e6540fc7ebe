/-
  Walks: printed by wip/tool/agent.py.
-/
import Derived.Test.YtnbpodjbemfpbaaGreatWj
import Derived.Test.YtnbpodjbemfpbaaGreatFw17
import Derived.Test.YtnbpodjbemfpbaaGreatPl5
import Derived.KernelRfl
set_option linter.all false
set_option maxHeartbeats 4000000
set_option maxRecDepth 100000
namespace Go.Proofs.YtnbpodjbemfpbaaGreat.Fw
open Go
theorem tablesCopy_c (vt_Routes : SH) (t_Routes : List TRoute) (vt_Neighs : SH) (t_Neighs : List TNeigh) (vt_Fdbs : SH) (t_Fdbs : List TFdb) (w0 : World) (ht_Routes : RdS (hh w0) 4 vt_Routes.v (t_Routes.map cRoute)) (ht_Neighs : RdS (hh w0) 7 vt_Neighs.v (t_Neighs.map cNeigh)) (ht_Fdbs : RdS (hh w0) 7 vt_Fdbs.v (t_Fdbs.map cFdb)) (A0 : t_Routes.length ≤ 16777216) (A1 : t_Neighs.length ≤ 16777216) (A2 : t_Fdbs.length ≤ 16777216) : Calls Tryz.prog 55 ⟨[.agg ⟨[vt_Routes.v, vt_Neighs.v, vt_Fdbs.v]⟩]⟩ w0 fun e w' => ∃ v, e = .returned v ∧ (∃ x0 : SH, ∃ x1 : SH, ∃ x2 : SH, v = (.agg ⟨[x0.v, x1.v, x2.v]⟩) ∧ Hp w0 (hh w0) [Sv 4 51 x0.v (t_Routes.map cRoute), Sv 7 54 x1.v (t_Neighs.map cNeigh), Sv 7 56 x2.v (t_Fdbs.map cFdb)] w') := by
  have lvt_Routes := ht_Routes.bd
  have lvt_Neighs := ht_Neighs.bd
  have lvt_Fdbs := ht_Fdbs.bd
  refine enter (n := 13) Tryz.func55 rfl rfl rfl fun a (hs : St 13 [(0, .agg ⟨[vt_Routes.v, vt_Neighs.v, vt_Fdbs.v]⟩)] a) => ?_
  have m := Hp.start w0
  refine c_reg ?_
  refine r_box (cs := [vt_Routes.v, vt_Neighs.v, vt_Fdbs.v]) hs m rfl rfl rfl ?_
  clear m hs a; intro p1 w2 m a hs
  refine r_alloc hs m ze29 rfl ?_
  clear m hs a w2; intro p3 w4 m a hs
  refine wpList_nil (n_then ?_)
  refine c_drawH (Hp w0 (hh w0) [Bx p1 29 [vt_Routes.v, vt_Neighs.v, vt_Fdbs.v]]) m mo ?_; clear m w4; intro w5 m
  refine h_ok (i := 0) rfl (by kernel_rfl) (by kernel_rfl) (by kernel_rfl) hs (m.sub (.c r1 .n)) (ok_fieldAddr (r := 0) rfl fd29_0 ty25 rfl) rfl ?_
  clear hs a; intro a hs
  refine h_ok (i := 1) rfl (by kernel_rfl) (by kernel_rfl) (by kernel_rfl) hs (m.sub (.c r1 .n)) (ok_load_sc rfl ty25 (bx_at r0) rfl) rfl ?_
  clear hs a; intro a hs
  refine h_ok (i := 3) rfl (by kernel_rfl) (by kernel_rfl) (by kernel_rfl) hs (m.sub (.c r1 .n)) (ok_fieldAddr (r := 1) rfl fd29_1 ty26 rfl) rfl ?_
  clear hs a; intro a hs
  refine h_ok (i := 4) rfl (by kernel_rfl) (by kernel_rfl) (by kernel_rfl) hs (m.sub (.c r1 .n)) (ok_load_sc rfl ty26 (bx_at r0) rfl) rfl ?_
  clear hs a; intro a hs
  refine h_ok (i := 6) rfl (by kernel_rfl) (by kernel_rfl) (by kernel_rfl) hs (m.sub (.c r1 .n)) (ok_fieldAddr (r := 2) rfl fd29_2 ty27 rfl) rfl ?_
  clear hs a; intro a hs
  refine h_ok (i := 7) rfl (by kernel_rfl) (by kernel_rfl) (by kernel_rfl) hs (m.sub (.c r1 .n)) (ok_load_sc rfl ty27 (bx_at r0) rfl) rfl ?_
  clear hs a; intro a hs
  replace m := m.nilSvM cRoute 4 51
  refine h_eff (i := 2) (by kernel_rfl) rfl ?_
  refine r_appendM (c := cRoute) (xs := []) (ys := t_Routes) hs m rfl rfl sl25 ni25 ty51 ze51 rfl by51 rfl r0 (m.rd ht_Routes) (fun _ => rfl) (by first | omega | (simp; done) | (simp; omega)) rfl ?_
  clear m hs a w5; intro v6 w8 m a hs
  refine wpList_nil (n_then ⟨(m.sub (.c r2 .n)), ?_⟩)
  replace m := m.nilSvM cNeigh 7 54
  refine h_eff (i := 5) (by kernel_rfl) rfl ?_
  refine r_appendM (c := cNeigh) (xs := []) (ys := t_Neighs) hs m rfl rfl sl26 ni26 ty54 ze54 rfl by54 rfl r0 (m.rd ht_Neighs) (fun _ => rfl) (by first | omega | (simp; done) | (simp; omega)) rfl ?_
  clear m hs a w8; intro v9 w11 m a hs
  refine wpList_nil (n_then ⟨(m.sub (.c r3 .n)), ?_⟩)
  replace m := m.nilSvM cFdb 7 56
  refine h_eff (i := 8) (by kernel_rfl) rfl ?_
  refine r_appendM (c := cFdb) (xs := []) (ys := t_Fdbs) hs m rfl rfl sl27 ni27 ty56 ze56 rfl by56 rfl r0 (m.rd ht_Fdbs) (fun _ => rfl) (by first | omega | (simp; done) | (simp; omega)) rfl ?_
  clear m hs a w11; intro v12 w14 m a hs
  refine wpList_nil (n_then ⟨(m.sub (.c r4 .n)), ?_⟩)
  refine h_ok (i := 9) rfl (by kernel_rfl) (by kernel_rfl) (by kernel_rfl) hs (m.sub (.c r4 .n)) (ok_build (cs := [v6.v, v9.v, v12.v]) st29 ze29 rfl rfl) rfl ?_
  clear hs a; intro a hs
  refine h_eff (i := 10) (by kernel_rfl) rfl ?_
  refine r_store (cs' := [v6.v, v9.v, v12.v]) (vs := [v6.v, v9.v, v12.v]) hs m rfl rfl ty29 s3 rfl rfl rfl rfl rfl ?_
  clear m w14; intro w15 m
  refine wpList_nil (n_then ⟨(m.sub (.c r4 .n)), ?_⟩)
  refine h_done (by kernel_rfl) (n_then ?_)
  refine wp_ret ?_
  refine leave hs (vs := [.agg ⟨[v6.v, v9.v, v12.v]⟩]) rfl ⟨resv_cell (cs := [v6.v, v9.v, v12.v]) m rfl ty29 r3 rfl, trivial⟩ ?_
  refine ⟨_, rfl, v6, v9, v12, ?_, m.sub (.c r2 (.c r1 (.c r0 .n)))⟩
  rfl
theorem tablesRoomy_c (vt_Routes : SH) (t_Routes : List TRoute) (vt_Neighs : SH) (t_Neighs : List TNeigh) (vt_Fdbs : SH) (t_Fdbs : List TFdb) (w0 : World) (ht_Routes : RdS (hh w0) 4 vt_Routes.v (t_Routes.map cRoute)) (ht_Neighs : RdS (hh w0) 7 vt_Neighs.v (t_Neighs.map cNeigh)) (ht_Fdbs : RdS (hh w0) 7 vt_Fdbs.v (t_Fdbs.map cFdb)) (A0 : t_Routes.length ≤ 16777000) (A1 : t_Neighs.length ≤ 16777000) (A2 : t_Fdbs.length ≤ 16777000) : Calls Tryz.prog 16 ⟨[.agg ⟨[vt_Routes.v, vt_Neighs.v, vt_Fdbs.v]⟩]⟩ w0 fun e w' => ∃ v, e = .returned v ∧ (∃ x0 : SH, ∃ x1 : SH, ∃ x2 : SH, v = (.agg ⟨[x0.v, x1.v, x2.v]⟩) ∧ Hp w0 (hh w0) [Sv 4 51 x0.v ((roomG markR t_Routes 70).map cRoute), Sv 7 54 x1.v ((roomG markN t_Neighs 70).map cNeigh), Sv 7 56 x2.v ((roomG markF t_Fdbs 70).map cFdb)] w') := by
  have lvt_Routes := ht_Routes.bd
  have lvt_Neighs := ht_Neighs.bd
  have lvt_Fdbs := ht_Fdbs.bd
  refine enter (n := 39) Tryz.func16 rfl rfl rfl fun a (hs : St 39 [(0, .agg ⟨[vt_Routes.v, vt_Neighs.v, vt_Fdbs.v]⟩)] a) => ?_
  have m := Hp.start w0
  refine c_reg ?_
  refine r_box (cs := [vt_Routes.v, vt_Neighs.v, vt_Fdbs.v]) hs m rfl rfl rfl ?_
  clear m hs a; intro p1 w2 m a hs
  refine r_alloc hs m ze29 rfl ?_
  clear m hs a w2; intro p3 w4 m a hs
  refine wpList_nil (n_then ?_)
  refine c_reg ?_
  refine r_ok hs m (ok_load_ag (vs := [vt_Routes.v, vt_Neighs.v, vt_Fdbs.v]) rfl ty29 (bx_at r1) rfl rfl) rfl ?_
  clear hs a; intro a hs
  refine r_call hs rfl rfl ca55 rfl (tablesCopy_c vt_Routes t_Routes vt_Neighs t_Neighs vt_Fdbs t_Fdbs _ (m.rd ht_Routes) (m.rd ht_Neighs) (m.rd ht_Fdbs) (by first | omega | rfl | exact bsI_le _ _ | assumption | decide) (by first | omega | rfl | exact bsI_le _ _ | assumption | decide) (by first | omega | rfl | exact bsI_le _ _ | assumption | decide)) rfl ?_
  clear hs a; rintro _ w8 ⟨v5, v6, v7, rfl, hm⟩ a hs
  replace m : Hp w0 (hh w0) [Sv 4 51 v5.v (t_Routes.map cRoute), Sv 7 54 v6.v (t_Neighs.map cNeigh), Sv 7 56 v7.v (t_Fdbs.map cFdb), Bx p3 29 [nilH.v, nilH.v, nilH.v], Bx p1 29 [vt_Routes.v, vt_Neighs.v, vt_Fdbs.v]] w8 := m.after hm
  clear hm w4
  refine r_alloc hs m ze29 rfl ?_
  clear m hs a w8; intro p9 w10 m a hs
  refine r_store (cs' := [v5.v, v6.v, v7.v]) (vs := [v5.v, v6.v, v7.v]) hs m rfl rfl ty29 s0 rfl rfl rfl rfl rfl ?_
  clear m w10; intro w11 m
  refine wpList_nil (n_then ?_)
  refine c_seq ?_
  refine c_reg ?_
  refine r_ok hs m (ok_assign rfl) rfl ?_
  clear hs a; intro a hs
  refine wpList_nil (n_then ?_)
  refine wp_block ?_
  have q15 : t_Routes = roomG markR t_Routes 0 := by first | exact roomG_0 | exact roomG_succ (mk := markR) (by omega) | exact roomG_succ (mk := markN) (by omega) | exact roomG_succ (mk := markF) (by omega)
  rw [q15] at m
  have q16 : t_Neighs = roomG markN t_Neighs 0 := by first | exact roomG_0 | exact roomG_succ (mk := markR) (by omega) | exact roomG_succ (mk := markN) (by omega) | exact roomG_succ (mk := markF) (by omega)
  rw [q16] at m
  have q17 : t_Fdbs = roomG markF t_Fdbs 0 := by first | exact roomG_0 | exact roomG_succ (mk := markR) (by omega) | exact roomG_succ (mk := markN) (by omega) | exact roomG_succ (mk := markF) (by omega)
  rw [q17] at m
  refine wp_loop_ghost (fun gn a w => ∃ k : Nat, ∃ v12 : SH, ∃ v13 : SH, ∃ v14 : SH, (k ≤ 70) ∧ gn = 70 - k ∧ St 39 [(2, .pointer (some (padd p3 0))), (3, .pointer (some (padd p9 0))), (4, .int .i64 (k : Int))] a ∧ Hp w0 (hh w0) [Bx p3 29 [nilH.v, nilH.v, nilH.v], Bx p9 29 [v12.v, v13.v, v14.v], Sv 4 51 v12.v ((roomG markR t_Routes k).map cRoute), Sv 7 54 v13.v ((roomG markN t_Neighs k).map cNeigh), Sv 7 56 v14.v ((roomG markF t_Fdbs k).map cFdb)] w) (70 - 0) ⟨0, v5, v6, v7, by omega, rfl, hs.to ⟨rfl, rfl, rfl, trivial⟩, m.sub (.c r4 (.c r0 (.c r0 (.c r0 (.c r0 .n)))))⟩ ?_
  clear hs m a w11
  rintro gn a w18 ⟨k, v12, v13, v14, hk, rfl, hs, m⟩
  have l1 := roomG_len (mk := markR) (l := t_Routes) (k := k)
  have l2 := roomG_len (mk := markN) (l := t_Neighs) (k := k)
  have l3 := roomG_len (mk := markF) (l := t_Fdbs) (k := k)
  refine c_seq ?_
  refine c_reg ?_
  refine r_ok hs m (ok_move rfl) rfl ?_
  clear hs a; intro a hs
  refine r_ok hs m (ok_bin rfl rfl rfl) rfl ?_
  clear hs a; intro a hs
  refine wpList_nil (n_then ?_)
  refine c_cond hs rfl (fun h19 => ?_) (fun h19 => ?_)
  rotate_left
  · have h19p := of_decide_eq_false h19
    refine wp_exit ?_
    refine ex_then (ex_then (ex_hit (?_)))
    refine n_then ?_
    refine c_reg ?_
    refine r_ok hs m (ok_load_ag (vs := [v12.v, v13.v, v14.v]) rfl ty29 (bx_at r1) rfl rfl) rfl ?_
    clear hs a; intro a hs
    refine r_store (cs' := [v12.v, v13.v, v14.v]) (vs := [v12.v, v13.v, v14.v]) hs m rfl rfl ty29 s0 rfl rfl rfl rfl rfl ?_
    clear m w18; intro w20 m
    refine wpList_nil (n_then ?_)
    refine wp_ret ?_
    refine leave hs (vs := [.agg ⟨[v12.v, v13.v, v14.v]⟩]) rfl ⟨resv_cell (cs := [v12.v, v13.v, v14.v]) m rfl ty29 r0 rfl, trivial⟩ ?_
    have q21 : roomG markR t_Routes k = roomG markR t_Routes 70 := by exact roomG_end (by omega)
    rw [q21] at m
    have q22 : roomG markN t_Neighs k = roomG markN t_Neighs 70 := by exact roomG_end (by omega)
    rw [q22] at m
    have q23 : roomG markF t_Fdbs k = roomG markF t_Fdbs 70 := by exact roomG_end (by omega)
    rw [q23] at m
    refine ⟨_, rfl, v12, v13, v14, ?_, m.sub (.c r2 (.c r2 (.c r2 .n)))⟩
    rfl
  have h19p := of_decide_eq_true h19
  refine wp_skip ?_
  refine n_then ?_
  refine c_seq ?_
  refine wp_block ?_
  refine c_reg ?_
  refine r_ok hs m (ok_fieldAddr (r := 0) rfl fd29_0 ty25 rfl) rfl ?_
  clear hs a; intro a hs
  refine r_ok hs m (ok_load_sc rfl ty25 (bx_at r1) rfl) rfl ?_
  clear hs a; intro a hs
  refine r_ok hs m (ok_move rfl) rfl ?_
  clear hs a; intro a hs
  refine r_ok hs m (ok_add (r := 201 + (k : Int)) rfl rfl (wrap_i64 (by omega) (by omega))) rfl ?_
  clear hs a; intro a hs
  refine r_ok hs m (ok_conv (r := 201 + (k : Int)) rfl in3 in42 (wrap_u32 (by omega) (by omega))) rfl ?_
  clear hs a; intro a hs
  refine r_ok hs m (ok_build (cs := cRoute (⟨(⟨⟨0, rfl⟩, ⟨0, rfl⟩⟩ : TPrefix), ⟨201 + (k : Int), wrap_u32 (by omega) (by omega)⟩, false⟩ : TRoute)) st51 ze51 rfl rfl) rfl ?_
  clear hs a; intro a hs
  refine r_buildM (c := cRoute) (ys := [(⟨(⟨⟨0, rfl⟩, ⟨0, rfl⟩⟩ : TPrefix), ⟨201 + (k : Int), wrap_u32 (by omega) (by omega)⟩, false⟩ : TRoute)]) hs m sl25 ty51 ze51 rfl rfl rfl rfl rfl (fun _ => rfl) rfl rfl rfl ?_
  clear m hs a w18; intro v24 w25 m a hs
  refine r_appendM (c := cRoute) (xs := roomG markR t_Routes k) (ys := [(⟨(⟨⟨0, rfl⟩, ⟨0, rfl⟩⟩ : TPrefix), ⟨201 + (k : Int), wrap_u32 (by omega) (by omega)⟩, false⟩ : TRoute)]) hs m rfl rfl sl25 ni25 ty51 ze51 rfl by51 rfl r3 (m.rdv r0) (fun _ => rfl) (by first | omega | (simp; done) | (simp; omega)) rfl ?_
  clear m hs a w25; intro v26 w27 m a hs
  refine r_ok hs m (ok_fieldAddr (r := 0) rfl fd29_0 ty25 rfl) rfl ?_
  clear hs a; intro a hs
  refine r_store (cs' := [v26.v, v13.v, v14.v]) (vs := [v26.v]) hs m rfl rfl ty25 s3 rfl rfl rfl rfl rfl ?_
  clear m w27; intro w28 m
  refine wpList_nil (n_then ?_)
  refine c_reg ?_
  refine r_ok hs m (ok_fieldAddr (r := 1) rfl fd29_1 ty26 rfl) rfl ?_
  clear hs a; intro a hs
  refine r_ok hs m (ok_load_sc rfl ty26 (bx_at r3) rfl) rfl ?_
  clear hs a; intro a hs
  refine r_ok hs m (ok_move rfl) rfl ?_
  clear hs a; intro a hs
  refine r_ok hs m (ok_add (r := 201 + (k : Int)) rfl rfl (wrap_i64 (by omega) (by omega))) rfl ?_
  clear hs a; intro a hs
  refine r_ok hs m (ok_conv (r := 201 + (k : Int)) rfl in3 in42 (wrap_u32 (by omega) (by omega))) rfl ?_
  clear hs a; intro a hs
  refine r_ok hs m (ok_build (cs := cNeigh (⟨⟨201 + (k : Int), wrap_u32 (by omega) (by omega)⟩, (⟨⟨0, rfl⟩, ⟨0, rfl⟩, ⟨0, rfl⟩, ⟨0, rfl⟩, ⟨0, rfl⟩, ⟨0, rfl⟩⟩ : TMAC)⟩ : TNeigh)) st54 ze54 rfl rfl) rfl ?_
  clear hs a; intro a hs
  refine r_buildM (c := cNeigh) (ys := [(⟨⟨201 + (k : Int), wrap_u32 (by omega) (by omega)⟩, (⟨⟨0, rfl⟩, ⟨0, rfl⟩, ⟨0, rfl⟩, ⟨0, rfl⟩, ⟨0, rfl⟩, ⟨0, rfl⟩⟩ : TMAC)⟩ : TNeigh)]) hs m sl26 ty54 ze54 rfl rfl rfl rfl rfl (fun _ => rfl) rfl rfl rfl ?_
  clear m hs a w28; intro v29 w30 m a hs
  refine r_appendM (c := cNeigh) (xs := roomG markN t_Neighs k) (ys := [(⟨⟨201 + (k : Int), wrap_u32 (by omega) (by omega)⟩, (⟨⟨0, rfl⟩, ⟨0, rfl⟩, ⟨0, rfl⟩, ⟨0, rfl⟩, ⟨0, rfl⟩, ⟨0, rfl⟩⟩ : TMAC)⟩ : TNeigh)]) hs m rfl rfl sl26 ni26 ty54 ze54 rfl by54 rfl r5 (m.rdv r0) (fun _ => rfl) (by first | omega | (simp; done) | (simp; omega)) rfl ?_
  clear m hs a w30; intro v31 w32 m a hs
  refine r_ok hs m (ok_fieldAddr (r := 1) rfl fd29_1 ty26 rfl) rfl ?_
  clear hs a; intro a hs
  refine r_store (cs' := [v26.v, v31.v, v14.v]) (vs := [v31.v]) hs m rfl rfl ty26 s5 rfl rfl rfl rfl rfl ?_
  clear m w32; intro w33 m
  refine wpList_nil (n_then ?_)
  refine c_last ?_
  refine r_ok hs m (ok_fieldAddr (r := 2) rfl fd29_2 ty27 rfl) rfl ?_
  clear hs a; intro a hs
  refine r_ok hs m (ok_load_sc rfl ty27 (bx_at r5) rfl) rfl ?_
  clear hs a; intro a hs
  refine r_ok hs m (ok_move rfl) rfl ?_
  clear hs a; intro a hs
  refine r_ok hs m (ok_add (r := 201 + (k : Int)) rfl rfl (wrap_i64 (by omega) (by omega))) rfl ?_
  clear hs a; intro a hs
  refine r_ok hs m (ok_conv (r := 201 + (k : Int)) rfl in3 in42 (wrap_u32 (by omega) (by omega))) rfl ?_
  clear hs a; intro a hs
  refine r_ok hs m (ok_build (cs := cFdb (⟨(⟨⟨0, rfl⟩, ⟨0, rfl⟩, ⟨0, rfl⟩, ⟨0, rfl⟩, ⟨0, rfl⟩, ⟨0, rfl⟩⟩ : TMAC), ⟨201 + (k : Int), wrap_u32 (by omega) (by omega)⟩⟩ : TFdb)) st56 ze56 rfl rfl) rfl ?_
  clear hs a; intro a hs
  refine r_buildM (c := cFdb) (ys := [(⟨(⟨⟨0, rfl⟩, ⟨0, rfl⟩, ⟨0, rfl⟩, ⟨0, rfl⟩, ⟨0, rfl⟩, ⟨0, rfl⟩⟩ : TMAC), ⟨201 + (k : Int), wrap_u32 (by omega) (by omega)⟩⟩ : TFdb)]) hs m sl27 ty56 ze56 rfl rfl rfl rfl rfl (fun _ => rfl) rfl rfl rfl ?_
  clear m hs a w33; intro v34 w35 m a hs
  refine r_appendM (c := cFdb) (xs := roomG markF t_Fdbs k) (ys := [(⟨(⟨⟨0, rfl⟩, ⟨0, rfl⟩, ⟨0, rfl⟩, ⟨0, rfl⟩, ⟨0, rfl⟩, ⟨0, rfl⟩⟩ : TMAC), ⟨201 + (k : Int), wrap_u32 (by omega) (by omega)⟩⟩ : TFdb)]) hs m rfl rfl sl27 ni27 ty56 ze56 rfl by56 rfl r7 (m.rdv r0) (fun _ => rfl) (by first | omega | (simp; done) | (simp; omega)) rfl ?_
  clear m hs a w35; intro v36 w37 m a hs
  refine r_ok hs m (ok_fieldAddr (r := 2) rfl fd29_2 ty27 rfl) rfl ?_
  clear hs a; intro a hs
  refine r_store (cs' := [v26.v, v31.v, v36.v]) (vs := [v36.v]) hs m rfl rfl ty27 s7 rfl rfl rfl rfl rfl ?_
  clear m w37; intro w38 m
  refine wpList_nil (n_block (n_then ?_))
  refine c_last ?_
  refine r_ok hs m (ok_move rfl) rfl ?_
  clear hs a; intro a hs
  refine r_ok hs m (ok_add (r := (k : Int) + 1) rfl rfl (wrap_i64 (by omega) (by omega))) rfl ?_
  clear hs a; intro a hs
  refine r_ok hs m (ok_assign rfl) rfl ?_
  clear hs a; intro a hs
  refine wpList_nil (n_then ?_)
  have q39 : (roomG markR t_Routes k) ++ [(⟨(⟨⟨0, rfl⟩, ⟨0, rfl⟩⟩ : TPrefix), ⟨201 + (k : Int), wrap_u32 (by omega) (by omega)⟩, false⟩ : TRoute)] = roomG markR t_Routes (k + 1) := by first | exact roomG_0 | exact roomG_succ (mk := markR) (by omega) | exact roomG_succ (mk := markN) (by omega) | exact roomG_succ (mk := markF) (by omega)
  rw [q39] at m
  have q40 : (roomG markN t_Neighs k) ++ [(⟨⟨201 + (k : Int), wrap_u32 (by omega) (by omega)⟩, (⟨⟨0, rfl⟩, ⟨0, rfl⟩, ⟨0, rfl⟩, ⟨0, rfl⟩, ⟨0, rfl⟩, ⟨0, rfl⟩⟩ : TMAC)⟩ : TNeigh)] = roomG markN t_Neighs (k + 1) := by first | exact roomG_0 | exact roomG_succ (mk := markR) (by omega) | exact roomG_succ (mk := markN) (by omega) | exact roomG_succ (mk := markF) (by omega)
  rw [q40] at m
  have q41 : (roomG markF t_Fdbs k) ++ [(⟨(⟨⟨0, rfl⟩, ⟨0, rfl⟩, ⟨0, rfl⟩, ⟨0, rfl⟩, ⟨0, rfl⟩, ⟨0, rfl⟩⟩ : TMAC), ⟨201 + (k : Int), wrap_u32 (by omega) (by omega)⟩⟩ : TFdb)] = roomG markF t_Fdbs (k + 1) := by first | exact roomG_0 | exact roomG_succ (mk := markR) (by omega) | exact roomG_succ (mk := markN) (by omega) | exact roomG_succ (mk := markF) (by omega)
  rw [q41] at m
  exact ⟨70 - (k + 1), by omega, k + 1, v26, v31, v36, by omega, rfl, hs.to ⟨rfl, rfl, rfl, trivial⟩, m.sub (.c r6 (.c r6 (.c r4 (.c r2 (.c r0 .n)))))⟩
theorem cut_c (vt_Routes : SH) (t_Routes : List TRoute) (vt_Neighs : SH) (t_Neighs : List TNeigh) (vt_Fdbs : SH) (t_Fdbs : List TFdb) (w0 : World) (ht_Routes : RdS (hh w0) 4 vt_Routes.v (t_Routes.map cRoute)) (ht_Neighs : RdS (hh w0) 7 vt_Neighs.v (t_Neighs.map cNeigh)) (ht_Fdbs : RdS (hh w0) 7 vt_Fdbs.v (t_Fdbs.map cFdb)) (A0 : 70 ≤ t_Routes.length) (A1 : 70 ≤ t_Neighs.length) (A2 : 70 ≤ t_Fdbs.length) : Pure Tryz.prog 18 [.agg ⟨[vt_Routes.v, vt_Neighs.v, vt_Fdbs.v]⟩] (.agg ⟨[(subH3 4 vt_Routes 0 (t_Routes.length - 70) t_Routes.length).v, (subH3 7 vt_Neighs 0 (t_Neighs.length - 70) t_Neighs.length).v, (subH3 7 vt_Fdbs 0 (t_Fdbs.length - 70) t_Fdbs.length).v]⟩) w0 := by
  have lvt_Routes := ht_Routes.bd
  have lvt_Neighs := ht_Neighs.bd
  have lvt_Fdbs := ht_Fdbs.bd
  refine enter (n := 34) Tryz.func18 rfl rfl rfl fun a (hs : St 34 [(0, .agg ⟨[vt_Routes.v, vt_Neighs.v, vt_Fdbs.v]⟩)] a) => ?_
  have m := Hp.start w0
  refine c_reg ?_
  refine r_box (cs := [vt_Routes.v, vt_Neighs.v, vt_Fdbs.v]) hs m rfl rfl rfl ?_
  clear m hs a; intro p1 w2 m a hs
  refine r_alloc hs m ze29 rfl ?_
  clear m hs a w2; intro p3 w4 m a hs
  refine wpList_nil (n_then ?_)
  refine c_drawH (Hp w0 (hh w0) [Bx p1 29 [vt_Routes.v, vt_Neighs.v, vt_Fdbs.v]]) m mo ?_; clear m w4; intro w5 m
  refine h_ok (i := 0) rfl (by kernel_rfl) (by kernel_rfl) (by kernel_rfl) hs (m.sub (.c r1 .n)) (ok_fieldAddr (r := 0) rfl fd29_0 ty25 rfl) rfl ?_
  clear hs a; intro a hs
  refine h_ok (i := 1) rfl (by kernel_rfl) (by kernel_rfl) (by kernel_rfl) hs (m.sub (.c r1 .n)) (ok_load_sc rfl ty25 (bx_at r0) rfl) rfl ?_
  clear hs a; intro a hs
  refine h_ok (i := 2) rfl (by kernel_rfl) (by kernel_rfl) (by kernel_rfl) hs (m.sub (.c r1 .n)) (ok_fieldAddr (r := 0) rfl fd29_0 ty25 rfl) rfl ?_
  clear hs a; intro a hs
  refine h_ok (i := 3) rfl (by kernel_rfl) (by kernel_rfl) (by kernel_rfl) hs (m.sub (.c r1 .n)) (ok_load_sc rfl ty25 (bx_at r0) rfl) rfl ?_
  clear hs a; intro a hs
  refine h_ok (i := 4) rfl (by kernel_rfl) (by kernel_rfl) (by kernel_rfl) hs (m.sub (.c r1 .n)) (ok_len (r := (t_Routes.length : Int)) (m.sub (.c r1 .n)) rfl sl25 (rc_fr ht_Routes) (by simp)) rfl ?_
  clear hs a; intro a hs
  refine h_ok (i := 5) rfl (by kernel_rfl) (by kernel_rfl) (by kernel_rfl) hs (m.sub (.c r1 .n)) (ok_sub (r := ((t_Routes.length - 70 : Nat) : Int)) rfl rfl (by rw [wrap_i64 (by omega) (by omega)]; omega)) rfl ?_
  clear hs a; intro a hs
  refine h_ok (i := 6) rfl (by kernel_rfl) (by kernel_rfl) (by kernel_rfl) hs (m.sub (.c r1 .n)) (ok_fieldAddr (r := 0) rfl fd29_0 ty25 rfl) rfl ?_
  clear hs a; intro a hs
  refine h_ok (i := 7) rfl (by kernel_rfl) (by kernel_rfl) (by kernel_rfl) hs (m.sub (.c r1 .n)) (ok_load_sc rfl ty25 (bx_at r0) rfl) rfl ?_
  clear hs a; intro a hs
  refine h_ok (i := 8) rfl (by kernel_rfl) (by kernel_rfl) (by kernel_rfl) hs (m.sub (.c r1 .n)) (ok_len (r := (t_Routes.length : Int)) (m.sub (.c r1 .n)) rfl sl25 (rc_fr ht_Routes) (by simp)) rfl ?_
  clear hs a; intro a hs
  have hc6 := ((m.rd ht_Routes)).ncapM
  have hf7 : RdS (hh w0) 4 (subH3 4 vt_Routes 0 (t_Routes.length - 70) t_Routes.length).v ((t_Routes.take (t_Routes.length - 70)).map cRoute) := ht_Routes.win (by omega) (by omega) (by omega) (by omega) (by simp)
  refine h_ok (i := 9) rfl (by kernel_rfl) (by kernel_rfl) (by kernel_rfl) hs (m.sub (.c r1 .n)) (ok_sliceH (i := 0) (j := (t_Routes.length - 70)) (c := t_Routes.length) rfl sl25 ty51 rfl ⟨_, rfl⟩ ⟨_, rfl⟩ (fun h => by cases h) (by omega) (by omega) (by omega)) rfl ?_
  clear hs a; intro a hs
  refine h_ok (i := 10) rfl (by kernel_rfl) (by kernel_rfl) (by kernel_rfl) hs (m.sub (.c r1 .n)) (ok_fieldAddr (r := 1) rfl fd29_1 ty26 rfl) rfl ?_
  clear hs a; intro a hs
  refine h_ok (i := 11) rfl (by kernel_rfl) (by kernel_rfl) (by kernel_rfl) hs (m.sub (.c r1 .n)) (ok_load_sc rfl ty26 (bx_at r0) rfl) rfl ?_
  clear hs a; intro a hs
  refine h_ok (i := 12) rfl (by kernel_rfl) (by kernel_rfl) (by kernel_rfl) hs (m.sub (.c r1 .n)) (ok_fieldAddr (r := 1) rfl fd29_1 ty26 rfl) rfl ?_
  clear hs a; intro a hs
  refine h_ok (i := 13) rfl (by kernel_rfl) (by kernel_rfl) (by kernel_rfl) hs (m.sub (.c r1 .n)) (ok_load_sc rfl ty26 (bx_at r0) rfl) rfl ?_
  clear hs a; intro a hs
  refine h_ok (i := 14) rfl (by kernel_rfl) (by kernel_rfl) (by kernel_rfl) hs (m.sub (.c r1 .n)) (ok_len (r := (t_Neighs.length : Int)) (m.sub (.c r1 .n)) rfl sl26 (rc_fr ht_Neighs) (by simp)) rfl ?_
  clear hs a; intro a hs
  refine h_ok (i := 15) rfl (by kernel_rfl) (by kernel_rfl) (by kernel_rfl) hs (m.sub (.c r1 .n)) (ok_sub (r := ((t_Neighs.length - 70 : Nat) : Int)) rfl rfl (by rw [wrap_i64 (by omega) (by omega)]; omega)) rfl ?_
  clear hs a; intro a hs
  refine h_ok (i := 16) rfl (by kernel_rfl) (by kernel_rfl) (by kernel_rfl) hs (m.sub (.c r1 .n)) (ok_fieldAddr (r := 1) rfl fd29_1 ty26 rfl) rfl ?_
  clear hs a; intro a hs
  refine h_ok (i := 17) rfl (by kernel_rfl) (by kernel_rfl) (by kernel_rfl) hs (m.sub (.c r1 .n)) (ok_load_sc rfl ty26 (bx_at r0) rfl) rfl ?_
  clear hs a; intro a hs
  refine h_ok (i := 18) rfl (by kernel_rfl) (by kernel_rfl) (by kernel_rfl) hs (m.sub (.c r1 .n)) (ok_len (r := (t_Neighs.length : Int)) (m.sub (.c r1 .n)) rfl sl26 (rc_fr ht_Neighs) (by simp)) rfl ?_
  clear hs a; intro a hs
  have hc8 := ((m.rd ht_Neighs)).ncapM
  have hf9 : RdS (hh w0) 7 (subH3 7 vt_Neighs 0 (t_Neighs.length - 70) t_Neighs.length).v ((t_Neighs.take (t_Neighs.length - 70)).map cNeigh) := ht_Neighs.win (by omega) (by omega) (by omega) (by omega) (by simp)
  refine h_ok (i := 19) rfl (by kernel_rfl) (by kernel_rfl) (by kernel_rfl) hs (m.sub (.c r1 .n)) (ok_sliceH (i := 0) (j := (t_Neighs.length - 70)) (c := t_Neighs.length) rfl sl26 ty54 rfl ⟨_, rfl⟩ ⟨_, rfl⟩ (fun h => by cases h) (by omega) (by omega) (by omega)) rfl ?_
  clear hs a; intro a hs
  refine h_ok (i := 20) rfl (by kernel_rfl) (by kernel_rfl) (by kernel_rfl) hs (m.sub (.c r1 .n)) (ok_fieldAddr (r := 2) rfl fd29_2 ty27 rfl) rfl ?_
  clear hs a; intro a hs
  refine h_ok (i := 21) rfl (by kernel_rfl) (by kernel_rfl) (by kernel_rfl) hs (m.sub (.c r1 .n)) (ok_load_sc rfl ty27 (bx_at r0) rfl) rfl ?_
  clear hs a; intro a hs
  refine h_ok (i := 22) rfl (by kernel_rfl) (by kernel_rfl) (by kernel_rfl) hs (m.sub (.c r1 .n)) (ok_fieldAddr (r := 2) rfl fd29_2 ty27 rfl) rfl ?_
  clear hs a; intro a hs
  refine h_ok (i := 23) rfl (by kernel_rfl) (by kernel_rfl) (by kernel_rfl) hs (m.sub (.c r1 .n)) (ok_load_sc rfl ty27 (bx_at r0) rfl) rfl ?_
  clear hs a; intro a hs
  refine h_ok (i := 24) rfl (by kernel_rfl) (by kernel_rfl) (by kernel_rfl) hs (m.sub (.c r1 .n)) (ok_len (r := (t_Fdbs.length : Int)) (m.sub (.c r1 .n)) rfl sl27 (rc_fr ht_Fdbs) (by simp)) rfl ?_
  clear hs a; intro a hs
  refine h_ok (i := 25) rfl (by kernel_rfl) (by kernel_rfl) (by kernel_rfl) hs (m.sub (.c r1 .n)) (ok_sub (r := ((t_Fdbs.length - 70 : Nat) : Int)) rfl rfl (by rw [wrap_i64 (by omega) (by omega)]; omega)) rfl ?_
  clear hs a; intro a hs
  refine h_ok (i := 26) rfl (by kernel_rfl) (by kernel_rfl) (by kernel_rfl) hs (m.sub (.c r1 .n)) (ok_fieldAddr (r := 2) rfl fd29_2 ty27 rfl) rfl ?_
  clear hs a; intro a hs
  refine h_ok (i := 27) rfl (by kernel_rfl) (by kernel_rfl) (by kernel_rfl) hs (m.sub (.c r1 .n)) (ok_load_sc rfl ty27 (bx_at r0) rfl) rfl ?_
  clear hs a; intro a hs
  refine h_ok (i := 28) rfl (by kernel_rfl) (by kernel_rfl) (by kernel_rfl) hs (m.sub (.c r1 .n)) (ok_len (r := (t_Fdbs.length : Int)) (m.sub (.c r1 .n)) rfl sl27 (rc_fr ht_Fdbs) (by simp)) rfl ?_
  clear hs a; intro a hs
  have hc10 := ((m.rd ht_Fdbs)).ncapM
  have hf11 : RdS (hh w0) 7 (subH3 7 vt_Fdbs 0 (t_Fdbs.length - 70) t_Fdbs.length).v ((t_Fdbs.take (t_Fdbs.length - 70)).map cFdb) := ht_Fdbs.win (by omega) (by omega) (by omega) (by omega) (by simp)
  refine h_ok (i := 29) rfl (by kernel_rfl) (by kernel_rfl) (by kernel_rfl) hs (m.sub (.c r1 .n)) (ok_sliceH (i := 0) (j := (t_Fdbs.length - 70)) (c := t_Fdbs.length) rfl sl27 ty56 rfl ⟨_, rfl⟩ ⟨_, rfl⟩ (fun h => by cases h) (by omega) (by omega) (by omega)) rfl ?_
  clear hs a; intro a hs
  refine h_ok (i := 30) rfl (by kernel_rfl) (by kernel_rfl) (by kernel_rfl) hs (m.sub (.c r1 .n)) (ok_build (cs := [(subH3 4 vt_Routes 0 (t_Routes.length - 70) t_Routes.length).v, (subH3 7 vt_Neighs 0 (t_Neighs.length - 70) t_Neighs.length).v, (subH3 7 vt_Fdbs 0 (t_Fdbs.length - 70) t_Fdbs.length).v]) st29 ze29 rfl rfl) rfl ?_
  clear hs a; intro a hs
  refine h_eff (i := 31) (by kernel_rfl) rfl ?_
  refine r_store (cs' := [(subH3 4 vt_Routes 0 (t_Routes.length - 70) t_Routes.length).v, (subH3 7 vt_Neighs 0 (t_Neighs.length - 70) t_Neighs.length).v, (subH3 7 vt_Fdbs 0 (t_Fdbs.length - 70) t_Fdbs.length).v]) (vs := [(subH3 4 vt_Routes 0 (t_Routes.length - 70) t_Routes.length).v, (subH3 7 vt_Neighs 0 (t_Neighs.length - 70) t_Neighs.length).v, (subH3 7 vt_Fdbs 0 (t_Fdbs.length - 70) t_Fdbs.length).v]) hs m rfl rfl ty29 s0 rfl rfl rfl rfl rfl ?_
  clear m w5; intro w12 m
  refine wpList_nil (n_then ⟨(m.sub (.c r1 .n)), ?_⟩)
  refine h_done (by kernel_rfl) (n_then ?_)
  refine wp_ret ?_
  refine leave hs (vs := [.agg ⟨[(subH3 4 vt_Routes 0 (t_Routes.length - 70) t_Routes.length).v, (subH3 7 vt_Neighs 0 (t_Neighs.length - 70) t_Neighs.length).v, (subH3 7 vt_Fdbs 0 (t_Fdbs.length - 70) t_Fdbs.length).v]⟩]) rfl ⟨resv_cell (cs := [(subH3 4 vt_Routes 0 (t_Routes.length - 70) t_Routes.length).v, (subH3 7 vt_Neighs 0 (t_Neighs.length - 70) t_Neighs.length).v, (subH3 7 vt_Fdbs 0 (t_Fdbs.length - 70) t_Fdbs.length).v]) m rfl ty29 r0 rfl, trivial⟩ ?_
  refine ⟨?_, m.sub .n⟩
  rfl
end Go.Proofs.YtnbpodjbemfpbaaGreat.Fw
