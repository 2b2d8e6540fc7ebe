/-
  Walks: printed by wip/tool/agent.py.
-/
import Derived.Test.YtnbpodjbemfpbaaGreatWo
import Derived.Test.YtnbpodjbemfpbaaGreatWq
import Derived.Test.YtnbpodjbemfpbaaGreatWr
import Derived.Test.YtnbpodjbemfpbaaGreatWb
import Derived.KernelRfl
set_option linter.all false
set_option maxHeartbeats 4000000
set_option maxRecDepth 100000
namespace Go.Proofs.YtnbpodjbemfpbaaGreat.Fw
open Go
theorem agentDiffs_c (vhave_Routes : SH) (have_Routes : List TRoute) (vhave_Neighs : SH) (have_Neighs : List TNeigh) (vhave_Fdbs : SH) (have_Fdbs : List TFdb) (vwant_Routes : SH) (want_Routes : List TRoute) (vwant_Neighs : SH) (want_Neighs : List TNeigh) (vwant_Fdbs : SH) (want_Fdbs : List TFdb) (w0 : World) (hhave_Routes : RdS (hh w0) 4 vhave_Routes.v (have_Routes.map cRoute)) (hhave_Neighs : RdS (hh w0) 7 vhave_Neighs.v (have_Neighs.map cNeigh)) (hhave_Fdbs : RdS (hh w0) 7 vhave_Fdbs.v (have_Fdbs.map cFdb)) (hwant_Routes : RdS (hh w0) 4 vwant_Routes.v (want_Routes.map cRoute)) (hwant_Neighs : RdS (hh w0) 7 vwant_Neighs.v (want_Neighs.map cNeigh)) (hwant_Fdbs : RdS (hh w0) 7 vwant_Fdbs.v (want_Fdbs.map cFdb)) (A0 : have_Routes.length ≤ 1048576) (A1 : have_Neighs.length ≤ 1048576) (A2 : have_Fdbs.length ≤ 1048576) (A3 : want_Routes.length ≤ 1048576) (A4 : want_Neighs.length ≤ 1048576) (A5 : want_Fdbs.length ≤ 1048576) : Pure Tryz.prog 4 [.agg ⟨[vhave_Routes.v, vhave_Neighs.v, vhave_Fdbs.v]⟩, .agg ⟨[vwant_Routes.v, vwant_Neighs.v, vwant_Fdbs.v]⟩] (.bool true) w0 := by
  have l0 := roomG_len (mk := markR) (l := have_Routes) (k := 70)
  have l1 := roomG_len (mk := markN) (l := have_Neighs) (k := 70)
  have l2 := roomG_len (mk := markF) (l := have_Fdbs) (k := 70)
  have l3 := roomG_len (mk := markR) (l := want_Routes) (k := 70)
  have l4 := roomG_len (mk := markN) (l := want_Neighs) (k := 70)
  have l5 := roomG_len (mk := markF) (l := want_Fdbs) (k := 70)
  have lvhave_Routes := hhave_Routes.bd
  have lvhave_Neighs := hhave_Neighs.bd
  have lvhave_Fdbs := hhave_Fdbs.bd
  have lvwant_Routes := hwant_Routes.bd
  have lvwant_Neighs := hwant_Neighs.bd
  have lvwant_Fdbs := hwant_Fdbs.bd
  refine enter (n := 53) Tryz.func4 rfl rfl rfl fun a (hs : St 53 [(0, .agg ⟨[vhave_Routes.v, vhave_Neighs.v, vhave_Fdbs.v]⟩), (1, .agg ⟨[vwant_Routes.v, vwant_Neighs.v, vwant_Fdbs.v]⟩)] a) => ?_
  have m := Hp.start w0
  refine c_reg ?_
  refine r_box (cs := [vhave_Routes.v, vhave_Neighs.v, vhave_Fdbs.v]) hs m rfl rfl rfl ?_
  clear m hs a; intro p1 w2 m a hs
  refine r_box (cs := [vwant_Routes.v, vwant_Neighs.v, vwant_Fdbs.v]) hs m rfl rfl rfl ?_
  clear m hs a w2; intro p3 w4 m a hs
  refine r_ok hs m (ok_assign rfl) rfl ?_
  clear hs a; intro a hs
  refine wpList_nil (n_then ?_)
  refine c_reg ?_
  refine r_callP hs m rfl rfl ca10 rfl (begun_c  _  ) rfl ?_
  clear m hs a w4; intro w5 m a hs
  refine r_ok hs m (ok_assign rfl) rfl ?_
  clear hs a; intro a hs
  refine wpList_nil (n_then ?_)
  refine c_seq ?_
  refine c_reg ?_
  refine r_ok hs m (ok_move rfl) rfl ?_
  clear hs a; intro a hs
  refine r_ok hs m (ok_not rfl) rfl ?_
  clear hs a; intro a hs
  refine wpList_nil (n_then ?_)
  refine c_false hs rfl rfl ?_
  refine wp_skip ?_
  refine n_then ?_
  refine c_reg ?_
  refine r_ok hs m (ok_load_ag (vs := [vhave_Routes.v, vhave_Neighs.v, vhave_Fdbs.v]) rfl ty29 (bx_at r1) rfl rfl) rfl ?_
  clear hs a; intro a hs
  refine r_call hs rfl rfl ca16 rfl (tablesRoomy_c vhave_Routes have_Routes vhave_Neighs have_Neighs vhave_Fdbs have_Fdbs _ (m.rd hhave_Routes) (m.rd hhave_Neighs) (m.rd hhave_Fdbs) (by first | omega | rfl | exact bsI_le _ _ | assumption | decide) (by first | omega | rfl | exact bsI_le _ _ | assumption | decide) (by first | omega | rfl | exact bsI_le _ _ | assumption | decide)) rfl ?_
  clear hs a; rintro _ w10 ⟨v7, v8, v9, rfl, hm⟩ a hs
  replace m : Hp w0 (hh w0) [Sv 4 51 v7.v ((roomG markR have_Routes 70).map cRoute), Sv 7 54 v8.v ((roomG markN have_Neighs 70).map cNeigh), Sv 7 56 v9.v ((roomG markF have_Fdbs 70).map cFdb), Bx p3 29 [vwant_Routes.v, vwant_Neighs.v, vwant_Fdbs.v], Bx p1 29 [vhave_Routes.v, vhave_Neighs.v, vhave_Fdbs.v]] w10 := m.after hm
  clear hm w5
  have hc11 := (m.rdv r0).ncapM
  have hc12 := (m.rdv r1).ncapM
  have hc13 := (m.rdv r2).ncapM
  refine r_alloc hs m ze29 rfl ?_
  clear m hs a w10; intro p14 w15 m a hs
  refine r_store (cs' := [v7.v, v8.v, v9.v]) (vs := [v7.v, v8.v, v9.v]) hs m rfl rfl ty29 s0 rfl rfl rfl rfl rfl ?_
  clear m w15; intro w16 m
  refine wpList_nil (n_then ?_)
  refine c_reg ?_
  refine r_ok hs m (ok_load_ag (vs := [vwant_Routes.v, vwant_Neighs.v, vwant_Fdbs.v]) rfl ty29 (bx_at r4) rfl rfl) rfl ?_
  clear hs a; intro a hs
  refine r_call hs rfl rfl ca16 rfl (tablesRoomy_c vwant_Routes want_Routes vwant_Neighs want_Neighs vwant_Fdbs want_Fdbs _ (m.rd hwant_Routes) (m.rd hwant_Neighs) (m.rd hwant_Fdbs) (by first | omega | rfl | exact bsI_le _ _ | assumption | decide) (by first | omega | rfl | exact bsI_le _ _ | assumption | decide) (by first | omega | rfl | exact bsI_le _ _ | assumption | decide)) rfl ?_
  clear hs a; rintro _ w20 ⟨v17, v18, v19, rfl, hm⟩ a hs
  replace m : Hp w0 (hh w0) [Sv 4 51 v17.v ((roomG markR want_Routes 70).map cRoute), Sv 7 54 v18.v ((roomG markN want_Neighs 70).map cNeigh), Sv 7 56 v19.v ((roomG markF want_Fdbs 70).map cFdb), Bx p14 29 [v7.v, v8.v, v9.v], Sv 4 51 v7.v ((roomG markR have_Routes 70).map cRoute), Sv 7 54 v8.v ((roomG markN have_Neighs 70).map cNeigh), Sv 7 56 v9.v ((roomG markF have_Fdbs 70).map cFdb), Bx p3 29 [vwant_Routes.v, vwant_Neighs.v, vwant_Fdbs.v], Bx p1 29 [vhave_Routes.v, vhave_Neighs.v, vhave_Fdbs.v]] w20 := m.after hm
  clear hm w16
  have hc21 := (m.rdv r0).ncapM
  have hc22 := (m.rdv r1).ncapM
  have hc23 := (m.rdv r2).ncapM
  refine r_alloc hs m ze29 rfl ?_
  clear m hs a w20; intro p24 w25 m a hs
  refine r_store (cs' := [v17.v, v18.v, v19.v]) (vs := [v17.v, v18.v, v19.v]) hs m rfl rfl ty29 s0 rfl rfl rfl rfl rfl ?_
  clear m w25; intro w26 m
  refine wpList_nil (n_then ?_)
  refine c_drawH (Hp w0 (hh w0) [Bx p24 29 [v17.v, v18.v, v19.v], Sv 4 51 v17.v ((roomG markR want_Routes 70).map cRoute), Sv 7 54 v18.v ((roomG markN want_Neighs 70).map cNeigh), Sv 7 56 v19.v ((roomG markF want_Fdbs 70).map cFdb), Bx p14 29 [v7.v, v8.v, v9.v], Sv 4 51 v7.v ((roomG markR have_Routes 70).map cRoute), Sv 7 54 v8.v ((roomG markN have_Neighs 70).map cNeigh), Sv 7 56 v9.v ((roomG markF have_Fdbs 70).map cFdb), Bx p3 29 [vwant_Routes.v, vwant_Neighs.v, vwant_Fdbs.v], Bx p1 29 [vhave_Routes.v, vhave_Neighs.v, vhave_Fdbs.v]]) m mo ?_; clear m w26; intro w27 m
  refine h_ok (i := 0) rfl (by kernel_rfl) (by kernel_rfl) (by kernel_rfl) hs (m.sub (.c r0 (.c r0 (.c r0 (.c r0 (.c r0 (.c r0 (.c r0 (.c r0 (.c r0 (.c r0 .n))))))))))) (ok_load_ag (vs := [v7.v, v8.v, v9.v]) rfl ty29 (bx_at r4) rfl rfl) rfl ?_
  clear hs a; intro a hs
  refine h_ok (i := 2) rfl (by kernel_rfl) (by kernel_rfl) (by kernel_rfl) hs (m.sub (.c r0 (.c r0 (.c r0 (.c r0 (.c r0 (.c r0 (.c r0 (.c r0 (.c r0 (.c r0 .n))))))))))) (ok_load_ag (vs := [v17.v, v18.v, v19.v]) rfl ty29 (bx_at r0) rfl rfl) rfl ?_
  clear hs a; intro a hs
  refine h_eff (i := 1) (by kernel_rfl) rfl ?_
  refine r_callP hs m rfl rfl ca18 rfl (cut_c v7 (roomG markR have_Routes 70) v8 (roomG markN have_Neighs 70) v9 (roomG markF have_Fdbs 70) _ (m.rdv r5) (m.rdv r6) (m.rdv r7) (by omega) (by omega) (by omega)) rfl ?_
  clear m hs a w27; intro w28 m a hs
  refine wpList_nil (n_then ⟨(m.sub (.c r0 (.c r0 (.c r0 (.c r0 (.c r0 (.c r0 (.c r0 (.c r0 (.c r0 (.c r0 .n))))))))))), ?_⟩)
  refine h_eff (i := 3) (by kernel_rfl) rfl ?_
  refine r_callP hs m rfl rfl ca18 rfl (cut_c v17 (roomG markR want_Routes 70) v18 (roomG markN want_Neighs 70) v19 (roomG markF want_Fdbs 70) _ (m.rdv r1) (m.rdv r2) (m.rdv r3) (by omega) (by omega) (by omega)) rfl ?_
  clear m hs a w28; intro w29 m a hs
  refine wpList_nil (n_then ⟨(m.sub (.c r0 (.c r0 (.c r0 (.c r0 (.c r0 (.c r0 (.c r0 (.c r0 (.c r0 (.c r0 .n))))))))))), ?_⟩)
  refine h_eff (i := 4) (by kernel_rfl) rfl ?_
  refine r_call hs rfl rfl ca17 rfl (diff_c (subH3 4 v7 0 ((roomG markR have_Routes 70).length - 70) (roomG markR have_Routes 70).length) have_Routes (subH3 7 v8 0 ((roomG markN have_Neighs 70).length - 70) (roomG markN have_Neighs 70).length) have_Neighs (subH3 7 v9 0 ((roomG markF have_Fdbs 70).length - 70) (roomG markF have_Fdbs 70).length) have_Fdbs (subH3 4 v17 0 ((roomG markR want_Routes 70).length - 70) (roomG markR want_Routes 70).length) want_Routes (subH3 7 v18 0 ((roomG markN want_Neighs 70).length - 70) (roomG markN want_Neighs 70).length) want_Neighs (subH3 7 v19 0 ((roomG markF want_Fdbs 70).length - 70) (roomG markF want_Fdbs 70).length) want_Fdbs _ ((m.rdv r5).win (lo := 0) (hi := ((roomG markR have_Routes 70).length - 70)) (mx := (roomG markR have_Routes 70).length) (ys := have_Routes) (by omega) (by omega) (by omega) (by omega) (by simp [roomG])) ((m.rdv r6).win (lo := 0) (hi := ((roomG markN have_Neighs 70).length - 70)) (mx := (roomG markN have_Neighs 70).length) (ys := have_Neighs) (by omega) (by omega) (by omega) (by omega) (by simp [roomG])) ((m.rdv r7).win (lo := 0) (hi := ((roomG markF have_Fdbs 70).length - 70)) (mx := (roomG markF have_Fdbs 70).length) (ys := have_Fdbs) (by omega) (by omega) (by omega) (by omega) (by simp [roomG])) ((m.rdv r1).win (lo := 0) (hi := ((roomG markR want_Routes 70).length - 70)) (mx := (roomG markR want_Routes 70).length) (ys := want_Routes) (by omega) (by omega) (by omega) (by omega) (by simp [roomG])) ((m.rdv r2).win (lo := 0) (hi := ((roomG markN want_Neighs 70).length - 70)) (mx := (roomG markN want_Neighs 70).length) (ys := want_Neighs) (by omega) (by omega) (by omega) (by omega) (by simp [roomG])) ((m.rdv r3).win (lo := 0) (hi := ((roomG markF want_Fdbs 70).length - 70)) (mx := (roomG markF want_Fdbs 70).length) (ys := want_Fdbs) (by omega) (by omega) (by omega) (by omega) (by simp [roomG])) (by first | omega | rfl | exact bsI_le _ _ | assumption | decide) (by first | omega | rfl | exact bsI_le _ _ | assumption | decide) (by first | omega | rfl | exact bsI_le _ _ | assumption | decide) (by first | omega | rfl | exact bsI_le _ _ | assumption | decide) (by first | omega | rfl | exact bsI_le _ _ | assumption | decide) (by first | omega | rfl | exact bsI_le _ _ | assumption | decide)) rfl ?_
  clear hs a; rintro _ w31 ⟨v30, rfl, hm⟩ a hs
  replace m : Hp w0 (hh w0) [Sv 19 58 v30.v ((diffM have_Routes have_Neighs have_Fdbs want_Routes want_Neighs want_Fdbs).map cOp), Bx p24 29 [v17.v, v18.v, v19.v], Sv 4 51 v17.v ((roomG markR want_Routes 70).map cRoute), Sv 7 54 v18.v ((roomG markN want_Neighs 70).map cNeigh), Sv 7 56 v19.v ((roomG markF want_Fdbs 70).map cFdb), Bx p14 29 [v7.v, v8.v, v9.v], Sv 4 51 v7.v ((roomG markR have_Routes 70).map cRoute), Sv 7 54 v8.v ((roomG markN have_Neighs 70).map cNeigh), Sv 7 56 v9.v ((roomG markF have_Fdbs 70).map cFdb), Bx p3 29 [vwant_Routes.v, vwant_Neighs.v, vwant_Fdbs.v], Bx p1 29 [vhave_Routes.v, vhave_Neighs.v, vhave_Fdbs.v]] w31 := m.after hm
  clear hm w29
  refine wpList_nil (n_then ⟨(m.sub (.c r1 (.c r1 (.c r1 (.c r1 (.c r1 (.c r1 (.c r1 (.c r1 (.c r1 (.c r1 .n))))))))))), ?_⟩)
  refine h_ok (i := 5) rfl (by kernel_rfl) (by kernel_rfl) (by kernel_rfl) hs (m.sub (.c r1 (.c r1 (.c r1 (.c r1 (.c r1 (.c r1 (.c r1 (.c r1 (.c r1 (.c r1 .n))))))))))) (ok_move rfl) rfl ?_
  clear hs a; intro a hs
  refine h_ok (i := 6) rfl (by kernel_rfl) (by kernel_rfl) (by kernel_rfl) hs (m.sub (.c r1 (.c r1 (.c r1 (.c r1 (.c r1 (.c r1 (.c r1 (.c r1 (.c r1 (.c r1 .n))))))))))) (ok_extract rfl rfl) rfl ?_
  clear hs a; intro a hs
  refine h_ok (i := 7) rfl (by kernel_rfl) (by kernel_rfl) (by kernel_rfl) hs (m.sub (.c r1 (.c r1 (.c r1 (.c r1 (.c r1 (.c r1 (.c r1 (.c r1 (.c r1 (.c r1 .n))))))))))) (ok_extract rfl rfl) rfl ?_
  clear hs a; intro a hs
  refine h_ok (i := 8) rfl (by kernel_rfl) (by kernel_rfl) (by kernel_rfl) hs (m.sub (.c r1 (.c r1 (.c r1 (.c r1 (.c r1 (.c r1 (.c r1 (.c r1 (.c r1 (.c r1 .n))))))))))) (ok_assign rfl) rfl ?_
  clear hs a; intro a hs
  refine h_ok (i := 9) rfl (by kernel_rfl) (by kernel_rfl) (by kernel_rfl) hs (m.sub (.c r1 (.c r1 (.c r1 (.c r1 (.c r1 (.c r1 (.c r1 (.c r1 (.c r1 (.c r1 .n))))))))))) (ok_assign rfl) rfl ?_
  clear hs a; intro a hs
  refine h_done (by kernel_rfl) (n_then ?_)
  refine c_reg ?_
  refine r_ok hs m (ok_load_ag (vs := [vhave_Routes.v, vhave_Neighs.v, vhave_Fdbs.v]) rfl ty29 (bx_at r10) rfl rfl) rfl ?_
  clear hs a; intro a hs
  refine r_ok hs m (ok_load_ag (vs := [vwant_Routes.v, vwant_Neighs.v, vwant_Fdbs.v]) rfl ty29 (bx_at r9) rfl rfl) rfl ?_
  clear hs a; intro a hs
  refine r_call hs rfl rfl ca19 rfl (diffR_c vhave_Routes have_Routes vhave_Neighs have_Neighs vhave_Fdbs have_Fdbs vwant_Routes want_Routes vwant_Neighs want_Neighs vwant_Fdbs want_Fdbs _ (m.rd hhave_Routes) (m.rd hhave_Neighs) (m.rd hhave_Fdbs) (m.rd hwant_Routes) (m.rd hwant_Neighs) (m.rd hwant_Fdbs) (by first | omega | rfl | exact bsI_le _ _ | assumption | decide) (by first | omega | rfl | exact bsI_le _ _ | assumption | decide) (by first | omega | rfl | exact bsI_le _ _ | assumption | decide) (by first | omega | rfl | exact bsI_le _ _ | assumption | decide) (by first | omega | rfl | exact bsI_le _ _ | assumption | decide) (by first | omega | rfl | exact bsI_le _ _ | assumption | decide)) rfl ?_
  clear hs a; rintro _ w33 ⟨v32, rfl, hm⟩ a hs
  replace m : Hp w0 (hh w0) [Sv 19 58 v32.v ((diffRM have_Routes have_Neighs have_Fdbs want_Routes want_Neighs want_Fdbs).map cOp), Sv 19 58 v30.v ((diffM have_Routes have_Neighs have_Fdbs want_Routes want_Neighs want_Fdbs).map cOp), Bx p24 29 [v17.v, v18.v, v19.v], Sv 4 51 v17.v ((roomG markR want_Routes 70).map cRoute), Sv 7 54 v18.v ((roomG markN want_Neighs 70).map cNeigh), Sv 7 56 v19.v ((roomG markF want_Fdbs 70).map cFdb), Bx p14 29 [v7.v, v8.v, v9.v], Sv 4 51 v7.v ((roomG markR have_Routes 70).map cRoute), Sv 7 54 v8.v ((roomG markN have_Neighs 70).map cNeigh), Sv 7 56 v9.v ((roomG markF have_Fdbs 70).map cFdb), Bx p3 29 [vwant_Routes.v, vwant_Neighs.v, vwant_Fdbs.v], Bx p1 29 [vhave_Routes.v, vhave_Neighs.v, vhave_Fdbs.v]] w33 := m.after hm
  clear hm w31
  refine r_ok hs m (ok_move rfl) rfl ?_
  clear hs a; intro a hs
  refine r_ok hs m (ok_extract rfl rfl) rfl ?_
  clear hs a; intro a hs
  refine r_ok hs m (ok_extract rfl rfl) rfl ?_
  clear hs a; intro a hs
  refine r_ok hs m (ok_assign rfl) rfl ?_
  clear hs a; intro a hs
  refine r_ok hs m (ok_assign rfl) rfl ?_
  clear hs a; intro a hs
  refine wpList_nil (n_then ?_)
  refine c_drawH (Hp w0 (hh w0) [Sv 19 58 v32.v ((diffRM have_Routes have_Neighs have_Fdbs want_Routes want_Neighs want_Fdbs).map cOp), Sv 19 58 v30.v ((diffM have_Routes have_Neighs have_Fdbs want_Routes want_Neighs want_Fdbs).map cOp), Bx p24 29 [v17.v, v18.v, v19.v], Sv 4 51 v17.v ((roomG markR want_Routes 70).map cRoute), Sv 7 54 v18.v ((roomG markN want_Neighs 70).map cNeigh), Sv 7 56 v19.v ((roomG markF want_Fdbs 70).map cFdb), Bx p14 29 [v7.v, v8.v, v9.v], Sv 4 51 v7.v ((roomG markR have_Routes 70).map cRoute), Sv 7 54 v8.v ((roomG markN have_Neighs 70).map cNeigh), Sv 7 56 v9.v ((roomG markF have_Fdbs 70).map cFdb), Bx p3 29 [vwant_Routes.v, vwant_Neighs.v, vwant_Fdbs.v], Bx p1 29 [vhave_Routes.v, vhave_Neighs.v, vhave_Fdbs.v]]) m mo ?_; clear m w33; intro w34 m
  refine h_ok (i := 0) rfl (by kernel_rfl) (by kernel_rfl) (by kernel_rfl) hs (m.sub (.c r0 (.c r0 (.c r0 (.c r0 (.c r0 (.c r0 (.c r0 (.c r0 (.c r0 (.c r0 (.c r0 (.c r0 .n))))))))))))) (ok_move rfl) rfl ?_
  clear hs a; intro a hs
  refine h_ok (i := 1) rfl (by kernel_rfl) (by kernel_rfl) (by kernel_rfl) hs (m.sub (.c r0 (.c r0 (.c r0 (.c r0 (.c r0 (.c r0 (.c r0 (.c r0 (.c r0 (.c r0 (.c r0 (.c r0 .n))))))))))))) (ok_move rfl) rfl ?_
  clear hs a; intro a hs
  refine h_ok (i := 2) rfl (by kernel_rfl) (by kernel_rfl) (by kernel_rfl) hs (m.sub (.c r0 (.c r0 (.c r0 (.c r0 (.c r0 (.c r0 (.c r0 (.c r0 (.c r0 (.c r0 (.c r0 (.c r0 .n))))))))))))) (ok_bin rfl rfl rfl) rfl ?_
  clear hs a; intro a hs
  refine h_ok (i := 3) rfl (by kernel_rfl) (by kernel_rfl) (by kernel_rfl) hs (m.sub (.c r0 (.c r0 (.c r0 (.c r0 (.c r0 (.c r0 (.c r0 (.c r0 (.c r0 (.c r0 (.c r0 (.c r0 .n))))))))))))) (ok_move rfl) rfl ?_
  clear hs a; intro a hs
  have hb35 : ((diffE have_Routes have_Neighs have_Fdbs want_Routes want_Neighs want_Fdbs) == (diffRE have_Routes have_Neighs have_Fdbs want_Routes want_Neighs want_Fdbs)) = true := by simp [diffE_eq]
  refine h_okg (i := 4) rfl (by kernel_rfl) (by kernel_rfl) (by kernel_rfl) hs (m.sub (.c r0 (.c r0 (.c r0 (.c r0 (.c r0 (.c r0 (.c r0 (.c r0 (.c r0 (.c r0 (.c r0 (.c r0 .n))))))))))))) rfl rfl hb35 (ok_move rfl) rfl ?_
  clear hs a; intro a hs
  refine h_okg (i := 5) rfl (by kernel_rfl) (by kernel_rfl) (by kernel_rfl) hs (m.sub (.c r0 (.c r0 (.c r0 (.c r0 (.c r0 (.c r0 (.c r0 (.c r0 (.c r0 (.c r0 (.c r0 (.c r0 .n))))))))))))) rfl rfl hb35 (ok_move rfl) rfl ?_
  clear hs a; intro a hs
  refine h_eff (i := 6) (by kernel_rfl) rfl ?_
  refine g_strip hs rfl rfl hb35 ?_
  refine r_callP hs m rfl rfl ca20 rfl (sameOps_c v30 (diffM have_Routes have_Neighs have_Fdbs want_Routes want_Neighs want_Fdbs) v32 (diffRM have_Routes have_Neighs have_Fdbs want_Routes want_Neighs want_Fdbs) _ (m.rdv r1) (m.rdv r0) ) rfl ?_
  clear m hs a w34; intro w36 m a hs
  refine wpList_nil (n_then ⟨(m.sub (.c r0 (.c r0 (.c r0 (.c r0 (.c r0 (.c r0 (.c r0 (.c r0 (.c r0 (.c r0 (.c r0 (.c r0 .n))))))))))))), ?_⟩)
  refine h_ok (i := 7) rfl (by kernel_rfl) (by kernel_rfl) (by kernel_rfl) hs (m.sub (.c r0 (.c r0 (.c r0 (.c r0 (.c r0 (.c r0 (.c r0 (.c r0 (.c r0 (.c r0 (.c r0 (.c r0 .n))))))))))))) (ok_pick (r := .bool (decide (diffM have_Routes have_Neighs have_Fdbs want_Routes want_Neighs want_Fdbs = diffRM have_Routes have_Neighs have_Fdbs want_Routes want_Neighs want_Fdbs))) rfl rfl rfl (by rw [hb35]; rfl)) rfl ?_
  clear hs a; intro a hs
  refine h_ok (i := 8) rfl (by kernel_rfl) (by kernel_rfl) (by kernel_rfl) hs (m.sub (.c r0 (.c r0 (.c r0 (.c r0 (.c r0 (.c r0 (.c r0 (.c r0 (.c r0 (.c r0 (.c r0 (.c r0 .n))))))))))))) (ok_move rfl) rfl ?_
  clear hs a; intro a hs
  have hb37 : (decide (diffM have_Routes have_Neighs have_Fdbs want_Routes want_Neighs want_Fdbs = diffRM have_Routes have_Neighs have_Fdbs want_Routes want_Neighs want_Fdbs)) = true := by simp [diffM_eq]
  refine h_okg (i := 9) rfl (by kernel_rfl) (by kernel_rfl) (by kernel_rfl) hs (m.sub (.c r0 (.c r0 (.c r0 (.c r0 (.c r0 (.c r0 (.c r0 (.c r0 (.c r0 (.c r0 (.c r0 (.c r0 .n))))))))))))) rfl rfl hb37 (ok_load_ag (vs := [v7.v, v8.v, v9.v]) rfl ty29 (bx_at r6) rfl rfl) rfl ?_
  clear hs a; intro a hs
  refine h_okg (i := 10) rfl (by kernel_rfl) (by kernel_rfl) (by kernel_rfl) hs (m.sub (.c r0 (.c r0 (.c r0 (.c r0 (.c r0 (.c r0 (.c r0 (.c r0 (.c r0 (.c r0 (.c r0 (.c r0 .n))))))))))))) rfl rfl hb37 (ok_load_ag (vs := [vhave_Routes.v, vhave_Neighs.v, vhave_Fdbs.v]) rfl ty29 (bx_at r11) rfl rfl) rfl ?_
  clear hs a; intro a hs
  refine h_eff (i := 11) (by kernel_rfl) rfl ?_
  refine g_strip hs rfl rfl hb37 ?_
  refine r_call hs rfl rfl ca16 rfl (tablesRoomy_c vhave_Routes have_Routes vhave_Neighs have_Neighs vhave_Fdbs have_Fdbs _ (m.rd hhave_Routes) (m.rd hhave_Neighs) (m.rd hhave_Fdbs) (by first | omega | rfl | exact bsI_le _ _ | assumption | decide) (by first | omega | rfl | exact bsI_le _ _ | assumption | decide) (by first | omega | rfl | exact bsI_le _ _ | assumption | decide)) rfl ?_
  clear hs a; rintro _ w41 ⟨v38, v39, v40, rfl, hm⟩ a hs
  replace m : Hp w0 (hh w0) [Sv 4 51 v38.v ((roomG markR have_Routes 70).map cRoute), Sv 7 54 v39.v ((roomG markN have_Neighs 70).map cNeigh), Sv 7 56 v40.v ((roomG markF have_Fdbs 70).map cFdb), Sv 19 58 v32.v ((diffRM have_Routes have_Neighs have_Fdbs want_Routes want_Neighs want_Fdbs).map cOp), Sv 19 58 v30.v ((diffM have_Routes have_Neighs have_Fdbs want_Routes want_Neighs want_Fdbs).map cOp), Bx p24 29 [v17.v, v18.v, v19.v], Sv 4 51 v17.v ((roomG markR want_Routes 70).map cRoute), Sv 7 54 v18.v ((roomG markN want_Neighs 70).map cNeigh), Sv 7 56 v19.v ((roomG markF want_Fdbs 70).map cFdb), Bx p14 29 [v7.v, v8.v, v9.v], Sv 4 51 v7.v ((roomG markR have_Routes 70).map cRoute), Sv 7 54 v8.v ((roomG markN have_Neighs 70).map cNeigh), Sv 7 56 v9.v ((roomG markF have_Fdbs 70).map cFdb), Bx p3 29 [vwant_Routes.v, vwant_Neighs.v, vwant_Fdbs.v], Bx p1 29 [vhave_Routes.v, vhave_Neighs.v, vhave_Fdbs.v]] w41 := m.after hm
  clear hm w36
  have hc42 := (m.rdv r0).ncapM
  have hc43 := (m.rdv r1).ncapM
  have hc44 := (m.rdv r2).ncapM
  refine wpList_nil (n_then ⟨(m.sub (.c r3 (.c r3 (.c r3 (.c r3 (.c r3 (.c r3 (.c r3 (.c r3 (.c r3 (.c r3 (.c r3 (.c r3 .n))))))))))))), ?_⟩)
  refine h_eff (i := 12) (by kernel_rfl) rfl ?_
  refine g_strip hs rfl rfl hb37 ?_
  refine r_callP hs m rfl rfl ca14 rfl (sameTables_c v7 (roomG markR have_Routes 70) v8 (roomG markN have_Neighs 70) v9 (roomG markF have_Fdbs 70) v38 (roomG markR have_Routes 70) v39 (roomG markN have_Neighs 70) v40 (roomG markF have_Fdbs 70) _ (m.rdv r10) (m.rdv r11) (m.rdv r12) (m.rdv r0) (m.rdv r1) (m.rdv r2) ) rfl ?_
  clear m hs a w41; intro w45 m a hs
  refine wpList_nil (n_then ⟨(m.sub (.c r3 (.c r3 (.c r3 (.c r3 (.c r3 (.c r3 (.c r3 (.c r3 (.c r3 (.c r3 (.c r3 (.c r3 .n))))))))))))), ?_⟩)
  refine h_ok (i := 13) rfl (by kernel_rfl) (by kernel_rfl) (by kernel_rfl) hs (m.sub (.c r3 (.c r3 (.c r3 (.c r3 (.c r3 (.c r3 (.c r3 (.c r3 (.c r3 (.c r3 (.c r3 (.c r3 .n))))))))))))) (ok_pick (r := .bool (decide ((roomG markR have_Routes 70) = (roomG markR have_Routes 70) ∧ (roomG markN have_Neighs 70) = (roomG markN have_Neighs 70) ∧ (roomG markF have_Fdbs 70) = (roomG markF have_Fdbs 70)))) rfl rfl rfl (by rw [hb37]; rfl)) rfl ?_
  clear hs a; intro a hs
  refine h_ok (i := 14) rfl (by kernel_rfl) (by kernel_rfl) (by kernel_rfl) hs (m.sub (.c r3 (.c r3 (.c r3 (.c r3 (.c r3 (.c r3 (.c r3 (.c r3 (.c r3 (.c r3 (.c r3 (.c r3 .n))))))))))))) (ok_move rfl) rfl ?_
  clear hs a; intro a hs
  have hb46 : (decide ((roomG markR have_Routes 70) = (roomG markR have_Routes 70) ∧ (roomG markN have_Neighs 70) = (roomG markN have_Neighs 70) ∧ (roomG markF have_Fdbs 70) = (roomG markF have_Fdbs 70))) = true := by simp
  refine h_okg (i := 15) rfl (by kernel_rfl) (by kernel_rfl) (by kernel_rfl) hs (m.sub (.c r3 (.c r3 (.c r3 (.c r3 (.c r3 (.c r3 (.c r3 (.c r3 (.c r3 (.c r3 (.c r3 (.c r3 .n))))))))))))) rfl rfl hb46 (ok_load_ag (vs := [v17.v, v18.v, v19.v]) rfl ty29 (bx_at r2) rfl rfl) rfl ?_
  clear hs a; intro a hs
  refine h_okg (i := 16) rfl (by kernel_rfl) (by kernel_rfl) (by kernel_rfl) hs (m.sub (.c r3 (.c r3 (.c r3 (.c r3 (.c r3 (.c r3 (.c r3 (.c r3 (.c r3 (.c r3 (.c r3 (.c r3 .n))))))))))))) rfl rfl hb46 (ok_load_ag (vs := [vwant_Routes.v, vwant_Neighs.v, vwant_Fdbs.v]) rfl ty29 (bx_at r10) rfl rfl) rfl ?_
  clear hs a; intro a hs
  refine h_eff (i := 17) (by kernel_rfl) rfl ?_
  refine g_strip hs rfl rfl hb46 ?_
  refine r_call hs rfl rfl ca16 rfl (tablesRoomy_c vwant_Routes want_Routes vwant_Neighs want_Neighs vwant_Fdbs want_Fdbs _ (m.rd hwant_Routes) (m.rd hwant_Neighs) (m.rd hwant_Fdbs) (by first | omega | rfl | exact bsI_le _ _ | assumption | decide) (by first | omega | rfl | exact bsI_le _ _ | assumption | decide) (by first | omega | rfl | exact bsI_le _ _ | assumption | decide)) rfl ?_
  clear hs a; rintro _ w50 ⟨v47, v48, v49, rfl, hm⟩ a hs
  replace m : Hp w0 (hh w0) [Sv 4 51 v47.v ((roomG markR want_Routes 70).map cRoute), Sv 7 54 v48.v ((roomG markN want_Neighs 70).map cNeigh), Sv 7 56 v49.v ((roomG markF want_Fdbs 70).map cFdb), Sv 4 51 v38.v ((roomG markR have_Routes 70).map cRoute), Sv 7 54 v39.v ((roomG markN have_Neighs 70).map cNeigh), Sv 7 56 v40.v ((roomG markF have_Fdbs 70).map cFdb), Sv 19 58 v32.v ((diffRM have_Routes have_Neighs have_Fdbs want_Routes want_Neighs want_Fdbs).map cOp), Sv 19 58 v30.v ((diffM have_Routes have_Neighs have_Fdbs want_Routes want_Neighs want_Fdbs).map cOp), Bx p24 29 [v17.v, v18.v, v19.v], Sv 4 51 v17.v ((roomG markR want_Routes 70).map cRoute), Sv 7 54 v18.v ((roomG markN want_Neighs 70).map cNeigh), Sv 7 56 v19.v ((roomG markF want_Fdbs 70).map cFdb), Bx p14 29 [v7.v, v8.v, v9.v], Sv 4 51 v7.v ((roomG markR have_Routes 70).map cRoute), Sv 7 54 v8.v ((roomG markN have_Neighs 70).map cNeigh), Sv 7 56 v9.v ((roomG markF have_Fdbs 70).map cFdb), Bx p3 29 [vwant_Routes.v, vwant_Neighs.v, vwant_Fdbs.v], Bx p1 29 [vhave_Routes.v, vhave_Neighs.v, vhave_Fdbs.v]] w50 := m.after hm
  clear hm w45
  have hc51 := (m.rdv r0).ncapM
  have hc52 := (m.rdv r1).ncapM
  have hc53 := (m.rdv r2).ncapM
  refine wpList_nil (n_then ⟨(m.sub (.c r6 (.c r6 (.c r6 (.c r6 (.c r6 (.c r6 (.c r6 (.c r6 (.c r6 (.c r6 (.c r6 (.c r6 .n))))))))))))), ?_⟩)
  refine h_eff (i := 18) (by kernel_rfl) rfl ?_
  refine g_strip hs rfl rfl hb46 ?_
  refine r_callP hs m rfl rfl ca14 rfl (sameTables_c v17 (roomG markR want_Routes 70) v18 (roomG markN want_Neighs 70) v19 (roomG markF want_Fdbs 70) v47 (roomG markR want_Routes 70) v48 (roomG markN want_Neighs 70) v49 (roomG markF want_Fdbs 70) _ (m.rdv r9) (m.rdv r10) (m.rdv r11) (m.rdv r0) (m.rdv r1) (m.rdv r2) ) rfl ?_
  clear m hs a w50; intro w54 m a hs
  refine wpList_nil (n_then ⟨(m.sub (.c r6 (.c r6 (.c r6 (.c r6 (.c r6 (.c r6 (.c r6 (.c r6 (.c r6 (.c r6 (.c r6 (.c r6 .n))))))))))))), ?_⟩)
  refine h_ok (i := 19) rfl (by kernel_rfl) (by kernel_rfl) (by kernel_rfl) hs (m.sub (.c r6 (.c r6 (.c r6 (.c r6 (.c r6 (.c r6 (.c r6 (.c r6 (.c r6 (.c r6 (.c r6 (.c r6 .n))))))))))))) (ok_pick (r := .bool (decide ((roomG markR want_Routes 70) = (roomG markR want_Routes 70) ∧ (roomG markN want_Neighs 70) = (roomG markN want_Neighs 70) ∧ (roomG markF want_Fdbs 70) = (roomG markF want_Fdbs 70)))) rfl rfl rfl (by rw [hb46]; rfl)) rfl ?_
  clear hs a; intro a hs
  refine h_ok (i := 20) rfl (by kernel_rfl) (by kernel_rfl) (by kernel_rfl) hs (m.sub (.c r6 (.c r6 (.c r6 (.c r6 (.c r6 (.c r6 (.c r6 (.c r6 (.c r6 (.c r6 (.c r6 (.c r6 .n))))))))))))) (ok_assign rfl) rfl ?_
  clear hs a; intro a hs
  refine h_done (by kernel_rfl) (n_then ?_)
  refine wp_ret ?_
  refine leave hs (vs := [.bool (decide ((roomG markR want_Routes 70) = (roomG markR want_Routes 70) ∧ (roomG markN want_Neighs 70) = (roomG markN want_Neighs 70) ∧ (roomG markF want_Fdbs 70) = (roomG markF want_Fdbs 70)))]) rfl ⟨rfl, trivial⟩ ?_
  refine ⟨?_, m.sub .n⟩
  have q55 : (decide ((roomG markR want_Routes 70) = (roomG markR want_Routes 70) ∧ (roomG markN want_Neighs 70) = (roomG markN want_Neighs 70) ∧ (roomG markF want_Fdbs 70) = (roomG markF want_Fdbs 70)) : Bool) = true := by clear hs m; first | rfl | simp
  first | (rw [q55]; done) | (rw [q55]; rfl) | (rw [q55]; rfl) | (simp only [q55, pack]; done)
end Go.Proofs.YtnbpodjbemfpbaaGreat.Fw
