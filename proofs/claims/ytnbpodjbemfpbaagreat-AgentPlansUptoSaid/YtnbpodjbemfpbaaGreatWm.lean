/-
  Walks: printed by wip/tool/agent.py.
-/
import Derived.Test.YtnbpodjbemfpbaaGreatWl
import Derived.Test.YtnbpodjbemfpbaaGreatWb
import Derived.Test.YtnbpodjbemfpbaaGreatPl3
import Derived.KernelRfl
set_option linter.all false
set_option maxHeartbeats 4000000
set_option maxRecDepth 100000
namespace Go.Proofs.YtnbpodjbemfpbaaGreat.Fw
open Go

theorem agentPlans_c (vleases : SH) (leases : List TLease) (host : Int) (w0 : World) (hleases : RdS (hh w0) 12 vleases.v (leases.map cLease)) (A1 : leases.length ≤ 1048576) : Pure Tryz.prog 3 [vleases.v, .int .i64 host] (.bool true) w0 := by
  have hroom := roomyL_len leases
  have lvleases := hleases.bd
  refine enter (n := 34) Tryz.func3 rfl rfl rfl fun a (hs : St 34 [(0, vleases.v), (1, .int .i64 host)] a) => ?_
  have m := Hp.start w0
  refine c_reg ?_
  refine r_ok hs m (ok_assign rfl) rfl ?_
  clear hs a; intro a hs
  refine wpList_nil (n_then ?_)
  refine c_reg ?_
  refine r_callP hs m rfl rfl ca10 rfl (begun_c  _  ) rfl ?_
  clear m hs a; intro w1 m a hs
  refine r_ok hs m (ok_assign rfl) rfl ?_
  clear hs a; intro a hs
  refine wpList_nil (n_then ?_)
  refine c_seq ?_
  refine c_reg ?_
  refine r_ok hs m (ok_move rfl) rfl ?_
  clear hs a; intro a hs
  refine r_ok hs m (ok_not rfl) rfl ?_
  clear hs a; intro a hs
  refine wpList_nil (n_then ?_)
  refine c_false hs rfl rfl ?_
  refine wp_skip ?_
  refine n_then ?_
  refine c_reg ?_
  refine r_ok hs m (ok_move rfl) rfl ?_
  clear hs a; intro a hs
  refine r_call hs rfl rfl ca11 rfl (leasesRoomy_c vleases leases _ (m.rd hleases) (by first | omega | rfl | exact bsI_le _ _ | assumption | decide)) rfl ?_
  clear hs a; rintro _ w4 ⟨v3, rfl, hm⟩ a hs
  replace m : Hp w0 (hh w0) [Sv 12 48 v3.v ((roomyL leases).map cLease)] w4 := m.after hm
  clear hm w1
  refine r_ok hs m (ok_assign rfl) rfl ?_
  clear hs a; intro a hs
  refine wpList_nil (n_then ?_)
  refine c_reg ?_
  refine r_ok hs m (ok_move rfl) rfl ?_
  clear hs a; intro a hs
  refine r_ok hs m (ok_move rfl) rfl ?_
  clear hs a; intro a hs
  refine r_ok hs m (ok_len (r := (leases.length : Int)) m rfl sl22 (rc_fr hleases) (by simp)) rfl ?_
  clear hs a; intro a hs
  refine r_ok hs m (ok_move rfl) rfl ?_
  clear hs a; intro a hs
  refine r_ok hs m (ok_len (r := ((roomyL leases).length : Int)) m rfl sl22 (rc_own r0) (by simp)) rfl ?_
  clear hs a; intro a hs
  have hc5 := ((m.rdv r0)).ncapM
  refine r_ok hs m (ok_sliceH (i := 0) (j := leases.length) (c := (roomyL leases).length) rfl sl22 ty48 rfl ⟨_, rfl⟩ ⟨_, rfl⟩ (fun h => by cases h) (by omega) (by omega) (by omega)) rfl ?_
  clear hs a; intro a hs
  refine r_ok hs m (ok_move rfl) rfl ?_
  clear hs a; intro a hs
  refine r_call hs rfl rfl ca12 rfl (plan_c (subH3 12 v3 0 leases.length ((roomyL leases).length)) ((roomyL leases).take leases.length) host _ ((m.rdv r0).win (lo := 0) (hi := leases.length) (mx := (roomyL leases).length) (ys := (roomyL leases).take leases.length) (by omega) (by omega) (by omega) (by omega) (by simp)) (by simp; omega)) rfl ?_
  clear hs a; rintro _ w9 ⟨v6, v7, v8, rfl, hm⟩ a hs
  replace m : Hp w0 (hh w0) [Sv 4 51 v6.v (((planM ((roomyL leases).take leases.length) host).R).map cRoute), Sv 7 54 v7.v (((planM ((roomyL leases).take leases.length) host).N).map cNeigh), Sv 7 56 v8.v (((planM ((roomyL leases).take leases.length) host).F).map cFdb), Sv 12 48 v3.v ((roomyL leases).map cLease)] w9 := m.after hm
  clear hm w4
  refine r_alloc hs m ze29 rfl ?_
  clear m hs a w9; intro p10 w11 m a hs
  refine r_store (cs' := [v6.v, v7.v, v8.v]) (vs := [v6.v, v7.v, v8.v]) hs m rfl rfl ty29 s0 rfl rfl rfl rfl rfl ?_
  clear m w11; intro w12 m
  refine wpList_nil (n_then ?_)
  refine c_reg ?_
  refine r_ok hs m (ok_move rfl) rfl ?_
  clear hs a; intro a hs
  refine r_ok hs m (ok_move rfl) rfl ?_
  clear hs a; intro a hs
  refine r_call hs rfl rfl ca13 rfl (planR_c vleases leases host _ (m.rd hleases) (by first | omega | rfl | exact bsI_le _ _ | assumption | decide)) rfl ?_
  clear hs a; rintro _ w16 ⟨v13, v14, v15, rfl, hm⟩ a hs
  replace m : Hp w0 (hh w0) [Sv 4 51 v13.v (((planRM leases host).R).map cRoute), Sv 7 54 v14.v (((planRM leases host).N).map cNeigh), Sv 7 56 v15.v (((planRM leases host).F).map cFdb), Bx p10 29 [v6.v, v7.v, v8.v], Sv 4 51 v6.v (((planM ((roomyL leases).take leases.length) host).R).map cRoute), Sv 7 54 v7.v (((planM ((roomyL leases).take leases.length) host).N).map cNeigh), Sv 7 56 v8.v (((planM ((roomyL leases).take leases.length) host).F).map cFdb), Sv 12 48 v3.v ((roomyL leases).map cLease)] w16 := m.after hm
  clear hm w12
  refine r_alloc hs m ze29 rfl ?_
  clear m hs a w16; intro p17 w18 m a hs
  refine r_store (cs' := [v13.v, v14.v, v15.v]) (vs := [v13.v, v14.v, v15.v]) hs m rfl rfl ty29 s0 rfl rfl rfl rfl rfl ?_
  clear m w18; intro w19 m
  refine wpList_nil (n_then ?_)
  refine c_reg ?_
  refine r_ok hs m (ok_load_ag (vs := [v6.v, v7.v, v8.v]) rfl ty29 (bx_at r4) rfl rfl) rfl ?_
  clear hs a; intro a hs
  refine r_ok hs m (ok_load_ag (vs := [v13.v, v14.v, v15.v]) rfl ty29 (bx_at r0) rfl rfl) rfl ?_
  clear hs a; intro a hs
  refine r_callP hs m rfl rfl ca14 rfl (sameTables_c v6 ((planM ((roomyL leases).take leases.length) host).R) v7 ((planM ((roomyL leases).take leases.length) host).N) v8 ((planM ((roomyL leases).take leases.length) host).F) v13 ((planRM leases host).R) v14 ((planRM leases host).N) v15 ((planRM leases host).F) _ (m.rdv r5) (m.rdv r6) (m.rdv r7) (m.rdv r1) (m.rdv r2) (m.rdv r3) ) rfl ?_
  clear m hs a w19; intro w20 m a hs
  refine r_ok hs m (ok_move rfl) rfl ?_
  clear hs a; intro a hs
  refine l_cut (.c (.c (.c (.c (.c (.n)))))) (fun a w => St 34 [(33, .bool ((decide (((planM ((roomyL leases).take leases.length) host).R) = ((planRM leases host).R) ∧ ((planM ((roomyL leases).take leases.length) host).N) = ((planRM leases host).N) ∧ ((planM ((roomyL leases).take leases.length) host).F) = ((planRM leases host).F))) && (decide (roomyL leases = roomyL leases))))] a ∧ Hp w0 (hh w0) [Bx p17 29 [v13.v, v14.v, v15.v], Sv 4 51 v13.v (((planRM leases host).R).map cRoute), Sv 7 54 v14.v (((planRM leases host).N).map cNeigh), Sv 7 56 v15.v (((planRM leases host).F).map cFdb), Bx p10 29 [v6.v, v7.v, v8.v], Sv 4 51 v6.v (((planM ((roomyL leases).take leases.length) host).R).map cRoute), Sv 7 54 v7.v (((planM ((roomyL leases).take leases.length) host).N).map cNeigh), Sv 7 56 v8.v (((planM ((roomyL leases).take leases.length) host).F).map cFdb), Sv 12 48 v3.v ((roomyL leases).map cLease)] w) ?_ ?_
  · rcases Bool.eq_false_or_eq_true (decide (((planM ((roomyL leases).take leases.length) host).R) = ((planRM leases host).R) ∧ ((planM ((roomyL leases).take leases.length) host).N) = ((planRM leases host).N) ∧ ((planM ((roomyL leases).take leases.length) host).F) = ((planRM leases host).F))) with hb21 | hb21
    · have hb21p := of_decide_eq_true hb21
      refine r_okg hs rfl rfl hb21 m (ok_move rfl) rfl ?_
      clear hs a; intro a hs
      refine r_okg hs rfl rfl hb21 m (ok_move rfl) rfl ?_
      clear hs a; intro a hs
      refine g_strip hs rfl rfl hb21 ?_
      refine r_call hs rfl rfl ca11 rfl (leasesRoomy_c vleases leases _ (m.rd hleases) (by first | omega | rfl | exact bsI_le _ _ | assumption | decide)) rfl ?_
      clear hs a; rintro _ w23 ⟨v22, rfl, hm⟩ a hs
      replace m : Hp w0 (hh w0) [Sv 12 48 v22.v ((roomyL leases).map cLease), Bx p17 29 [v13.v, v14.v, v15.v], Sv 4 51 v13.v (((planRM leases host).R).map cRoute), Sv 7 54 v14.v (((planRM leases host).N).map cNeigh), Sv 7 56 v15.v (((planRM leases host).F).map cFdb), Bx p10 29 [v6.v, v7.v, v8.v], Sv 4 51 v6.v (((planM ((roomyL leases).take leases.length) host).R).map cRoute), Sv 7 54 v7.v (((planM ((roomyL leases).take leases.length) host).N).map cNeigh), Sv 7 56 v8.v (((planM ((roomyL leases).take leases.length) host).F).map cFdb), Sv 12 48 v3.v ((roomyL leases).map cLease)] w23 := m.after hm
      clear hm w20
      refine r_callPg hs rfl rfl hb21 m rfl rfl ca15 rfl (sameLeases_c v3 (roomyL leases) v22 (roomyL leases) _ (m.rdv r9) (m.rdv r0) ) rfl ?_
      clear m hs a w23; intro w24 m a hs
      refine r_ok hs m (ok_pick (r := .bool ((decide (((planM ((roomyL leases).take leases.length) host).R) = ((planRM leases host).R) ∧ ((planM ((roomyL leases).take leases.length) host).N) = ((planRM leases host).N) ∧ ((planM ((roomyL leases).take leases.length) host).F) = ((planRM leases host).F))) && (decide (roomyL leases = roomyL leases)))) rfl rfl rfl (by rw [hb21]; rfl)) rfl ?_
      clear hs a; intro a hs
      exact wpList_nil (n_then ⟨hs.to ⟨rfl, trivial⟩, m.sub (.c r1 (.c r1 (.c r1 (.c r1 (.c r1 (.c r1 (.c r1 (.c r1 (.c r1 .n)))))))))⟩)
    · have hb21p := of_decide_eq_false hb21
      refine g_out hs rfl rfl hb21 rfl ?_
      clear hs a; intro a hs
      refine g_out hs rfl rfl hb21 rfl ?_
      clear hs a; intro a hs
      refine g_out hs rfl rfl hb21 rfl ?_
      clear hs a; intro a hs
      refine g_out hs rfl rfl hb21 rfl ?_
      clear hs a; intro a hs
      refine r_ok hs m (ok_pick (r := .bool ((decide (((planM ((roomyL leases).take leases.length) host).R) = ((planRM leases host).R) ∧ ((planM ((roomyL leases).take leases.length) host).N) = ((planRM leases host).N) ∧ ((planM ((roomyL leases).take leases.length) host).F) = ((planRM leases host).F))) && (decide (roomyL leases = roomyL leases)))) rfl rfl rfl (by rw [hb21]; rfl)) rfl ?_
      clear hs a; intro a hs
      exact wpList_nil (n_then ⟨hs.to ⟨rfl, trivial⟩, m⟩)
  clear hs m a w20; rintro a w25 ⟨hs, m⟩
  refine r_ok hs m (ok_assign rfl) rfl ?_
  clear hs a; intro a hs
  refine wpList_nil (n_then ?_)
  refine wp_ret ?_
  refine leave hs (vs := [.bool ((decide (((planM ((roomyL leases).take leases.length) host).R) = ((planRM leases host).R) ∧ ((planM ((roomyL leases).take leases.length) host).N) = ((planRM leases host).N) ∧ ((planM ((roomyL leases).take leases.length) host).F) = ((planRM leases host).F))) && (decide (roomyL leases = roomyL leases)))]) rfl ⟨rfl, trivial⟩ ?_
  refine ⟨?_, m.sub .n⟩
  have q26 : ((decide (((planM ((roomyL leases).take leases.length) host).R) = ((planRM leases host).R) ∧ ((planM ((roomyL leases).take leases.length) host).N) = ((planRM leases host).N) ∧ ((planM ((roomyL leases).take leases.length) host).F) = ((planRM leases host).F))) && (decide (roomyL leases = roomyL leases)) : Bool) = true := by clear hs m; first | exact plans_law leases host | rfl
  first | (rw [q26]; done) | (rw [q26]; rfl) | (rw [q26]; rfl) | (simp only [q26, pack]; done)

end Go.Proofs.YtnbpodjbemfpbaaGreat.Fw
