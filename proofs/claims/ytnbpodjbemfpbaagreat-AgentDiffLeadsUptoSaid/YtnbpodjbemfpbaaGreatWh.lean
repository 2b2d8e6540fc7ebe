/-
  Walks: printed by wip/tool/agent.py.
-/
import Derived.Test.YtnbpodjbemfpbaaGreatWg
import Derived.KernelRfl
set_option linter.all false
set_option maxHeartbeats 4000000
set_option maxRecDepth 100000
namespace Go.Proofs.YtnbpodjbemfpbaaGreat.Fw
open Go
theorem setRoute_c (vx : SH) (x : List TRoute) (t : TRoute) (w0 : World) (R : Hh) (A1 : x.length ≤ 2600000000000) (m : Hp w0 R [Sv 4 51 vx.v (x.map cRoute)] w0) : Calls Tryz.prog 44 ⟨[vx.v, .agg ⟨cRoute t⟩, .func (.func 45) ⟨[]⟩ ⟨[]⟩]⟩ w0 fun e w' => ∃ v, e = .returned v ∧ (∃ x0 : SH, v = (x0.v) ∧ Hp w0 R [Sv 4 51 x0.v ((setM cmpRoute x t).map cRoute)] w') := by
  have lvx := (m.rdv r0).bd
  refine enter (n := 27) Tryz.func44 rfl rfl rfl fun a (hs : St 27 [(0, vx.v), (1, .agg ⟨cRoute t⟩), (2, .func (.func 45) ⟨[]⟩ ⟨[]⟩)] a) => ?_
  refine c_reg ?_
  refine r_box (cs := cRoute t) hs m rfl rfl rfl ?_
  clear m hs a; intro p1 w2 m a hs
  refine r_ok hs m (ok_assign rfl) rfl ?_
  clear hs a; intro a hs
  refine wpList_nil (n_then ?_)
  refine c_reg ?_
  refine r_ok hs m (ok_move rfl) rfl ?_
  clear hs a; intro a hs
  refine r_ok hs m (ok_load_ag (vs := cRoute t) rfl ty51 (bx_at r0) rfl rfl) rfl ?_
  clear hs a; intro a hs
  refine r_ok hs m (ok_move rfl) rfl ?_
  clear hs a; intro a hs
  refine r_callP hs m rfl rfl ca97 rfl (bsRoute_c vx x t _ (m.rdv r1) ) rfl ?_
  clear m hs a w2; intro w3 m a hs
  refine r_ok hs m (ok_move rfl) rfl ?_
  clear hs a; intro a hs
  refine r_ok hs m (ok_extract rfl rfl) rfl ?_
  clear hs a; intro a hs
  refine r_ok hs m (ok_extract rfl rfl) rfl ?_
  clear hs a; intro a hs
  refine r_ok hs m (ok_assign rfl) rfl ?_
  clear hs a; intro a hs
  refine r_ok hs m (ok_assign rfl) rfl ?_
  clear hs a; intro a hs
  refine wpList_nil (n_then ?_)
  refine c_seq ?_
  refine c_reg ?_
  refine r_ok hs m (ok_move rfl) rfl ?_
  clear hs a; intro a hs
  refine wpList_nil (n_then ?_)
  refine c_cond hs rfl (fun h4 => ?_) (fun h4 => ?_)
  · refine c_reg ?_
    refine r_ok hs m (ok_move rfl) rfl ?_
    clear hs a; intro a hs
    refine r_ok hs m (ok_move rfl) rfl ?_
    clear hs a; intro a hs
    refine r_ok hs m (ok_load_ag (vs := cRoute t) rfl ty51 (bx_at r0) rfl rfl) rfl ?_
    clear hs a; intro a hs
    obtain ⟨e5, he6⟩ := get_of_lt (l := x) (i := bsI (fun e => (cmpRoute e t).v) x) (by first | omega | exact bsHit_lt (by assumption))
    refine elO (c := cRoute) (e := e5) hs m (x := (.tmp 17)) (ix := (.tmp 18)) rfl rfl sl25 ty51 r1 (by omega) he6 fun p7 hp8 ok9 => ?_
    refine r_ok hs m (ok9 _ _ _ _ _) rfl ?_
    clear hs a; intro a hs
    refine r_storeEl (c := cRoute) (e' := t) (vs := cRoute t) hs m rfl rfl r1 hp8 he6 ty51 rfl rfl rfl rfl rfl ?_
    clear m w3; intro w10 m
    replace m : Hp w0 R [Sv 4 51 vx.v ((x.set (bsI (fun e => (cmpRoute e t).v) x) t).map cRoute), Bx p1 51 (cRoute t)] w10 := m
    refine wpList_nil (n_then ?_)
    refine c_reg ?_
    refine r_ok hs m (ok_move rfl) rfl ?_
    clear hs a; intro a hs
    refine r_ok hs m (ok_assign rfl) rfl ?_
    clear hs a; intro a hs
    refine wpList_nil (n_then ?_)
    refine wp_ret ?_
    refine ret_then (leave hs (vs := [vx.v]) rfl ⟨rfl, trivial⟩ ?_)
    have q11 : x.set (bsI (fun e => (cmpRoute e t).v) x) t = setM cmpRoute x t := by simp [setM, *]
    rw [q11] at m
    refine ⟨_, rfl, vx, ?_, m.sub (.c r0 .n)⟩
    rfl
  refine wp_skip ?_
  refine n_then ?_
  refine c_reg ?_
  refine r_ok hs m (ok_move rfl) rfl ?_
  clear hs a; intro a hs
  refine r_ok hs m (ok_move rfl) rfl ?_
  clear hs a; intro a hs
  refine r_ok hs m (ok_load_ag (vs := cRoute t) rfl ty51 (bx_at r0) rfl rfl) rfl ?_
  clear hs a; intro a hs
  refine r_buildM (c := cRoute) (ys := [t]) hs m sl25 ty51 ze51 rfl rfl rfl rfl rfl (fun _ => rfl) rfl rfl rfl ?_
  clear m hs a w3; intro v12 w13 m a hs
  obtain ⟨R1, hR, hR2, ⟨y1, sy, ly⟩, mc, back⟩ := Hp.split (Pc := [Sv 4 51 vx.v (x.map cRoute), Sv 4 51 v12.v ([t].map cRoute)]) (Ps := [Bx p1 51 (cRoute t)]) (m.sub (.c r2 (.c r0 (.c r0 .n))))
  refine r_call hs rfl rfl ca98 rfl (insRoute_c vx x (bsI (fun e => (cmpRoute e t).v) x) v12 [t] _ R1  (by first | omega | rfl | exact bsI_le _ _ | assumption | decide) (by first | omega | rfl | exact bsI_le _ _ | assumption | decide) (by first | omega | rfl | exact bsI_le _ _ | assumption | decide) mc) rfl ?_
  clear hs a; rintro _ w15 ⟨v14, rfl, hm⟩ a hs
  replace m : Hp w0 R [Sv 4 51 v14.v ((x.take (bsI (fun e => (cmpRoute e t).v) x) ++ [t] ++ x.drop (bsI (fun e => (cmpRoute e t).v) x)).map cRoute), Bx p1 51 (cRoute t)] w15 := back _ _ hm
  clear hm back mc sy ly hR2 hR y1 R1 w13
  refine r_ok hs m (ok_assign rfl) rfl ?_
  clear hs a; intro a hs
  refine wpList_nil (n_then ?_)
  refine wp_ret ?_
  refine leave hs (vs := [v14.v]) rfl ⟨rfl, trivial⟩ ?_
  have q16 : x.take (bsI (fun e => (cmpRoute e t).v) x) ++ [t] ++ x.drop (bsI (fun e => (cmpRoute e t).v) x) = setM cmpRoute x t := by simp [setM, *]
  rw [q16] at m
  refine ⟨_, rfl, v14, ?_, m.sub (.c r0 .n)⟩
  rfl
theorem setNeigh_c (vx : SH) (x : List TNeigh) (t : TNeigh) (w0 : World) (R : Hh) (A1 : x.length ≤ 2600000000000) (m : Hp w0 R [Sv 7 54 vx.v (x.map cNeigh)] w0) : Calls Tryz.prog 46 ⟨[vx.v, .agg ⟨cNeigh t⟩, .func (.func 47) ⟨[]⟩ ⟨[]⟩]⟩ w0 fun e w' => ∃ v, e = .returned v ∧ (∃ x0 : SH, v = (x0.v) ∧ Hp w0 R [Sv 7 54 x0.v ((setM cmpNeigh x t).map cNeigh)] w') := by
  have lvx := (m.rdv r0).bd
  refine enter (n := 27) Tryz.func46 rfl rfl rfl fun a (hs : St 27 [(0, vx.v), (1, .agg ⟨cNeigh t⟩), (2, .func (.func 47) ⟨[]⟩ ⟨[]⟩)] a) => ?_
  refine c_reg ?_
  refine r_box (cs := cNeigh t) hs m rfl rfl rfl ?_
  clear m hs a; intro p1 w2 m a hs
  refine r_ok hs m (ok_assign rfl) rfl ?_
  clear hs a; intro a hs
  refine wpList_nil (n_then ?_)
  refine c_reg ?_
  refine r_ok hs m (ok_move rfl) rfl ?_
  clear hs a; intro a hs
  refine r_ok hs m (ok_load_ag (vs := cNeigh t) rfl ty54 (bx_at r0) rfl rfl) rfl ?_
  clear hs a; intro a hs
  refine r_ok hs m (ok_move rfl) rfl ?_
  clear hs a; intro a hs
  refine r_callP hs m rfl rfl ca100 rfl (bsNeigh_c vx x t _ (m.rdv r1) ) rfl ?_
  clear m hs a w2; intro w3 m a hs
  refine r_ok hs m (ok_move rfl) rfl ?_
  clear hs a; intro a hs
  refine r_ok hs m (ok_extract rfl rfl) rfl ?_
  clear hs a; intro a hs
  refine r_ok hs m (ok_extract rfl rfl) rfl ?_
  clear hs a; intro a hs
  refine r_ok hs m (ok_assign rfl) rfl ?_
  clear hs a; intro a hs
  refine r_ok hs m (ok_assign rfl) rfl ?_
  clear hs a; intro a hs
  refine wpList_nil (n_then ?_)
  refine c_seq ?_
  refine c_reg ?_
  refine r_ok hs m (ok_move rfl) rfl ?_
  clear hs a; intro a hs
  refine wpList_nil (n_then ?_)
  refine c_cond hs rfl (fun h4 => ?_) (fun h4 => ?_)
  · refine c_reg ?_
    refine r_ok hs m (ok_move rfl) rfl ?_
    clear hs a; intro a hs
    refine r_ok hs m (ok_move rfl) rfl ?_
    clear hs a; intro a hs
    refine r_ok hs m (ok_load_ag (vs := cNeigh t) rfl ty54 (bx_at r0) rfl rfl) rfl ?_
    clear hs a; intro a hs
    obtain ⟨e5, he6⟩ := get_of_lt (l := x) (i := bsI (fun e => (cmpNeigh e t).v) x) (by first | omega | exact bsHit_lt (by assumption))
    refine elO (c := cNeigh) (e := e5) hs m (x := (.tmp 17)) (ix := (.tmp 18)) rfl rfl sl26 ty54 r1 (by omega) he6 fun p7 hp8 ok9 => ?_
    refine r_ok hs m (ok9 _ _ _ _ _) rfl ?_
    clear hs a; intro a hs
    refine r_storeEl (c := cNeigh) (e' := t) (vs := cNeigh t) hs m rfl rfl r1 hp8 he6 ty54 rfl rfl rfl rfl rfl ?_
    clear m w3; intro w10 m
    replace m : Hp w0 R [Sv 7 54 vx.v ((x.set (bsI (fun e => (cmpNeigh e t).v) x) t).map cNeigh), Bx p1 54 (cNeigh t)] w10 := m
    refine wpList_nil (n_then ?_)
    refine c_reg ?_
    refine r_ok hs m (ok_move rfl) rfl ?_
    clear hs a; intro a hs
    refine r_ok hs m (ok_assign rfl) rfl ?_
    clear hs a; intro a hs
    refine wpList_nil (n_then ?_)
    refine wp_ret ?_
    refine ret_then (leave hs (vs := [vx.v]) rfl ⟨rfl, trivial⟩ ?_)
    have q11 : x.set (bsI (fun e => (cmpNeigh e t).v) x) t = setM cmpNeigh x t := by simp [setM, *]
    rw [q11] at m
    refine ⟨_, rfl, vx, ?_, m.sub (.c r0 .n)⟩
    rfl
  refine wp_skip ?_
  refine n_then ?_
  refine c_reg ?_
  refine r_ok hs m (ok_move rfl) rfl ?_
  clear hs a; intro a hs
  refine r_ok hs m (ok_move rfl) rfl ?_
  clear hs a; intro a hs
  refine r_ok hs m (ok_load_ag (vs := cNeigh t) rfl ty54 (bx_at r0) rfl rfl) rfl ?_
  clear hs a; intro a hs
  refine r_buildM (c := cNeigh) (ys := [t]) hs m sl26 ty54 ze54 rfl rfl rfl rfl rfl (fun _ => rfl) rfl rfl rfl ?_
  clear m hs a w3; intro v12 w13 m a hs
  obtain ⟨R1, hR, hR2, ⟨y1, sy, ly⟩, mc, back⟩ := Hp.split (Pc := [Sv 7 54 vx.v (x.map cNeigh), Sv 7 54 v12.v ([t].map cNeigh)]) (Ps := [Bx p1 54 (cNeigh t)]) (m.sub (.c r2 (.c r0 (.c r0 .n))))
  refine r_call hs rfl rfl ca101 rfl (insNeigh_c vx x (bsI (fun e => (cmpNeigh e t).v) x) v12 [t] _ R1  (by first | omega | rfl | exact bsI_le _ _ | assumption | decide) (by first | omega | rfl | exact bsI_le _ _ | assumption | decide) (by first | omega | rfl | exact bsI_le _ _ | assumption | decide) mc) rfl ?_
  clear hs a; rintro _ w15 ⟨v14, rfl, hm⟩ a hs
  replace m : Hp w0 R [Sv 7 54 v14.v ((x.take (bsI (fun e => (cmpNeigh e t).v) x) ++ [t] ++ x.drop (bsI (fun e => (cmpNeigh e t).v) x)).map cNeigh), Bx p1 54 (cNeigh t)] w15 := back _ _ hm
  clear hm back mc sy ly hR2 hR y1 R1 w13
  refine r_ok hs m (ok_assign rfl) rfl ?_
  clear hs a; intro a hs
  refine wpList_nil (n_then ?_)
  refine wp_ret ?_
  refine leave hs (vs := [v14.v]) rfl ⟨rfl, trivial⟩ ?_
  have q16 : x.take (bsI (fun e => (cmpNeigh e t).v) x) ++ [t] ++ x.drop (bsI (fun e => (cmpNeigh e t).v) x) = setM cmpNeigh x t := by simp [setM, *]
  rw [q16] at m
  refine ⟨_, rfl, v14, ?_, m.sub (.c r0 .n)⟩
  rfl
theorem setFdb_c (vx : SH) (x : List TFdb) (t : TFdb) (w0 : World) (R : Hh) (A1 : x.length ≤ 2600000000000) (m : Hp w0 R [Sv 7 56 vx.v (x.map cFdb)] w0) : Calls Tryz.prog 48 ⟨[vx.v, .agg ⟨cFdb t⟩, .func (.func 49) ⟨[]⟩ ⟨[]⟩]⟩ w0 fun e w' => ∃ v, e = .returned v ∧ (∃ x0 : SH, v = (x0.v) ∧ Hp w0 R [Sv 7 56 x0.v ((setM cmpFdb x t).map cFdb)] w') := by
  have lvx := (m.rdv r0).bd
  refine enter (n := 27) Tryz.func48 rfl rfl rfl fun a (hs : St 27 [(0, vx.v), (1, .agg ⟨cFdb t⟩), (2, .func (.func 49) ⟨[]⟩ ⟨[]⟩)] a) => ?_
  refine c_reg ?_
  refine r_box (cs := cFdb t) hs m rfl rfl rfl ?_
  clear m hs a; intro p1 w2 m a hs
  refine r_ok hs m (ok_assign rfl) rfl ?_
  clear hs a; intro a hs
  refine wpList_nil (n_then ?_)
  refine c_reg ?_
  refine r_ok hs m (ok_move rfl) rfl ?_
  clear hs a; intro a hs
  refine r_ok hs m (ok_load_ag (vs := cFdb t) rfl ty56 (bx_at r0) rfl rfl) rfl ?_
  clear hs a; intro a hs
  refine r_ok hs m (ok_move rfl) rfl ?_
  clear hs a; intro a hs
  refine r_callP hs m rfl rfl ca103 rfl (bsFdb_c vx x t _ (m.rdv r1) ) rfl ?_
  clear m hs a w2; intro w3 m a hs
  refine r_ok hs m (ok_move rfl) rfl ?_
  clear hs a; intro a hs
  refine r_ok hs m (ok_extract rfl rfl) rfl ?_
  clear hs a; intro a hs
  refine r_ok hs m (ok_extract rfl rfl) rfl ?_
  clear hs a; intro a hs
  refine r_ok hs m (ok_assign rfl) rfl ?_
  clear hs a; intro a hs
  refine r_ok hs m (ok_assign rfl) rfl ?_
  clear hs a; intro a hs
  refine wpList_nil (n_then ?_)
  refine c_seq ?_
  refine c_reg ?_
  refine r_ok hs m (ok_move rfl) rfl ?_
  clear hs a; intro a hs
  refine wpList_nil (n_then ?_)
  refine c_cond hs rfl (fun h4 => ?_) (fun h4 => ?_)
  · refine c_reg ?_
    refine r_ok hs m (ok_move rfl) rfl ?_
    clear hs a; intro a hs
    refine r_ok hs m (ok_move rfl) rfl ?_
    clear hs a; intro a hs
    refine r_ok hs m (ok_load_ag (vs := cFdb t) rfl ty56 (bx_at r0) rfl rfl) rfl ?_
    clear hs a; intro a hs
    obtain ⟨e5, he6⟩ := get_of_lt (l := x) (i := bsI (fun e => (cmpFdb e t).v) x) (by first | omega | exact bsHit_lt (by assumption))
    refine elO (c := cFdb) (e := e5) hs m (x := (.tmp 17)) (ix := (.tmp 18)) rfl rfl sl27 ty56 r1 (by omega) he6 fun p7 hp8 ok9 => ?_
    refine r_ok hs m (ok9 _ _ _ _ _) rfl ?_
    clear hs a; intro a hs
    refine r_storeEl (c := cFdb) (e' := t) (vs := cFdb t) hs m rfl rfl r1 hp8 he6 ty56 rfl rfl rfl rfl rfl ?_
    clear m w3; intro w10 m
    replace m : Hp w0 R [Sv 7 56 vx.v ((x.set (bsI (fun e => (cmpFdb e t).v) x) t).map cFdb), Bx p1 56 (cFdb t)] w10 := m
    refine wpList_nil (n_then ?_)
    refine c_reg ?_
    refine r_ok hs m (ok_move rfl) rfl ?_
    clear hs a; intro a hs
    refine r_ok hs m (ok_assign rfl) rfl ?_
    clear hs a; intro a hs
    refine wpList_nil (n_then ?_)
    refine wp_ret ?_
    refine ret_then (leave hs (vs := [vx.v]) rfl ⟨rfl, trivial⟩ ?_)
    have q11 : x.set (bsI (fun e => (cmpFdb e t).v) x) t = setM cmpFdb x t := by simp [setM, *]
    rw [q11] at m
    refine ⟨_, rfl, vx, ?_, m.sub (.c r0 .n)⟩
    rfl
  refine wp_skip ?_
  refine n_then ?_
  refine c_reg ?_
  refine r_ok hs m (ok_move rfl) rfl ?_
  clear hs a; intro a hs
  refine r_ok hs m (ok_move rfl) rfl ?_
  clear hs a; intro a hs
  refine r_ok hs m (ok_load_ag (vs := cFdb t) rfl ty56 (bx_at r0) rfl rfl) rfl ?_
  clear hs a; intro a hs
  refine r_buildM (c := cFdb) (ys := [t]) hs m sl27 ty56 ze56 rfl rfl rfl rfl rfl (fun _ => rfl) rfl rfl rfl ?_
  clear m hs a w3; intro v12 w13 m a hs
  obtain ⟨R1, hR, hR2, ⟨y1, sy, ly⟩, mc, back⟩ := Hp.split (Pc := [Sv 7 56 vx.v (x.map cFdb), Sv 7 56 v12.v ([t].map cFdb)]) (Ps := [Bx p1 56 (cFdb t)]) (m.sub (.c r2 (.c r0 (.c r0 .n))))
  refine r_call hs rfl rfl ca104 rfl (insFdb_c vx x (bsI (fun e => (cmpFdb e t).v) x) v12 [t] _ R1  (by first | omega | rfl | exact bsI_le _ _ | assumption | decide) (by first | omega | rfl | exact bsI_le _ _ | assumption | decide) (by first | omega | rfl | exact bsI_le _ _ | assumption | decide) mc) rfl ?_
  clear hs a; rintro _ w15 ⟨v14, rfl, hm⟩ a hs
  replace m : Hp w0 R [Sv 7 56 v14.v ((x.take (bsI (fun e => (cmpFdb e t).v) x) ++ [t] ++ x.drop (bsI (fun e => (cmpFdb e t).v) x)).map cFdb), Bx p1 56 (cFdb t)] w15 := back _ _ hm
  clear hm back mc sy ly hR2 hR y1 R1 w13
  refine r_ok hs m (ok_assign rfl) rfl ?_
  clear hs a; intro a hs
  refine wpList_nil (n_then ?_)
  refine wp_ret ?_
  refine leave hs (vs := [v14.v]) rfl ⟨rfl, trivial⟩ ?_
  have q16 : x.take (bsI (fun e => (cmpFdb e t).v) x) ++ [t] ++ x.drop (bsI (fun e => (cmpFdb e t).v) x) = setM cmpFdb x t := by simp [setM, *]
  rw [q16] at m
  refine ⟨_, rfl, v14, ?_, m.sub (.c r0 .n)⟩
  rfl
end Go.Proofs.YtnbpodjbemfpbaaGreat.Fw
