/-
  Own work: walks and laws, joined by wip/tool/compact.py.
-/
import Derived.Test.YtnbpodjbemfpbaaGreatG2
import Derived.KernelRfl
set_option linter.all false
set_option linter.all false
set_option maxHeartbeats 4000000
set_option maxRecDepth 100000
namespace Go.Proofs.YtnbpodjbemfpbaaGreat.Fw
open Go
theorem getRoute_c (vx : SH) (x : List TRoute) (t : TRoute) (w0 : World) (hx : RdS (hh w0) 4 vx.v (x.map cRoute)) : Pure Tryz.prog 112 [vx.v, .agg ⟨cRoute t⟩, .func (.func 45) ⟨[]⟩ ⟨[]⟩] (.tuple ⟨[.agg ⟨cRoute (getM cmpRoute zRoute x t)⟩, .bool (bsHit cmpRoute x t)]⟩) w0 := by
 have lvx := hx.bd
 refine enter (n := 26) Tryz.func112 rfl rfl rfl fun a (hs : St 26 [(0, vx.v), (1, .agg ⟨cRoute t⟩), (2, .func (.func 45) ⟨[]⟩ ⟨[]⟩)] a) => ?_
 have m := Hp.start w0
 refine c_reg ?_
 refine r_box (cs := cRoute t) hs m rfl rfl rfl ?_
 clear m hs a; intro p1 w2 m a hs
 refine r_alloc hs m ze51 rfl ?_
 clear m hs a w2; intro p3 w4 m a hs
 refine s_ hs m (ok_assign rfl) (bn_ (bc_ (b_ m (ok_move rfl) (b_ m (ok_load_ag (vs := cRoute t) rfl ty51 (bx_at r1) rfl rfl) (b_ m (ok_move rfl) ?_)))))
 clear hs a; intro a hs
 refine r_callP hs m rfl rfl ca97 rfl (bsRoute_c vx x t _ (m.rd hx) ) rfl ?_
 clear m hs a w4; intro w5 m a hs
 refine s_ hs m (ok_move rfl) (b_ m (ok_extract rfl rfl) (b_ m (ok_extract rfl rfl) (b_ m (ok_assign rfl) (b_ m (ok_assign rfl) (bn_ ?_)))))
 clear hs a; intro a hs
 refine c_seq ?_
 refine c_reg ?_
 refine s_ hs m (ok_move rfl) (b_ m (ok_not rfl) (bn_ ?_))
 clear hs a; intro a hs
 refine c_cond hs rfl (fun h6 => ?_) (fun h6 => ?_)
 ·have h6p := h6; simp only [bp_] at h6p
  refine c_reg ?_
  refine r_alloc hs m ze51 rfl ?_
  clear m hs a w5; intro p7 w8 m a hs
  refine s_ hs m (ok_nilCheck rfl) (b_ m (ok_load_ag (vs := cRoute (⟨(⟨⟨0, rfl⟩, ⟨0, rfl⟩⟩ : TPrefix), ⟨0, rfl⟩, false⟩ : TRoute)) rfl ty51 (bx_at r0) rfl rfl) ?_)
  clear hs a; intro a hs
  refine st_ (cRoute (⟨(⟨⟨0, rfl⟩, ⟨0, rfl⟩⟩ : TPrefix), ⟨0, rfl⟩, false⟩ : TRoute)) (cRoute (⟨(⟨⟨0, rfl⟩, ⟨0, rfl⟩⟩ : TPrefix), ⟨0, rfl⟩, false⟩ : TRoute)) hs m ty51 s1 ?_
  clear m w8; intro w9 m
  refine s_ hs m (ok_assign rfl) (bn_ ?_)
  clear hs a; intro a hs
  refine wp_ret ?_
  refine ret_then (leave hs (vs := [.agg ⟨cRoute (⟨(⟨⟨0, rfl⟩, ⟨0, rfl⟩⟩ : TPrefix), ⟨0, rfl⟩, false⟩ : TRoute)⟩, .bool false]) rfl ⟨resv_cell (cs := cRoute (⟨(⟨⟨0, rfl⟩, ⟨0, rfl⟩⟩ : TPrefix), ⟨0, rfl⟩, false⟩ : TRoute)) m rfl ty51 r1 rfl, rfl, trivial⟩ ?_)
  refine ⟨?_, m.sub .n⟩
  have q10 : ((⟨(⟨⟨0, rfl⟩, ⟨0, rfl⟩⟩ : TPrefix), ⟨0, rfl⟩, false⟩ : TRoute) : TRoute) = getM cmpRoute zRoute x t := by clear hs m; (simp [getM, *]; rfl)
  have q11 : (false : Bool) = bsHit cmpRoute x t := by clear hs m; simp [getM, *]
  (rw [q10, q11]; rfl)
 have h6p := h6; simp only [bp_] at h6p
 refine wp_skip ?_
 refine n_then ?_
 refine c_reg ?_
 refine s_ hs m (ok_move rfl) (b_ m (ok_move rfl) ?_)
 clear hs a; intro a hs
 obtain ⟨e12, he13⟩ := get_of_lt (l := x) (i := bsI (fun e => (cmpRoute e t).v) x) (by exact bsHit_lt (by assumption))
 refine elF (c := cRoute) (e := e12) hs m (x := (.tmp 22)) (ix := (.tmp 23)) rfl rfl sl25 ty51 hx (by omega) he13 fun p14 hp15 ok16 => ?_
 refine s_ hs m (ok16 _ _ _ _ _) (b_ m (ok_load_ag (vs := cRoute e12) rfl ty51 (fr_at hp15) rfl rfl) ?_)
 clear hs a; intro a hs
 refine st_ (cRoute e12) (cRoute e12) hs m ty51 s0 ?_
 clear m w5; intro w17 m
 refine s_ hs m (ok_assign rfl) (bn_ ?_)
 clear hs a; intro a hs
 refine wp_ret ?_
 refine leave hs (vs := [.agg ⟨cRoute e12⟩, .bool true]) rfl ⟨resv_cell (cs := cRoute e12) m rfl ty51 r0 rfl, rfl, trivial⟩ ?_
 refine ⟨?_, m.sub .n⟩
 have q18 : (e12 : TRoute) = getM cmpRoute zRoute x t := by clear hs m; simp [getM, *]
 have q19 : (true : Bool) = bsHit cmpRoute x t := by clear hs m; simp [getM, *]
 (rw [q18, q19]; rfl)
theorem getNeigh_c (vx : SH) (x : List TNeigh) (t : TNeigh) (w0 : World) (hx : RdS (hh w0) 7 vx.v (x.map cNeigh)) : Pure Tryz.prog 114 [vx.v, .agg ⟨cNeigh t⟩, .func (.func 47) ⟨[]⟩ ⟨[]⟩] (.tuple ⟨[.agg ⟨cNeigh (getM cmpNeigh zNeigh x t)⟩, .bool (bsHit cmpNeigh x t)]⟩) w0 := by
 have lvx := hx.bd
 refine enter (n := 26) Tryz.func114 rfl rfl rfl fun a (hs : St 26 [(0, vx.v), (1, .agg ⟨cNeigh t⟩), (2, .func (.func 47) ⟨[]⟩ ⟨[]⟩)] a) => ?_
 have m := Hp.start w0
 refine c_reg ?_
 refine r_box (cs := cNeigh t) hs m rfl rfl rfl ?_
 clear m hs a; intro p1 w2 m a hs
 refine r_alloc hs m ze54 rfl ?_
 clear m hs a w2; intro p3 w4 m a hs
 refine s_ hs m (ok_assign rfl) (bn_ (bc_ (b_ m (ok_move rfl) (b_ m (ok_load_ag (vs := cNeigh t) rfl ty54 (bx_at r1) rfl rfl) (b_ m (ok_move rfl) ?_)))))
 clear hs a; intro a hs
 refine r_callP hs m rfl rfl ca100 rfl (bsNeigh_c vx x t _ (m.rd hx) ) rfl ?_
 clear m hs a w4; intro w5 m a hs
 refine s_ hs m (ok_move rfl) (b_ m (ok_extract rfl rfl) (b_ m (ok_extract rfl rfl) (b_ m (ok_assign rfl) (b_ m (ok_assign rfl) (bn_ ?_)))))
 clear hs a; intro a hs
 refine c_seq ?_
 refine c_reg ?_
 refine s_ hs m (ok_move rfl) (b_ m (ok_not rfl) (bn_ ?_))
 clear hs a; intro a hs
 refine c_cond hs rfl (fun h6 => ?_) (fun h6 => ?_)
 ·have h6p := h6; simp only [bp_] at h6p
  refine c_reg ?_
  refine r_alloc hs m ze54 rfl ?_
  clear m hs a w5; intro p7 w8 m a hs
  refine s_ hs m (ok_nilCheck rfl) (b_ m (ok_load_ag (vs := cNeigh (⟨⟨0, rfl⟩, (⟨⟨0, rfl⟩, ⟨0, rfl⟩, ⟨0, rfl⟩, ⟨0, rfl⟩, ⟨0, rfl⟩, ⟨0, rfl⟩⟩ : TMAC)⟩ : TNeigh)) rfl ty54 (bx_at r0) rfl rfl) ?_)
  clear hs a; intro a hs
  refine st_ (cNeigh (⟨⟨0, rfl⟩, (⟨⟨0, rfl⟩, ⟨0, rfl⟩, ⟨0, rfl⟩, ⟨0, rfl⟩, ⟨0, rfl⟩, ⟨0, rfl⟩⟩ : TMAC)⟩ : TNeigh)) (cNeigh (⟨⟨0, rfl⟩, (⟨⟨0, rfl⟩, ⟨0, rfl⟩, ⟨0, rfl⟩, ⟨0, rfl⟩, ⟨0, rfl⟩, ⟨0, rfl⟩⟩ : TMAC)⟩ : TNeigh)) hs m ty54 s1 ?_
  clear m w8; intro w9 m
  refine s_ hs m (ok_assign rfl) (bn_ ?_)
  clear hs a; intro a hs
  refine wp_ret ?_
  refine ret_then (leave hs (vs := [.agg ⟨cNeigh (⟨⟨0, rfl⟩, (⟨⟨0, rfl⟩, ⟨0, rfl⟩, ⟨0, rfl⟩, ⟨0, rfl⟩, ⟨0, rfl⟩, ⟨0, rfl⟩⟩ : TMAC)⟩ : TNeigh)⟩, .bool false]) rfl ⟨resv_cell (cs := cNeigh (⟨⟨0, rfl⟩, (⟨⟨0, rfl⟩, ⟨0, rfl⟩, ⟨0, rfl⟩, ⟨0, rfl⟩, ⟨0, rfl⟩, ⟨0, rfl⟩⟩ : TMAC)⟩ : TNeigh)) m rfl ty54 r1 rfl, rfl, trivial⟩ ?_)
  refine ⟨?_, m.sub .n⟩
  have q10 : ((⟨⟨0, rfl⟩, (⟨⟨0, rfl⟩, ⟨0, rfl⟩, ⟨0, rfl⟩, ⟨0, rfl⟩, ⟨0, rfl⟩, ⟨0, rfl⟩⟩ : TMAC)⟩ : TNeigh) : TNeigh) = getM cmpNeigh zNeigh x t := by clear hs m; (simp [getM, *]; rfl)
  have q11 : (false : Bool) = bsHit cmpNeigh x t := by clear hs m; simp [getM, *]
  (rw [q10, q11]; rfl)
 have h6p := h6; simp only [bp_] at h6p
 refine wp_skip ?_
 refine n_then ?_
 refine c_reg ?_
 refine s_ hs m (ok_move rfl) (b_ m (ok_move rfl) ?_)
 clear hs a; intro a hs
 obtain ⟨e12, he13⟩ := get_of_lt (l := x) (i := bsI (fun e => (cmpNeigh e t).v) x) (by exact bsHit_lt (by assumption))
 refine elF (c := cNeigh) (e := e12) hs m (x := (.tmp 22)) (ix := (.tmp 23)) rfl rfl sl26 ty54 hx (by omega) he13 fun p14 hp15 ok16 => ?_
 refine s_ hs m (ok16 _ _ _ _ _) (b_ m (ok_load_ag (vs := cNeigh e12) rfl ty54 (fr_at hp15) rfl rfl) ?_)
 clear hs a; intro a hs
 refine st_ (cNeigh e12) (cNeigh e12) hs m ty54 s0 ?_
 clear m w5; intro w17 m
 refine s_ hs m (ok_assign rfl) (bn_ ?_)
 clear hs a; intro a hs
 refine wp_ret ?_
 refine leave hs (vs := [.agg ⟨cNeigh e12⟩, .bool true]) rfl ⟨resv_cell (cs := cNeigh e12) m rfl ty54 r0 rfl, rfl, trivial⟩ ?_
 refine ⟨?_, m.sub .n⟩
 have q18 : (e12 : TNeigh) = getM cmpNeigh zNeigh x t := by clear hs m; simp [getM, *]
 have q19 : (true : Bool) = bsHit cmpNeigh x t := by clear hs m; simp [getM, *]
 (rw [q18, q19]; rfl)
theorem getFdb_c (vx : SH) (x : List TFdb) (t : TFdb) (w0 : World) (hx : RdS (hh w0) 7 vx.v (x.map cFdb)) : Pure Tryz.prog 115 [vx.v, .agg ⟨cFdb t⟩, .func (.func 49) ⟨[]⟩ ⟨[]⟩] (.tuple ⟨[.agg ⟨cFdb (getM cmpFdb zFdb x t)⟩, .bool (bsHit cmpFdb x t)]⟩) w0 := by
 have lvx := hx.bd
 refine enter (n := 26) Tryz.func115 rfl rfl rfl fun a (hs : St 26 [(0, vx.v), (1, .agg ⟨cFdb t⟩), (2, .func (.func 49) ⟨[]⟩ ⟨[]⟩)] a) => ?_
 have m := Hp.start w0
 refine c_reg ?_
 refine r_box (cs := cFdb t) hs m rfl rfl rfl ?_
 clear m hs a; intro p1 w2 m a hs
 refine r_alloc hs m ze56 rfl ?_
 clear m hs a w2; intro p3 w4 m a hs
 refine s_ hs m (ok_assign rfl) (bn_ (bc_ (b_ m (ok_move rfl) (b_ m (ok_load_ag (vs := cFdb t) rfl ty56 (bx_at r1) rfl rfl) (b_ m (ok_move rfl) ?_)))))
 clear hs a; intro a hs
 refine r_callP hs m rfl rfl ca103 rfl (bsFdb_c vx x t _ (m.rd hx) ) rfl ?_
 clear m hs a w4; intro w5 m a hs
 refine s_ hs m (ok_move rfl) (b_ m (ok_extract rfl rfl) (b_ m (ok_extract rfl rfl) (b_ m (ok_assign rfl) (b_ m (ok_assign rfl) (bn_ ?_)))))
 clear hs a; intro a hs
 refine c_seq ?_
 refine c_reg ?_
 refine s_ hs m (ok_move rfl) (b_ m (ok_not rfl) (bn_ ?_))
 clear hs a; intro a hs
 refine c_cond hs rfl (fun h6 => ?_) (fun h6 => ?_)
 ·have h6p := h6; simp only [bp_] at h6p
  refine c_reg ?_
  refine r_alloc hs m ze56 rfl ?_
  clear m hs a w5; intro p7 w8 m a hs
  refine s_ hs m (ok_nilCheck rfl) (b_ m (ok_load_ag (vs := cFdb (⟨(⟨⟨0, rfl⟩, ⟨0, rfl⟩, ⟨0, rfl⟩, ⟨0, rfl⟩, ⟨0, rfl⟩, ⟨0, rfl⟩⟩ : TMAC), ⟨0, rfl⟩⟩ : TFdb)) rfl ty56 (bx_at r0) rfl rfl) ?_)
  clear hs a; intro a hs
  refine st_ (cFdb (⟨(⟨⟨0, rfl⟩, ⟨0, rfl⟩, ⟨0, rfl⟩, ⟨0, rfl⟩, ⟨0, rfl⟩, ⟨0, rfl⟩⟩ : TMAC), ⟨0, rfl⟩⟩ : TFdb)) (cFdb (⟨(⟨⟨0, rfl⟩, ⟨0, rfl⟩, ⟨0, rfl⟩, ⟨0, rfl⟩, ⟨0, rfl⟩, ⟨0, rfl⟩⟩ : TMAC), ⟨0, rfl⟩⟩ : TFdb)) hs m ty56 s1 ?_
  clear m w8; intro w9 m
  refine s_ hs m (ok_assign rfl) (bn_ ?_)
  clear hs a; intro a hs
  refine wp_ret ?_
  refine ret_then (leave hs (vs := [.agg ⟨cFdb (⟨(⟨⟨0, rfl⟩, ⟨0, rfl⟩, ⟨0, rfl⟩, ⟨0, rfl⟩, ⟨0, rfl⟩, ⟨0, rfl⟩⟩ : TMAC), ⟨0, rfl⟩⟩ : TFdb)⟩, .bool false]) rfl ⟨resv_cell (cs := cFdb (⟨(⟨⟨0, rfl⟩, ⟨0, rfl⟩, ⟨0, rfl⟩, ⟨0, rfl⟩, ⟨0, rfl⟩, ⟨0, rfl⟩⟩ : TMAC), ⟨0, rfl⟩⟩ : TFdb)) m rfl ty56 r1 rfl, rfl, trivial⟩ ?_)
  refine ⟨?_, m.sub .n⟩
  have q10 : ((⟨(⟨⟨0, rfl⟩, ⟨0, rfl⟩, ⟨0, rfl⟩, ⟨0, rfl⟩, ⟨0, rfl⟩, ⟨0, rfl⟩⟩ : TMAC), ⟨0, rfl⟩⟩ : TFdb) : TFdb) = getM cmpFdb zFdb x t := by clear hs m; (simp [getM, *]; rfl)
  have q11 : (false : Bool) = bsHit cmpFdb x t := by clear hs m; simp [getM, *]
  (rw [q10, q11]; rfl)
 have h6p := h6; simp only [bp_] at h6p
 refine wp_skip ?_
 refine n_then ?_
 refine c_reg ?_
 refine s_ hs m (ok_move rfl) (b_ m (ok_move rfl) ?_)
 clear hs a; intro a hs
 obtain ⟨e12, he13⟩ := get_of_lt (l := x) (i := bsI (fun e => (cmpFdb e t).v) x) (by exact bsHit_lt (by assumption))
 refine elF (c := cFdb) (e := e12) hs m (x := (.tmp 22)) (ix := (.tmp 23)) rfl rfl sl27 ty56 hx (by omega) he13 fun p14 hp15 ok16 => ?_
 refine s_ hs m (ok16 _ _ _ _ _) (b_ m (ok_load_ag (vs := cFdb e12) rfl ty56 (fr_at hp15) rfl rfl) ?_)
 clear hs a; intro a hs
 refine st_ (cFdb e12) (cFdb e12) hs m ty56 s0 ?_
 clear m w5; intro w17 m
 refine s_ hs m (ok_assign rfl) (bn_ ?_)
 clear hs a; intro a hs
 refine wp_ret ?_
 refine leave hs (vs := [.agg ⟨cFdb e12⟩, .bool true]) rfl ⟨resv_cell (cs := cFdb e12) m rfl ty56 r0 rfl, rfl, trivial⟩ ?_
 refine ⟨?_, m.sub .n⟩
 have q18 : (e12 : TFdb) = getM cmpFdb zFdb x t := by clear hs m; simp [getM, *]
 have q19 : (true : Bool) = bsHit cmpFdb x t := by clear hs m; simp [getM, *]
 (rw [q18, q19]; rfl)
theorem lacksRoute_c (vx : SH) (x : List TRoute) (t : TRoute) (w0 : World) (hx : RdS (hh w0) 4 vx.v (x.map cRoute)) : Pure Tryz.prog 60 [vx.v, .agg ⟨cRoute t⟩, .func (.func 45) ⟨[]⟩ ⟨[]⟩] (.bool (lacksM cmpRoute zRoute x t)) w0 := by
 have lvx := hx.bd
 refine enter (n := 23) Tryz.func60 rfl rfl rfl fun a (hs : St 23 [(0, vx.v), (1, .agg ⟨cRoute t⟩), (2, .func (.func 45) ⟨[]⟩ ⟨[]⟩)] a) => ?_
 have m := Hp.start w0
 refine c_reg ?_
 refine r_box (cs := cRoute t) hs m rfl rfl rfl ?_
 clear m hs a; intro p1 w2 m a hs
 refine s_ hs m (ok_assign rfl) (bn_ (bc_ (b_ m (ok_move rfl) (b_ m (ok_load_ag (vs := cRoute t) rfl ty51 (bx_at r0) rfl rfl) (b_ m (ok_move rfl) ?_)))))
 clear hs a; intro a hs
 refine r_callP hs m rfl rfl ca112 rfl (getRoute_c vx x t _ (m.rd hx) ) rfl ?_
 clear m hs a w2; intro w3 m a hs
 refine s_ hs m (ok_move rfl) (b_ m (ok_extract rfl rfl) (b_ m (ok_extract rfl rfl) ?_))
 clear hs a; intro a hs
 refine r_alloc hs m ze51 rfl ?_
 clear m hs a w3; intro p4 w5 m a hs
 refine st_ (cRoute (getM cmpRoute zRoute x t)) (cRoute (getM cmpRoute zRoute x t)) hs m ty51 s0 ?_
 clear m w5; intro w6 m
 refine s_ hs m (ok_assign rfl) (bn_ (bc_ (b_ m (ok_move rfl) (b_ m (ok_not rfl) (b_ m (ok_move rfl) ?_)))))
 clear hs a; intro a hs
 refine l_cut (.c (.c (.c (.c (.n))))) (fun a w => St 23 [(22, .bool ((!(bsHit cmpRoute x t)) || (!(decide (getM cmpRoute zRoute x t = t)))))] a ∧ Hp w0 (hh w0) [Bx p4 51 (cRoute (getM cmpRoute zRoute x t)), Bx p1 51 (cRoute t)] w) ?_ ?_
 ·rcases Bool.eq_false_or_eq_true (!(bsHit cmpRoute x t)) with hb7 | hb7
  ·have hb7p := hb7; simp only [bp_] at hb7p
   refine so_ hs hb7 (bo_ hb7 (bo_ hb7 (b_ m (ok_pick (r := .bool ((!(bsHit cmpRoute x t)) || (!(decide (getM cmpRoute zRoute x t = t))))) rfl rfl rfl (by rw [hb7]; rfl)) ?_)))
   clear hs a; intro a hs
   exact wpList_nil (n_then ⟨hs.to ⟨rfl, trivial⟩, m⟩)
  ·have hb7p := hb7; simp only [bp_] at hb7p
   refine sg_ hs hb7 m (ok_load_ag (vs := cRoute (getM cmpRoute zRoute x t)) rfl ty51 (bx_at r0) rfl rfl) (bg_ hb7 m (ok_load_ag (vs := cRoute t) rfl ty51 (bx_at r1) rfl rfl) (bg_ hb7 m (ok_nev (b := decide (getM cmpRoute zRoute x t = t)) rfl rfl eqT51 (fRoute _) (fRoute _) (iRoute (getM cmpRoute zRoute x t) t)) (b_ m (ok_pick (r := .bool ((!(bsHit cmpRoute x t)) || (!(decide (getM cmpRoute zRoute x t = t))))) rfl rfl rfl (by rw [hb7]; rfl)) ?_)))
   clear hs a; intro a hs
   exact wpList_nil (n_then ⟨hs.to ⟨rfl, trivial⟩, m⟩)
 clear hs m a w6; rintro a w8 ⟨hs, m⟩
 refine s_ hs m (ok_assign rfl) (bn_ ?_)
 clear hs a; intro a hs
 refine wp_ret ?_
 refine leave hs (vs := [.bool ((!(bsHit cmpRoute x t)) || (!(decide (getM cmpRoute zRoute x t = t))))]) rfl ⟨rfl, trivial⟩ ?_
 refine ⟨?_, m.sub .n⟩
 have q9 : ((!(bsHit cmpRoute x t)) || (!(decide (getM cmpRoute zRoute x t = t))) : Bool) = lacksM cmpRoute zRoute x t := by clear hs m; simp [lacksM, *]
 (rw [q9]; rfl)
theorem lacksNeigh_c (vx : SH) (x : List TNeigh) (t : TNeigh) (w0 : World) (hx : RdS (hh w0) 7 vx.v (x.map cNeigh)) : Pure Tryz.prog 58 [vx.v, .agg ⟨cNeigh t⟩, .func (.func 47) ⟨[]⟩ ⟨[]⟩] (.bool (lacksM cmpNeigh zNeigh x t)) w0 := by
 have lvx := hx.bd
 refine enter (n := 23) Tryz.func58 rfl rfl rfl fun a (hs : St 23 [(0, vx.v), (1, .agg ⟨cNeigh t⟩), (2, .func (.func 47) ⟨[]⟩ ⟨[]⟩)] a) => ?_
 have m := Hp.start w0
 refine c_reg ?_
 refine r_box (cs := cNeigh t) hs m rfl rfl rfl ?_
 clear m hs a; intro p1 w2 m a hs
 refine s_ hs m (ok_assign rfl) (bn_ (bc_ (b_ m (ok_move rfl) (b_ m (ok_load_ag (vs := cNeigh t) rfl ty54 (bx_at r0) rfl rfl) (b_ m (ok_move rfl) ?_)))))
 clear hs a; intro a hs
 refine r_callP hs m rfl rfl ca114 rfl (getNeigh_c vx x t _ (m.rd hx) ) rfl ?_
 clear m hs a w2; intro w3 m a hs
 refine s_ hs m (ok_move rfl) (b_ m (ok_extract rfl rfl) (b_ m (ok_extract rfl rfl) ?_))
 clear hs a; intro a hs
 refine r_alloc hs m ze54 rfl ?_
 clear m hs a w3; intro p4 w5 m a hs
 refine st_ (cNeigh (getM cmpNeigh zNeigh x t)) (cNeigh (getM cmpNeigh zNeigh x t)) hs m ty54 s0 ?_
 clear m w5; intro w6 m
 refine s_ hs m (ok_assign rfl) (bn_ (bc_ (b_ m (ok_move rfl) (b_ m (ok_not rfl) (b_ m (ok_move rfl) ?_)))))
 clear hs a; intro a hs
 refine l_cut (.c (.c (.c (.c (.n))))) (fun a w => St 23 [(22, .bool ((!(bsHit cmpNeigh x t)) || (!(decide (getM cmpNeigh zNeigh x t = t)))))] a ∧ Hp w0 (hh w0) [Bx p4 54 (cNeigh (getM cmpNeigh zNeigh x t)), Bx p1 54 (cNeigh t)] w) ?_ ?_
 ·rcases Bool.eq_false_or_eq_true (!(bsHit cmpNeigh x t)) with hb7 | hb7
  ·have hb7p := hb7; simp only [bp_] at hb7p
   refine so_ hs hb7 (bo_ hb7 (bo_ hb7 (b_ m (ok_pick (r := .bool ((!(bsHit cmpNeigh x t)) || (!(decide (getM cmpNeigh zNeigh x t = t))))) rfl rfl rfl (by rw [hb7]; rfl)) ?_)))
   clear hs a; intro a hs
   exact wpList_nil (n_then ⟨hs.to ⟨rfl, trivial⟩, m⟩)
  ·have hb7p := hb7; simp only [bp_] at hb7p
   refine sg_ hs hb7 m (ok_load_ag (vs := cNeigh (getM cmpNeigh zNeigh x t)) rfl ty54 (bx_at r0) rfl rfl) (bg_ hb7 m (ok_load_ag (vs := cNeigh t) rfl ty54 (bx_at r1) rfl rfl) (bg_ hb7 m (ok_nev (b := decide (getM cmpNeigh zNeigh x t = t)) rfl rfl eqT54 (fNeigh _) (fNeigh _) (iNeigh (getM cmpNeigh zNeigh x t) t)) (b_ m (ok_pick (r := .bool ((!(bsHit cmpNeigh x t)) || (!(decide (getM cmpNeigh zNeigh x t = t))))) rfl rfl rfl (by rw [hb7]; rfl)) ?_)))
   clear hs a; intro a hs
   exact wpList_nil (n_then ⟨hs.to ⟨rfl, trivial⟩, m⟩)
 clear hs m a w6; rintro a w8 ⟨hs, m⟩
 refine s_ hs m (ok_assign rfl) (bn_ ?_)
 clear hs a; intro a hs
 refine wp_ret ?_
 refine leave hs (vs := [.bool ((!(bsHit cmpNeigh x t)) || (!(decide (getM cmpNeigh zNeigh x t = t))))]) rfl ⟨rfl, trivial⟩ ?_
 refine ⟨?_, m.sub .n⟩
 have q9 : ((!(bsHit cmpNeigh x t)) || (!(decide (getM cmpNeigh zNeigh x t = t))) : Bool) = lacksM cmpNeigh zNeigh x t := by clear hs m; simp [lacksM, *]
 (rw [q9]; rfl)
theorem lacksFdb_c (vx : SH) (x : List TFdb) (t : TFdb) (w0 : World) (hx : RdS (hh w0) 7 vx.v (x.map cFdb)) : Pure Tryz.prog 59 [vx.v, .agg ⟨cFdb t⟩, .func (.func 49) ⟨[]⟩ ⟨[]⟩] (.bool (lacksM cmpFdb zFdb x t)) w0 := by
 have lvx := hx.bd
 refine enter (n := 23) Tryz.func59 rfl rfl rfl fun a (hs : St 23 [(0, vx.v), (1, .agg ⟨cFdb t⟩), (2, .func (.func 49) ⟨[]⟩ ⟨[]⟩)] a) => ?_
 have m := Hp.start w0
 refine c_reg ?_
 refine r_box (cs := cFdb t) hs m rfl rfl rfl ?_
 clear m hs a; intro p1 w2 m a hs
 refine s_ hs m (ok_assign rfl) (bn_ (bc_ (b_ m (ok_move rfl) (b_ m (ok_load_ag (vs := cFdb t) rfl ty56 (bx_at r0) rfl rfl) (b_ m (ok_move rfl) ?_)))))
 clear hs a; intro a hs
 refine r_callP hs m rfl rfl ca115 rfl (getFdb_c vx x t _ (m.rd hx) ) rfl ?_
 clear m hs a w2; intro w3 m a hs
 refine s_ hs m (ok_move rfl) (b_ m (ok_extract rfl rfl) (b_ m (ok_extract rfl rfl) ?_))
 clear hs a; intro a hs
 refine r_alloc hs m ze56 rfl ?_
 clear m hs a w3; intro p4 w5 m a hs
 refine st_ (cFdb (getM cmpFdb zFdb x t)) (cFdb (getM cmpFdb zFdb x t)) hs m ty56 s0 ?_
 clear m w5; intro w6 m
 refine s_ hs m (ok_assign rfl) (bn_ (bc_ (b_ m (ok_move rfl) (b_ m (ok_not rfl) (b_ m (ok_move rfl) ?_)))))
 clear hs a; intro a hs
 refine l_cut (.c (.c (.c (.c (.n))))) (fun a w => St 23 [(22, .bool ((!(bsHit cmpFdb x t)) || (!(decide (getM cmpFdb zFdb x t = t)))))] a ∧ Hp w0 (hh w0) [Bx p4 56 (cFdb (getM cmpFdb zFdb x t)), Bx p1 56 (cFdb t)] w) ?_ ?_
 ·rcases Bool.eq_false_or_eq_true (!(bsHit cmpFdb x t)) with hb7 | hb7
  ·have hb7p := hb7; simp only [bp_] at hb7p
   refine so_ hs hb7 (bo_ hb7 (bo_ hb7 (b_ m (ok_pick (r := .bool ((!(bsHit cmpFdb x t)) || (!(decide (getM cmpFdb zFdb x t = t))))) rfl rfl rfl (by rw [hb7]; rfl)) ?_)))
   clear hs a; intro a hs
   exact wpList_nil (n_then ⟨hs.to ⟨rfl, trivial⟩, m⟩)
  ·have hb7p := hb7; simp only [bp_] at hb7p
   refine sg_ hs hb7 m (ok_load_ag (vs := cFdb (getM cmpFdb zFdb x t)) rfl ty56 (bx_at r0) rfl rfl) (bg_ hb7 m (ok_load_ag (vs := cFdb t) rfl ty56 (bx_at r1) rfl rfl) (bg_ hb7 m (ok_nev (b := decide (getM cmpFdb zFdb x t = t)) rfl rfl eqT56 (fFdb _) (fFdb _) (iFdb (getM cmpFdb zFdb x t) t)) (b_ m (ok_pick (r := .bool ((!(bsHit cmpFdb x t)) || (!(decide (getM cmpFdb zFdb x t = t))))) rfl rfl rfl (by rw [hb7]; rfl)) ?_)))
   clear hs a; intro a hs
   exact wpList_nil (n_then ⟨hs.to ⟨rfl, trivial⟩, m⟩)
 clear hs m a w6; rintro a w8 ⟨hs, m⟩
 refine s_ hs m (ok_assign rfl) (bn_ ?_)
 clear hs a; intro a hs
 refine wp_ret ?_
 refine leave hs (vs := [.bool ((!(bsHit cmpFdb x t)) || (!(decide (getM cmpFdb zFdb x t = t))))]) rfl ⟨rfl, trivial⟩ ?_
 refine ⟨?_, m.sub .n⟩
 have q9 : ((!(bsHit cmpFdb x t)) || (!(decide (getM cmpFdb zFdb x t = t))) : Bool) = lacksM cmpFdb zFdb x t := by clear hs m; simp [lacksM, *]
 (rw [q9]; rfl)
theorem risesRoute_c (vx : SH) (x : List TRoute) (w0 : World) (hx : RdS (hh w0) 4 vx.v (x.map cRoute)) : Pure Tryz.prog 109 [vx.v, .func (.func 45) ⟨[]⟩ ⟨[]⟩] (.bool (risesM cmpRoute x)) w0 := by
 have lvx := hx.bd
 refine enter (n := 28) Tryz.func109 rfl rfl rfl fun a (hs : St 28 [(0, vx.v), (1, .func (.func 45) ⟨[]⟩ ⟨[]⟩)] a) => ?_
 have m := Hp.start w0
 refine c_reg ?_
 refine s_ hs m (ok_assign rfl) (bn_ ?_)
 clear hs a; intro a hs
 refine c_seq ?_
 refine c_reg ?_
 refine s_ hs m (ok_move rfl) (b_ m (ok_len (r := (x.length : Int)) m rfl sl25 (rc_fr hx) (by simp)) (b_ m (ok_move rfl) (bn_ ?_)))
 clear hs a; intro a hs
 refine wp_block ?_
 refine wp_loop_ghost (fun gn a w => ∃ k : Nat, (k ≤ x.length) ∧ (allK (riseAt cmpRoute x) k = true) ∧ gn = x.length - k ∧ St 28 [(0, vx.v), (1, .func (.func 45) ⟨[]⟩ ⟨[]⟩), (7, .int .i64 (x.length : Int)), (8, .int .i64 (k : Int))] a ∧ Hp w0 (hh w0) [] w) (x.length - 0) ⟨0, by omega, by rfl, rfl, hs.to ⟨rfl, rfl, rfl, rfl, trivial⟩, m.sub .n⟩ ?_
 clear hs m a
 rintro gn a w1 ⟨k, hk, ho, rfl, hs, m⟩
 refine c_reg ?_
 refine s_ hs m (ok_bin rfl rfl rfl) (bn_ ?_)
 clear hs a; intro a hs
 refine c_seq ?_
 refine c_cond hs rfl (fun h2 => ?_) (fun h2 => ?_)
 rotate_left
 ·have h2p := of_decide_eq_false h2
  refine wp_exit ?_
  refine ex_then (ex_then (ex_hit (?_)))
  refine n_then ?_
  refine c_reg ?_
  refine s_ hs m (ok_assign rfl) (bn_ ?_)
  clear hs a; intro a hs
  refine wp_ret ?_
  refine leave hs (vs := [.bool true]) rfl ⟨rfl, trivial⟩ ?_
  refine ⟨?_, m.sub .n⟩
  have q3 : (true : Bool) = risesM cmpRoute x := by clear hs m; (unfold risesM; rw [show x.length = k by omega]; exact ho.symm)
  (rw [q3]; rfl)
 have h2p := of_decide_eq_true h2
 refine wp_skip ?_
 refine n_then ?_
 refine c_seq ?_
 refine wp_block ?_
 refine c_reg ?_
 refine s_ hs m (ok_move rfl) (b_ m (ok_assign rfl) (bn_ ?_))
 clear hs a; intro a hs
 refine c_draw m mo (by kernel_rfl) ?_
 refine sq_ hs (ok_move rfl) (bq_ (ok_bin rfl rfl rfl) (bq_ (ok_move rfl) ?_))
 clear hs a; intro a hs
 refine q_cut (.c (.c (.c (.c (.c (.c (.c (.c (.c (.c (.c (.c (.c (.n)))))))))))))) (fun a => St 28 [(0, vx.v), (1, .func (.func 45) ⟨[]⟩ ⟨[]⟩), (7, .int .i64 (x.length : Int)), (8, .int .i64 (k : Int)), (26, .bool ((decide ((k : Int) > 0)) && (decide (((cmpRoute ((x[((k : Int) - 1).toNat]?).getD (⟨(⟨⟨0, rfl⟩, ⟨0, rfl⟩⟩ : TPrefix), ⟨0, rfl⟩, false⟩ : TRoute)) ((x[k]?).getD (⟨(⟨⟨0, rfl⟩, ⟨0, rfl⟩⟩ : TPrefix), ⟨0, rfl⟩, false⟩ : TRoute))).v) ≥ 0))))] a) ?_ ?_
 ·rcases Bool.eq_false_or_eq_true (decide ((k : Int) > 0)) with hb4 | hb4
  ·have hb4p := of_decide_eq_true hb4
   refine q_okg hs rfl rfl hb4 (ok_move rfl) rfl ?_
   clear hs a; intro a hs
   refine q_okg hs rfl rfl hb4 (ok_move rfl) rfl ?_
   clear hs a; intro a hs
   refine q_okg hs rfl rfl hb4 (ok_move rfl) rfl ?_
   clear hs a; intro a hs
   refine q_okg hs rfl rfl hb4 (ok_sub (r := (k : Int) - 1) rfl rfl (wrap_i64 (by omega) (by omega))) rfl ?_
   clear hs a; intro a hs
   obtain ⟨e5, he6⟩ := get_of_lt (l := x) (i := ((k : Int) - 1).toNat) (by omega)
   refine elF (c := cRoute) (e := e5) hs m (x := (.tmp 15)) (ix := (.tmp 17)) rfl rfl sl25 ty51 hx (by omega) he6 fun p7 hp8 ok9 => ?_
   refine q_okg hs rfl rfl hb4 (ok9 _ _ _ _ _) rfl ?_
   clear hs a; intro a hs
   refine q_okg hs rfl rfl hb4 (ok_load_ag (vs := cRoute e5) rfl ty51 (fr_at hp8) rfl rfl) rfl ?_
   clear hs a; intro a hs
   refine q_okg hs rfl rfl hb4 (ok_move rfl) rfl ?_
   clear hs a; intro a hs
   refine q_okg hs rfl rfl hb4 (ok_move rfl) rfl ?_
   clear hs a; intro a hs
   obtain ⟨e10, he11⟩ := get_of_lt (l := x) (i := k) (by omega)
   refine elF (c := cRoute) (e := e10) hs m (x := (.tmp 20)) (ix := (.tmp 21)) rfl rfl sl25 ty51 hx (by omega) he11 fun p12 hp13 ok14 => ?_
   refine q_okg hs rfl rfl hb4 (ok14 _ _ _ _ _) rfl ?_
   clear hs a; intro a hs
   refine q_okg hs rfl rfl hb4 (ok_load_ag (vs := cRoute e10) rfl ty51 (fr_at hp13) rfl rfl) rfl ?_
   clear hs a; intro a hs
   refine q_callPg hs rfl rfl hb4 rfl rfl ca45 rfl (fun w m => croute_c e5 e10 w  ) rfl ?_
   clear hs a; intro a hs
   refine q_okg hs rfl rfl hb4 (ok_bin rfl rfl rfl) rfl ?_
   clear hs a; intro a hs
   refine sq_ hs (ok_pick (r := .bool ((decide ((k : Int) > 0)) && (decide (((cmpRoute ((x[((k : Int) - 1).toNat]?).getD (⟨(⟨⟨0, rfl⟩, ⟨0, rfl⟩⟩ : TPrefix), ⟨0, rfl⟩, false⟩ : TRoute)) ((x[k]?).getD (⟨(⟨⟨0, rfl⟩, ⟨0, rfl⟩⟩ : TPrefix), ⟨0, rfl⟩, false⟩ : TRoute))).v) ≥ 0)))) rfl rfl rfl (by (try rw [he6]); (try rw [he11]); rw [hb4]; rfl)) ?_
   clear hs a; intro a hs
   exact wpQuiet_nil (hs.to ⟨rfl, rfl, rfl, rfl, rfl, trivial⟩)
  ·have hb4p := of_decide_eq_false hb4
   refine q_out hs rfl rfl hb4 rfl ?_
   clear hs a; intro a hs
   refine q_out hs rfl rfl hb4 rfl ?_
   clear hs a; intro a hs
   refine q_out hs rfl rfl hb4 rfl ?_
   clear hs a; intro a hs
   refine q_out hs rfl rfl hb4 rfl ?_
   clear hs a; intro a hs
   refine q_out hs rfl rfl hb4 rfl ?_
   clear hs a; intro a hs
   refine q_out hs rfl rfl hb4 rfl ?_
   clear hs a; intro a hs
   refine q_out hs rfl rfl hb4 rfl ?_
   clear hs a; intro a hs
   refine q_out hs rfl rfl hb4 rfl ?_
   clear hs a; intro a hs
   refine q_out hs rfl rfl hb4 rfl ?_
   clear hs a; intro a hs
   refine q_out hs rfl rfl hb4 rfl ?_
   clear hs a; intro a hs
   refine q_out hs rfl rfl hb4 rfl ?_
   clear hs a; intro a hs
   refine q_out hs rfl rfl hb4 rfl ?_
   clear hs a; intro a hs
   refine sq_ hs (ok_pick (r := .bool ((decide ((k : Int) > 0)) && (decide (((cmpRoute ((x[((k : Int) - 1).toNat]?).getD (⟨(⟨⟨0, rfl⟩, ⟨0, rfl⟩⟩ : TPrefix), ⟨0, rfl⟩, false⟩ : TRoute)) ((x[k]?).getD (⟨(⟨⟨0, rfl⟩, ⟨0, rfl⟩⟩ : TPrefix), ⟨0, rfl⟩, false⟩ : TRoute))).v) ≥ 0)))) rfl rfl rfl (by rw [hb4]; rfl)) ?_
   clear hs a; intro a hs
   exact wpQuiet_nil (hs.to ⟨rfl, rfl, rfl, rfl, rfl, trivial⟩)
 clear hs a; intro a hs
 refine wpQuiet_nil ?_; clear m w1; intro w15 m
 refine c_cond hs rfl (fun h16 => ?_) (fun h16 => ?_)
 ·have h16p := h16; simp only [bp_] at h16p
  refine c_reg ?_
  refine s_ hs m (ok_assign rfl) (bn_ ?_)
  clear hs a; intro a hs
  refine wp_ret ?_
  refine ret_block (ret_then (ret_then (ret_block (ret_then (leave hs (vs := [.bool false]) rfl ⟨rfl, trivial⟩ ?_)))))
  refine ⟨?_, m.sub .n⟩
  have q17 : (false : Bool) = risesM cmpRoute x := by clear hs m; exact (rises_f (k := k) (by omega) (by assumption)).symm
  (rw [q17]; rfl)
 have h16p := h16; simp only [bp_] at h16p
 refine wp_skip ?_
 refine n_block (n_then ?_)
 refine c_last ?_
 refine s_ hs m (ok_add (r := (k : Int) + 1) rfl rfl (wrap_i64 (by omega) (by omega))) (b_ m (ok_move rfl) (bn_ ?_))
 clear hs a; intro a hs
 exact ⟨x.length - (k + 1), by omega, k + 1, by omega, by exact allK_succ ho (rise_t (by omega) (by assumption)), rfl, hs.to ⟨rfl, rfl, rfl, rfl, trivial⟩, m.sub .n⟩
theorem risesNeigh_c (vx : SH) (x : List TNeigh) (w0 : World) (hx : RdS (hh w0) 7 vx.v (x.map cNeigh)) : Pure Tryz.prog 110 [vx.v, .func (.func 47) ⟨[]⟩ ⟨[]⟩] (.bool (risesM cmpNeigh x)) w0 := by
 have lvx := hx.bd
 refine enter (n := 28) Tryz.func110 rfl rfl rfl fun a (hs : St 28 [(0, vx.v), (1, .func (.func 47) ⟨[]⟩ ⟨[]⟩)] a) => ?_
 have m := Hp.start w0
 refine c_reg ?_
 refine s_ hs m (ok_assign rfl) (bn_ ?_)
 clear hs a; intro a hs
 refine c_seq ?_
 refine c_reg ?_
 refine s_ hs m (ok_move rfl) (b_ m (ok_len (r := (x.length : Int)) m rfl sl26 (rc_fr hx) (by simp)) (b_ m (ok_move rfl) (bn_ ?_)))
 clear hs a; intro a hs
 refine wp_block ?_
 refine wp_loop_ghost (fun gn a w => ∃ k : Nat, (k ≤ x.length) ∧ (allK (riseAt cmpNeigh x) k = true) ∧ gn = x.length - k ∧ St 28 [(0, vx.v), (1, .func (.func 47) ⟨[]⟩ ⟨[]⟩), (7, .int .i64 (x.length : Int)), (8, .int .i64 (k : Int))] a ∧ Hp w0 (hh w0) [] w) (x.length - 0) ⟨0, by omega, by rfl, rfl, hs.to ⟨rfl, rfl, rfl, rfl, trivial⟩, m.sub .n⟩ ?_
 clear hs m a
 rintro gn a w1 ⟨k, hk, ho, rfl, hs, m⟩
 refine c_reg ?_
 refine s_ hs m (ok_bin rfl rfl rfl) (bn_ ?_)
 clear hs a; intro a hs
 refine c_seq ?_
 refine c_cond hs rfl (fun h2 => ?_) (fun h2 => ?_)
 rotate_left
 ·have h2p := of_decide_eq_false h2
  refine wp_exit ?_
  refine ex_then (ex_then (ex_hit (?_)))
  refine n_then ?_
  refine c_reg ?_
  refine s_ hs m (ok_assign rfl) (bn_ ?_)
  clear hs a; intro a hs
  refine wp_ret ?_
  refine leave hs (vs := [.bool true]) rfl ⟨rfl, trivial⟩ ?_
  refine ⟨?_, m.sub .n⟩
  have q3 : (true : Bool) = risesM cmpNeigh x := by clear hs m; (unfold risesM; rw [show x.length = k by omega]; exact ho.symm)
  (rw [q3]; rfl)
 have h2p := of_decide_eq_true h2
 refine wp_skip ?_
 refine n_then ?_
 refine c_seq ?_
 refine wp_block ?_
 refine c_reg ?_
 refine s_ hs m (ok_move rfl) (b_ m (ok_assign rfl) (bn_ ?_))
 clear hs a; intro a hs
 refine c_draw m mo (by kernel_rfl) ?_
 refine sq_ hs (ok_move rfl) (bq_ (ok_bin rfl rfl rfl) (bq_ (ok_move rfl) ?_))
 clear hs a; intro a hs
 refine q_cut (.c (.c (.c (.c (.c (.c (.c (.c (.c (.c (.c (.c (.c (.n)))))))))))))) (fun a => St 28 [(0, vx.v), (1, .func (.func 47) ⟨[]⟩ ⟨[]⟩), (7, .int .i64 (x.length : Int)), (8, .int .i64 (k : Int)), (26, .bool ((decide ((k : Int) > 0)) && (decide (((cmpNeigh ((x[((k : Int) - 1).toNat]?).getD (⟨⟨0, rfl⟩, (⟨⟨0, rfl⟩, ⟨0, rfl⟩, ⟨0, rfl⟩, ⟨0, rfl⟩, ⟨0, rfl⟩, ⟨0, rfl⟩⟩ : TMAC)⟩ : TNeigh)) ((x[k]?).getD (⟨⟨0, rfl⟩, (⟨⟨0, rfl⟩, ⟨0, rfl⟩, ⟨0, rfl⟩, ⟨0, rfl⟩, ⟨0, rfl⟩, ⟨0, rfl⟩⟩ : TMAC)⟩ : TNeigh))).v) ≥ 0))))] a) ?_ ?_
 ·rcases Bool.eq_false_or_eq_true (decide ((k : Int) > 0)) with hb4 | hb4
  ·have hb4p := of_decide_eq_true hb4
   refine q_okg hs rfl rfl hb4 (ok_move rfl) rfl ?_
   clear hs a; intro a hs
   refine q_okg hs rfl rfl hb4 (ok_move rfl) rfl ?_
   clear hs a; intro a hs
   refine q_okg hs rfl rfl hb4 (ok_move rfl) rfl ?_
   clear hs a; intro a hs
   refine q_okg hs rfl rfl hb4 (ok_sub (r := (k : Int) - 1) rfl rfl (wrap_i64 (by omega) (by omega))) rfl ?_
   clear hs a; intro a hs
   obtain ⟨e5, he6⟩ := get_of_lt (l := x) (i := ((k : Int) - 1).toNat) (by omega)
   refine elF (c := cNeigh) (e := e5) hs m (x := (.tmp 15)) (ix := (.tmp 17)) rfl rfl sl26 ty54 hx (by omega) he6 fun p7 hp8 ok9 => ?_
   refine q_okg hs rfl rfl hb4 (ok9 _ _ _ _ _) rfl ?_
   clear hs a; intro a hs
   refine q_okg hs rfl rfl hb4 (ok_load_ag (vs := cNeigh e5) rfl ty54 (fr_at hp8) rfl rfl) rfl ?_
   clear hs a; intro a hs
   refine q_okg hs rfl rfl hb4 (ok_move rfl) rfl ?_
   clear hs a; intro a hs
   refine q_okg hs rfl rfl hb4 (ok_move rfl) rfl ?_
   clear hs a; intro a hs
   obtain ⟨e10, he11⟩ := get_of_lt (l := x) (i := k) (by omega)
   refine elF (c := cNeigh) (e := e10) hs m (x := (.tmp 20)) (ix := (.tmp 21)) rfl rfl sl26 ty54 hx (by omega) he11 fun p12 hp13 ok14 => ?_
   refine q_okg hs rfl rfl hb4 (ok14 _ _ _ _ _) rfl ?_
   clear hs a; intro a hs
   refine q_okg hs rfl rfl hb4 (ok_load_ag (vs := cNeigh e10) rfl ty54 (fr_at hp13) rfl rfl) rfl ?_
   clear hs a; intro a hs
   refine q_callPg hs rfl rfl hb4 rfl rfl ca47 rfl (fun w m => cneigh_c e5 e10 w  ) rfl ?_
   clear hs a; intro a hs
   refine q_okg hs rfl rfl hb4 (ok_bin rfl rfl rfl) rfl ?_
   clear hs a; intro a hs
   refine sq_ hs (ok_pick (r := .bool ((decide ((k : Int) > 0)) && (decide (((cmpNeigh ((x[((k : Int) - 1).toNat]?).getD (⟨⟨0, rfl⟩, (⟨⟨0, rfl⟩, ⟨0, rfl⟩, ⟨0, rfl⟩, ⟨0, rfl⟩, ⟨0, rfl⟩, ⟨0, rfl⟩⟩ : TMAC)⟩ : TNeigh)) ((x[k]?).getD (⟨⟨0, rfl⟩, (⟨⟨0, rfl⟩, ⟨0, rfl⟩, ⟨0, rfl⟩, ⟨0, rfl⟩, ⟨0, rfl⟩, ⟨0, rfl⟩⟩ : TMAC)⟩ : TNeigh))).v) ≥ 0)))) rfl rfl rfl (by (try rw [he6]); (try rw [he11]); rw [hb4]; rfl)) ?_
   clear hs a; intro a hs
   exact wpQuiet_nil (hs.to ⟨rfl, rfl, rfl, rfl, rfl, trivial⟩)
  ·have hb4p := of_decide_eq_false hb4
   refine q_out hs rfl rfl hb4 rfl ?_
   clear hs a; intro a hs
   refine q_out hs rfl rfl hb4 rfl ?_
   clear hs a; intro a hs
   refine q_out hs rfl rfl hb4 rfl ?_
   clear hs a; intro a hs
   refine q_out hs rfl rfl hb4 rfl ?_
   clear hs a; intro a hs
   refine q_out hs rfl rfl hb4 rfl ?_
   clear hs a; intro a hs
   refine q_out hs rfl rfl hb4 rfl ?_
   clear hs a; intro a hs
   refine q_out hs rfl rfl hb4 rfl ?_
   clear hs a; intro a hs
   refine q_out hs rfl rfl hb4 rfl ?_
   clear hs a; intro a hs
   refine q_out hs rfl rfl hb4 rfl ?_
   clear hs a; intro a hs
   refine q_out hs rfl rfl hb4 rfl ?_
   clear hs a; intro a hs
   refine q_out hs rfl rfl hb4 rfl ?_
   clear hs a; intro a hs
   refine q_out hs rfl rfl hb4 rfl ?_
   clear hs a; intro a hs
   refine sq_ hs (ok_pick (r := .bool ((decide ((k : Int) > 0)) && (decide (((cmpNeigh ((x[((k : Int) - 1).toNat]?).getD (⟨⟨0, rfl⟩, (⟨⟨0, rfl⟩, ⟨0, rfl⟩, ⟨0, rfl⟩, ⟨0, rfl⟩, ⟨0, rfl⟩, ⟨0, rfl⟩⟩ : TMAC)⟩ : TNeigh)) ((x[k]?).getD (⟨⟨0, rfl⟩, (⟨⟨0, rfl⟩, ⟨0, rfl⟩, ⟨0, rfl⟩, ⟨0, rfl⟩, ⟨0, rfl⟩, ⟨0, rfl⟩⟩ : TMAC)⟩ : TNeigh))).v) ≥ 0)))) rfl rfl rfl (by rw [hb4]; rfl)) ?_
   clear hs a; intro a hs
   exact wpQuiet_nil (hs.to ⟨rfl, rfl, rfl, rfl, rfl, trivial⟩)
 clear hs a; intro a hs
 refine wpQuiet_nil ?_; clear m w1; intro w15 m
 refine c_cond hs rfl (fun h16 => ?_) (fun h16 => ?_)
 ·have h16p := h16; simp only [bp_] at h16p
  refine c_reg ?_
  refine s_ hs m (ok_assign rfl) (bn_ ?_)
  clear hs a; intro a hs
  refine wp_ret ?_
  refine ret_block (ret_then (ret_then (ret_block (ret_then (leave hs (vs := [.bool false]) rfl ⟨rfl, trivial⟩ ?_)))))
  refine ⟨?_, m.sub .n⟩
  have q17 : (false : Bool) = risesM cmpNeigh x := by clear hs m; exact (rises_f (k := k) (by omega) (by assumption)).symm
  (rw [q17]; rfl)
 have h16p := h16; simp only [bp_] at h16p
 refine wp_skip ?_
 refine n_block (n_then ?_)
 refine c_last ?_
 refine s_ hs m (ok_add (r := (k : Int) + 1) rfl rfl (wrap_i64 (by omega) (by omega))) (b_ m (ok_move rfl) (bn_ ?_))
 clear hs a; intro a hs
 exact ⟨x.length - (k + 1), by omega, k + 1, by omega, by exact allK_succ ho (rise_t (by omega) (by assumption)), rfl, hs.to ⟨rfl, rfl, rfl, rfl, trivial⟩, m.sub .n⟩
theorem risesFdb_c (vx : SH) (x : List TFdb) (w0 : World) (hx : RdS (hh w0) 7 vx.v (x.map cFdb)) : Pure Tryz.prog 111 [vx.v, .func (.func 49) ⟨[]⟩ ⟨[]⟩] (.bool (risesM cmpFdb x)) w0 := by
 have lvx := hx.bd
 refine enter (n := 28) Tryz.func111 rfl rfl rfl fun a (hs : St 28 [(0, vx.v), (1, .func (.func 49) ⟨[]⟩ ⟨[]⟩)] a) => ?_
 have m := Hp.start w0
 refine c_reg ?_
 refine s_ hs m (ok_assign rfl) (bn_ ?_)
 clear hs a; intro a hs
 refine c_seq ?_
 refine c_reg ?_
 refine s_ hs m (ok_move rfl) (b_ m (ok_len (r := (x.length : Int)) m rfl sl27 (rc_fr hx) (by simp)) (b_ m (ok_move rfl) (bn_ ?_)))
 clear hs a; intro a hs
 refine wp_block ?_
 refine wp_loop_ghost (fun gn a w => ∃ k : Nat, (k ≤ x.length) ∧ (allK (riseAt cmpFdb x) k = true) ∧ gn = x.length - k ∧ St 28 [(0, vx.v), (1, .func (.func 49) ⟨[]⟩ ⟨[]⟩), (7, .int .i64 (x.length : Int)), (8, .int .i64 (k : Int))] a ∧ Hp w0 (hh w0) [] w) (x.length - 0) ⟨0, by omega, by rfl, rfl, hs.to ⟨rfl, rfl, rfl, rfl, trivial⟩, m.sub .n⟩ ?_
 clear hs m a
 rintro gn a w1 ⟨k, hk, ho, rfl, hs, m⟩
 refine c_reg ?_
 refine s_ hs m (ok_bin rfl rfl rfl) (bn_ ?_)
 clear hs a; intro a hs
 refine c_seq ?_
 refine c_cond hs rfl (fun h2 => ?_) (fun h2 => ?_)
 rotate_left
 ·have h2p := of_decide_eq_false h2
  refine wp_exit ?_
  refine ex_then (ex_then (ex_hit (?_)))
  refine n_then ?_
  refine c_reg ?_
  refine s_ hs m (ok_assign rfl) (bn_ ?_)
  clear hs a; intro a hs
  refine wp_ret ?_
  refine leave hs (vs := [.bool true]) rfl ⟨rfl, trivial⟩ ?_
  refine ⟨?_, m.sub .n⟩
  have q3 : (true : Bool) = risesM cmpFdb x := by clear hs m; (unfold risesM; rw [show x.length = k by omega]; exact ho.symm)
  (rw [q3]; rfl)
 have h2p := of_decide_eq_true h2
 refine wp_skip ?_
 refine n_then ?_
 refine c_seq ?_
 refine wp_block ?_
 refine c_reg ?_
 refine s_ hs m (ok_move rfl) (b_ m (ok_assign rfl) (bn_ ?_))
 clear hs a; intro a hs
 refine c_draw m mo (by kernel_rfl) ?_
 refine sq_ hs (ok_move rfl) (bq_ (ok_bin rfl rfl rfl) (bq_ (ok_move rfl) ?_))
 clear hs a; intro a hs
 refine q_cut (.c (.c (.c (.c (.c (.c (.c (.c (.c (.c (.c (.c (.c (.n)))))))))))))) (fun a => St 28 [(0, vx.v), (1, .func (.func 49) ⟨[]⟩ ⟨[]⟩), (7, .int .i64 (x.length : Int)), (8, .int .i64 (k : Int)), (26, .bool ((decide ((k : Int) > 0)) && (decide (((cmpFdb ((x[((k : Int) - 1).toNat]?).getD (⟨(⟨⟨0, rfl⟩, ⟨0, rfl⟩, ⟨0, rfl⟩, ⟨0, rfl⟩, ⟨0, rfl⟩, ⟨0, rfl⟩⟩ : TMAC), ⟨0, rfl⟩⟩ : TFdb)) ((x[k]?).getD (⟨(⟨⟨0, rfl⟩, ⟨0, rfl⟩, ⟨0, rfl⟩, ⟨0, rfl⟩, ⟨0, rfl⟩, ⟨0, rfl⟩⟩ : TMAC), ⟨0, rfl⟩⟩ : TFdb))).v) ≥ 0))))] a) ?_ ?_
 ·rcases Bool.eq_false_or_eq_true (decide ((k : Int) > 0)) with hb4 | hb4
  ·have hb4p := of_decide_eq_true hb4
   refine q_okg hs rfl rfl hb4 (ok_move rfl) rfl ?_
   clear hs a; intro a hs
   refine q_okg hs rfl rfl hb4 (ok_move rfl) rfl ?_
   clear hs a; intro a hs
   refine q_okg hs rfl rfl hb4 (ok_move rfl) rfl ?_
   clear hs a; intro a hs
   refine q_okg hs rfl rfl hb4 (ok_sub (r := (k : Int) - 1) rfl rfl (wrap_i64 (by omega) (by omega))) rfl ?_
   clear hs a; intro a hs
   obtain ⟨e5, he6⟩ := get_of_lt (l := x) (i := ((k : Int) - 1).toNat) (by omega)
   refine elF (c := cFdb) (e := e5) hs m (x := (.tmp 15)) (ix := (.tmp 17)) rfl rfl sl27 ty56 hx (by omega) he6 fun p7 hp8 ok9 => ?_
   refine q_okg hs rfl rfl hb4 (ok9 _ _ _ _ _) rfl ?_
   clear hs a; intro a hs
   refine q_okg hs rfl rfl hb4 (ok_load_ag (vs := cFdb e5) rfl ty56 (fr_at hp8) rfl rfl) rfl ?_
   clear hs a; intro a hs
   refine q_okg hs rfl rfl hb4 (ok_move rfl) rfl ?_
   clear hs a; intro a hs
   refine q_okg hs rfl rfl hb4 (ok_move rfl) rfl ?_
   clear hs a; intro a hs
   obtain ⟨e10, he11⟩ := get_of_lt (l := x) (i := k) (by omega)
   refine elF (c := cFdb) (e := e10) hs m (x := (.tmp 20)) (ix := (.tmp 21)) rfl rfl sl27 ty56 hx (by omega) he11 fun p12 hp13 ok14 => ?_
   refine q_okg hs rfl rfl hb4 (ok14 _ _ _ _ _) rfl ?_
   clear hs a; intro a hs
   refine q_okg hs rfl rfl hb4 (ok_load_ag (vs := cFdb e10) rfl ty56 (fr_at hp13) rfl rfl) rfl ?_
   clear hs a; intro a hs
   refine q_callPg hs rfl rfl hb4 rfl rfl ca49 rfl (fun w m => cfdb_c e5 e10 w  ) rfl ?_
   clear hs a; intro a hs
   refine q_okg hs rfl rfl hb4 (ok_bin rfl rfl rfl) rfl ?_
   clear hs a; intro a hs
   refine sq_ hs (ok_pick (r := .bool ((decide ((k : Int) > 0)) && (decide (((cmpFdb ((x[((k : Int) - 1).toNat]?).getD (⟨(⟨⟨0, rfl⟩, ⟨0, rfl⟩, ⟨0, rfl⟩, ⟨0, rfl⟩, ⟨0, rfl⟩, ⟨0, rfl⟩⟩ : TMAC), ⟨0, rfl⟩⟩ : TFdb)) ((x[k]?).getD (⟨(⟨⟨0, rfl⟩, ⟨0, rfl⟩, ⟨0, rfl⟩, ⟨0, rfl⟩, ⟨0, rfl⟩, ⟨0, rfl⟩⟩ : TMAC), ⟨0, rfl⟩⟩ : TFdb))).v) ≥ 0)))) rfl rfl rfl (by (try rw [he6]); (try rw [he11]); rw [hb4]; rfl)) ?_
   clear hs a; intro a hs
   exact wpQuiet_nil (hs.to ⟨rfl, rfl, rfl, rfl, rfl, trivial⟩)
  ·have hb4p := of_decide_eq_false hb4
   refine q_out hs rfl rfl hb4 rfl ?_
   clear hs a; intro a hs
   refine q_out hs rfl rfl hb4 rfl ?_
   clear hs a; intro a hs
   refine q_out hs rfl rfl hb4 rfl ?_
   clear hs a; intro a hs
   refine q_out hs rfl rfl hb4 rfl ?_
   clear hs a; intro a hs
   refine q_out hs rfl rfl hb4 rfl ?_
   clear hs a; intro a hs
   refine q_out hs rfl rfl hb4 rfl ?_
   clear hs a; intro a hs
   refine q_out hs rfl rfl hb4 rfl ?_
   clear hs a; intro a hs
   refine q_out hs rfl rfl hb4 rfl ?_
   clear hs a; intro a hs
   refine q_out hs rfl rfl hb4 rfl ?_
   clear hs a; intro a hs
   refine q_out hs rfl rfl hb4 rfl ?_
   clear hs a; intro a hs
   refine q_out hs rfl rfl hb4 rfl ?_
   clear hs a; intro a hs
   refine q_out hs rfl rfl hb4 rfl ?_
   clear hs a; intro a hs
   refine sq_ hs (ok_pick (r := .bool ((decide ((k : Int) > 0)) && (decide (((cmpFdb ((x[((k : Int) - 1).toNat]?).getD (⟨(⟨⟨0, rfl⟩, ⟨0, rfl⟩, ⟨0, rfl⟩, ⟨0, rfl⟩, ⟨0, rfl⟩, ⟨0, rfl⟩⟩ : TMAC), ⟨0, rfl⟩⟩ : TFdb)) ((x[k]?).getD (⟨(⟨⟨0, rfl⟩, ⟨0, rfl⟩, ⟨0, rfl⟩, ⟨0, rfl⟩, ⟨0, rfl⟩, ⟨0, rfl⟩⟩ : TMAC), ⟨0, rfl⟩⟩ : TFdb))).v) ≥ 0)))) rfl rfl rfl (by rw [hb4]; rfl)) ?_
   clear hs a; intro a hs
   exact wpQuiet_nil (hs.to ⟨rfl, rfl, rfl, rfl, rfl, trivial⟩)
 clear hs a; intro a hs
 refine wpQuiet_nil ?_; clear m w1; intro w15 m
 refine c_cond hs rfl (fun h16 => ?_) (fun h16 => ?_)
 ·have h16p := h16; simp only [bp_] at h16p
  refine c_reg ?_
  refine s_ hs m (ok_assign rfl) (bn_ ?_)
  clear hs a; intro a hs
  refine wp_ret ?_
  refine ret_block (ret_then (ret_then (ret_block (ret_then (leave hs (vs := [.bool false]) rfl ⟨rfl, trivial⟩ ?_)))))
  refine ⟨?_, m.sub .n⟩
  have q17 : (false : Bool) = risesM cmpFdb x := by clear hs m; exact (rises_f (k := k) (by omega) (by assumption)).symm
  (rw [q17]; rfl)
 have h16p := h16; simp only [bp_] at h16p
 refine wp_skip ?_
 refine n_block (n_then ?_)
 refine c_last ?_
 refine s_ hs m (ok_add (r := (k : Int) + 1) rfl rfl (wrap_i64 (by omega) (by omega))) (b_ m (ok_move rfl) (bn_ ?_))
 clear hs a; intro a hs
 exact ⟨x.length - (k + 1), by omega, k + 1, by omega, by exact allK_succ ho (rise_t (by omega) (by assumption)), rfl, hs.to ⟨rfl, rfl, rfl, rfl, trivial⟩, m.sub .n⟩
theorem risesLease_c (vx : SH) (x : List TLease) (w0 : World) (hx : RdS (hh w0) 12 vx.v (x.map cLease)) : Pure Tryz.prog 132 [vx.v, .func (.func 133) ⟨[]⟩ ⟨[]⟩] (.bool (risesM cmpLease x)) w0 := by
 have lvx := hx.bd
 refine enter (n := 28) Tryz.func132 rfl rfl rfl fun a (hs : St 28 [(0, vx.v), (1, .func (.func 133) ⟨[]⟩ ⟨[]⟩)] a) => ?_
 have m := Hp.start w0
 refine c_reg ?_
 refine s_ hs m (ok_assign rfl) (bn_ ?_)
 clear hs a; intro a hs
 refine c_seq ?_
 refine c_reg ?_
 refine s_ hs m (ok_move rfl) (b_ m (ok_len (r := (x.length : Int)) m rfl sl22 (rc_fr hx) (by simp)) (b_ m (ok_move rfl) (bn_ ?_)))
 clear hs a; intro a hs
 refine wp_block ?_
 refine wp_loop_ghost (fun gn a w => ∃ k : Nat, (k ≤ x.length) ∧ (allK (riseAt cmpLease x) k = true) ∧ gn = x.length - k ∧ St 28 [(0, vx.v), (1, .func (.func 133) ⟨[]⟩ ⟨[]⟩), (7, .int .i64 (x.length : Int)), (8, .int .i64 (k : Int))] a ∧ Hp w0 (hh w0) [] w) (x.length - 0) ⟨0, by omega, by rfl, rfl, hs.to ⟨rfl, rfl, rfl, rfl, trivial⟩, m.sub .n⟩ ?_
 clear hs m a
 rintro gn a w1 ⟨k, hk, ho, rfl, hs, m⟩
 refine c_reg ?_
 refine s_ hs m (ok_bin rfl rfl rfl) (bn_ ?_)
 clear hs a; intro a hs
 refine c_seq ?_
 refine c_cond hs rfl (fun h2 => ?_) (fun h2 => ?_)
 rotate_left
 ·have h2p := of_decide_eq_false h2
  refine wp_exit ?_
  refine ex_then (ex_then (ex_hit (?_)))
  refine n_then ?_
  refine c_reg ?_
  refine s_ hs m (ok_assign rfl) (bn_ ?_)
  clear hs a; intro a hs
  refine wp_ret ?_
  refine leave hs (vs := [.bool true]) rfl ⟨rfl, trivial⟩ ?_
  refine ⟨?_, m.sub .n⟩
  have q3 : (true : Bool) = risesM cmpLease x := by clear hs m; (unfold risesM; rw [show x.length = k by omega]; exact ho.symm)
  (rw [q3]; rfl)
 have h2p := of_decide_eq_true h2
 refine wp_skip ?_
 refine n_then ?_
 refine c_seq ?_
 refine wp_block ?_
 refine c_reg ?_
 refine s_ hs m (ok_move rfl) (b_ m (ok_assign rfl) (bn_ ?_))
 clear hs a; intro a hs
 refine c_draw m mo (by kernel_rfl) ?_
 refine sq_ hs (ok_move rfl) (bq_ (ok_bin rfl rfl rfl) (bq_ (ok_move rfl) ?_))
 clear hs a; intro a hs
 refine q_cut (.c (.c (.c (.c (.c (.c (.c (.c (.c (.c (.c (.c (.c (.n)))))))))))))) (fun a => St 28 [(0, vx.v), (1, .func (.func 133) ⟨[]⟩ ⟨[]⟩), (7, .int .i64 (x.length : Int)), (8, .int .i64 (k : Int)), (26, .bool ((decide ((k : Int) > 0)) && (decide (((cmpLease ((x[((k : Int) - 1).toNat]?).getD (⟨⟨0, rfl⟩, (⟨⟨0, rfl⟩, ⟨0, rfl⟩⟩ : TPrefix), ⟨0, rfl⟩, (⟨⟨0, rfl⟩, ⟨0, rfl⟩, ⟨0, rfl⟩, ⟨0, rfl⟩, ⟨0, rfl⟩, ⟨0, rfl⟩⟩ : TMAC), ⟨0, rfl⟩, ⟨0, rfl⟩⟩ : TLease)) ((x[k]?).getD (⟨⟨0, rfl⟩, (⟨⟨0, rfl⟩, ⟨0, rfl⟩⟩ : TPrefix), ⟨0, rfl⟩, (⟨⟨0, rfl⟩, ⟨0, rfl⟩, ⟨0, rfl⟩, ⟨0, rfl⟩, ⟨0, rfl⟩, ⟨0, rfl⟩⟩ : TMAC), ⟨0, rfl⟩, ⟨0, rfl⟩⟩ : TLease))).v) ≥ 0))))] a) ?_ ?_
 ·rcases Bool.eq_false_or_eq_true (decide ((k : Int) > 0)) with hb4 | hb4
  ·have hb4p := of_decide_eq_true hb4
   refine q_okg hs rfl rfl hb4 (ok_move rfl) rfl ?_
   clear hs a; intro a hs
   refine q_okg hs rfl rfl hb4 (ok_move rfl) rfl ?_
   clear hs a; intro a hs
   refine q_okg hs rfl rfl hb4 (ok_move rfl) rfl ?_
   clear hs a; intro a hs
   refine q_okg hs rfl rfl hb4 (ok_sub (r := (k : Int) - 1) rfl rfl (wrap_i64 (by omega) (by omega))) rfl ?_
   clear hs a; intro a hs
   obtain ⟨e5, he6⟩ := get_of_lt (l := x) (i := ((k : Int) - 1).toNat) (by omega)
   refine elF (c := cLease) (e := e5) hs m (x := (.tmp 15)) (ix := (.tmp 17)) rfl rfl sl22 ty48 hx (by omega) he6 fun p7 hp8 ok9 => ?_
   refine q_okg hs rfl rfl hb4 (ok9 _ _ _ _ _) rfl ?_
   clear hs a; intro a hs
   refine q_okg hs rfl rfl hb4 (ok_load_ag (vs := cLease e5) rfl ty48 (fr_at hp8) rfl rfl) rfl ?_
   clear hs a; intro a hs
   refine q_okg hs rfl rfl hb4 (ok_move rfl) rfl ?_
   clear hs a; intro a hs
   refine q_okg hs rfl rfl hb4 (ok_move rfl) rfl ?_
   clear hs a; intro a hs
   obtain ⟨e10, he11⟩ := get_of_lt (l := x) (i := k) (by omega)
   refine elF (c := cLease) (e := e10) hs m (x := (.tmp 20)) (ix := (.tmp 21)) rfl rfl sl22 ty48 hx (by omega) he11 fun p12 hp13 ok14 => ?_
   refine q_okg hs rfl rfl hb4 (ok14 _ _ _ _ _) rfl ?_
   clear hs a; intro a hs
   refine q_okg hs rfl rfl hb4 (ok_load_ag (vs := cLease e10) rfl ty48 (fr_at hp13) rfl rfl) rfl ?_
   clear hs a; intro a hs
   refine q_callPg hs rfl rfl hb4 rfl rfl ca133 rfl (fun w m => clease_c e5 e10 w  ) rfl ?_
   clear hs a; intro a hs
   refine q_okg hs rfl rfl hb4 (ok_bin rfl rfl rfl) rfl ?_
   clear hs a; intro a hs
   refine sq_ hs (ok_pick (r := .bool ((decide ((k : Int) > 0)) && (decide (((cmpLease ((x[((k : Int) - 1).toNat]?).getD (⟨⟨0, rfl⟩, (⟨⟨0, rfl⟩, ⟨0, rfl⟩⟩ : TPrefix), ⟨0, rfl⟩, (⟨⟨0, rfl⟩, ⟨0, rfl⟩, ⟨0, rfl⟩, ⟨0, rfl⟩, ⟨0, rfl⟩, ⟨0, rfl⟩⟩ : TMAC), ⟨0, rfl⟩, ⟨0, rfl⟩⟩ : TLease)) ((x[k]?).getD (⟨⟨0, rfl⟩, (⟨⟨0, rfl⟩, ⟨0, rfl⟩⟩ : TPrefix), ⟨0, rfl⟩, (⟨⟨0, rfl⟩, ⟨0, rfl⟩, ⟨0, rfl⟩, ⟨0, rfl⟩, ⟨0, rfl⟩, ⟨0, rfl⟩⟩ : TMAC), ⟨0, rfl⟩, ⟨0, rfl⟩⟩ : TLease))).v) ≥ 0)))) rfl rfl rfl (by (try rw [he6]); (try rw [he11]); rw [hb4]; rfl)) ?_
   clear hs a; intro a hs
   exact wpQuiet_nil (hs.to ⟨rfl, rfl, rfl, rfl, rfl, trivial⟩)
  ·have hb4p := of_decide_eq_false hb4
   refine q_out hs rfl rfl hb4 rfl ?_
   clear hs a; intro a hs
   refine q_out hs rfl rfl hb4 rfl ?_
   clear hs a; intro a hs
   refine q_out hs rfl rfl hb4 rfl ?_
   clear hs a; intro a hs
   refine q_out hs rfl rfl hb4 rfl ?_
   clear hs a; intro a hs
   refine q_out hs rfl rfl hb4 rfl ?_
   clear hs a; intro a hs
   refine q_out hs rfl rfl hb4 rfl ?_
   clear hs a; intro a hs
   refine q_out hs rfl rfl hb4 rfl ?_
   clear hs a; intro a hs
   refine q_out hs rfl rfl hb4 rfl ?_
   clear hs a; intro a hs
   refine q_out hs rfl rfl hb4 rfl ?_
   clear hs a; intro a hs
   refine q_out hs rfl rfl hb4 rfl ?_
   clear hs a; intro a hs
   refine q_out hs rfl rfl hb4 rfl ?_
   clear hs a; intro a hs
   refine q_out hs rfl rfl hb4 rfl ?_
   clear hs a; intro a hs
   refine sq_ hs (ok_pick (r := .bool ((decide ((k : Int) > 0)) && (decide (((cmpLease ((x[((k : Int) - 1).toNat]?).getD (⟨⟨0, rfl⟩, (⟨⟨0, rfl⟩, ⟨0, rfl⟩⟩ : TPrefix), ⟨0, rfl⟩, (⟨⟨0, rfl⟩, ⟨0, rfl⟩, ⟨0, rfl⟩, ⟨0, rfl⟩, ⟨0, rfl⟩, ⟨0, rfl⟩⟩ : TMAC), ⟨0, rfl⟩, ⟨0, rfl⟩⟩ : TLease)) ((x[k]?).getD (⟨⟨0, rfl⟩, (⟨⟨0, rfl⟩, ⟨0, rfl⟩⟩ : TPrefix), ⟨0, rfl⟩, (⟨⟨0, rfl⟩, ⟨0, rfl⟩, ⟨0, rfl⟩, ⟨0, rfl⟩, ⟨0, rfl⟩, ⟨0, rfl⟩⟩ : TMAC), ⟨0, rfl⟩, ⟨0, rfl⟩⟩ : TLease))).v) ≥ 0)))) rfl rfl rfl (by rw [hb4]; rfl)) ?_
   clear hs a; intro a hs
   exact wpQuiet_nil (hs.to ⟨rfl, rfl, rfl, rfl, rfl, trivial⟩)
 clear hs a; intro a hs
 refine wpQuiet_nil ?_; clear m w1; intro w15 m
 refine c_cond hs rfl (fun h16 => ?_) (fun h16 => ?_)
 ·have h16p := h16; simp only [bp_] at h16p
  refine c_reg ?_
  refine s_ hs m (ok_assign rfl) (bn_ ?_)
  clear hs a; intro a hs
  refine wp_ret ?_
  refine ret_block (ret_then (ret_then (ret_block (ret_then (leave hs (vs := [.bool false]) rfl ⟨rfl, trivial⟩ ?_)))))
  refine ⟨?_, m.sub .n⟩
  have q17 : (false : Bool) = risesM cmpLease x := by clear hs m; exact (rises_f (k := k) (by omega) (by assumption)).symm
  (rw [q17]; rfl)
 have h16p := h16; simp only [bp_] at h16p
 refine wp_skip ?_
 refine n_block (n_then ?_)
 refine c_last ?_
 refine s_ hs m (ok_add (r := (k : Int) + 1) rfl rfl (wrap_i64 (by omega) (by omega))) (b_ m (ok_move rfl) (bn_ ?_))
 clear hs a; intro a hs
 exact ⟨x.length - (k + 1), by omega, k + 1, by omega, by exact allK_succ ho (rise_t (by omega) (by assumption)), rfl, hs.to ⟨rfl, rfl, rfl, rfl, trivial⟩, m.sub .n⟩
end Go.Proofs.YtnbpodjbemfpbaaGreat.Fw
set_option linter.all false
set_option maxHeartbeats 4000000
set_option maxRecDepth 100000
namespace Go.Proofs.YtnbpodjbemfpbaaGreat.Fw
open Go
theorem sameRoutes_c (vx : SH) (x : List TRoute) (vy : SH) (y : List TRoute) (w0 : World) (hx : RdS (hh w0) 4 vx.v (x.map cRoute)) (hy : RdS (hh w0) 4 vy.v (y.map cRoute)) : Pure Tryz.prog 54 [vx.v, vy.v] (.bool (decide (x = y))) w0 := by
 have lvx := hx.bd
 have lvy := hy.bd
 refine enter (n := 26) Tryz.func54 rfl rfl rfl fun a (hs : St 26 [(0, vx.v), (1, vy.v)] a) => ?_
 have m := Hp.start w0
 refine c_reg ?_
 refine s_ hs m (ok_assign rfl) (bn_ ?_)
 clear hs a; intro a hs
 refine c_seq ?_
 refine c_reg ?_
 refine s_ hs m (ok_move rfl) (b_ m (ok_len (r := (x.length : Int)) m rfl sl25 (rc_fr hx) (by simp)) (b_ m (ok_move rfl) (b_ m (ok_len (r := (y.length : Int)) m rfl sl25 (rc_fr hy) (by simp)) (b_ m (ok_bin rfl rfl rfl) (bn_ ?_)))))
 clear hs a; intro a hs
 refine c_cond hs rfl (fun h1 => ?_) (fun h1 => ?_)
 ·have h1p := ne_of_bne h1
  refine c_reg ?_
  refine s_ hs m (ok_assign rfl) (bn_ ?_)
  clear hs a; intro a hs
  refine wp_ret ?_
  refine ret_then (leave hs (vs := [.bool false]) rfl ⟨rfl, trivial⟩ ?_)
  refine ⟨?_, m.sub .n⟩
  have q2 : (false : Bool) = decide (x = y) := by clear hs m; exact same_len (by assumption)
  (rw [q2]; rfl)
 have h1p := eq_of_bne_false h1
 refine wp_skip ?_
 refine n_then ?_
 refine c_seq ?_
 refine c_reg ?_
 refine s_ hs m (ok_assign rfl) (bn_ ?_)
 clear hs a; intro a hs
 refine wp_block ?_
 refine wp_loop_ghost (fun gn a w => ∃ k : Nat, (k ≤ x.length) ∧ (x.take k = y.take k) ∧ gn = x.length - k ∧ St 26 [(0, vx.v), (1, vy.v), (5, .int .i64 (k : Int))] a ∧ Hp w0 (hh w0) [] w) (x.length - 0) ⟨0, by omega, by simp, rfl, hs.to ⟨rfl, rfl, rfl, trivial⟩, m.sub .n⟩ ?_
 clear hs m a
 rintro gn a w3 ⟨k, hk, ht, rfl, hs, m⟩
 refine c_seq ?_
 refine c_reg ?_
 refine s_ hs m (ok_move rfl) (b_ m (ok_move rfl) (b_ m (ok_len (r := (x.length : Int)) m rfl sl25 (rc_fr hx) (by simp)) (b_ m (ok_bin rfl rfl rfl) (bn_ ?_))))
 clear hs a; intro a hs
 refine c_cond hs rfl (fun h4 => ?_) (fun h4 => ?_)
 rotate_left
 ·have h4p := of_decide_eq_false h4
  refine wp_exit ?_
  refine ex_then (ex_then (ex_hit (?_)))
  refine n_then ?_
  refine c_reg ?_
  refine s_ hs m (ok_assign rfl) (bn_ ?_)
  clear hs a; intro a hs
  refine wp_ret ?_
  refine leave hs (vs := [.bool true]) rfl ⟨rfl, trivial⟩ ?_
  refine ⟨?_, m.sub .n⟩
  have q5 : (true : Bool) = decide (x = y) := by clear hs m; exact same_end (by assumption) (by omega) ht
  (rw [q5]; rfl)
 have h4p := of_decide_eq_true h4
 refine wp_skip ?_
 refine n_then ?_
 refine c_seq ?_
 refine wp_block ?_
 refine c_draw m mo (by kernel_rfl) ?_
 refine sq_ hs (ok_move rfl) (bq_ (ok_move rfl) ?_)
 clear hs a; intro a hs
 obtain ⟨e6, he7⟩ := get_of_lt (l := x) (i := k) (by omega)
 refine elF (c := cRoute) (e := e6) hs m (x := (.tmp 17)) (ix := (.tmp 18)) rfl rfl sl25 ty51 hx (by omega) he7 fun p8 hp9 ok10 => ?_
 refine sq_ hs (ok10 _ _ _ _ _) (bq_ (ok_load_ag (vs := cRoute e6) rfl ty51 (fr_at hp9) rfl rfl) (bq_ (ok_move rfl) (bq_ (ok_move rfl) ?_)))
 clear hs a; intro a hs
 obtain ⟨e11, he12⟩ := get_of_lt (l := y) (i := k) (by omega)
 refine elF (c := cRoute) (e := e11) hs m (x := (.tmp 21)) (ix := (.tmp 22)) rfl rfl sl25 ty51 hy (by omega) he12 fun p13 hp14 ok15 => ?_
 refine sq_ hs (ok15 _ _ _ _ _) (bq_ (ok_load_ag (vs := cRoute e11) rfl ty51 (fr_at hp14) rfl rfl) (bq_ (ok_nev (b := decide (e6 = e11)) rfl rfl eqT51 (fRoute _) (fRoute _) (iRoute e6 e11)) ?_))
 clear hs a; intro a hs
 refine wpQuiet_nil ?_; clear m w3; intro w16 m
 refine c_cond hs rfl (fun h17 => ?_) (fun h17 => ?_)
 ·have h17p := h17; simp only [bp_] at h17p
  refine c_reg ?_
  refine s_ hs m (ok_assign rfl) (bn_ ?_)
  clear hs a; intro a hs
  refine wp_ret ?_
  refine ret_block (ret_then (ret_then (ret_block (ret_then (leave hs (vs := [.bool false]) rfl ⟨rfl, trivial⟩ ?_)))))
  refine ⟨?_, m.sub .n⟩
  have q18 : (false : Bool) = decide (x = y) := by clear hs m; exact same_miss (by assumption) (by assumption) (by assumption)
  (rw [q18]; rfl)
 have h17p := h17; simp only [bp_] at h17p
 refine wp_skip ?_
 refine n_block (n_then ?_)
 refine c_last ?_
 refine s_ hs m (ok_move rfl) (b_ m (ok_add (r := (k : Int) + 1) rfl rfl (wrap_i64 (by omega) (by omega))) (b_ m (ok_assign rfl) (bn_ ?_)))
 clear hs a; intro a hs
 exact ⟨x.length - (k + 1), by omega, k + 1, by omega, by exact same_next ht (by assumption) (by assumption) (by assumption), rfl, hs.to ⟨rfl, rfl, rfl, trivial⟩, m.sub .n⟩
theorem sameLeases_c (vx : SH) (x : List TLease) (vy : SH) (y : List TLease) (w0 : World) (hx : RdS (hh w0) 12 vx.v (x.map cLease)) (hy : RdS (hh w0) 12 vy.v (y.map cLease)) : Pure Tryz.prog 15 [vx.v, vy.v] (.bool (decide (x = y))) w0 := by
 have lvx := hx.bd
 have lvy := hy.bd
 refine enter (n := 26) Tryz.func15 rfl rfl rfl fun a (hs : St 26 [(0, vx.v), (1, vy.v)] a) => ?_
 have m := Hp.start w0
 refine c_reg ?_
 refine s_ hs m (ok_assign rfl) (bn_ ?_)
 clear hs a; intro a hs
 refine c_seq ?_
 refine c_reg ?_
 refine s_ hs m (ok_move rfl) (b_ m (ok_len (r := (x.length : Int)) m rfl sl22 (rc_fr hx) (by simp)) (b_ m (ok_move rfl) (b_ m (ok_len (r := (y.length : Int)) m rfl sl22 (rc_fr hy) (by simp)) (b_ m (ok_bin rfl rfl rfl) (bn_ ?_)))))
 clear hs a; intro a hs
 refine c_cond hs rfl (fun h1 => ?_) (fun h1 => ?_)
 ·have h1p := ne_of_bne h1
  refine c_reg ?_
  refine s_ hs m (ok_assign rfl) (bn_ ?_)
  clear hs a; intro a hs
  refine wp_ret ?_
  refine ret_then (leave hs (vs := [.bool false]) rfl ⟨rfl, trivial⟩ ?_)
  refine ⟨?_, m.sub .n⟩
  have q2 : (false : Bool) = decide (x = y) := by clear hs m; exact same_len (by assumption)
  (rw [q2]; rfl)
 have h1p := eq_of_bne_false h1
 refine wp_skip ?_
 refine n_then ?_
 refine c_seq ?_
 refine c_reg ?_
 refine s_ hs m (ok_assign rfl) (bn_ ?_)
 clear hs a; intro a hs
 refine wp_block ?_
 refine wp_loop_ghost (fun gn a w => ∃ k : Nat, (k ≤ x.length) ∧ (x.take k = y.take k) ∧ gn = x.length - k ∧ St 26 [(0, vx.v), (1, vy.v), (5, .int .i64 (k : Int))] a ∧ Hp w0 (hh w0) [] w) (x.length - 0) ⟨0, by omega, by simp, rfl, hs.to ⟨rfl, rfl, rfl, trivial⟩, m.sub .n⟩ ?_
 clear hs m a
 rintro gn a w3 ⟨k, hk, ht, rfl, hs, m⟩
 refine c_seq ?_
 refine c_reg ?_
 refine s_ hs m (ok_move rfl) (b_ m (ok_move rfl) (b_ m (ok_len (r := (x.length : Int)) m rfl sl22 (rc_fr hx) (by simp)) (b_ m (ok_bin rfl rfl rfl) (bn_ ?_))))
 clear hs a; intro a hs
 refine c_cond hs rfl (fun h4 => ?_) (fun h4 => ?_)
 rotate_left
 ·have h4p := of_decide_eq_false h4
  refine wp_exit ?_
  refine ex_then (ex_then (ex_hit (?_)))
  refine n_then ?_
  refine c_reg ?_
  refine s_ hs m (ok_assign rfl) (bn_ ?_)
  clear hs a; intro a hs
  refine wp_ret ?_
  refine leave hs (vs := [.bool true]) rfl ⟨rfl, trivial⟩ ?_
  refine ⟨?_, m.sub .n⟩
  have q5 : (true : Bool) = decide (x = y) := by clear hs m; exact same_end (by assumption) (by omega) ht
  (rw [q5]; rfl)
 have h4p := of_decide_eq_true h4
 refine wp_skip ?_
 refine n_then ?_
 refine c_seq ?_
 refine wp_block ?_
 refine c_draw m mo (by kernel_rfl) ?_
 refine sq_ hs (ok_move rfl) (bq_ (ok_move rfl) ?_)
 clear hs a; intro a hs
 obtain ⟨e6, he7⟩ := get_of_lt (l := x) (i := k) (by omega)
 refine elF (c := cLease) (e := e6) hs m (x := (.tmp 17)) (ix := (.tmp 18)) rfl rfl sl22 ty48 hx (by omega) he7 fun p8 hp9 ok10 => ?_
 refine sq_ hs (ok10 _ _ _ _ _) (bq_ (ok_load_ag (vs := cLease e6) rfl ty48 (fr_at hp9) rfl rfl) (bq_ (ok_move rfl) (bq_ (ok_move rfl) ?_)))
 clear hs a; intro a hs
 obtain ⟨e11, he12⟩ := get_of_lt (l := y) (i := k) (by omega)
 refine elF (c := cLease) (e := e11) hs m (x := (.tmp 21)) (ix := (.tmp 22)) rfl rfl sl22 ty48 hy (by omega) he12 fun p13 hp14 ok15 => ?_
 refine sq_ hs (ok15 _ _ _ _ _) (bq_ (ok_load_ag (vs := cLease e11) rfl ty48 (fr_at hp14) rfl rfl) (bq_ (ok_nev (b := decide (e6 = e11)) rfl rfl eqT48 (fLease _) (fLease _) (iLease e6 e11)) ?_))
 clear hs a; intro a hs
 refine wpQuiet_nil ?_; clear m w3; intro w16 m
 refine c_cond hs rfl (fun h17 => ?_) (fun h17 => ?_)
 ·have h17p := h17; simp only [bp_] at h17p
  refine c_reg ?_
  refine s_ hs m (ok_assign rfl) (bn_ ?_)
  clear hs a; intro a hs
  refine wp_ret ?_
  refine ret_block (ret_then (ret_then (ret_block (ret_then (leave hs (vs := [.bool false]) rfl ⟨rfl, trivial⟩ ?_)))))
  refine ⟨?_, m.sub .n⟩
  have q18 : (false : Bool) = decide (x = y) := by clear hs m; exact same_miss (by assumption) (by assumption) (by assumption)
  (rw [q18]; rfl)
 have h17p := h17; simp only [bp_] at h17p
 refine wp_skip ?_
 refine n_block (n_then ?_)
 refine c_last ?_
 refine s_ hs m (ok_move rfl) (b_ m (ok_add (r := (k : Int) + 1) rfl rfl (wrap_i64 (by omega) (by omega))) (b_ m (ok_assign rfl) (bn_ ?_)))
 clear hs a; intro a hs
 exact ⟨x.length - (k + 1), by omega, k + 1, by omega, by exact same_next ht (by assumption) (by assumption) (by assumption), rfl, hs.to ⟨rfl, rfl, rfl, trivial⟩, m.sub .n⟩
theorem sameTables_c (vx_Routes : SH) (x_Routes : List TRoute) (vx_Neighs : SH) (x_Neighs : List TNeigh) (vx_Fdbs : SH) (x_Fdbs : List TFdb) (vy_Routes : SH) (y_Routes : List TRoute) (vy_Neighs : SH) (y_Neighs : List TNeigh) (vy_Fdbs : SH) (y_Fdbs : List TFdb) (w0 : World) (hx_Routes : RdS (hh w0) 4 vx_Routes.v (x_Routes.map cRoute)) (hx_Neighs : RdS (hh w0) 7 vx_Neighs.v (x_Neighs.map cNeigh)) (hx_Fdbs : RdS (hh w0) 7 vx_Fdbs.v (x_Fdbs.map cFdb)) (hy_Routes : RdS (hh w0) 4 vy_Routes.v (y_Routes.map cRoute)) (hy_Neighs : RdS (hh w0) 7 vy_Neighs.v (y_Neighs.map cNeigh)) (hy_Fdbs : RdS (hh w0) 7 vy_Fdbs.v (y_Fdbs.map cFdb)) : Pure Tryz.prog 14 [.agg ⟨[vx_Routes.v, vx_Neighs.v, vx_Fdbs.v]⟩, .agg ⟨[vy_Routes.v, vy_Neighs.v, vy_Fdbs.v]⟩] (.bool (decide (x_Routes = y_Routes ∧ x_Neighs = y_Neighs ∧ x_Fdbs = y_Fdbs))) w0 := by
 have lvx_Routes := hx_Routes.bd
 have lvx_Neighs := hx_Neighs.bd
 have lvx_Fdbs := hx_Fdbs.bd
 have lvy_Routes := hy_Routes.bd
 have lvy_Neighs := hy_Neighs.bd
 have lvy_Fdbs := hy_Fdbs.bd
 refine enter (n := 69) Tryz.func14 rfl rfl rfl fun a (hs : St 69 [(0, .agg ⟨[vx_Routes.v, vx_Neighs.v, vx_Fdbs.v]⟩), (1, .agg ⟨[vy_Routes.v, vy_Neighs.v, vy_Fdbs.v]⟩)] a) => ?_
 have m := Hp.start w0
 refine c_reg ?_
 refine r_box (cs := [vx_Routes.v, vx_Neighs.v, vx_Fdbs.v]) hs m rfl rfl rfl ?_
 clear m hs a; intro p1 w2 m a hs
 refine r_box (cs := [vy_Routes.v, vy_Neighs.v, vy_Fdbs.v]) hs m rfl rfl rfl ?_
 clear m hs a w2; intro p3 w4 m a hs
 refine s_ hs m (ok_assign rfl) (bn_ (bc_ (b_ m (ok_fieldAddr (r := 0) rfl fd29_0 ty25 rfl) (b_ m (ok_load_sc rfl ty25 (bx_at r1) rfl) (b_ m (ok_fieldAddr (r := 0) rfl fd29_0 ty25 rfl) (b_ m (ok_load_sc rfl ty25 (bx_at r0) rfl) ?_))))))
 clear hs a; intro a hs
 refine r_callP hs m rfl rfl ca54 rfl (sameRoutes_c vx_Routes x_Routes vy_Routes y_Routes _ (m.rd hx_Routes) (m.rd hy_Routes) ) rfl ?_
 clear m hs a w4; intro w5 m a hs
 refine s_ hs m (ok_assign rfl) (bn_ ?_)
 clear hs a; intro a hs
 refine c_seq ?_
 refine c_reg ?_
 refine s_ hs m (ok_move rfl) (b_ m (ok_not rfl) (b_ m (ok_move rfl) ?_))
 clear hs a; intro a hs
 refine l_cut (.c (.c (.c (.c (.c (.c (.c (.c (.n))))))))) (fun a w => St 69 [(2, .pointer (some (padd p1 0))), (3, .pointer (some (padd p3 0))), (23, .bool ((!(decide (x_Routes = y_Routes))) || ((x_Neighs.length : Int) != (y_Neighs.length : Int))))] a ∧ Hp w0 (hh w0) [Bx p3 29 [vy_Routes.v, vy_Neighs.v, vy_Fdbs.v], Bx p1 29 [vx_Routes.v, vx_Neighs.v, vx_Fdbs.v]] w) ?_ ?_
 ·rcases Bool.eq_false_or_eq_true (!(decide (x_Routes = y_Routes))) with hb6 | hb6
  ·have hb6p := hb6; simp only [bp_] at hb6p
   refine so_ hs hb6 (bo_ hb6 (bo_ hb6 (bo_ hb6 (bo_ hb6 (bo_ hb6 (bo_ hb6 (b_ m (ok_pick (r := .bool ((!(decide (x_Routes = y_Routes))) || ((x_Neighs.length : Int) != (y_Neighs.length : Int)))) rfl rfl rfl (by rw [hb6]; rfl)) ?_)))))))
   clear hs a; intro a hs
   exact wpList_nil (n_then ⟨hs.to ⟨rfl, rfl, rfl, trivial⟩, m⟩)
  ·have hb6p := hb6; simp only [bp_] at hb6p
   refine sg_ hs hb6 m (ok_fieldAddr (r := 1) rfl fd29_1 ty26 rfl) (bg_ hb6 m (ok_load_sc rfl ty26 (bx_at r1) rfl) (bg_ hb6 m (ok_len (r := (x_Neighs.length : Int)) m rfl sl26 (rc_fr hx_Neighs) (by simp)) (bg_ hb6 m (ok_fieldAddr (r := 1) rfl fd29_1 ty26 rfl) (bg_ hb6 m (ok_load_sc rfl ty26 (bx_at r0) rfl) (bg_ hb6 m (ok_len (r := (y_Neighs.length : Int)) m rfl sl26 (rc_fr hy_Neighs) (by simp)) (bg_ hb6 m (ok_bin rfl rfl rfl) (b_ m (ok_pick (r := .bool ((!(decide (x_Routes = y_Routes))) || ((x_Neighs.length : Int) != (y_Neighs.length : Int)))) rfl rfl rfl (by rw [hb6]; rfl)) ?_)))))))
   clear hs a; intro a hs
   exact wpList_nil (n_then ⟨hs.to ⟨rfl, rfl, rfl, trivial⟩, m⟩)
 clear hs m a w5; rintro a w7 ⟨hs, m⟩
 refine s_ hs m (ok_move rfl) ?_
 clear hs a; intro a hs
 refine l_cut (.c (.c (.c (.c (.c (.c (.c (.c (.n))))))))) (fun a w => St 69 [(2, .pointer (some (padd p1 0))), (3, .pointer (some (padd p3 0))), (32, .bool (((!(decide (x_Routes = y_Routes))) || ((x_Neighs.length : Int) != (y_Neighs.length : Int))) || ((x_Fdbs.length : Int) != (y_Fdbs.length : Int))))] a ∧ Hp w0 (hh w0) [Bx p3 29 [vy_Routes.v, vy_Neighs.v, vy_Fdbs.v], Bx p1 29 [vx_Routes.v, vx_Neighs.v, vx_Fdbs.v]] w) ?_ ?_
 ·rcases Bool.eq_false_or_eq_true ((!(decide (x_Routes = y_Routes))) || ((x_Neighs.length : Int) != (y_Neighs.length : Int))) with hb8 | hb8
  ·have hb8p := hb8; simp only [bp_] at hb8p
   refine so_ hs hb8 (bo_ hb8 (bo_ hb8 (bo_ hb8 (bo_ hb8 (bo_ hb8 (bo_ hb8 (b_ m (ok_pick (r := .bool (((!(decide (x_Routes = y_Routes))) || ((x_Neighs.length : Int) != (y_Neighs.length : Int))) || ((x_Fdbs.length : Int) != (y_Fdbs.length : Int)))) rfl rfl rfl (by rw [hb8]; rfl)) ?_)))))))
   clear hs a; intro a hs
   exact wpList_nil (n_then ⟨hs.to ⟨rfl, rfl, rfl, trivial⟩, m⟩)
  ·have hb8p := hb8; simp only [bp_] at hb8p
   refine sg_ hs hb8 m (ok_fieldAddr (r := 2) rfl fd29_2 ty27 rfl) (bg_ hb8 m (ok_load_sc rfl ty27 (bx_at r1) rfl) (bg_ hb8 m (ok_len (r := (x_Fdbs.length : Int)) m rfl sl27 (rc_fr hx_Fdbs) (by simp)) (bg_ hb8 m (ok_fieldAddr (r := 2) rfl fd29_2 ty27 rfl) (bg_ hb8 m (ok_load_sc rfl ty27 (bx_at r0) rfl) (bg_ hb8 m (ok_len (r := (y_Fdbs.length : Int)) m rfl sl27 (rc_fr hy_Fdbs) (by simp)) (bg_ hb8 m (ok_bin rfl rfl rfl) (b_ m (ok_pick (r := .bool (((!(decide (x_Routes = y_Routes))) || ((x_Neighs.length : Int) != (y_Neighs.length : Int))) || ((x_Fdbs.length : Int) != (y_Fdbs.length : Int)))) rfl rfl rfl (by rw [hb8]; rfl)) ?_)))))))
   clear hs a; intro a hs
   exact wpList_nil (n_then ⟨hs.to ⟨rfl, rfl, rfl, trivial⟩, m⟩)
 clear hs m a w7; rintro a w9 ⟨hs, m⟩
 refine wpList_nil (n_then ?_)
 refine c_cond hs rfl (fun h10 => ?_) (fun h10 => ?_)
 ·have h10p := h10; simp only [bp_] at h10p
  refine c_reg ?_
  refine s_ hs m (ok_assign rfl) (bn_ ?_)
  clear hs a; intro a hs
  refine wp_ret ?_
  refine ret_then (leave hs (vs := [.bool false]) rfl ⟨rfl, trivial⟩ ?_)
  refine ⟨?_, m.sub .n⟩
  have q11 : (false : Bool) = decide (x_Routes = y_Routes ∧ x_Neighs = y_Neighs ∧ x_Fdbs = y_Fdbs) := by clear hs m; exact tabs_f0 (by assumption)
  (rw [q11]; rfl)
 have h10p := h10; simp only [bp_] at h10p
 refine wp_skip ?_
 refine n_then ?_
 refine c_seq ?_
 refine c_reg ?_
 refine s_ hs m (ok_assign rfl) (bn_ ?_)
 clear hs a; intro a hs
 refine wp_block ?_
 refine wp_loop_ghost (fun gn a w => ∃ k : Nat, (k ≤ x_Neighs.length) ∧ (x_Neighs.take k = y_Neighs.take k) ∧ gn = x_Neighs.length - k ∧ St 69 [(2, .pointer (some (padd p1 0))), (3, .pointer (some (padd p3 0))), (6, .int .i64 (k : Int))] a ∧ Hp w0 (hh w0) [Bx p1 29 [vx_Routes.v, vx_Neighs.v, vx_Fdbs.v], Bx p3 29 [vy_Routes.v, vy_Neighs.v, vy_Fdbs.v]] w) (x_Neighs.length - 0) ⟨0, by omega, by simp, rfl, hs.to ⟨rfl, rfl, rfl, trivial⟩, m.sub (.c r1 (.c r0 .n))⟩ ?_
 clear hs m a w9
 rintro gn a w12 ⟨k, hk, ht, rfl, hs, m⟩
 refine c_seq ?_
 refine c_reg ?_
 refine s_ hs m (ok_move rfl) (b_ m (ok_fieldAddr (r := 1) rfl fd29_1 ty26 rfl) (b_ m (ok_load_sc rfl ty26 (bx_at r0) rfl) (b_ m (ok_len (r := (x_Neighs.length : Int)) m rfl sl26 (rc_fr hx_Neighs) (by simp)) (b_ m (ok_bin rfl rfl rfl) (bn_ ?_)))))
 clear hs a; intro a hs
 refine c_cond hs rfl (fun h13 => ?_) (fun h13 => ?_)
 rotate_left
 ·have h13p := of_decide_eq_false h13
  refine wp_exit ?_
  refine ex_then (ex_then (ex_hit (?_)))
  refine n_then ?_
  refine c_seq ?_
  refine c_reg ?_
  refine s_ hs m (ok_assign rfl) (bn_ ?_)
  clear hs a; intro a hs
  refine wp_block ?_
  have hN := same_end (x := x_Neighs) (y := y_Neighs) (by omega) (by omega) ht
  clear ht hk
  refine wp_loop_ghost (fun gn a w => ∃ k : Nat, (k ≤ x_Fdbs.length) ∧ (x_Fdbs.take k = y_Fdbs.take k) ∧ gn = x_Fdbs.length - k ∧ St 69 [(2, .pointer (some (padd p1 0))), (3, .pointer (some (padd p3 0))), (7, .int .i64 (k : Int))] a ∧ Hp w0 (hh w0) [Bx p1 29 [vx_Routes.v, vx_Neighs.v, vx_Fdbs.v], Bx p3 29 [vy_Routes.v, vy_Neighs.v, vy_Fdbs.v]] w) (x_Fdbs.length - 0) ⟨0, by omega, by simp, rfl, hs.to ⟨rfl, rfl, rfl, trivial⟩, m.sub (.c r0 (.c r0 .n))⟩ ?_
  clear hs m a w12
  rintro gn a w14 ⟨k, hk, ht, rfl, hs, m⟩
  refine c_seq ?_
  refine c_reg ?_
  refine s_ hs m (ok_move rfl) (b_ m (ok_fieldAddr (r := 2) rfl fd29_2 ty27 rfl) (b_ m (ok_load_sc rfl ty27 (bx_at r0) rfl) (b_ m (ok_len (r := (x_Fdbs.length : Int)) m rfl sl27 (rc_fr hx_Fdbs) (by simp)) (b_ m (ok_bin rfl rfl rfl) (bn_ ?_)))))
  clear hs a; intro a hs
  refine c_cond hs rfl (fun h15 => ?_) (fun h15 => ?_)
  rotate_left
  ·have h15p := of_decide_eq_false h15
   refine wp_exit ?_
   refine ex_then (ex_then (ex_hit (?_)))
   refine n_then ?_
   refine c_reg ?_
   refine s_ hs m (ok_assign rfl) (bn_ ?_)
   clear hs a; intro a hs
   refine wp_ret ?_
   refine leave hs (vs := [.bool true]) rfl ⟨rfl, trivial⟩ ?_
   refine ⟨?_, m.sub .n⟩
   have q16 : (true : Bool) = decide (x_Routes = y_Routes ∧ x_Neighs = y_Neighs ∧ x_Fdbs = y_Fdbs) := by clear hs m; exact tabs_t (by assumption) hN (same_end (by omega) (by omega) ht)
   (rw [q16]; rfl)
  have h15p := of_decide_eq_true h15
  refine wp_skip ?_
  refine n_then ?_
  refine c_seq ?_
  refine wp_block ?_
  refine c_draw m mo (by kernel_rfl) ?_
  refine sq_ hs (ok_fieldAddr (r := 2) rfl fd29_2 ty27 rfl) (bq_ (ok_load_sc rfl ty27 (bx_at r0) rfl) (bq_ (ok_move rfl) ?_))
  clear hs a; intro a hs
  obtain ⟨e17, he18⟩ := get_of_lt (l := x_Fdbs) (i := k) (by omega)
  refine elF (c := cFdb) (e := e17) hs m (x := (.tmp 59)) (ix := (.tmp 60)) rfl rfl sl27 ty56 hx_Fdbs (by omega) he18 fun p19 hp20 ok21 => ?_
  refine sq_ hs (ok21 _ _ _ _ _) (bq_ (ok_load_ag (vs := cFdb e17) rfl ty56 (fr_at hp20) rfl rfl) (bq_ (ok_fieldAddr (r := 2) rfl fd29_2 ty27 rfl) (bq_ (ok_load_sc rfl ty27 (bx_at r1) rfl) (bq_ (ok_move rfl) ?_))))
  clear hs a; intro a hs
  obtain ⟨e22, he23⟩ := get_of_lt (l := y_Fdbs) (i := k) (by omega)
  refine elF (c := cFdb) (e := e22) hs m (x := (.tmp 64)) (ix := (.tmp 65)) rfl rfl sl27 ty56 hy_Fdbs (by omega) he23 fun p24 hp25 ok26 => ?_
  refine sq_ hs (ok26 _ _ _ _ _) (bq_ (ok_load_ag (vs := cFdb e22) rfl ty56 (fr_at hp25) rfl rfl) (bq_ (ok_nev (b := decide (e17 = e22)) rfl rfl eqT56 (fFdb _) (fFdb _) (iFdb e17 e22)) ?_))
  clear hs a; intro a hs
  refine wpQuiet_nil ?_; clear m w14; intro w27 m
  refine c_cond hs rfl (fun h28 => ?_) (fun h28 => ?_)
  ·have h28p := h28; simp only [bp_] at h28p
   refine c_reg ?_
   refine s_ hs m (ok_assign rfl) (bn_ ?_)
   clear hs a; intro a hs
   refine wp_ret ?_
   refine ret_block (ret_then (ret_then (ret_block (ret_then (leave hs (vs := [.bool false]) rfl ⟨rfl, trivial⟩ ?_)))))
   refine ⟨?_, m.sub .n⟩
   have q29 : (false : Bool) = decide (x_Routes = y_Routes ∧ x_Neighs = y_Neighs ∧ x_Fdbs = y_Fdbs) := by clear hs m; exact tabs_f2 (same_miss (by assumption) (by assumption) (by assumption))
   (rw [q29]; rfl)
  have h28p := h28; simp only [bp_] at h28p
  refine wp_skip ?_
  refine n_block (n_then ?_)
  refine c_last ?_
  refine s_ hs m (ok_move rfl) (b_ m (ok_add (r := (k : Int) + 1) rfl rfl (wrap_i64 (by omega) (by omega))) (b_ m (ok_assign rfl) (bn_ ?_)))
  clear hs a; intro a hs
  exact ⟨x_Fdbs.length - (k + 1), by omega, k + 1, by omega, by exact same_next ht (by assumption) (by assumption) (by assumption), rfl, hs.to ⟨rfl, rfl, rfl, trivial⟩, m.sub (.c r0 (.c r0 .n))⟩
 have h13p := of_decide_eq_true h13
 refine wp_skip ?_
 refine n_then ?_
 refine c_seq ?_
 refine wp_block ?_
 refine c_draw m mo (by kernel_rfl) ?_
 refine sq_ hs (ok_fieldAddr (r := 1) rfl fd29_1 ty26 rfl) (bq_ (ok_load_sc rfl ty26 (bx_at r0) rfl) (bq_ (ok_move rfl) ?_))
 clear hs a; intro a hs
 obtain ⟨e30, he31⟩ := get_of_lt (l := x_Neighs) (i := k) (by omega)
 refine elF (c := cNeigh) (e := e30) hs m (x := (.tmp 41)) (ix := (.tmp 42)) rfl rfl sl26 ty54 hx_Neighs (by omega) he31 fun p32 hp33 ok34 => ?_
 refine sq_ hs (ok34 _ _ _ _ _) (bq_ (ok_load_ag (vs := cNeigh e30) rfl ty54 (fr_at hp33) rfl rfl) (bq_ (ok_fieldAddr (r := 1) rfl fd29_1 ty26 rfl) (bq_ (ok_load_sc rfl ty26 (bx_at r1) rfl) (bq_ (ok_move rfl) ?_))))
 clear hs a; intro a hs
 obtain ⟨e35, he36⟩ := get_of_lt (l := y_Neighs) (i := k) (by omega)
 refine elF (c := cNeigh) (e := e35) hs m (x := (.tmp 46)) (ix := (.tmp 47)) rfl rfl sl26 ty54 hy_Neighs (by omega) he36 fun p37 hp38 ok39 => ?_
 refine sq_ hs (ok39 _ _ _ _ _) (bq_ (ok_load_ag (vs := cNeigh e35) rfl ty54 (fr_at hp38) rfl rfl) (bq_ (ok_nev (b := decide (e30 = e35)) rfl rfl eqT54 (fNeigh _) (fNeigh _) (iNeigh e30 e35)) ?_))
 clear hs a; intro a hs
 refine wpQuiet_nil ?_; clear m w12; intro w40 m
 refine c_cond hs rfl (fun h41 => ?_) (fun h41 => ?_)
 ·have h41p := h41; simp only [bp_] at h41p
  refine c_reg ?_
  refine s_ hs m (ok_assign rfl) (bn_ ?_)
  clear hs a; intro a hs
  refine wp_ret ?_
  refine ret_block (ret_then (ret_then (ret_block (ret_then (leave hs (vs := [.bool false]) rfl ⟨rfl, trivial⟩ ?_)))))
  refine ⟨?_, m.sub .n⟩
  have q42 : (false : Bool) = decide (x_Routes = y_Routes ∧ x_Neighs = y_Neighs ∧ x_Fdbs = y_Fdbs) := by clear hs m; exact tabs_f1 (same_miss (by assumption) (by assumption) (by assumption))
  (rw [q42]; rfl)
 have h41p := h41; simp only [bp_] at h41p
 refine wp_skip ?_
 refine n_block (n_then ?_)
 refine c_last ?_
 refine s_ hs m (ok_move rfl) (b_ m (ok_add (r := (k : Int) + 1) rfl rfl (wrap_i64 (by omega) (by omega))) (b_ m (ok_assign rfl) (bn_ ?_)))
 clear hs a; intro a hs
 exact ⟨x_Neighs.length - (k + 1), by omega, k + 1, by omega, by exact same_next ht (by assumption) (by assumption) (by assumption), rfl, hs.to ⟨rfl, rfl, rfl, trivial⟩, m.sub (.c r0 (.c r0 .n))⟩
end Go.Proofs.YtnbpodjbemfpbaaGreat.Fw
set_option linter.all false
set_option maxHeartbeats 4000000
set_option maxRecDepth 100000
namespace Go.Proofs.YtnbpodjbemfpbaaGreat.Fw
open Go
theorem inOrder_c (vt_Routes : SH) (t_Routes : List TRoute) (vt_Neighs : SH) (t_Neighs : List TNeigh) (vt_Fdbs : SH) (t_Fdbs : List TFdb) (w0 : World) (ht_Routes : RdS (hh w0) 4 vt_Routes.v (t_Routes.map cRoute)) (ht_Neighs : RdS (hh w0) 7 vt_Neighs.v (t_Neighs.map cNeigh)) (ht_Fdbs : RdS (hh w0) 7 vt_Fdbs.v (t_Fdbs.map cFdb)) : Pure Tryz.prog 56 [.agg ⟨[vt_Routes.v, vt_Neighs.v, vt_Fdbs.v]⟩] (.bool (inOrderM t_Routes t_Neighs t_Fdbs)) w0 := by
 have lvt_Routes := ht_Routes.bd
 have lvt_Neighs := ht_Neighs.bd
 have lvt_Fdbs := ht_Fdbs.bd
 refine enter (n := 30) Tryz.func56 rfl rfl rfl fun a (hs : St 30 [(0, .agg ⟨[vt_Routes.v, vt_Neighs.v, vt_Fdbs.v]⟩)] a) => ?_
 have m := Hp.start w0
 refine c_reg ?_
 refine r_box (cs := [vt_Routes.v, vt_Neighs.v, vt_Fdbs.v]) hs m rfl rfl rfl ?_
 clear m hs a; intro p1 w2 m a hs
 refine s_ hs m (ok_assign rfl) (bn_ ?_)
 clear hs a; intro a hs
 refine c_seq ?_
 refine c_reg ?_
 refine s_ hs m (ok_fieldAddr (r := 0) rfl fd29_0 ty25 rfl) (b_ m (ok_load_sc rfl ty25 (bx_at r0) rfl) (b_ m (ok_len (r := (t_Routes.length : Int)) m rfl sl25 (rc_fr ht_Routes) (by simp)) (b_ m (ok_move rfl) (bn_ ?_))))
 clear hs a; intro a hs
 refine wp_block ?_
 refine wp_loop_ghost (fun gn a w => ∃ k : Nat, (k ≤ t_Routes.length) ∧ (allK (validAt t_Routes) k = true) ∧ gn = t_Routes.length - k ∧ St 30 [(1, .pointer (some (padd p1 0))), (6, vt_Routes.v), (7, .int .i64 (t_Routes.length : Int)), (8, .int .i64 (k : Int))] a ∧ Hp w0 (hh w0) [Bx p1 29 [vt_Routes.v, vt_Neighs.v, vt_Fdbs.v]] w) (t_Routes.length - 0) ⟨0, by omega, by rfl, rfl, hs.to ⟨rfl, rfl, rfl, rfl, trivial⟩, m.sub (.c r0 .n)⟩ ?_
 clear hs m a w2
 rintro gn a w3 ⟨k, hk, ho, rfl, hs, m⟩
 refine c_reg ?_
 refine s_ hs m (ok_bin rfl rfl rfl) (bn_ ?_)
 clear hs a; intro a hs
 refine c_seq ?_
 refine c_cond hs rfl (fun h4 => ?_) (fun h4 => ?_)
 rotate_left
 ·have h4p := of_decide_eq_false h4
  refine wp_exit ?_
  refine ex_then (ex_then (ex_hit (?_)))
  refine n_then ?_
  refine c_reg ?_
  refine s_ hs m (ok_fieldAddr (r := 0) rfl fd29_0 ty25 rfl) (b_ m (ok_load_sc rfl ty25 (bx_at r0) rfl) ?_)
  clear hs a; intro a hs
  refine r_callP hs m rfl rfl ca109 rfl (risesRoute_c vt_Routes t_Routes _ (m.rd ht_Routes) ) rfl ?_
  clear m hs a w3; intro w5 m a hs
  refine s_ hs m (ok_move rfl) ?_
  clear hs a; intro a hs
  refine l_cut (.c (.c (.c (.c (.n))))) (fun a w => St 30 [(1, .pointer (some (padd p1 0))), (24, .bool ((risesM cmpRoute t_Routes) && (risesM cmpNeigh t_Neighs)))] a ∧ Hp w0 (hh w0) [Bx p1 29 [vt_Routes.v, vt_Neighs.v, vt_Fdbs.v]] w) ?_ ?_
  ·rcases Bool.eq_false_or_eq_true (risesM cmpRoute t_Routes) with hb6 | hb6
   ·refine sg_ hs hb6 m (ok_fieldAddr (r := 1) rfl fd29_1 ty26 rfl) (bg_ hb6 m (ok_load_sc rfl ty26 (bx_at r0) rfl) ?_)
    clear hs a; intro a hs
    refine r_callPg hs rfl rfl hb6 m rfl rfl ca110 rfl (risesNeigh_c vt_Neighs t_Neighs _ (m.rd ht_Neighs) ) rfl ?_
    clear m hs a w5; intro w7 m a hs
    refine s_ hs m (ok_pick (r := .bool ((risesM cmpRoute t_Routes) && (risesM cmpNeigh t_Neighs))) rfl rfl rfl (by rw [hb6]; rfl)) ?_
    clear hs a; intro a hs
    exact wpList_nil (n_then ⟨hs.to ⟨rfl, rfl, trivial⟩, m⟩)
   ·refine so_ hs hb6 (bo_ hb6 (bo_ hb6 (b_ m (ok_pick (r := .bool ((risesM cmpRoute t_Routes) && (risesM cmpNeigh t_Neighs))) rfl rfl rfl (by rw [hb6]; rfl)) ?_)))
    clear hs a; intro a hs
    exact wpList_nil (n_then ⟨hs.to ⟨rfl, rfl, trivial⟩, m⟩)
  clear hs m a w5; rintro a w8 ⟨hs, m⟩
  refine s_ hs m (ok_move rfl) ?_
  clear hs a; intro a hs
  refine l_cut (.c (.c (.c (.c (.n))))) (fun a w => St 30 [(29, .bool (((risesM cmpRoute t_Routes) && (risesM cmpNeigh t_Neighs)) && (risesM cmpFdb t_Fdbs)))] a ∧ Hp w0 (hh w0) [Bx p1 29 [vt_Routes.v, vt_Neighs.v, vt_Fdbs.v]] w) ?_ ?_
  ·rcases Bool.eq_false_or_eq_true ((risesM cmpRoute t_Routes) && (risesM cmpNeigh t_Neighs)) with hb9 | hb9
   ·have hb9p := hb9; simp only [bp_] at hb9p
    refine sg_ hs hb9 m (ok_fieldAddr (r := 2) rfl fd29_2 ty27 rfl) (bg_ hb9 m (ok_load_sc rfl ty27 (bx_at r0) rfl) ?_)
    clear hs a; intro a hs
    refine r_callPg hs rfl rfl hb9 m rfl rfl ca111 rfl (risesFdb_c vt_Fdbs t_Fdbs _ (m.rd ht_Fdbs) ) rfl ?_
    clear m hs a w8; intro w10 m a hs
    refine s_ hs m (ok_pick (r := .bool (((risesM cmpRoute t_Routes) && (risesM cmpNeigh t_Neighs)) && (risesM cmpFdb t_Fdbs))) rfl rfl rfl (by rw [hb9]; rfl)) ?_
    clear hs a; intro a hs
    exact wpList_nil (n_then ⟨hs.to ⟨rfl, trivial⟩, m⟩)
   ·have hb9p := hb9; simp only [bp_] at hb9p
    refine so_ hs hb9 (bo_ hb9 (bo_ hb9 (b_ m (ok_pick (r := .bool (((risesM cmpRoute t_Routes) && (risesM cmpNeigh t_Neighs)) && (risesM cmpFdb t_Fdbs))) rfl rfl rfl (by rw [hb9]; rfl)) ?_)))
    clear hs a; intro a hs
    exact wpList_nil (n_then ⟨hs.to ⟨rfl, trivial⟩, m⟩)
  clear hs m a w8; rintro a w11 ⟨hs, m⟩
  refine s_ hs m (ok_assign rfl) (bn_ ?_)
  clear hs a; intro a hs
  refine wp_ret ?_
  refine leave hs (vs := [.bool (((risesM cmpRoute t_Routes) && (risesM cmpNeigh t_Neighs)) && (risesM cmpFdb t_Fdbs))]) rfl ⟨rfl, trivial⟩ ?_
  refine ⟨?_, m.sub .n⟩
  have q12 : (((risesM cmpRoute t_Routes) && (risesM cmpNeigh t_Neighs)) && (risesM cmpFdb t_Fdbs) : Bool) = inOrderM t_Routes t_Neighs t_Fdbs := by clear hs m; exact inOrder_t (by omega) ho
  (rw [q12]; rfl)
 have h4p := of_decide_eq_true h4
 refine wp_skip ?_
 refine n_then ?_
 refine c_seq ?_
 refine wp_block ?_
 refine c_reg ?_
 obtain ⟨e13, he14⟩ := get_of_lt (l := t_Routes) (i := k) (by omega)
 refine elF (c := cRoute) (e := e13) hs m (x := (.tmp 6)) (ix := (.tmp 8)) rfl rfl sl25 ty51 ht_Routes (by omega) he14 fun p15 hp16 ok17 => ?_
 refine s_ hs m (ok17 _ _ _ _ _) (b_ m (ok_load_ag (vs := cRoute e13) rfl ty51 (fr_at hp16) rfl rfl) ?_)
 clear hs a; intro a hs
 refine r_alloc hs m ze51 rfl ?_
 clear m hs a w3; intro p18 w19 m a hs
 refine st_ (cRoute e13) (cRoute e13) hs m ty51 s0 ?_
 clear m w19; intro w20 m
 refine wpList_nil (n_then ?_)
 refine c_reg ?_
 refine s_ hs m (ok_fieldAddr (r := 0) rfl fd51_0 ty44 rfl) (b_ m (ok_load_ag (vs := cPrefix e13.Dst) rfl ty44 (bx_at r0) rfl rfl) ?_)
 clear hs a; intro a hs
 refine r_callP hs m rfl rfl ca43 rfl (valid_c e13.Dst _  ) rfl ?_
 clear m hs a w20; intro w21 m a hs
 refine s_ hs m (ok_not rfl) (bn_ ?_)
 clear hs a; intro a hs
 refine c_cond hs rfl (fun h22 => ?_) (fun h22 => ?_)
 ·have h22p := h22; simp only [bp_] at h22p
  refine c_reg ?_
  refine s_ hs m (ok_assign rfl) (bn_ ?_)
  clear hs a; intro a hs
  refine wp_ret ?_
  refine ret_block (ret_then (ret_then (ret_block (ret_then (leave hs (vs := [.bool false]) rfl ⟨rfl, trivial⟩ ?_)))))
  refine ⟨?_, m.sub .n⟩
  have q23 : (false : Bool) = inOrderM t_Routes t_Neighs t_Fdbs := by clear hs m; exact inOrder_f (k := k) (by omega) (by assumption) (by assumption)
  (rw [q23]; rfl)
 have h22p := h22; simp only [bp_] at h22p
 refine wp_skip ?_
 refine n_block (n_then ?_)
 refine c_last ?_
 refine s_ hs m (ok_add (r := (k : Int) + 1) rfl rfl (wrap_i64 (by omega) (by omega))) (b_ m (ok_move rfl) (bn_ ?_))
 clear hs a; intro a hs
 exact ⟨t_Routes.length - (k + 1), by omega, k + 1, by omega, by exact allK_succ ho (validAt_t (by assumption) (by assumption)), rfl, hs.to ⟨rfl, rfl, rfl, rfl, trivial⟩, m.sub (.c r1 .n)⟩
theorem wayOf_c (vt_Routes : SH) (t_Routes : List TRoute) (vt_Neighs : SH) (t_Neighs : List TNeigh) (vt_Fdbs : SH) (t_Fdbs : List TFdb) (r : TRoute) (w0 : World) (ht_Routes : RdS (hh w0) 4 vt_Routes.v (t_Routes.map cRoute)) (ht_Neighs : RdS (hh w0) 7 vt_Neighs.v (t_Neighs.map cNeigh)) (ht_Fdbs : RdS (hh w0) 7 vt_Fdbs.v (t_Fdbs.map cFdb)) : Pure Tryz.prog 113 [.agg ⟨[vt_Routes.v, vt_Neighs.v, vt_Fdbs.v]⟩, .agg ⟨cRoute r⟩] (.agg ⟨cagent_way (wayM t_Neighs t_Fdbs r)⟩) w0 := by
 have lvt_Routes := ht_Routes.bd
 have lvt_Neighs := ht_Neighs.bd
 have lvt_Fdbs := ht_Fdbs.bd
 refine enter (n := 35) Tryz.func113 rfl rfl rfl fun a (hs : St 35 [(0, .agg ⟨[vt_Routes.v, vt_Neighs.v, vt_Fdbs.v]⟩), (1, .agg ⟨cRoute r⟩)] a) => ?_
 have m := Hp.start w0
 refine c_reg ?_
 refine r_box (cs := [vt_Routes.v, vt_Neighs.v, vt_Fdbs.v]) hs m rfl rfl rfl ?_
 clear m hs a; intro p1 w2 m a hs
 refine r_box (cs := cRoute r) hs m rfl rfl rfl ?_
 clear m hs a w2; intro p3 w4 m a hs
 refine r_alloc hs m ze180 rfl ?_
 clear m hs a w4; intro p5 w6 m a hs
 refine wpList_nil (n_then ?_)
 refine c_reg ?_
 refine s_ hs m (ok_fieldAddr (r := 1) rfl fd29_1 ty26 rfl) (b_ m (ok_load_sc rfl ty26 (bx_at r2) rfl) (b_ m (ok_fieldAddr (r := 2) rfl fd51_1 ty42 rfl) (b_ m (ok_load_sc rfl ty42 (bx_at r1) rfl) (b_ m (ok_build (cs := cNeigh (⟨r.Via, (⟨⟨0, rfl⟩, ⟨0, rfl⟩, ⟨0, rfl⟩, ⟨0, rfl⟩, ⟨0, rfl⟩, ⟨0, rfl⟩⟩ : TMAC)⟩ : TNeigh)) st54 ze54 rfl rfl) ?_))))
 clear hs a; intro a hs
 refine r_callP hs m rfl rfl ca114 rfl (getNeigh_c vt_Neighs t_Neighs (⟨r.Via, (⟨⟨0, rfl⟩, ⟨0, rfl⟩, ⟨0, rfl⟩, ⟨0, rfl⟩, ⟨0, rfl⟩, ⟨0, rfl⟩⟩ : TMAC)⟩ : TNeigh) _ (m.rd ht_Neighs) ) rfl ?_
 clear m hs a w6; intro w7 m a hs
 refine s_ hs m (ok_move rfl) (b_ m (ok_extract rfl rfl) (b_ m (ok_extract rfl rfl) ?_))
 clear hs a; intro a hs
 refine r_alloc hs m ze54 rfl ?_
 clear m hs a w7; intro p8 w9 m a hs
 refine st_ (cNeigh (getM cmpNeigh zNeigh t_Neighs (⟨r.Via, (⟨⟨0, rfl⟩, ⟨0, rfl⟩, ⟨0, rfl⟩, ⟨0, rfl⟩, ⟨0, rfl⟩, ⟨0, rfl⟩⟩ : TMAC)⟩ : TNeigh))) (cNeigh (getM cmpNeigh zNeigh t_Neighs (⟨r.Via, (⟨⟨0, rfl⟩, ⟨0, rfl⟩, ⟨0, rfl⟩, ⟨0, rfl⟩, ⟨0, rfl⟩, ⟨0, rfl⟩⟩ : TMAC)⟩ : TNeigh))) hs m ty54 s0 ?_
 clear m w9; intro w10 m
 refine s_ hs m (ok_assign rfl) (bn_ ?_)
 clear hs a; intro a hs
 refine c_seq ?_
 refine c_reg ?_
 refine s_ hs m (ok_move rfl) (b_ m (ok_not rfl) (bn_ ?_))
 clear hs a; intro a hs
 refine c_cond hs rfl (fun h11 => ?_) (fun h11 => ?_)
 ·have h11p := h11; simp only [bp_] at h11p
  refine c_reg ?_
  refine s_ hs m (ok_build (cs := cagent_way (⟨false, false, (⟨⟨0, rfl⟩, ⟨0, rfl⟩, ⟨0, rfl⟩, ⟨0, rfl⟩, ⟨0, rfl⟩, ⟨0, rfl⟩⟩ : TMAC), ⟨0, rfl⟩⟩ : Tagent_way)) st180 ze180 rfl rfl) ?_
  clear hs a; intro a hs
  refine st_ (cagent_way (⟨false, false, (⟨⟨0, rfl⟩, ⟨0, rfl⟩, ⟨0, rfl⟩, ⟨0, rfl⟩, ⟨0, rfl⟩, ⟨0, rfl⟩⟩ : TMAC), ⟨0, rfl⟩⟩ : Tagent_way)) (cagent_way (⟨false, false, (⟨⟨0, rfl⟩, ⟨0, rfl⟩, ⟨0, rfl⟩, ⟨0, rfl⟩, ⟨0, rfl⟩, ⟨0, rfl⟩⟩ : TMAC), ⟨0, rfl⟩⟩ : Tagent_way)) hs m ty180 s1 ?_
  clear m w10; intro w12 m
  refine wpList_nil (n_then ?_)
  refine wp_ret ?_
  refine ret_then (leave hs (vs := [.agg ⟨cagent_way (⟨false, false, (⟨⟨0, rfl⟩, ⟨0, rfl⟩, ⟨0, rfl⟩, ⟨0, rfl⟩, ⟨0, rfl⟩, ⟨0, rfl⟩⟩ : TMAC), ⟨0, rfl⟩⟩ : Tagent_way)⟩]) rfl ⟨resv_cell (cs := cagent_way (⟨false, false, (⟨⟨0, rfl⟩, ⟨0, rfl⟩, ⟨0, rfl⟩, ⟨0, rfl⟩, ⟨0, rfl⟩, ⟨0, rfl⟩⟩ : TMAC), ⟨0, rfl⟩⟩ : Tagent_way)) m rfl ty180 r1 rfl, trivial⟩ ?_)
  refine ⟨?_, m.sub .n⟩
  have q13 : ((⟨false, false, (⟨⟨0, rfl⟩, ⟨0, rfl⟩, ⟨0, rfl⟩, ⟨0, rfl⟩, ⟨0, rfl⟩, ⟨0, rfl⟩⟩ : TMAC), ⟨0, rfl⟩⟩ : Tagent_way) : Tagent_way) = wayM t_Neighs t_Fdbs r := by clear hs m; exact wayM_f (by assumption)
  (rw [q13]; rfl)
 have h11p := h11; simp only [bp_] at h11p
 refine wp_skip ?_
 refine n_then ?_
 refine c_reg ?_
 refine s_ hs m (ok_fieldAddr (r := 2) rfl fd29_2 ty27 rfl) (b_ m (ok_load_sc rfl ty27 (bx_at r3) rfl) (b_ m (ok_fieldAddr (r := 1) rfl fd54_1 ty46 rfl) (b_ m (ok_load_ag (vs := cMAC ((getM cmpNeigh zNeigh t_Neighs (⟨r.Via, (⟨⟨0, rfl⟩, ⟨0, rfl⟩, ⟨0, rfl⟩, ⟨0, rfl⟩, ⟨0, rfl⟩, ⟨0, rfl⟩⟩ : TMAC)⟩ : TNeigh)).MAC)) rfl ty46 (bx_at r0) rfl rfl) (b_ m (ok_build (cs := cFdb (⟨(getM cmpNeigh zNeigh t_Neighs (⟨r.Via, (⟨⟨0, rfl⟩, ⟨0, rfl⟩, ⟨0, rfl⟩, ⟨0, rfl⟩, ⟨0, rfl⟩, ⟨0, rfl⟩⟩ : TMAC)⟩ : TNeigh)).MAC, ⟨0, rfl⟩⟩ : TFdb)) st56 ze56 rfl rfl) ?_))))
 clear hs a; intro a hs
 refine r_callP hs m rfl rfl ca115 rfl (getFdb_c vt_Fdbs t_Fdbs (⟨(getM cmpNeigh zNeigh t_Neighs (⟨r.Via, (⟨⟨0, rfl⟩, ⟨0, rfl⟩, ⟨0, rfl⟩, ⟨0, rfl⟩, ⟨0, rfl⟩, ⟨0, rfl⟩⟩ : TMAC)⟩ : TNeigh)).MAC, ⟨0, rfl⟩⟩ : TFdb) _ (m.rd ht_Fdbs) ) rfl ?_
 clear m hs a w10; intro w14 m a hs
 refine s_ hs m (ok_move rfl) (b_ m (ok_extract rfl rfl) (b_ m (ok_extract rfl rfl) ?_))
 clear hs a; intro a hs
 refine r_alloc hs m ze56 rfl ?_
 clear m hs a w14; intro p15 w16 m a hs
 refine st_ (cFdb (getM cmpFdb zFdb t_Fdbs (⟨(getM cmpNeigh zNeigh t_Neighs (⟨r.Via, (⟨⟨0, rfl⟩, ⟨0, rfl⟩, ⟨0, rfl⟩, ⟨0, rfl⟩, ⟨0, rfl⟩, ⟨0, rfl⟩⟩ : TMAC)⟩ : TNeigh)).MAC, ⟨0, rfl⟩⟩ : TFdb))) (cFdb (getM cmpFdb zFdb t_Fdbs (⟨(getM cmpNeigh zNeigh t_Neighs (⟨r.Via, (⟨⟨0, rfl⟩, ⟨0, rfl⟩, ⟨0, rfl⟩, ⟨0, rfl⟩, ⟨0, rfl⟩, ⟨0, rfl⟩⟩ : TMAC)⟩ : TNeigh)).MAC, ⟨0, rfl⟩⟩ : TFdb))) hs m ty56 s0 ?_
 clear m w16; intro w17 m
 refine s_ hs m (ok_assign rfl) (bn_ (bc_ (b_ m (ok_move rfl) (b_ m (ok_fieldAddr (r := 1) rfl fd54_1 ty46 rfl) (b_ m (ok_load_ag (vs := cMAC ((getM cmpNeigh zNeigh t_Neighs (⟨r.Via, (⟨⟨0, rfl⟩, ⟨0, rfl⟩, ⟨0, rfl⟩, ⟨0, rfl⟩, ⟨0, rfl⟩, ⟨0, rfl⟩⟩ : TMAC)⟩ : TNeigh)).MAC)) rfl ty46 (bx_at r1) rfl rfl) (b_ m (ok_fieldAddr (r := 6) rfl fd56_1 ty42 rfl) (b_ m (ok_load_sc rfl ty42 (bx_at r0) rfl) (b_ m (ok_build (cs := cagent_way (⟨true, bsHit cmpFdb t_Fdbs (⟨(getM cmpNeigh zNeigh t_Neighs (⟨r.Via, (⟨⟨0, rfl⟩, ⟨0, rfl⟩, ⟨0, rfl⟩, ⟨0, rfl⟩, ⟨0, rfl⟩, ⟨0, rfl⟩⟩ : TMAC)⟩ : TNeigh)).MAC, ⟨0, rfl⟩⟩ : TFdb), (getM cmpNeigh zNeigh t_Neighs (⟨r.Via, (⟨⟨0, rfl⟩, ⟨0, rfl⟩, ⟨0, rfl⟩, ⟨0, rfl⟩, ⟨0, rfl⟩, ⟨0, rfl⟩⟩ : TMAC)⟩ : TNeigh)).MAC, (getM cmpFdb zFdb t_Fdbs (⟨(getM cmpNeigh zNeigh t_Neighs (⟨r.Via, (⟨⟨0, rfl⟩, ⟨0, rfl⟩, ⟨0, rfl⟩, ⟨0, rfl⟩, ⟨0, rfl⟩, ⟨0, rfl⟩⟩ : TMAC)⟩ : TNeigh)).MAC, ⟨0, rfl⟩⟩ : TFdb)).To⟩ : Tagent_way)) st180 ze180 rfl rfl) ?_))))))))
 clear hs a; intro a hs
 refine st_ (cagent_way (⟨true, bsHit cmpFdb t_Fdbs (⟨(getM cmpNeigh zNeigh t_Neighs (⟨r.Via, (⟨⟨0, rfl⟩, ⟨0, rfl⟩, ⟨0, rfl⟩, ⟨0, rfl⟩, ⟨0, rfl⟩, ⟨0, rfl⟩⟩ : TMAC)⟩ : TNeigh)).MAC, ⟨0, rfl⟩⟩ : TFdb), (getM cmpNeigh zNeigh t_Neighs (⟨r.Via, (⟨⟨0, rfl⟩, ⟨0, rfl⟩, ⟨0, rfl⟩, ⟨0, rfl⟩, ⟨0, rfl⟩, ⟨0, rfl⟩⟩ : TMAC)⟩ : TNeigh)).MAC, (getM cmpFdb zFdb t_Fdbs (⟨(getM cmpNeigh zNeigh t_Neighs (⟨r.Via, (⟨⟨0, rfl⟩, ⟨0, rfl⟩, ⟨0, rfl⟩, ⟨0, rfl⟩, ⟨0, rfl⟩, ⟨0, rfl⟩⟩ : TMAC)⟩ : TNeigh)).MAC, ⟨0, rfl⟩⟩ : TFdb)).To⟩ : Tagent_way)) (cagent_way (⟨true, bsHit cmpFdb t_Fdbs (⟨(getM cmpNeigh zNeigh t_Neighs (⟨r.Via, (⟨⟨0, rfl⟩, ⟨0, rfl⟩, ⟨0, rfl⟩, ⟨0, rfl⟩, ⟨0, rfl⟩, ⟨0, rfl⟩⟩ : TMAC)⟩ : TNeigh)).MAC, ⟨0, rfl⟩⟩ : TFdb), (getM cmpNeigh zNeigh t_Neighs (⟨r.Via, (⟨⟨0, rfl⟩, ⟨0, rfl⟩, ⟨0, rfl⟩, ⟨0, rfl⟩, ⟨0, rfl⟩, ⟨0, rfl⟩⟩ : TMAC)⟩ : TNeigh)).MAC, (getM cmpFdb zFdb t_Fdbs (⟨(getM cmpNeigh zNeigh t_Neighs (⟨r.Via, (⟨⟨0, rfl⟩, ⟨0, rfl⟩, ⟨0, rfl⟩, ⟨0, rfl⟩, ⟨0, rfl⟩, ⟨0, rfl⟩⟩ : TMAC)⟩ : TNeigh)).MAC, ⟨0, rfl⟩⟩ : TFdb)).To⟩ : Tagent_way)) hs m ty180 s2 ?_
 clear m w17; intro w18 m
 refine wpList_nil (n_then ?_)
 refine wp_ret ?_
 refine leave hs (vs := [.agg ⟨cagent_way (⟨true, bsHit cmpFdb t_Fdbs (⟨(getM cmpNeigh zNeigh t_Neighs (⟨r.Via, (⟨⟨0, rfl⟩, ⟨0, rfl⟩, ⟨0, rfl⟩, ⟨0, rfl⟩, ⟨0, rfl⟩, ⟨0, rfl⟩⟩ : TMAC)⟩ : TNeigh)).MAC, ⟨0, rfl⟩⟩ : TFdb), (getM cmpNeigh zNeigh t_Neighs (⟨r.Via, (⟨⟨0, rfl⟩, ⟨0, rfl⟩, ⟨0, rfl⟩, ⟨0, rfl⟩, ⟨0, rfl⟩, ⟨0, rfl⟩⟩ : TMAC)⟩ : TNeigh)).MAC, (getM cmpFdb zFdb t_Fdbs (⟨(getM cmpNeigh zNeigh t_Neighs (⟨r.Via, (⟨⟨0, rfl⟩, ⟨0, rfl⟩, ⟨0, rfl⟩, ⟨0, rfl⟩, ⟨0, rfl⟩, ⟨0, rfl⟩⟩ : TMAC)⟩ : TNeigh)).MAC, ⟨0, rfl⟩⟩ : TFdb)).To⟩ : Tagent_way)⟩]) rfl ⟨resv_cell (cs := cagent_way (⟨true, bsHit cmpFdb t_Fdbs (⟨(getM cmpNeigh zNeigh t_Neighs (⟨r.Via, (⟨⟨0, rfl⟩, ⟨0, rfl⟩, ⟨0, rfl⟩, ⟨0, rfl⟩, ⟨0, rfl⟩, ⟨0, rfl⟩⟩ : TMAC)⟩ : TNeigh)).MAC, ⟨0, rfl⟩⟩ : TFdb), (getM cmpNeigh zNeigh t_Neighs (⟨r.Via, (⟨⟨0, rfl⟩, ⟨0, rfl⟩, ⟨0, rfl⟩, ⟨0, rfl⟩, ⟨0, rfl⟩, ⟨0, rfl⟩⟩ : TMAC)⟩ : TNeigh)).MAC, (getM cmpFdb zFdb t_Fdbs (⟨(getM cmpNeigh zNeigh t_Neighs (⟨r.Via, (⟨⟨0, rfl⟩, ⟨0, rfl⟩, ⟨0, rfl⟩, ⟨0, rfl⟩, ⟨0, rfl⟩, ⟨0, rfl⟩⟩ : TMAC)⟩ : TNeigh)).MAC, ⟨0, rfl⟩⟩ : TFdb)).To⟩ : Tagent_way)) m rfl ty180 r2 rfl, trivial⟩ ?_
 refine ⟨?_, m.sub .n⟩
 have q19 : ((⟨true, bsHit cmpFdb t_Fdbs (⟨(getM cmpNeigh zNeigh t_Neighs (⟨r.Via, (⟨⟨0, rfl⟩, ⟨0, rfl⟩, ⟨0, rfl⟩, ⟨0, rfl⟩, ⟨0, rfl⟩, ⟨0, rfl⟩⟩ : TMAC)⟩ : TNeigh)).MAC, ⟨0, rfl⟩⟩ : TFdb), (getM cmpNeigh zNeigh t_Neighs (⟨r.Via, (⟨⟨0, rfl⟩, ⟨0, rfl⟩, ⟨0, rfl⟩, ⟨0, rfl⟩, ⟨0, rfl⟩, ⟨0, rfl⟩⟩ : TMAC)⟩ : TNeigh)).MAC, (getM cmpFdb zFdb t_Fdbs (⟨(getM cmpNeigh zNeigh t_Neighs (⟨r.Via, (⟨⟨0, rfl⟩, ⟨0, rfl⟩, ⟨0, rfl⟩, ⟨0, rfl⟩, ⟨0, rfl⟩, ⟨0, rfl⟩⟩ : TMAC)⟩ : TNeigh)).MAC, ⟨0, rfl⟩⟩ : TFdb)).To⟩ : Tagent_way) : Tagent_way) = wayM t_Neighs t_Fdbs r := by clear hs m; exact wayM_t (by assumption)
 (rw [q19]; rfl)
theorem stays_c (vx_Routes : SH) (x_Routes : List TRoute) (vx_Neighs : SH) (x_Neighs : List TNeigh) (vx_Fdbs : SH) (x_Fdbs : List TFdb) (vy_Routes : SH) (y_Routes : List TRoute) (vy_Neighs : SH) (y_Neighs : List TNeigh) (vy_Fdbs : SH) (y_Fdbs : List TFdb) (r : TRoute) (w0 : World) (hx_Routes : RdS (hh w0) 4 vx_Routes.v (x_Routes.map cRoute)) (hx_Neighs : RdS (hh w0) 7 vx_Neighs.v (x_Neighs.map cNeigh)) (hx_Fdbs : RdS (hh w0) 7 vx_Fdbs.v (x_Fdbs.map cFdb)) (hy_Routes : RdS (hh w0) 4 vy_Routes.v (y_Routes.map cRoute)) (hy_Neighs : RdS (hh w0) 7 vy_Neighs.v (y_Neighs.map cNeigh)) (hy_Fdbs : RdS (hh w0) 7 vy_Fdbs.v (y_Fdbs.map cFdb)) : Pure Tryz.prog 57 [.agg ⟨[vx_Routes.v, vx_Neighs.v, vx_Fdbs.v]⟩, .agg ⟨[vy_Routes.v, vy_Neighs.v, vy_Fdbs.v]⟩, .agg ⟨cRoute r⟩] (.bool (staysM x_Neighs x_Fdbs y_Routes y_Neighs y_Fdbs r)) w0 := by
 have lvx_Routes := hx_Routes.bd
 have lvx_Neighs := hx_Neighs.bd
 have lvx_Fdbs := hx_Fdbs.bd
 have lvy_Routes := hy_Routes.bd
 have lvy_Neighs := hy_Neighs.bd
 have lvy_Fdbs := hy_Fdbs.bd
 refine enter (n := 35) Tryz.func57 rfl rfl rfl fun a (hs : St 35 [(0, .agg ⟨[vx_Routes.v, vx_Neighs.v, vx_Fdbs.v]⟩), (1, .agg ⟨[vy_Routes.v, vy_Neighs.v, vy_Fdbs.v]⟩), (2, .agg ⟨cRoute r⟩)] a) => ?_
 have m := Hp.start w0
 refine c_reg ?_
 refine r_box (cs := [vx_Routes.v, vx_Neighs.v, vx_Fdbs.v]) hs m rfl rfl rfl ?_
 clear m hs a; intro p1 w2 m a hs
 refine r_box (cs := [vy_Routes.v, vy_Neighs.v, vy_Fdbs.v]) hs m rfl rfl rfl ?_
 clear m hs a w2; intro p3 w4 m a hs
 refine r_box (cs := cRoute r) hs m rfl rfl rfl ?_
 clear m hs a w4; intro p5 w6 m a hs
 refine s_ hs m (ok_assign rfl) (bn_ (bc_ (b_ m (ok_fieldAddr (r := 0) rfl fd29_0 ty25 rfl) (b_ m (ok_load_sc rfl ty25 (bx_at r1) rfl) (b_ m (ok_load_ag (vs := cRoute r) rfl ty51 (bx_at r0) rfl rfl) ?_)))))
 clear hs a; intro a hs
 refine r_callP hs m rfl rfl ca112 rfl (getRoute_c vy_Routes y_Routes r _ (m.rd hy_Routes) ) rfl ?_
 clear m hs a w6; intro w7 m a hs
 refine s_ hs m (ok_move rfl) (b_ m (ok_extract rfl rfl) (b_ m (ok_extract rfl rfl) ?_))
 clear hs a; intro a hs
 refine r_alloc hs m ze51 rfl ?_
 clear m hs a w7; intro p8 w9 m a hs
 refine st_ (cRoute (getM cmpRoute zRoute y_Routes r)) (cRoute (getM cmpRoute zRoute y_Routes r)) hs m ty51 s0 ?_
 clear m w9; intro w10 m
 refine s_ hs m (ok_assign rfl) (bn_ ?_)
 clear hs a; intro a hs
 refine c_draw m mo (by kernel_rfl) ?_
 refine sq_ hs (ok_move rfl) (bq_ (ok_move rfl) ?_)
 clear hs a; intro a hs
 refine q_cut (.c (.c (.c (.c (.n))))) (fun a => St 35 [(3, .pointer (some (padd p1 0))), (4, .pointer (some (padd p3 0))), (5, .pointer (some (padd p5 0))), (21, .bool ((bsHit cmpRoute y_Routes r) && (decide (getM cmpRoute zRoute y_Routes r = r))))] a) ?_ ?_
 ·rcases Bool.eq_false_or_eq_true (bsHit cmpRoute y_Routes r) with hb11 | hb11
  ·refine q_okg hs rfl rfl hb11 (ok_load_ag (vs := cRoute (getM cmpRoute zRoute y_Routes r)) rfl ty51 (bx_at r0) rfl rfl) rfl ?_
   clear hs a; intro a hs
   refine q_okg hs rfl rfl hb11 (ok_load_ag (vs := cRoute r) rfl ty51 (bx_at r1) rfl rfl) rfl ?_
   clear hs a; intro a hs
   refine q_okg hs rfl rfl hb11 (ok_eqv (b := decide (getM cmpRoute zRoute y_Routes r = r)) rfl rfl eqT51 (fRoute _) (fRoute _) (iRoute (getM cmpRoute zRoute y_Routes r) r)) rfl ?_
   clear hs a; intro a hs
   refine sq_ hs (ok_pick (r := .bool ((bsHit cmpRoute y_Routes r) && (decide (getM cmpRoute zRoute y_Routes r = r)))) rfl rfl rfl (by rw [hb11]; rfl)) ?_
   clear hs a; intro a hs
   exact wpQuiet_nil (hs.to ⟨rfl, rfl, rfl, rfl, trivial⟩)
  ·refine q_out hs rfl rfl hb11 rfl ?_
   clear hs a; intro a hs
   refine q_out hs rfl rfl hb11 rfl ?_
   clear hs a; intro a hs
   refine q_out hs rfl rfl hb11 rfl ?_
   clear hs a; intro a hs
   refine sq_ hs (ok_pick (r := .bool ((bsHit cmpRoute y_Routes r) && (decide (getM cmpRoute zRoute y_Routes r = r)))) rfl rfl rfl (by rw [hb11]; rfl)) ?_
   clear hs a; intro a hs
   exact wpQuiet_nil (hs.to ⟨rfl, rfl, rfl, rfl, trivial⟩)
 clear hs a; intro a hs
 refine sq_ hs (ok_move rfl) ?_
 clear hs a; intro a hs
 refine q_cut (.c (.c (.c (.c (.c (.c (.c (.c (.c (.c (.c (.c (.n))))))))))))) (fun a => St 35 [(34, .bool (((bsHit cmpRoute y_Routes r) && (decide (getM cmpRoute zRoute y_Routes r = r))) && (r.Local || (decide (wayM x_Neighs x_Fdbs r = wayM y_Neighs y_Fdbs r)))))] a) ?_ ?_
 ·rcases Bool.eq_false_or_eq_true ((bsHit cmpRoute y_Routes r) && (decide (getM cmpRoute zRoute y_Routes r = r))) with hb12 | hb12
  ·have hb12p := hb12; simp only [bp_] at hb12p
   refine q_okg hs rfl rfl hb12 (ok_fieldAddr (r := 3) rfl fd51_2 ty4 rfl) rfl ?_
   clear hs a; intro a hs
   refine q_okg hs rfl rfl hb12 (ok_load_sc rfl ty4 (bx_at r1) rfl) rfl ?_
   clear hs a; intro a hs
   refine q_okg hs rfl rfl hb12 (ok_move rfl) rfl ?_
   clear hs a; intro a hs
   refine q_cut (.c (.c (.c (.c (.c (.c (.c (.c (.n))))))))) (fun a => St 35 [(22, .bool ((bsHit cmpRoute y_Routes r) && (decide (getM cmpRoute zRoute y_Routes r = r)))), (33, .bool (r.Local || (decide (wayM x_Neighs x_Fdbs r = wayM y_Neighs y_Fdbs r))))] a) ?_ ?_
   ·rcases Bool.eq_false_or_eq_true r.Local with hb13 | hb13
    ·refine q_out hs rfl rfl hb13 rfl ?_
     clear hs a; intro a hs
     refine q_out hs rfl rfl hb13 rfl ?_
     clear hs a; intro a hs
     refine q_out hs rfl rfl hb13 rfl ?_
     clear hs a; intro a hs
     refine q_out hs rfl rfl hb13 rfl ?_
     clear hs a; intro a hs
     refine q_out hs rfl rfl hb13 rfl ?_
     clear hs a; intro a hs
     refine q_out hs rfl rfl hb13 rfl ?_
     clear hs a; intro a hs
     refine q_out hs rfl rfl hb13 rfl ?_
     clear hs a; intro a hs
     refine q_okg hs rfl rfl hb12 (ok_pick (r := .bool (r.Local || (decide (wayM x_Neighs x_Fdbs r = wayM y_Neighs y_Fdbs r)))) rfl rfl rfl (by rw [hb13]; rfl)) rfl ?_
     clear hs a; intro a hs
     exact wpQuiet_nil (hs.to ⟨rfl, rfl, trivial⟩)
    ·refine q_okg hs rfl rfl hb13 (ok_load_ag (vs := [vx_Routes.v, vx_Neighs.v, vx_Fdbs.v]) rfl ty29 (bx_at r3) rfl rfl) rfl ?_
     clear hs a; intro a hs
     refine q_okg hs rfl rfl hb13 (ok_load_ag (vs := cRoute r) rfl ty51 (bx_at r1) rfl rfl) rfl ?_
     clear hs a; intro a hs
     refine q_callPg hs rfl rfl hb13 rfl rfl ca113 rfl (fun w m => wayOf_c vx_Routes x_Routes vx_Neighs x_Neighs vx_Fdbs x_Fdbs r w (m.rd hx_Routes) (m.rd hx_Neighs) (m.rd hx_Fdbs) ) rfl ?_
     clear hs a; intro a hs
     refine q_okg hs rfl rfl hb13 (ok_load_ag (vs := [vy_Routes.v, vy_Neighs.v, vy_Fdbs.v]) rfl ty29 (bx_at r2) rfl rfl) rfl ?_
     clear hs a; intro a hs
     refine q_okg hs rfl rfl hb13 (ok_load_ag (vs := cRoute r) rfl ty51 (bx_at r1) rfl rfl) rfl ?_
     clear hs a; intro a hs
     refine q_callPg hs rfl rfl hb13 rfl rfl ca113 rfl (fun w m => wayOf_c vy_Routes y_Routes vy_Neighs y_Neighs vy_Fdbs y_Fdbs r w (m.rd hy_Routes) (m.rd hy_Neighs) (m.rd hy_Fdbs) ) rfl ?_
     clear hs a; intro a hs
     refine q_okg hs rfl rfl hb13 (ok_eqv (b := decide (wayM x_Neighs x_Fdbs r = wayM y_Neighs y_Fdbs r)) rfl rfl eqT180 (fagent_way _) (fagent_way _) (iagent_way (wayM x_Neighs x_Fdbs r) (wayM y_Neighs y_Fdbs r))) rfl ?_
     clear hs a; intro a hs
     refine q_okg hs rfl rfl hb12 (ok_pick (r := .bool (r.Local || (decide (wayM x_Neighs x_Fdbs r = wayM y_Neighs y_Fdbs r)))) rfl rfl rfl (by rw [hb13]; rfl)) rfl ?_
     clear hs a; intro a hs
     exact wpQuiet_nil (hs.to ⟨rfl, rfl, trivial⟩)
   clear hs a; intro a hs
   refine sq_ hs (ok_pick (r := .bool (((bsHit cmpRoute y_Routes r) && (decide (getM cmpRoute zRoute y_Routes r = r))) && (r.Local || (decide (wayM x_Neighs x_Fdbs r = wayM y_Neighs y_Fdbs r))))) rfl rfl rfl (by rw [hb12]; rfl)) ?_
   clear hs a; intro a hs
   exact wpQuiet_nil (hs.to ⟨rfl, trivial⟩)
  ·have hb12p := hb12; simp only [bp_] at hb12p
   refine q_out hs rfl rfl hb12 rfl ?_
   clear hs a; intro a hs
   refine q_out hs rfl rfl hb12 rfl ?_
   clear hs a; intro a hs
   refine q_out hs rfl rfl hb12 rfl ?_
   clear hs a; intro a hs
   refine q_outU hs rfl rfl rfl ?_
   clear hs a; intro a hs
   refine q_outU hs rfl rfl rfl ?_
   clear hs a; intro a hs
   refine q_outU hs rfl rfl rfl ?_
   clear hs a; intro a hs
   refine q_outU hs rfl rfl rfl ?_
   clear hs a; intro a hs
   refine q_outU hs rfl rfl rfl ?_
   clear hs a; intro a hs
   refine q_outU hs rfl rfl rfl ?_
   clear hs a; intro a hs
   refine q_outU hs rfl rfl rfl ?_
   clear hs a; intro a hs
   refine q_out hs rfl rfl hb12 rfl ?_
   clear hs a; intro a hs
   refine sq_ hs (ok_pick (r := .bool (((bsHit cmpRoute y_Routes r) && (decide (getM cmpRoute zRoute y_Routes r = r))) && (r.Local || (decide (wayM x_Neighs x_Fdbs r = wayM y_Neighs y_Fdbs r))))) rfl rfl rfl (by rw [hb12]; rfl)) ?_
   clear hs a; intro a hs
   exact wpQuiet_nil (hs.to ⟨rfl, trivial⟩)
 clear hs a; intro a hs
 refine sq_ hs (ok_assign rfl) ?_
 clear hs a; intro a hs
 refine wpQuiet_nil ?_; clear m w10; intro w14 m
 refine wp_ret ?_
 refine leave hs (vs := [.bool (((bsHit cmpRoute y_Routes r) && (decide (getM cmpRoute zRoute y_Routes r = r))) && (r.Local || (decide (wayM x_Neighs x_Fdbs r = wayM y_Neighs y_Fdbs r))))]) rfl ⟨rfl, trivial⟩ ?_
 refine ⟨?_, m.sub .n⟩
 have q15 : (((bsHit cmpRoute y_Routes r) && (decide (getM cmpRoute zRoute y_Routes r = r))) && (r.Local || (decide (wayM x_Neighs x_Fdbs r = wayM y_Neighs y_Fdbs r))) : Bool) = staysM x_Neighs x_Fdbs y_Routes y_Neighs y_Fdbs r := by clear hs m; rfl
 (rw [q15]; rfl)
end Go.Proofs.YtnbpodjbemfpbaaGreat.Fw
set_option linter.all false
set_option maxHeartbeats 4000000
set_option maxRecDepth 100000
namespace Go.Proofs.YtnbpodjbemfpbaaGreat.Fw
open Go
theorem diff_c (vx_Routes : SH) (x_Routes : List TRoute) (vx_Neighs : SH) (x_Neighs : List TNeigh) (vx_Fdbs : SH) (x_Fdbs : List TFdb) (vy_Routes : SH) (y_Routes : List TRoute) (vy_Neighs : SH) (y_Neighs : List TNeigh) (vy_Fdbs : SH) (y_Fdbs : List TFdb) (w0 : World) (hx_Routes : RdS (hh w0) 4 vx_Routes.v (x_Routes.map cRoute)) (hx_Neighs : RdS (hh w0) 7 vx_Neighs.v (x_Neighs.map cNeigh)) (hx_Fdbs : RdS (hh w0) 7 vx_Fdbs.v (x_Fdbs.map cFdb)) (hy_Routes : RdS (hh w0) 4 vy_Routes.v (y_Routes.map cRoute)) (hy_Neighs : RdS (hh w0) 7 vy_Neighs.v (y_Neighs.map cNeigh)) (hy_Fdbs : RdS (hh w0) 7 vy_Fdbs.v (y_Fdbs.map cFdb)) (A0 : x_Routes.length ≤ 16777216) (A1 : x_Neighs.length ≤ 16777216) (A2 : x_Fdbs.length ≤ 16777216) (A3 : y_Routes.length ≤ 16777216) (A4 : y_Neighs.length ≤ 16777216) (A5 : y_Fdbs.length ≤ 16777216) : Calls Tryz.prog 17 ⟨[.agg ⟨[vx_Routes.v, vx_Neighs.v, vx_Fdbs.v]⟩, .agg ⟨[vy_Routes.v, vy_Neighs.v, vy_Fdbs.v]⟩]⟩ w0 fun e w' => ∃ v, e = .returned v ∧ (∃ x0 : SH, v = (.tuple ⟨[x0.v, .int .i64 (diffE x_Routes x_Neighs x_Fdbs y_Routes y_Neighs y_Fdbs)]⟩) ∧ Hp w0 (hh w0) [Sv 19 58 x0.v ((diffM x_Routes x_Neighs x_Fdbs y_Routes y_Neighs y_Fdbs).map cOp)] w') := by
 have lvx_Routes := hx_Routes.bd
 have lvx_Neighs := hx_Neighs.bd
 have lvx_Fdbs := hx_Fdbs.bd
 have lvy_Routes := hy_Routes.bd
 have lvy_Neighs := hy_Neighs.bd
 have lvy_Fdbs := hy_Fdbs.bd
 refine enter (n := 151) Tryz.func17 rfl rfl rfl fun a (hs : St 151 [(0, .agg ⟨[vx_Routes.v, vx_Neighs.v, vx_Fdbs.v]⟩), (1, .agg ⟨[vy_Routes.v, vy_Neighs.v, vy_Fdbs.v]⟩)] a) => ?_
 have m := Hp.start w0
 refine c_reg ?_
 refine r_box (cs := [vx_Routes.v, vx_Neighs.v, vx_Fdbs.v]) hs m rfl rfl rfl ?_
 clear m hs a; intro p1 w2 m a hs
 refine r_box (cs := [vy_Routes.v, vy_Neighs.v, vy_Fdbs.v]) hs m rfl rfl rfl ?_
 clear m hs a w2; intro p3 w4 m a hs
 refine s_ hs m (ok_assign rfl) (b_ m (ok_assign rfl) (bn_ ?_))
 clear hs a; intro a hs
 refine c_seq ?_
 refine c_reg ?_
 refine s_ hs m (ok_load_ag (vs := [vx_Routes.v, vx_Neighs.v, vx_Fdbs.v]) rfl ty29 (bx_at r1) rfl rfl) ?_
 clear hs a; intro a hs
 refine r_callP hs m rfl rfl ca56 rfl (inOrder_c vx_Routes x_Routes vx_Neighs x_Neighs vx_Fdbs x_Fdbs _ (m.rd hx_Routes) (m.rd hx_Neighs) (m.rd hx_Fdbs) ) rfl ?_
 clear m hs a w4; intro w5 m a hs
 refine s_ hs m (ok_not rfl) (b_ m (ok_move rfl) ?_)
 clear hs a; intro a hs
 refine l_cut (.c (.c (.c (.c (.n))))) (fun a w => St 151 [(2, .pointer (some (padd p1 0))), (3, .pointer (some (padd p3 0))), (28, .bool ((!(inOrderM x_Routes x_Neighs x_Fdbs)) || (!(inOrderM y_Routes y_Neighs y_Fdbs))))] a ∧ Hp w0 (hh w0) [Bx p3 29 [vy_Routes.v, vy_Neighs.v, vy_Fdbs.v], Bx p1 29 [vx_Routes.v, vx_Neighs.v, vx_Fdbs.v]] w) ?_ ?_
 ·rcases Bool.eq_false_or_eq_true (!(inOrderM x_Routes x_Neighs x_Fdbs)) with hb6 | hb6
  ·have hb6p := hb6; simp only [bp_] at hb6p
   refine so_ hs hb6 (bo_ hb6 (bo_ hb6 (b_ m (ok_pick (r := .bool ((!(inOrderM x_Routes x_Neighs x_Fdbs)) || (!(inOrderM y_Routes y_Neighs y_Fdbs)))) rfl rfl rfl (by rw [hb6]; rfl)) ?_)))
   clear hs a; intro a hs
   exact wpList_nil (n_then ⟨hs.to ⟨rfl, rfl, rfl, trivial⟩, m⟩)
  ·have hb6p := hb6; simp only [bp_] at hb6p
   refine sg_ hs hb6 m (ok_load_ag (vs := [vy_Routes.v, vy_Neighs.v, vy_Fdbs.v]) rfl ty29 (bx_at r0) rfl rfl) ?_
   clear hs a; intro a hs
   refine r_callPg hs rfl rfl hb6 m rfl rfl ca56 rfl (inOrder_c vy_Routes y_Routes vy_Neighs y_Neighs vy_Fdbs y_Fdbs _ (m.rd hy_Routes) (m.rd hy_Neighs) (m.rd hy_Fdbs) ) rfl ?_
   clear m hs a w5; intro w7 m a hs
   refine sg_ hs hb6 m (ok_not rfl) (b_ m (ok_pick (r := .bool ((!(inOrderM x_Routes x_Neighs x_Fdbs)) || (!(inOrderM y_Routes y_Neighs y_Fdbs)))) rfl rfl rfl (by rw [hb6]; rfl)) ?_)
   clear hs a; intro a hs
   exact wpList_nil (n_then ⟨hs.to ⟨rfl, rfl, rfl, trivial⟩, m⟩)
 clear hs m a w5; rintro a w8 ⟨hs, m⟩
 refine wpList_nil (n_then ?_)
 refine c_cond hs rfl (fun h9 => ?_) (fun h9 => ?_)
 ·have h9p := h9; simp only [bp_] at h9p
  refine c_reg ?_
  refine s_ hs m (ok_assign rfl) (b_ m (ok_assign rfl) (bn_ ?_))
  clear hs a; intro a hs
  refine wp_ret ?_
  refine ret_then (leave hs (vs := [nilH.v, .int .i64 161]) rfl ⟨rfl, rfl, trivial⟩ ?_)
  replace m := m.nilSvM cOp 19 58
  have q11 : ([] : List TOp) = diffM x_Routes x_Neighs x_Fdbs y_Routes y_Neighs y_Fdbs := by exact diffM_bad (by assumption)
  rw [q11] at m
  refine ⟨_, rfl, nilH, ?_, m.sub (.c r0 .n)⟩
  have q12 : (161 : Int) = diffE x_Routes x_Neighs x_Fdbs y_Routes y_Neighs y_Fdbs := by clear hs m; exact diffE_bad (by assumption)
  (rw [q12]; rfl)
 have h9p := h9; simp only [bp_] at h9p
 refine wp_skip ?_
 refine n_then ?_
 refine c_reg ?_
 refine s_ hs m (ok_assign rfl) (bn_ ?_)
 clear hs a; intro a hs
 refine c_seq ?_
 refine c_reg ?_
 refine s_ hs m (ok_buildArr (cs := [.bool true, .bool false]) ar120 ty4 ze120 rfl rfl) (b_ m (ok_move rfl) (bn_ ?_))
 clear hs a; intro a hs
 refine wp_block ?_
 refine wp_loop_rounds 3 ?_
 refine rounds_s ?_
 refine c_reg ?_
 refine s_ hs m (ok_bin (v := .bool true) rfl rfl rfl) (bn_ ?_)
 clear hs a; intro a hs
 refine c_seq ?_
 refine c_true hs rfl rfl ?_
 refine wp_skip ?_
 refine n_then ?_
 refine c_seq ?_
 refine wp_block ?_
 refine c_reg ?_
 refine s_ hs m (ok_index_sc (v := .bool true) rfl rfl ar120 ty4 (by omega) (by omega) rfl) (b_ m (ok_assign rfl) (bn_ (bc_ (b_ m (ok_fieldAddr (r := 0) rfl fd29_0 ty25 rfl) (b_ m (ok_load_sc rfl ty25 (bx_at r1) rfl) (b_ m (ok_len (r := (x_Routes.length : Int)) m rfl sl25 (rc_fr hx_Routes) (by simp)) (b_ m (ok_move rfl) (bn_ ?_))))))))
 clear hs a; intro a hs
 refine wp_block ?_
 replace m := m.nilSvM cOp 19 58
 have q16 : ([] : List TOp) = ([] : List TOp) ++ pickM (fun e => (e.Local == true) && !staysM x_Neighs x_Fdbs y_Routes y_Neighs y_Fdbs e) delR (x_Routes.take 0) := by exact pickM_0.symm
 rw [q16] at m
 refine wp_loop_ghost (fun gn a w => ∃ k2t : Nat, ∃ v14 : SH, (k2t ≤ x_Routes.length) ∧ ((([] : List TOp) ++ pickM (fun e => (e.Local == true) && !staysM x_Neighs x_Fdbs y_Routes y_Neighs y_Fdbs e) delR (x_Routes.take k2t)).length ≤ 0 + k2t) ∧ gn = x_Routes.length - k2t ∧ St 151 [(2, .pointer (some (padd p1 0))), (3, .pointer (some (padd p3 0))), (6, v14.v), (8, .bool true), (29, .agg ⟨[.bool true, .bool false]⟩), (30, .int .i64 0), (34, vx_Routes.v), (35, .int .i64 (x_Routes.length : Int)), (36, .int .i64 (k2t : Int))] a ∧ Hp w0 (hh w0) [Bx p1 29 [vx_Routes.v, vx_Neighs.v, vx_Fdbs.v], Bx p3 29 [vy_Routes.v, vy_Neighs.v, vy_Fdbs.v], Sv 19 58 v14.v ((([] : List TOp) ++ pickM (fun e => (e.Local == true) && !staysM x_Neighs x_Fdbs y_Routes y_Neighs y_Fdbs e) delR (x_Routes.take k2t)).map cOp)] w) (x_Routes.length - 0) ⟨0, nilH, by omega, by (rw [pickM_0]; simp), rfl, hs.to ⟨rfl, rfl, rfl, rfl, rfl, rfl, rfl, rfl, rfl, trivial⟩, m.sub (.c r2 (.c r1 (.c r0 .n)))⟩ ?_
 clear hs m a w8
 rintro gn a w17 ⟨k2t, v14, hk, hl, rfl, hs, m⟩
 refine c_reg ?_
 refine s_ hs m (ok_bin rfl rfl rfl) (bn_ ?_)
 clear hs a; intro a hs
 refine c_seq ?_
 refine c_cond hs rfl (fun h18 => ?_) (fun h18 => ?_)
 rotate_left
 ·have h18p := of_decide_eq_false h18
  refine wp_exit ?_
  refine ex_then (ex_then (ex_hit (?_)))
  refine n_block (n_then ?_)
  refine c_last ?_
  refine s_ hs m (ok_add (r := 1) rfl rfl rfl) (b_ m (ok_move rfl) (bn_ ?_))
  clear hs a; intro a hs
  refine rounds_s ?_
  refine c_reg ?_
  refine s_ hs m (ok_bin (v := .bool true) rfl rfl rfl) (bn_ ?_)
  clear hs a; intro a hs
  refine c_seq ?_
  refine c_true hs rfl rfl ?_
  refine wp_skip ?_
  refine n_then ?_
  refine c_seq ?_
  refine wp_block ?_
  refine c_reg ?_
  refine s_ hs m (ok_index_sc (v := .bool false) rfl rfl ar120 ty4 (by omega) (by omega) rfl) (b_ m (ok_assign rfl) (bn_ (bc_ (b_ m (ok_fieldAddr (r := 0) rfl fd29_0 ty25 rfl) (b_ m (ok_load_sc rfl ty25 (bx_at r0) rfl) (b_ m (ok_len (r := (x_Routes.length : Int)) m rfl sl25 (rc_fr hx_Routes) (by simp)) (b_ m (ok_move rfl) (bn_ ?_))))))))
  clear hs a; intro a hs
  refine wp_block ?_
  rw [show x_Routes.take k2t = x_Routes from List.take_of_length_le (by omega)] at m hl
  have q21 : ([] : List TOp) ++ pickM (fun e => (e.Local == true) && !staysM x_Neighs x_Fdbs y_Routes y_Neighs y_Fdbs e) delR x_Routes = (([] : List TOp) ++ pickM (fun e => (e.Local == true) && !staysM x_Neighs x_Fdbs y_Routes y_Neighs y_Fdbs e) delR x_Routes) ++ pickM (fun e => (e.Local == false) && !staysM x_Neighs x_Fdbs y_Routes y_Neighs y_Fdbs e) delR (x_Routes.take 0) := by exact pickM_0.symm
  rw [q21] at m
  refine wp_loop_ghost (fun gn a w => ∃ k2f : Nat, ∃ v20 : SH, (k2f ≤ x_Routes.length) ∧ (((([] : List TOp) ++ pickM (fun e => (e.Local == true) && !staysM x_Neighs x_Fdbs y_Routes y_Neighs y_Fdbs e) delR x_Routes) ++ pickM (fun e => (e.Local == false) && !staysM x_Neighs x_Fdbs y_Routes y_Neighs y_Fdbs e) delR (x_Routes.take k2f)).length ≤ 16777216 + k2f) ∧ gn = x_Routes.length - k2f ∧ St 151 [(2, .pointer (some (padd p1 0))), (3, .pointer (some (padd p3 0))), (6, v20.v), (8, .bool false), (29, .agg ⟨[.bool true, .bool false]⟩), (30, .int .i64 1), (34, vx_Routes.v), (35, .int .i64 (x_Routes.length : Int)), (36, .int .i64 (k2f : Int))] a ∧ Hp w0 (hh w0) [Bx p1 29 [vx_Routes.v, vx_Neighs.v, vx_Fdbs.v], Bx p3 29 [vy_Routes.v, vy_Neighs.v, vy_Fdbs.v], Sv 19 58 v20.v (((([] : List TOp) ++ pickM (fun e => (e.Local == true) && !staysM x_Neighs x_Fdbs y_Routes y_Neighs y_Fdbs e) delR x_Routes) ++ pickM (fun e => (e.Local == false) && !staysM x_Neighs x_Fdbs y_Routes y_Neighs y_Fdbs e) delR (x_Routes.take k2f)).map cOp)] w) (x_Routes.length - 0) ⟨0, v14, by omega, by (rw [pickM_0]; omega), rfl, hs.to ⟨rfl, rfl, rfl, rfl, rfl, rfl, rfl, rfl, rfl, trivial⟩, m.sub (.c r0 (.c r0 (.c r0 .n)))⟩ ?_
  clear hs m a w17
  rintro gn a w22 ⟨k2f, v20, hk, hl, rfl, hs, m⟩
  refine c_reg ?_
  refine s_ hs m (ok_bin rfl rfl rfl) (bn_ ?_)
  clear hs a; intro a hs
  refine c_seq ?_
  refine c_cond hs rfl (fun h23 => ?_) (fun h23 => ?_)
  rotate_left
  ·have h23p := of_decide_eq_false h23
   refine wp_exit ?_
   refine ex_then (ex_then (ex_hit (?_)))
   refine n_block (n_then ?_)
   refine c_last ?_
   refine s_ hs m (ok_add (r := 2) rfl rfl rfl) (b_ m (ok_move rfl) (bn_ ?_))
   clear hs a; intro a hs
   refine rounds_s ?_
   refine c_reg ?_
   refine s_ hs m (ok_bin (v := .bool false) rfl rfl rfl) (bn_ ?_)
   clear hs a; intro a hs
   refine c_seq ?_
   refine c_false hs rfl rfl ?_
   refine wp_exit ?_
   refine ex_then (ex_then (ex_hit (?_)))
   refine n_then ?_
   refine c_seq ?_
   refine c_reg ?_
   refine s_ hs m (ok_fieldAddr (r := 1) rfl fd29_1 ty26 rfl) (b_ m (ok_load_sc rfl ty26 (bx_at r0) rfl) (b_ m (ok_len (r := (x_Neighs.length : Int)) m rfl sl26 (rc_fr hx_Neighs) (by simp)) (b_ m (ok_move rfl) (bn_ ?_))))
   clear hs a; intro a hs
   refine wp_block ?_
   rw [show x_Routes.take k2f = x_Routes from List.take_of_length_le (by omega)] at m hl
   have q26 : (([] : List TOp) ++ pickM (fun e => (e.Local == true) && !staysM x_Neighs x_Fdbs y_Routes y_Neighs y_Fdbs e) delR x_Routes) ++ pickM (fun e => (e.Local == false) && !staysM x_Neighs x_Fdbs y_Routes y_Neighs y_Fdbs e) delR x_Routes = ((([] : List TOp) ++ pickM (fun e => (e.Local == true) && !staysM x_Neighs x_Fdbs y_Routes y_Neighs y_Fdbs e) delR x_Routes) ++ pickM (fun e => (e.Local == false) && !staysM x_Neighs x_Fdbs y_Routes y_Neighs y_Fdbs e) delR x_Routes) ++ pickM (fun e => lacksM cmpNeigh zNeigh y_Neighs e) delN (x_Neighs.take 0) := by exact pickM_0.symm
   rw [q26] at m
   refine wp_loop_ghost (fun gn a w => ∃ k4 : Nat, ∃ v25 : SH, (k4 ≤ x_Neighs.length) ∧ ((((([] : List TOp) ++ pickM (fun e => (e.Local == true) && !staysM x_Neighs x_Fdbs y_Routes y_Neighs y_Fdbs e) delR x_Routes) ++ pickM (fun e => (e.Local == false) && !staysM x_Neighs x_Fdbs y_Routes y_Neighs y_Fdbs e) delR x_Routes) ++ pickM (fun e => lacksM cmpNeigh zNeigh y_Neighs e) delN (x_Neighs.take k4)).length ≤ 33554432 + k4) ∧ gn = x_Neighs.length - k4 ∧ St 151 [(2, .pointer (some (padd p1 0))), (3, .pointer (some (padd p3 0))), (6, v25.v), (59, vx_Neighs.v), (60, .int .i64 (x_Neighs.length : Int)), (61, .int .i64 (k4 : Int))] a ∧ Hp w0 (hh w0) [Bx p1 29 [vx_Routes.v, vx_Neighs.v, vx_Fdbs.v], Bx p3 29 [vy_Routes.v, vy_Neighs.v, vy_Fdbs.v], Sv 19 58 v25.v ((((([] : List TOp) ++ pickM (fun e => (e.Local == true) && !staysM x_Neighs x_Fdbs y_Routes y_Neighs y_Fdbs e) delR x_Routes) ++ pickM (fun e => (e.Local == false) && !staysM x_Neighs x_Fdbs y_Routes y_Neighs y_Fdbs e) delR x_Routes) ++ pickM (fun e => lacksM cmpNeigh zNeigh y_Neighs e) delN (x_Neighs.take k4)).map cOp)] w) (x_Neighs.length - 0) ⟨0, v20, by omega, by (rw [pickM_0]; omega), rfl, hs.to ⟨rfl, rfl, rfl, rfl, rfl, rfl, trivial⟩, m.sub (.c r0 (.c r0 (.c r0 .n)))⟩ ?_
   clear hs m a w22
   rintro gn a w27 ⟨k4, v25, hk, hl, rfl, hs, m⟩
   refine c_reg ?_
   refine s_ hs m (ok_bin rfl rfl rfl) (bn_ ?_)
   clear hs a; intro a hs
   refine c_seq ?_
   refine c_cond hs rfl (fun h28 => ?_) (fun h28 => ?_)
   rotate_left
   ·have h28p := of_decide_eq_false h28
    refine wp_exit ?_
    refine ex_then (ex_then (ex_hit (?_)))
    refine n_then ?_
    refine c_seq ?_
    refine c_reg ?_
    refine s_ hs m (ok_fieldAddr (r := 2) rfl fd29_2 ty27 rfl) (b_ m (ok_load_sc rfl ty27 (bx_at r0) rfl) (b_ m (ok_len (r := (x_Fdbs.length : Int)) m rfl sl27 (rc_fr hx_Fdbs) (by simp)) (b_ m (ok_move rfl) (bn_ ?_))))
    clear hs a; intro a hs
    refine wp_block ?_
    rw [show x_Neighs.take k4 = x_Neighs from List.take_of_length_le (by omega)] at m hl
    have q30 : ((([] : List TOp) ++ pickM (fun e => (e.Local == true) && !staysM x_Neighs x_Fdbs y_Routes y_Neighs y_Fdbs e) delR x_Routes) ++ pickM (fun e => (e.Local == false) && !staysM x_Neighs x_Fdbs y_Routes y_Neighs y_Fdbs e) delR x_Routes) ++ pickM (fun e => lacksM cmpNeigh zNeigh y_Neighs e) delN x_Neighs = (((([] : List TOp) ++ pickM (fun e => (e.Local == true) && !staysM x_Neighs x_Fdbs y_Routes y_Neighs y_Fdbs e) delR x_Routes) ++ pickM (fun e => (e.Local == false) && !staysM x_Neighs x_Fdbs y_Routes y_Neighs y_Fdbs e) delR x_Routes) ++ pickM (fun e => lacksM cmpNeigh zNeigh y_Neighs e) delN x_Neighs) ++ pickM (fun e => lacksM cmpFdb zFdb y_Fdbs e) delF (x_Fdbs.take 0) := by exact pickM_0.symm
    rw [q30] at m
    refine wp_loop_ghost (fun gn a w => ∃ k6 : Nat, ∃ v29 : SH, (k6 ≤ x_Fdbs.length) ∧ (((((([] : List TOp) ++ pickM (fun e => (e.Local == true) && !staysM x_Neighs x_Fdbs y_Routes y_Neighs y_Fdbs e) delR x_Routes) ++ pickM (fun e => (e.Local == false) && !staysM x_Neighs x_Fdbs y_Routes y_Neighs y_Fdbs e) delR x_Routes) ++ pickM (fun e => lacksM cmpNeigh zNeigh y_Neighs e) delN x_Neighs) ++ pickM (fun e => lacksM cmpFdb zFdb y_Fdbs e) delF (x_Fdbs.take k6)).length ≤ 50331648 + k6) ∧ gn = x_Fdbs.length - k6 ∧ St 151 [(2, .pointer (some (padd p1 0))), (3, .pointer (some (padd p3 0))), (6, v29.v), (76, vx_Fdbs.v), (77, .int .i64 (x_Fdbs.length : Int)), (78, .int .i64 (k6 : Int))] a ∧ Hp w0 (hh w0) [Bx p1 29 [vx_Routes.v, vx_Neighs.v, vx_Fdbs.v], Bx p3 29 [vy_Routes.v, vy_Neighs.v, vy_Fdbs.v], Sv 19 58 v29.v (((((([] : List TOp) ++ pickM (fun e => (e.Local == true) && !staysM x_Neighs x_Fdbs y_Routes y_Neighs y_Fdbs e) delR x_Routes) ++ pickM (fun e => (e.Local == false) && !staysM x_Neighs x_Fdbs y_Routes y_Neighs y_Fdbs e) delR x_Routes) ++ pickM (fun e => lacksM cmpNeigh zNeigh y_Neighs e) delN x_Neighs) ++ pickM (fun e => lacksM cmpFdb zFdb y_Fdbs e) delF (x_Fdbs.take k6)).map cOp)] w) (x_Fdbs.length - 0) ⟨0, v25, by omega, by (rw [pickM_0]; omega), rfl, hs.to ⟨rfl, rfl, rfl, rfl, rfl, rfl, trivial⟩, m.sub (.c r0 (.c r0 (.c r0 .n)))⟩ ?_
    clear hs m a w27
    rintro gn a w31 ⟨k6, v29, hk, hl, rfl, hs, m⟩
    refine c_reg ?_
    refine s_ hs m (ok_bin rfl rfl rfl) (bn_ ?_)
    clear hs a; intro a hs
    refine c_seq ?_
    refine c_cond hs rfl (fun h32 => ?_) (fun h32 => ?_)
    rotate_left
    ·have h32p := of_decide_eq_false h32
     refine wp_exit ?_
     refine ex_then (ex_then (ex_hit (?_)))
     refine n_then ?_
     refine c_seq ?_
     refine c_reg ?_
     refine s_ hs m (ok_fieldAddr (r := 2) rfl fd29_2 ty27 rfl) (b_ m (ok_load_sc rfl ty27 (bx_at r1) rfl) (b_ m (ok_len (r := (y_Fdbs.length : Int)) m rfl sl27 (rc_fr hy_Fdbs) (by simp)) (b_ m (ok_move rfl) (bn_ ?_))))
     clear hs a; intro a hs
     refine wp_block ?_
     rw [show x_Fdbs.take k6 = x_Fdbs from List.take_of_length_le (by omega)] at m hl
     have q34 : (((([] : List TOp) ++ pickM (fun e => (e.Local == true) && !staysM x_Neighs x_Fdbs y_Routes y_Neighs y_Fdbs e) delR x_Routes) ++ pickM (fun e => (e.Local == false) && !staysM x_Neighs x_Fdbs y_Routes y_Neighs y_Fdbs e) delR x_Routes) ++ pickM (fun e => lacksM cmpNeigh zNeigh y_Neighs e) delN x_Neighs) ++ pickM (fun e => lacksM cmpFdb zFdb y_Fdbs e) delF x_Fdbs = ((((([] : List TOp) ++ pickM (fun e => (e.Local == true) && !staysM x_Neighs x_Fdbs y_Routes y_Neighs y_Fdbs e) delR x_Routes) ++ pickM (fun e => (e.Local == false) && !staysM x_Neighs x_Fdbs y_Routes y_Neighs y_Fdbs e) delR x_Routes) ++ pickM (fun e => lacksM cmpNeigh zNeigh y_Neighs e) delN x_Neighs) ++ pickM (fun e => lacksM cmpFdb zFdb y_Fdbs e) delF x_Fdbs) ++ pickM (fun e => lacksM cmpFdb zFdb x_Fdbs e) putF (y_Fdbs.take 0) := by exact pickM_0.symm
     rw [q34] at m
     refine wp_loop_ghost (fun gn a w => ∃ k8 : Nat, ∃ v33 : SH, (k8 ≤ y_Fdbs.length) ∧ ((((((([] : List TOp) ++ pickM (fun e => (e.Local == true) && !staysM x_Neighs x_Fdbs y_Routes y_Neighs y_Fdbs e) delR x_Routes) ++ pickM (fun e => (e.Local == false) && !staysM x_Neighs x_Fdbs y_Routes y_Neighs y_Fdbs e) delR x_Routes) ++ pickM (fun e => lacksM cmpNeigh zNeigh y_Neighs e) delN x_Neighs) ++ pickM (fun e => lacksM cmpFdb zFdb y_Fdbs e) delF x_Fdbs) ++ pickM (fun e => lacksM cmpFdb zFdb x_Fdbs e) putF (y_Fdbs.take k8)).length ≤ 67108864 + k8) ∧ gn = y_Fdbs.length - k8 ∧ St 151 [(2, .pointer (some (padd p1 0))), (3, .pointer (some (padd p3 0))), (6, v33.v), (93, vy_Fdbs.v), (94, .int .i64 (y_Fdbs.length : Int)), (95, .int .i64 (k8 : Int))] a ∧ Hp w0 (hh w0) [Bx p1 29 [vx_Routes.v, vx_Neighs.v, vx_Fdbs.v], Bx p3 29 [vy_Routes.v, vy_Neighs.v, vy_Fdbs.v], Sv 19 58 v33.v ((((((([] : List TOp) ++ pickM (fun e => (e.Local == true) && !staysM x_Neighs x_Fdbs y_Routes y_Neighs y_Fdbs e) delR x_Routes) ++ pickM (fun e => (e.Local == false) && !staysM x_Neighs x_Fdbs y_Routes y_Neighs y_Fdbs e) delR x_Routes) ++ pickM (fun e => lacksM cmpNeigh zNeigh y_Neighs e) delN x_Neighs) ++ pickM (fun e => lacksM cmpFdb zFdb y_Fdbs e) delF x_Fdbs) ++ pickM (fun e => lacksM cmpFdb zFdb x_Fdbs e) putF (y_Fdbs.take k8)).map cOp)] w) (y_Fdbs.length - 0) ⟨0, v29, by omega, by (rw [pickM_0]; omega), rfl, hs.to ⟨rfl, rfl, rfl, rfl, rfl, rfl, trivial⟩, m.sub (.c r0 (.c r0 (.c r0 .n)))⟩ ?_
     clear hs m a w31
     rintro gn a w35 ⟨k8, v33, hk, hl, rfl, hs, m⟩
     refine c_reg ?_
     refine s_ hs m (ok_bin rfl rfl rfl) (bn_ ?_)
     clear hs a; intro a hs
     refine c_seq ?_
     refine c_cond hs rfl (fun h36 => ?_) (fun h36 => ?_)
     rotate_left
     ·have h36p := of_decide_eq_false h36
      refine wp_exit ?_
      refine ex_then (ex_then (ex_hit (?_)))
      refine n_then ?_
      refine c_seq ?_
      refine c_reg ?_
      refine s_ hs m (ok_fieldAddr (r := 1) rfl fd29_1 ty26 rfl) (b_ m (ok_load_sc rfl ty26 (bx_at r1) rfl) (b_ m (ok_len (r := (y_Neighs.length : Int)) m rfl sl26 (rc_fr hy_Neighs) (by simp)) (b_ m (ok_move rfl) (bn_ ?_))))
      clear hs a; intro a hs
      refine wp_block ?_
      rw [show y_Fdbs.take k8 = y_Fdbs from List.take_of_length_le (by omega)] at m hl
      have q38 : ((((([] : List TOp) ++ pickM (fun e => (e.Local == true) && !staysM x_Neighs x_Fdbs y_Routes y_Neighs y_Fdbs e) delR x_Routes) ++ pickM (fun e => (e.Local == false) && !staysM x_Neighs x_Fdbs y_Routes y_Neighs y_Fdbs e) delR x_Routes) ++ pickM (fun e => lacksM cmpNeigh zNeigh y_Neighs e) delN x_Neighs) ++ pickM (fun e => lacksM cmpFdb zFdb y_Fdbs e) delF x_Fdbs) ++ pickM (fun e => lacksM cmpFdb zFdb x_Fdbs e) putF y_Fdbs = (((((([] : List TOp) ++ pickM (fun e => (e.Local == true) && !staysM x_Neighs x_Fdbs y_Routes y_Neighs y_Fdbs e) delR x_Routes) ++ pickM (fun e => (e.Local == false) && !staysM x_Neighs x_Fdbs y_Routes y_Neighs y_Fdbs e) delR x_Routes) ++ pickM (fun e => lacksM cmpNeigh zNeigh y_Neighs e) delN x_Neighs) ++ pickM (fun e => lacksM cmpFdb zFdb y_Fdbs e) delF x_Fdbs) ++ pickM (fun e => lacksM cmpFdb zFdb x_Fdbs e) putF y_Fdbs) ++ pickM (fun e => lacksM cmpNeigh zNeigh x_Neighs e) putNe (y_Neighs.take 0) := by exact pickM_0.symm
      rw [q38] at m
      refine wp_loop_ghost (fun gn a w => ∃ k10 : Nat, ∃ v37 : SH, (k10 ≤ y_Neighs.length) ∧ (((((((([] : List TOp) ++ pickM (fun e => (e.Local == true) && !staysM x_Neighs x_Fdbs y_Routes y_Neighs y_Fdbs e) delR x_Routes) ++ pickM (fun e => (e.Local == false) && !staysM x_Neighs x_Fdbs y_Routes y_Neighs y_Fdbs e) delR x_Routes) ++ pickM (fun e => lacksM cmpNeigh zNeigh y_Neighs e) delN x_Neighs) ++ pickM (fun e => lacksM cmpFdb zFdb y_Fdbs e) delF x_Fdbs) ++ pickM (fun e => lacksM cmpFdb zFdb x_Fdbs e) putF y_Fdbs) ++ pickM (fun e => lacksM cmpNeigh zNeigh x_Neighs e) putNe (y_Neighs.take k10)).length ≤ 83886080 + k10) ∧ gn = y_Neighs.length - k10 ∧ St 151 [(2, .pointer (some (padd p1 0))), (3, .pointer (some (padd p3 0))), (6, v37.v), (110, vy_Neighs.v), (111, .int .i64 (y_Neighs.length : Int)), (112, .int .i64 (k10 : Int))] a ∧ Hp w0 (hh w0) [Bx p1 29 [vx_Routes.v, vx_Neighs.v, vx_Fdbs.v], Bx p3 29 [vy_Routes.v, vy_Neighs.v, vy_Fdbs.v], Sv 19 58 v37.v (((((((([] : List TOp) ++ pickM (fun e => (e.Local == true) && !staysM x_Neighs x_Fdbs y_Routes y_Neighs y_Fdbs e) delR x_Routes) ++ pickM (fun e => (e.Local == false) && !staysM x_Neighs x_Fdbs y_Routes y_Neighs y_Fdbs e) delR x_Routes) ++ pickM (fun e => lacksM cmpNeigh zNeigh y_Neighs e) delN x_Neighs) ++ pickM (fun e => lacksM cmpFdb zFdb y_Fdbs e) delF x_Fdbs) ++ pickM (fun e => lacksM cmpFdb zFdb x_Fdbs e) putF y_Fdbs) ++ pickM (fun e => lacksM cmpNeigh zNeigh x_Neighs e) putNe (y_Neighs.take k10)).map cOp)] w) (y_Neighs.length - 0) ⟨0, v33, by omega, by (rw [pickM_0]; omega), rfl, hs.to ⟨rfl, rfl, rfl, rfl, rfl, rfl, trivial⟩, m.sub (.c r0 (.c r0 (.c r0 .n)))⟩ ?_
      clear hs m a w35
      rintro gn a w39 ⟨k10, v37, hk, hl, rfl, hs, m⟩
      refine c_reg ?_
      refine s_ hs m (ok_bin rfl rfl rfl) (bn_ ?_)
      clear hs a; intro a hs
      refine c_seq ?_
      refine c_cond hs rfl (fun h40 => ?_) (fun h40 => ?_)
      rotate_left
      ·have h40p := of_decide_eq_false h40
       refine wp_exit ?_
       refine ex_then (ex_then (ex_hit (?_)))
       refine n_then ?_
       refine c_seq ?_
       refine c_reg ?_
       refine s_ hs m (ok_fieldAddr (r := 0) rfl fd29_0 ty25 rfl) (b_ m (ok_load_sc rfl ty25 (bx_at r1) rfl) (b_ m (ok_len (r := (y_Routes.length : Int)) m rfl sl25 (rc_fr hy_Routes) (by simp)) (b_ m (ok_move rfl) (bn_ ?_))))
       clear hs a; intro a hs
       refine wp_block ?_
       rw [show y_Neighs.take k10 = y_Neighs from List.take_of_length_le (by omega)] at m hl
       have q42 : (((((([] : List TOp) ++ pickM (fun e => (e.Local == true) && !staysM x_Neighs x_Fdbs y_Routes y_Neighs y_Fdbs e) delR x_Routes) ++ pickM (fun e => (e.Local == false) && !staysM x_Neighs x_Fdbs y_Routes y_Neighs y_Fdbs e) delR x_Routes) ++ pickM (fun e => lacksM cmpNeigh zNeigh y_Neighs e) delN x_Neighs) ++ pickM (fun e => lacksM cmpFdb zFdb y_Fdbs e) delF x_Fdbs) ++ pickM (fun e => lacksM cmpFdb zFdb x_Fdbs e) putF y_Fdbs) ++ pickM (fun e => lacksM cmpNeigh zNeigh x_Neighs e) putNe y_Neighs = ((((((([] : List TOp) ++ pickM (fun e => (e.Local == true) && !staysM x_Neighs x_Fdbs y_Routes y_Neighs y_Fdbs e) delR x_Routes) ++ pickM (fun e => (e.Local == false) && !staysM x_Neighs x_Fdbs y_Routes y_Neighs y_Fdbs e) delR x_Routes) ++ pickM (fun e => lacksM cmpNeigh zNeigh y_Neighs e) delN x_Neighs) ++ pickM (fun e => lacksM cmpFdb zFdb y_Fdbs e) delF x_Fdbs) ++ pickM (fun e => lacksM cmpFdb zFdb x_Fdbs e) putF y_Fdbs) ++ pickM (fun e => lacksM cmpNeigh zNeigh x_Neighs e) putNe y_Neighs) ++ pickM (fun e => lacksM cmpRoute zRoute x_Routes e || !staysM x_Neighs x_Fdbs y_Routes y_Neighs y_Fdbs e) putR (y_Routes.take 0) := by exact pickM_0.symm
       rw [q42] at m
       refine wp_loop_ghost (fun gn a w => ∃ k12 : Nat, ∃ v41 : SH, (k12 ≤ y_Routes.length) ∧ ((((((((([] : List TOp) ++ pickM (fun e => (e.Local == true) && !staysM x_Neighs x_Fdbs y_Routes y_Neighs y_Fdbs e) delR x_Routes) ++ pickM (fun e => (e.Local == false) && !staysM x_Neighs x_Fdbs y_Routes y_Neighs y_Fdbs e) delR x_Routes) ++ pickM (fun e => lacksM cmpNeigh zNeigh y_Neighs e) delN x_Neighs) ++ pickM (fun e => lacksM cmpFdb zFdb y_Fdbs e) delF x_Fdbs) ++ pickM (fun e => lacksM cmpFdb zFdb x_Fdbs e) putF y_Fdbs) ++ pickM (fun e => lacksM cmpNeigh zNeigh x_Neighs e) putNe y_Neighs) ++ pickM (fun e => lacksM cmpRoute zRoute x_Routes e || !staysM x_Neighs x_Fdbs y_Routes y_Neighs y_Fdbs e) putR (y_Routes.take k12)).length ≤ 100663296 + k12) ∧ gn = y_Routes.length - k12 ∧ St 151 [(2, .pointer (some (padd p1 0))), (3, .pointer (some (padd p3 0))), (6, v41.v), (127, vy_Routes.v), (128, .int .i64 (y_Routes.length : Int)), (129, .int .i64 (k12 : Int))] a ∧ Hp w0 (hh w0) [Bx p1 29 [vx_Routes.v, vx_Neighs.v, vx_Fdbs.v], Bx p3 29 [vy_Routes.v, vy_Neighs.v, vy_Fdbs.v], Sv 19 58 v41.v ((((((((([] : List TOp) ++ pickM (fun e => (e.Local == true) && !staysM x_Neighs x_Fdbs y_Routes y_Neighs y_Fdbs e) delR x_Routes) ++ pickM (fun e => (e.Local == false) && !staysM x_Neighs x_Fdbs y_Routes y_Neighs y_Fdbs e) delR x_Routes) ++ pickM (fun e => lacksM cmpNeigh zNeigh y_Neighs e) delN x_Neighs) ++ pickM (fun e => lacksM cmpFdb zFdb y_Fdbs e) delF x_Fdbs) ++ pickM (fun e => lacksM cmpFdb zFdb x_Fdbs e) putF y_Fdbs) ++ pickM (fun e => lacksM cmpNeigh zNeigh x_Neighs e) putNe y_Neighs) ++ pickM (fun e => lacksM cmpRoute zRoute x_Routes e || !staysM x_Neighs x_Fdbs y_Routes y_Neighs y_Fdbs e) putR (y_Routes.take k12)).map cOp)] w) (y_Routes.length - 0) ⟨0, v37, by omega, by (rw [pickM_0]; omega), rfl, hs.to ⟨rfl, rfl, rfl, rfl, rfl, rfl, trivial⟩, m.sub (.c r0 (.c r0 (.c r0 .n)))⟩ ?_
       clear hs m a w39
       rintro gn a w43 ⟨k12, v41, hk, hl, rfl, hs, m⟩
       refine c_reg ?_
       refine s_ hs m (ok_bin rfl rfl rfl) (bn_ ?_)
       clear hs a; intro a hs
       refine c_seq ?_
       refine c_cond hs rfl (fun h44 => ?_) (fun h44 => ?_)
       rotate_left
       ·have h44p := of_decide_eq_false h44
        refine wp_exit ?_
        refine ex_then (ex_then (ex_hit (?_)))
        refine n_then ?_
        refine c_reg ?_
        refine s_ hs m (ok_move rfl) (b_ m (ok_assign rfl) (b_ m (ok_assign rfl) (bn_ ?_)))
        clear hs a; intro a hs
        refine wp_ret ?_
        refine leave hs (vs := [v41.v, .int .i64 0]) rfl ⟨rfl, rfl, trivial⟩ ?_
        have q45 : ((((((([] : List TOp) ++ pickM (fun e => (e.Local == true) && !staysM x_Neighs x_Fdbs y_Routes y_Neighs y_Fdbs e) delR x_Routes) ++ pickM (fun e => (e.Local == false) && !staysM x_Neighs x_Fdbs y_Routes y_Neighs y_Fdbs e) delR x_Routes) ++ pickM (fun e => lacksM cmpNeigh zNeigh y_Neighs e) delN x_Neighs) ++ pickM (fun e => lacksM cmpFdb zFdb y_Fdbs e) delF x_Fdbs) ++ pickM (fun e => lacksM cmpFdb zFdb x_Fdbs e) putF y_Fdbs) ++ pickM (fun e => lacksM cmpNeigh zNeigh x_Neighs e) putNe y_Neighs) ++ pickM (fun e => lacksM cmpRoute zRoute x_Routes e || !staysM x_Neighs x_Fdbs y_Routes y_Neighs y_Fdbs e) putR (y_Routes.take k12) = diffM x_Routes x_Neighs x_Fdbs y_Routes y_Neighs y_Fdbs := by exact diffM_ok (by assumption) (by omega)
        rw [q45] at m
        refine ⟨_, rfl, v41, ?_, m.sub (.c r2 .n)⟩
        have q46 : (0 : Int) = diffE x_Routes x_Neighs x_Fdbs y_Routes y_Neighs y_Fdbs := by clear hs m; exact diffE_ok (by assumption)
        (rw [q46]; rfl)
       have h44p := of_decide_eq_true h44
       refine wp_skip ?_
       refine n_then ?_
       refine c_seq ?_
       refine wp_block ?_
       refine c_reg ?_
       obtain ⟨e47, he48⟩ := get_of_lt (l := y_Routes) (i := k12) (by omega)
       refine elF (c := cRoute) (e := e47) hs m (x := (.tmp 127)) (ix := (.tmp 129)) rfl rfl sl25 ty51 hy_Routes (by omega) he48 fun p49 hp50 ok51 => ?_
       refine s_ hs m (ok51 _ _ _ _ _) (b_ m (ok_load_ag (vs := cRoute e47) rfl ty51 (fr_at hp50) rfl rfl) ?_)
       clear hs a; intro a hs
       refine r_alloc hs m ze51 rfl ?_
       clear m hs a w43; intro p52 w53 m a hs
       refine st_ (cRoute e47) (cRoute e47) hs m ty51 s0 ?_
       clear m w53; intro w54 m
       refine wpList_nil (n_then ?_)
       refine c_reg ?_
       refine s_ hs m (ok_fieldAddr (r := 0) rfl fd29_0 ty25 rfl) (b_ m (ok_load_sc rfl ty25 (bx_at r1) rfl) (b_ m (ok_load_ag (vs := cRoute e47) rfl ty51 (bx_at r0) rfl rfl) ?_))
       clear hs a; intro a hs
       refine r_callP hs m rfl rfl ca60 rfl (lacksRoute_c vx_Routes x_Routes e47 _ (m.rd hx_Routes) ) rfl ?_
       clear m hs a w54; intro w55 m a hs
       refine s_ hs m (ok_move rfl) ?_
       clear hs a; intro a hs
       refine l_cut (.c (.c (.c (.c (.c (.c (.n))))))) (fun a w => St 151 [(2, .pointer (some (padd p1 0))), (3, .pointer (some (padd p3 0))), (6, v41.v), (20, .pointer (some (padd p52 0))), (127, vy_Routes.v), (128, .int .i64 (y_Routes.length : Int)), (129, .int .i64 (k12 : Int)), (143, .bool ((lacksM cmpRoute zRoute x_Routes e47) || (!(staysM x_Neighs x_Fdbs y_Routes y_Neighs y_Fdbs e47))))] a ∧ Hp w0 (hh w0) [Bx p52 51 (cRoute e47), Bx p1 29 [vx_Routes.v, vx_Neighs.v, vx_Fdbs.v], Bx p3 29 [vy_Routes.v, vy_Neighs.v, vy_Fdbs.v], Sv 19 58 v41.v ((((((((([] : List TOp) ++ pickM (fun e => (e.Local == true) && !staysM x_Neighs x_Fdbs y_Routes y_Neighs y_Fdbs e) delR x_Routes) ++ pickM (fun e => (e.Local == false) && !staysM x_Neighs x_Fdbs y_Routes y_Neighs y_Fdbs e) delR x_Routes) ++ pickM (fun e => lacksM cmpNeigh zNeigh y_Neighs e) delN x_Neighs) ++ pickM (fun e => lacksM cmpFdb zFdb y_Fdbs e) delF x_Fdbs) ++ pickM (fun e => lacksM cmpFdb zFdb x_Fdbs e) putF y_Fdbs) ++ pickM (fun e => lacksM cmpNeigh zNeigh x_Neighs e) putNe y_Neighs) ++ pickM (fun e => lacksM cmpRoute zRoute x_Routes e || !staysM x_Neighs x_Fdbs y_Routes y_Neighs y_Fdbs e) putR (y_Routes.take k12)).map cOp)] w) ?_ ?_
       ·rcases Bool.eq_false_or_eq_true (lacksM cmpRoute zRoute x_Routes e47) with hb56 | hb56
        ·refine so_ hs hb56 (bo_ hb56 (bo_ hb56 (bo_ hb56 (bo_ hb56 (b_ m (ok_pick (r := .bool ((lacksM cmpRoute zRoute x_Routes e47) || (!(staysM x_Neighs x_Fdbs y_Routes y_Neighs y_Fdbs e47)))) rfl rfl rfl (by rw [hb56]; rfl)) ?_)))))
         clear hs a; intro a hs
         exact wpList_nil (n_then ⟨hs.to ⟨rfl, rfl, rfl, rfl, rfl, rfl, rfl, rfl, trivial⟩, m⟩)
        ·refine sg_ hs hb56 m (ok_load_ag (vs := [vx_Routes.v, vx_Neighs.v, vx_Fdbs.v]) rfl ty29 (bx_at r1) rfl rfl) (bg_ hb56 m (ok_load_ag (vs := [vy_Routes.v, vy_Neighs.v, vy_Fdbs.v]) rfl ty29 (bx_at r2) rfl rfl) (bg_ hb56 m (ok_load_ag (vs := cRoute e47) rfl ty51 (bx_at r0) rfl rfl) ?_))
         clear hs a; intro a hs
         refine r_callPg hs rfl rfl hb56 m rfl rfl ca57 rfl (stays_c vx_Routes x_Routes vx_Neighs x_Neighs vx_Fdbs x_Fdbs vy_Routes y_Routes vy_Neighs y_Neighs vy_Fdbs y_Fdbs e47 _ (m.rd hx_Routes) (m.rd hx_Neighs) (m.rd hx_Fdbs) (m.rd hy_Routes) (m.rd hy_Neighs) (m.rd hy_Fdbs) ) rfl ?_
         clear m hs a w55; intro w57 m a hs
         refine sg_ hs hb56 m (ok_not rfl) (b_ m (ok_pick (r := .bool ((lacksM cmpRoute zRoute x_Routes e47) || (!(staysM x_Neighs x_Fdbs y_Routes y_Neighs y_Fdbs e47)))) rfl rfl rfl (by rw [hb56]; rfl)) ?_)
         clear hs a; intro a hs
         exact wpList_nil (n_then ⟨hs.to ⟨rfl, rfl, rfl, rfl, rfl, rfl, rfl, rfl, trivial⟩, m⟩)
       clear hs m a w55; rintro a w58 ⟨hs, m⟩
       refine wpList_nil (n_then ?_)
       refine c_cond hs rfl (fun h59 => ?_) (fun h59 => ?_)
       ·have h59p := h59; simp only [bp_] at h59p
        refine c_last ?_
        refine s_ hs m (ok_move rfl) (b_ m (ok_load_ag (vs := cRoute e47) rfl ty51 (bx_at r0) rfl rfl) (b_ m (ok_build (cs := cOp (⟨⟨1, rfl⟩, e47, (⟨⟨0, rfl⟩, (⟨⟨0, rfl⟩, ⟨0, rfl⟩, ⟨0, rfl⟩, ⟨0, rfl⟩, ⟨0, rfl⟩, ⟨0, rfl⟩⟩ : TMAC)⟩ : TNeigh), (⟨(⟨⟨0, rfl⟩, ⟨0, rfl⟩, ⟨0, rfl⟩, ⟨0, rfl⟩, ⟨0, rfl⟩, ⟨0, rfl⟩⟩ : TMAC), ⟨0, rfl⟩⟩ : TFdb)⟩ : TOp)) st58 ze58 rfl rfl) ?_))
        clear hs a; intro a hs
        refine r_buildM (c := cOp) (ys := [(⟨⟨1, rfl⟩, e47, (⟨⟨0, rfl⟩, (⟨⟨0, rfl⟩, ⟨0, rfl⟩, ⟨0, rfl⟩, ⟨0, rfl⟩, ⟨0, rfl⟩, ⟨0, rfl⟩⟩ : TMAC)⟩ : TNeigh), (⟨(⟨⟨0, rfl⟩, ⟨0, rfl⟩, ⟨0, rfl⟩, ⟨0, rfl⟩, ⟨0, rfl⟩, ⟨0, rfl⟩⟩ : TMAC), ⟨0, rfl⟩⟩ : TFdb)⟩ : TOp)]) hs m sl35 ty58 ze58 rfl rfl rfl rfl rfl (fun _ => rfl) rfl rfl rfl ?_
        clear m hs a w58; intro v60 w61 m a hs
        refine r_appendM (c := cOp) (xs := ((((((([] : List TOp) ++ pickM (fun e => (e.Local == true) && !staysM x_Neighs x_Fdbs y_Routes y_Neighs y_Fdbs e) delR x_Routes) ++ pickM (fun e => (e.Local == false) && !staysM x_Neighs x_Fdbs y_Routes y_Neighs y_Fdbs e) delR x_Routes) ++ pickM (fun e => lacksM cmpNeigh zNeigh y_Neighs e) delN x_Neighs) ++ pickM (fun e => lacksM cmpFdb zFdb y_Fdbs e) delF x_Fdbs) ++ pickM (fun e => lacksM cmpFdb zFdb x_Fdbs e) putF y_Fdbs) ++ pickM (fun e => lacksM cmpNeigh zNeigh x_Neighs e) putNe y_Neighs) ++ pickM (fun e => lacksM cmpRoute zRoute x_Routes e || !staysM x_Neighs x_Fdbs y_Routes y_Neighs y_Fdbs e) putR (y_Routes.take k12)) (ys := [(⟨⟨1, rfl⟩, e47, (⟨⟨0, rfl⟩, (⟨⟨0, rfl⟩, ⟨0, rfl⟩, ⟨0, rfl⟩, ⟨0, rfl⟩, ⟨0, rfl⟩, ⟨0, rfl⟩⟩ : TMAC)⟩ : TNeigh), (⟨(⟨⟨0, rfl⟩, ⟨0, rfl⟩, ⟨0, rfl⟩, ⟨0, rfl⟩, ⟨0, rfl⟩, ⟨0, rfl⟩⟩ : TMAC), ⟨0, rfl⟩⟩ : TFdb)⟩ : TOp)]) hs m rfl rfl sl35 ni35 ty58 ze58 rfl by58 rfl r4 (m.rdv r0) (fun _ => rfl) (by (simp only [List.length_cons, List.length_nil]; omega)) rfl ?_
        clear m hs a w61; intro v62 w63 m a hs
        refine s_ hs m (ok_assign rfl) ?_
        clear hs a; intro a hs
        refine wpList_nil (n_block (n_then ?_))
        refine c_last ?_
        refine s_ hs m (ok_add (r := (k12 : Int) + 1) rfl rfl (wrap_i64 (by omega) (by omega))) (b_ m (ok_move rfl) (bn_ ?_))
        clear hs a; intro a hs
        have q64 : ((((((([] : List TOp) ++ pickM (fun e => (e.Local == true) && !staysM x_Neighs x_Fdbs y_Routes y_Neighs y_Fdbs e) delR x_Routes) ++ pickM (fun e => (e.Local == false) && !staysM x_Neighs x_Fdbs y_Routes y_Neighs y_Fdbs e) delR x_Routes) ++ pickM (fun e => lacksM cmpNeigh zNeigh y_Neighs e) delN x_Neighs) ++ pickM (fun e => lacksM cmpFdb zFdb y_Fdbs e) delF x_Fdbs) ++ pickM (fun e => lacksM cmpFdb zFdb x_Fdbs e) putF y_Fdbs) ++ pickM (fun e => lacksM cmpNeigh zNeigh x_Neighs e) putNe y_Neighs) ++ pickM (fun e => lacksM cmpRoute zRoute x_Routes e || !staysM x_Neighs x_Fdbs y_Routes y_Neighs y_Fdbs e) putR (y_Routes.take k12) ++ [(⟨⟨1, rfl⟩, e47, (⟨⟨0, rfl⟩, (⟨⟨0, rfl⟩, ⟨0, rfl⟩, ⟨0, rfl⟩, ⟨0, rfl⟩, ⟨0, rfl⟩, ⟨0, rfl⟩⟩ : TMAC)⟩ : TNeigh), (⟨(⟨⟨0, rfl⟩, ⟨0, rfl⟩, ⟨0, rfl⟩, ⟨0, rfl⟩, ⟨0, rfl⟩, ⟨0, rfl⟩⟩ : TMAC), ⟨0, rfl⟩⟩ : TFdb)⟩ : TOp)] = ((((((([] : List TOp) ++ pickM (fun e => (e.Local == true) && !staysM x_Neighs x_Fdbs y_Routes y_Neighs y_Fdbs e) delR x_Routes) ++ pickM (fun e => (e.Local == false) && !staysM x_Neighs x_Fdbs y_Routes y_Neighs y_Fdbs e) delR x_Routes) ++ pickM (fun e => lacksM cmpNeigh zNeigh y_Neighs e) delN x_Neighs) ++ pickM (fun e => lacksM cmpFdb zFdb y_Fdbs e) delF x_Fdbs) ++ pickM (fun e => lacksM cmpFdb zFdb x_Fdbs e) putF y_Fdbs) ++ pickM (fun e => lacksM cmpNeigh zNeigh x_Neighs e) putNe y_Neighs) ++ pickM (fun e => lacksM cmpRoute zRoute x_Routes e || !staysM x_Neighs x_Fdbs y_Routes y_Neighs y_Fdbs e) putR (y_Routes.take (k12 + 1)) := by exact pickM_t (by assumption) (by assumption)
        rw [q64] at m
        exact ⟨y_Routes.length - (k12 + 1), by omega, k12 + 1, v62, by omega, by exact Nat.le_trans pickM_add (by omega), rfl, hs.to ⟨rfl, rfl, rfl, rfl, rfl, rfl, trivial⟩, m.sub (.c r3 (.c r3 (.c r0 .n)))⟩
       have h59p := h59; simp only [bp_] at h59p
       refine wp_skip ?_
       refine n_block (n_then ?_)
       refine c_last ?_
       refine s_ hs m (ok_add (r := (k12 : Int) + 1) rfl rfl (wrap_i64 (by omega) (by omega))) (b_ m (ok_move rfl) (bn_ ?_))
       clear hs a; intro a hs
       have q65 : ((((((([] : List TOp) ++ pickM (fun e => (e.Local == true) && !staysM x_Neighs x_Fdbs y_Routes y_Neighs y_Fdbs e) delR x_Routes) ++ pickM (fun e => (e.Local == false) && !staysM x_Neighs x_Fdbs y_Routes y_Neighs y_Fdbs e) delR x_Routes) ++ pickM (fun e => lacksM cmpNeigh zNeigh y_Neighs e) delN x_Neighs) ++ pickM (fun e => lacksM cmpFdb zFdb y_Fdbs e) delF x_Fdbs) ++ pickM (fun e => lacksM cmpFdb zFdb x_Fdbs e) putF y_Fdbs) ++ pickM (fun e => lacksM cmpNeigh zNeigh x_Neighs e) putNe y_Neighs) ++ pickM (fun e => lacksM cmpRoute zRoute x_Routes e || !staysM x_Neighs x_Fdbs y_Routes y_Neighs y_Fdbs e) putR (y_Routes.take k12) = ((((((([] : List TOp) ++ pickM (fun e => (e.Local == true) && !staysM x_Neighs x_Fdbs y_Routes y_Neighs y_Fdbs e) delR x_Routes) ++ pickM (fun e => (e.Local == false) && !staysM x_Neighs x_Fdbs y_Routes y_Neighs y_Fdbs e) delR x_Routes) ++ pickM (fun e => lacksM cmpNeigh zNeigh y_Neighs e) delN x_Neighs) ++ pickM (fun e => lacksM cmpFdb zFdb y_Fdbs e) delF x_Fdbs) ++ pickM (fun e => lacksM cmpFdb zFdb x_Fdbs e) putF y_Fdbs) ++ pickM (fun e => lacksM cmpNeigh zNeigh x_Neighs e) putNe y_Neighs) ++ pickM (fun e => lacksM cmpRoute zRoute x_Routes e || !staysM x_Neighs x_Fdbs y_Routes y_Neighs y_Fdbs e) putR (y_Routes.take (k12 + 1)) := by exact pickM_f (by assumption) (by assumption)
       rw [q65] at m
       exact ⟨y_Routes.length - (k12 + 1), by omega, k12 + 1, v41, by omega, by exact Nat.le_trans pickM_add (by omega), rfl, hs.to ⟨rfl, rfl, rfl, rfl, rfl, rfl, trivial⟩, m.sub (.c r1 (.c r1 (.c r1 .n)))⟩
      have h40p := of_decide_eq_true h40
      refine wp_skip ?_
      refine n_then ?_
      refine c_seq ?_
      refine wp_block ?_
      refine c_reg ?_
      obtain ⟨e66, he67⟩ := get_of_lt (l := y_Neighs) (i := k10) (by omega)
      refine elF (c := cNeigh) (e := e66) hs m (x := (.tmp 110)) (ix := (.tmp 112)) rfl rfl sl26 ty54 hy_Neighs (by omega) he67 fun p68 hp69 ok70 => ?_
      refine s_ hs m (ok70 _ _ _ _ _) (b_ m (ok_load_ag (vs := cNeigh e66) rfl ty54 (fr_at hp69) rfl rfl) ?_)
      clear hs a; intro a hs
      refine r_alloc hs m ze54 rfl ?_
      clear m hs a w39; intro p71 w72 m a hs
      refine st_ (cNeigh e66) (cNeigh e66) hs m ty54 s0 ?_
      clear m w72; intro w73 m
      refine wpList_nil (n_then ?_)
      refine c_reg ?_
      refine s_ hs m (ok_fieldAddr (r := 1) rfl fd29_1 ty26 rfl) (b_ m (ok_load_sc rfl ty26 (bx_at r1) rfl) (b_ m (ok_load_ag (vs := cNeigh e66) rfl ty54 (bx_at r0) rfl rfl) ?_))
      clear hs a; intro a hs
      refine r_callP hs m rfl rfl ca58 rfl (lacksNeigh_c vx_Neighs x_Neighs e66 _ (m.rd hx_Neighs) ) rfl ?_
      clear m hs a w73; intro w74 m a hs
      refine wpList_nil (n_then ?_)
      refine c_cond hs rfl (fun h75 => ?_) (fun h75 => ?_)
      ·refine c_last ?_
       refine s_ hs m (ok_move rfl) (b_ m (ok_load_ag (vs := cNeigh e66) rfl ty54 (bx_at r0) rfl rfl) (b_ m (ok_build (cs := cOp (⟨⟨3, rfl⟩, (⟨(⟨⟨0, rfl⟩, ⟨0, rfl⟩⟩ : TPrefix), ⟨0, rfl⟩, false⟩ : TRoute), e66, (⟨(⟨⟨0, rfl⟩, ⟨0, rfl⟩, ⟨0, rfl⟩, ⟨0, rfl⟩, ⟨0, rfl⟩, ⟨0, rfl⟩⟩ : TMAC), ⟨0, rfl⟩⟩ : TFdb)⟩ : TOp)) st58 ze58 rfl rfl) ?_))
       clear hs a; intro a hs
       refine r_buildM (c := cOp) (ys := [(⟨⟨3, rfl⟩, (⟨(⟨⟨0, rfl⟩, ⟨0, rfl⟩⟩ : TPrefix), ⟨0, rfl⟩, false⟩ : TRoute), e66, (⟨(⟨⟨0, rfl⟩, ⟨0, rfl⟩, ⟨0, rfl⟩, ⟨0, rfl⟩, ⟨0, rfl⟩, ⟨0, rfl⟩⟩ : TMAC), ⟨0, rfl⟩⟩ : TFdb)⟩ : TOp)]) hs m sl35 ty58 ze58 rfl rfl rfl rfl rfl (fun _ => rfl) rfl rfl rfl ?_
       clear m hs a w74; intro v76 w77 m a hs
       refine r_appendM (c := cOp) (xs := (((((([] : List TOp) ++ pickM (fun e => (e.Local == true) && !staysM x_Neighs x_Fdbs y_Routes y_Neighs y_Fdbs e) delR x_Routes) ++ pickM (fun e => (e.Local == false) && !staysM x_Neighs x_Fdbs y_Routes y_Neighs y_Fdbs e) delR x_Routes) ++ pickM (fun e => lacksM cmpNeigh zNeigh y_Neighs e) delN x_Neighs) ++ pickM (fun e => lacksM cmpFdb zFdb y_Fdbs e) delF x_Fdbs) ++ pickM (fun e => lacksM cmpFdb zFdb x_Fdbs e) putF y_Fdbs) ++ pickM (fun e => lacksM cmpNeigh zNeigh x_Neighs e) putNe (y_Neighs.take k10)) (ys := [(⟨⟨3, rfl⟩, (⟨(⟨⟨0, rfl⟩, ⟨0, rfl⟩⟩ : TPrefix), ⟨0, rfl⟩, false⟩ : TRoute), e66, (⟨(⟨⟨0, rfl⟩, ⟨0, rfl⟩, ⟨0, rfl⟩, ⟨0, rfl⟩, ⟨0, rfl⟩, ⟨0, rfl⟩⟩ : TMAC), ⟨0, rfl⟩⟩ : TFdb)⟩ : TOp)]) hs m rfl rfl sl35 ni35 ty58 ze58 rfl by58 rfl r4 (m.rdv r0) (fun _ => rfl) (by (simp only [List.length_cons, List.length_nil]; omega)) rfl ?_
       clear m hs a w77; intro v78 w79 m a hs
       refine s_ hs m (ok_assign rfl) ?_
       clear hs a; intro a hs
       refine wpList_nil (n_block (n_then ?_))
       refine c_last ?_
       refine s_ hs m (ok_add (r := (k10 : Int) + 1) rfl rfl (wrap_i64 (by omega) (by omega))) (b_ m (ok_move rfl) (bn_ ?_))
       clear hs a; intro a hs
       have q80 : (((((([] : List TOp) ++ pickM (fun e => (e.Local == true) && !staysM x_Neighs x_Fdbs y_Routes y_Neighs y_Fdbs e) delR x_Routes) ++ pickM (fun e => (e.Local == false) && !staysM x_Neighs x_Fdbs y_Routes y_Neighs y_Fdbs e) delR x_Routes) ++ pickM (fun e => lacksM cmpNeigh zNeigh y_Neighs e) delN x_Neighs) ++ pickM (fun e => lacksM cmpFdb zFdb y_Fdbs e) delF x_Fdbs) ++ pickM (fun e => lacksM cmpFdb zFdb x_Fdbs e) putF y_Fdbs) ++ pickM (fun e => lacksM cmpNeigh zNeigh x_Neighs e) putNe (y_Neighs.take k10) ++ [(⟨⟨3, rfl⟩, (⟨(⟨⟨0, rfl⟩, ⟨0, rfl⟩⟩ : TPrefix), ⟨0, rfl⟩, false⟩ : TRoute), e66, (⟨(⟨⟨0, rfl⟩, ⟨0, rfl⟩, ⟨0, rfl⟩, ⟨0, rfl⟩, ⟨0, rfl⟩, ⟨0, rfl⟩⟩ : TMAC), ⟨0, rfl⟩⟩ : TFdb)⟩ : TOp)] = (((((([] : List TOp) ++ pickM (fun e => (e.Local == true) && !staysM x_Neighs x_Fdbs y_Routes y_Neighs y_Fdbs e) delR x_Routes) ++ pickM (fun e => (e.Local == false) && !staysM x_Neighs x_Fdbs y_Routes y_Neighs y_Fdbs e) delR x_Routes) ++ pickM (fun e => lacksM cmpNeigh zNeigh y_Neighs e) delN x_Neighs) ++ pickM (fun e => lacksM cmpFdb zFdb y_Fdbs e) delF x_Fdbs) ++ pickM (fun e => lacksM cmpFdb zFdb x_Fdbs e) putF y_Fdbs) ++ pickM (fun e => lacksM cmpNeigh zNeigh x_Neighs e) putNe (y_Neighs.take (k10 + 1)) := by exact pickM_t (by assumption) (by assumption)
       rw [q80] at m
       exact ⟨y_Neighs.length - (k10 + 1), by omega, k10 + 1, v78, by omega, by exact Nat.le_trans pickM_add (by omega), rfl, hs.to ⟨rfl, rfl, rfl, rfl, rfl, rfl, trivial⟩, m.sub (.c r3 (.c r3 (.c r0 .n)))⟩
      refine wp_skip ?_
      refine n_block (n_then ?_)
      refine c_last ?_
      refine s_ hs m (ok_add (r := (k10 : Int) + 1) rfl rfl (wrap_i64 (by omega) (by omega))) (b_ m (ok_move rfl) (bn_ ?_))
      clear hs a; intro a hs
      have q81 : (((((([] : List TOp) ++ pickM (fun e => (e.Local == true) && !staysM x_Neighs x_Fdbs y_Routes y_Neighs y_Fdbs e) delR x_Routes) ++ pickM (fun e => (e.Local == false) && !staysM x_Neighs x_Fdbs y_Routes y_Neighs y_Fdbs e) delR x_Routes) ++ pickM (fun e => lacksM cmpNeigh zNeigh y_Neighs e) delN x_Neighs) ++ pickM (fun e => lacksM cmpFdb zFdb y_Fdbs e) delF x_Fdbs) ++ pickM (fun e => lacksM cmpFdb zFdb x_Fdbs e) putF y_Fdbs) ++ pickM (fun e => lacksM cmpNeigh zNeigh x_Neighs e) putNe (y_Neighs.take k10) = (((((([] : List TOp) ++ pickM (fun e => (e.Local == true) && !staysM x_Neighs x_Fdbs y_Routes y_Neighs y_Fdbs e) delR x_Routes) ++ pickM (fun e => (e.Local == false) && !staysM x_Neighs x_Fdbs y_Routes y_Neighs y_Fdbs e) delR x_Routes) ++ pickM (fun e => lacksM cmpNeigh zNeigh y_Neighs e) delN x_Neighs) ++ pickM (fun e => lacksM cmpFdb zFdb y_Fdbs e) delF x_Fdbs) ++ pickM (fun e => lacksM cmpFdb zFdb x_Fdbs e) putF y_Fdbs) ++ pickM (fun e => lacksM cmpNeigh zNeigh x_Neighs e) putNe (y_Neighs.take (k10 + 1)) := by exact pickM_f (by assumption) (by assumption)
      rw [q81] at m
      exact ⟨y_Neighs.length - (k10 + 1), by omega, k10 + 1, v37, by omega, by exact Nat.le_trans pickM_add (by omega), rfl, hs.to ⟨rfl, rfl, rfl, rfl, rfl, rfl, trivial⟩, m.sub (.c r1 (.c r1 (.c r1 .n)))⟩
     have h36p := of_decide_eq_true h36
     refine wp_skip ?_
     refine n_then ?_
     refine c_seq ?_
     refine wp_block ?_
     refine c_reg ?_
     obtain ⟨e82, he83⟩ := get_of_lt (l := y_Fdbs) (i := k8) (by omega)
     refine elF (c := cFdb) (e := e82) hs m (x := (.tmp 93)) (ix := (.tmp 95)) rfl rfl sl27 ty56 hy_Fdbs (by omega) he83 fun p84 hp85 ok86 => ?_
     refine s_ hs m (ok86 _ _ _ _ _) (b_ m (ok_load_ag (vs := cFdb e82) rfl ty56 (fr_at hp85) rfl rfl) ?_)
     clear hs a; intro a hs
     refine r_alloc hs m ze56 rfl ?_
     clear m hs a w35; intro p87 w88 m a hs
     refine st_ (cFdb e82) (cFdb e82) hs m ty56 s0 ?_
     clear m w88; intro w89 m
     refine wpList_nil (n_then ?_)
     refine c_reg ?_
     refine s_ hs m (ok_fieldAddr (r := 2) rfl fd29_2 ty27 rfl) (b_ m (ok_load_sc rfl ty27 (bx_at r1) rfl) (b_ m (ok_load_ag (vs := cFdb e82) rfl ty56 (bx_at r0) rfl rfl) ?_))
     clear hs a; intro a hs
     refine r_callP hs m rfl rfl ca59 rfl (lacksFdb_c vx_Fdbs x_Fdbs e82 _ (m.rd hx_Fdbs) ) rfl ?_
     clear m hs a w89; intro w90 m a hs
     refine wpList_nil (n_then ?_)
     refine c_cond hs rfl (fun h91 => ?_) (fun h91 => ?_)
     ·refine c_last ?_
      refine s_ hs m (ok_move rfl) (b_ m (ok_load_ag (vs := cFdb e82) rfl ty56 (bx_at r0) rfl rfl) (b_ m (ok_build (cs := cOp (⟨⟨5, rfl⟩, (⟨(⟨⟨0, rfl⟩, ⟨0, rfl⟩⟩ : TPrefix), ⟨0, rfl⟩, false⟩ : TRoute), (⟨⟨0, rfl⟩, (⟨⟨0, rfl⟩, ⟨0, rfl⟩, ⟨0, rfl⟩, ⟨0, rfl⟩, ⟨0, rfl⟩, ⟨0, rfl⟩⟩ : TMAC)⟩ : TNeigh), e82⟩ : TOp)) st58 ze58 rfl rfl) ?_))
      clear hs a; intro a hs
      refine r_buildM (c := cOp) (ys := [(⟨⟨5, rfl⟩, (⟨(⟨⟨0, rfl⟩, ⟨0, rfl⟩⟩ : TPrefix), ⟨0, rfl⟩, false⟩ : TRoute), (⟨⟨0, rfl⟩, (⟨⟨0, rfl⟩, ⟨0, rfl⟩, ⟨0, rfl⟩, ⟨0, rfl⟩, ⟨0, rfl⟩, ⟨0, rfl⟩⟩ : TMAC)⟩ : TNeigh), e82⟩ : TOp)]) hs m sl35 ty58 ze58 rfl rfl rfl rfl rfl (fun _ => rfl) rfl rfl rfl ?_
      clear m hs a w90; intro v92 w93 m a hs
      refine r_appendM (c := cOp) (xs := ((((([] : List TOp) ++ pickM (fun e => (e.Local == true) && !staysM x_Neighs x_Fdbs y_Routes y_Neighs y_Fdbs e) delR x_Routes) ++ pickM (fun e => (e.Local == false) && !staysM x_Neighs x_Fdbs y_Routes y_Neighs y_Fdbs e) delR x_Routes) ++ pickM (fun e => lacksM cmpNeigh zNeigh y_Neighs e) delN x_Neighs) ++ pickM (fun e => lacksM cmpFdb zFdb y_Fdbs e) delF x_Fdbs) ++ pickM (fun e => lacksM cmpFdb zFdb x_Fdbs e) putF (y_Fdbs.take k8)) (ys := [(⟨⟨5, rfl⟩, (⟨(⟨⟨0, rfl⟩, ⟨0, rfl⟩⟩ : TPrefix), ⟨0, rfl⟩, false⟩ : TRoute), (⟨⟨0, rfl⟩, (⟨⟨0, rfl⟩, ⟨0, rfl⟩, ⟨0, rfl⟩, ⟨0, rfl⟩, ⟨0, rfl⟩, ⟨0, rfl⟩⟩ : TMAC)⟩ : TNeigh), e82⟩ : TOp)]) hs m rfl rfl sl35 ni35 ty58 ze58 rfl by58 rfl r4 (m.rdv r0) (fun _ => rfl) (by (simp only [List.length_cons, List.length_nil]; omega)) rfl ?_
      clear m hs a w93; intro v94 w95 m a hs
      refine s_ hs m (ok_assign rfl) ?_
      clear hs a; intro a hs
      refine wpList_nil (n_block (n_then ?_))
      refine c_last ?_
      refine s_ hs m (ok_add (r := (k8 : Int) + 1) rfl rfl (wrap_i64 (by omega) (by omega))) (b_ m (ok_move rfl) (bn_ ?_))
      clear hs a; intro a hs
      have q96 : ((((([] : List TOp) ++ pickM (fun e => (e.Local == true) && !staysM x_Neighs x_Fdbs y_Routes y_Neighs y_Fdbs e) delR x_Routes) ++ pickM (fun e => (e.Local == false) && !staysM x_Neighs x_Fdbs y_Routes y_Neighs y_Fdbs e) delR x_Routes) ++ pickM (fun e => lacksM cmpNeigh zNeigh y_Neighs e) delN x_Neighs) ++ pickM (fun e => lacksM cmpFdb zFdb y_Fdbs e) delF x_Fdbs) ++ pickM (fun e => lacksM cmpFdb zFdb x_Fdbs e) putF (y_Fdbs.take k8) ++ [(⟨⟨5, rfl⟩, (⟨(⟨⟨0, rfl⟩, ⟨0, rfl⟩⟩ : TPrefix), ⟨0, rfl⟩, false⟩ : TRoute), (⟨⟨0, rfl⟩, (⟨⟨0, rfl⟩, ⟨0, rfl⟩, ⟨0, rfl⟩, ⟨0, rfl⟩, ⟨0, rfl⟩, ⟨0, rfl⟩⟩ : TMAC)⟩ : TNeigh), e82⟩ : TOp)] = ((((([] : List TOp) ++ pickM (fun e => (e.Local == true) && !staysM x_Neighs x_Fdbs y_Routes y_Neighs y_Fdbs e) delR x_Routes) ++ pickM (fun e => (e.Local == false) && !staysM x_Neighs x_Fdbs y_Routes y_Neighs y_Fdbs e) delR x_Routes) ++ pickM (fun e => lacksM cmpNeigh zNeigh y_Neighs e) delN x_Neighs) ++ pickM (fun e => lacksM cmpFdb zFdb y_Fdbs e) delF x_Fdbs) ++ pickM (fun e => lacksM cmpFdb zFdb x_Fdbs e) putF (y_Fdbs.take (k8 + 1)) := by exact pickM_t (by assumption) (by assumption)
      rw [q96] at m
      exact ⟨y_Fdbs.length - (k8 + 1), by omega, k8 + 1, v94, by omega, by exact Nat.le_trans pickM_add (by omega), rfl, hs.to ⟨rfl, rfl, rfl, rfl, rfl, rfl, trivial⟩, m.sub (.c r3 (.c r3 (.c r0 .n)))⟩
     refine wp_skip ?_
     refine n_block (n_then ?_)
     refine c_last ?_
     refine s_ hs m (ok_add (r := (k8 : Int) + 1) rfl rfl (wrap_i64 (by omega) (by omega))) (b_ m (ok_move rfl) (bn_ ?_))
     clear hs a; intro a hs
     have q97 : ((((([] : List TOp) ++ pickM (fun e => (e.Local == true) && !staysM x_Neighs x_Fdbs y_Routes y_Neighs y_Fdbs e) delR x_Routes) ++ pickM (fun e => (e.Local == false) && !staysM x_Neighs x_Fdbs y_Routes y_Neighs y_Fdbs e) delR x_Routes) ++ pickM (fun e => lacksM cmpNeigh zNeigh y_Neighs e) delN x_Neighs) ++ pickM (fun e => lacksM cmpFdb zFdb y_Fdbs e) delF x_Fdbs) ++ pickM (fun e => lacksM cmpFdb zFdb x_Fdbs e) putF (y_Fdbs.take k8) = ((((([] : List TOp) ++ pickM (fun e => (e.Local == true) && !staysM x_Neighs x_Fdbs y_Routes y_Neighs y_Fdbs e) delR x_Routes) ++ pickM (fun e => (e.Local == false) && !staysM x_Neighs x_Fdbs y_Routes y_Neighs y_Fdbs e) delR x_Routes) ++ pickM (fun e => lacksM cmpNeigh zNeigh y_Neighs e) delN x_Neighs) ++ pickM (fun e => lacksM cmpFdb zFdb y_Fdbs e) delF x_Fdbs) ++ pickM (fun e => lacksM cmpFdb zFdb x_Fdbs e) putF (y_Fdbs.take (k8 + 1)) := by exact pickM_f (by assumption) (by assumption)
     rw [q97] at m
     exact ⟨y_Fdbs.length - (k8 + 1), by omega, k8 + 1, v33, by omega, by exact Nat.le_trans pickM_add (by omega), rfl, hs.to ⟨rfl, rfl, rfl, rfl, rfl, rfl, trivial⟩, m.sub (.c r1 (.c r1 (.c r1 .n)))⟩
    have h32p := of_decide_eq_true h32
    refine wp_skip ?_
    refine n_then ?_
    refine c_seq ?_
    refine wp_block ?_
    refine c_reg ?_
    obtain ⟨e98, he99⟩ := get_of_lt (l := x_Fdbs) (i := k6) (by omega)
    refine elF (c := cFdb) (e := e98) hs m (x := (.tmp 76)) (ix := (.tmp 78)) rfl rfl sl27 ty56 hx_Fdbs (by omega) he99 fun p100 hp101 ok102 => ?_
    refine s_ hs m (ok102 _ _ _ _ _) (b_ m (ok_load_ag (vs := cFdb e98) rfl ty56 (fr_at hp101) rfl rfl) ?_)
    clear hs a; intro a hs
    refine r_alloc hs m ze56 rfl ?_
    clear m hs a w31; intro p103 w104 m a hs
    refine st_ (cFdb e98) (cFdb e98) hs m ty56 s0 ?_
    clear m w104; intro w105 m
    refine wpList_nil (n_then ?_)
    refine c_reg ?_
    refine s_ hs m (ok_fieldAddr (r := 2) rfl fd29_2 ty27 rfl) (b_ m (ok_load_sc rfl ty27 (bx_at r2) rfl) (b_ m (ok_load_ag (vs := cFdb e98) rfl ty56 (bx_at r0) rfl rfl) ?_))
    clear hs a; intro a hs
    refine r_callP hs m rfl rfl ca59 rfl (lacksFdb_c vy_Fdbs y_Fdbs e98 _ (m.rd hy_Fdbs) ) rfl ?_
    clear m hs a w105; intro w106 m a hs
    refine wpList_nil (n_then ?_)
    refine c_cond hs rfl (fun h107 => ?_) (fun h107 => ?_)
    ·refine c_last ?_
     refine s_ hs m (ok_move rfl) (b_ m (ok_load_ag (vs := cFdb e98) rfl ty56 (bx_at r0) rfl rfl) (b_ m (ok_build (cs := cOp (⟨⟨6, rfl⟩, (⟨(⟨⟨0, rfl⟩, ⟨0, rfl⟩⟩ : TPrefix), ⟨0, rfl⟩, false⟩ : TRoute), (⟨⟨0, rfl⟩, (⟨⟨0, rfl⟩, ⟨0, rfl⟩, ⟨0, rfl⟩, ⟨0, rfl⟩, ⟨0, rfl⟩, ⟨0, rfl⟩⟩ : TMAC)⟩ : TNeigh), e98⟩ : TOp)) st58 ze58 rfl rfl) ?_))
     clear hs a; intro a hs
     refine r_buildM (c := cOp) (ys := [(⟨⟨6, rfl⟩, (⟨(⟨⟨0, rfl⟩, ⟨0, rfl⟩⟩ : TPrefix), ⟨0, rfl⟩, false⟩ : TRoute), (⟨⟨0, rfl⟩, (⟨⟨0, rfl⟩, ⟨0, rfl⟩, ⟨0, rfl⟩, ⟨0, rfl⟩, ⟨0, rfl⟩, ⟨0, rfl⟩⟩ : TMAC)⟩ : TNeigh), e98⟩ : TOp)]) hs m sl35 ty58 ze58 rfl rfl rfl rfl rfl (fun _ => rfl) rfl rfl rfl ?_
     clear m hs a w106; intro v108 w109 m a hs
     refine r_appendM (c := cOp) (xs := (((([] : List TOp) ++ pickM (fun e => (e.Local == true) && !staysM x_Neighs x_Fdbs y_Routes y_Neighs y_Fdbs e) delR x_Routes) ++ pickM (fun e => (e.Local == false) && !staysM x_Neighs x_Fdbs y_Routes y_Neighs y_Fdbs e) delR x_Routes) ++ pickM (fun e => lacksM cmpNeigh zNeigh y_Neighs e) delN x_Neighs) ++ pickM (fun e => lacksM cmpFdb zFdb y_Fdbs e) delF (x_Fdbs.take k6)) (ys := [(⟨⟨6, rfl⟩, (⟨(⟨⟨0, rfl⟩, ⟨0, rfl⟩⟩ : TPrefix), ⟨0, rfl⟩, false⟩ : TRoute), (⟨⟨0, rfl⟩, (⟨⟨0, rfl⟩, ⟨0, rfl⟩, ⟨0, rfl⟩, ⟨0, rfl⟩, ⟨0, rfl⟩, ⟨0, rfl⟩⟩ : TMAC)⟩ : TNeigh), e98⟩ : TOp)]) hs m rfl rfl sl35 ni35 ty58 ze58 rfl by58 rfl r4 (m.rdv r0) (fun _ => rfl) (by (simp only [List.length_cons, List.length_nil]; omega)) rfl ?_
     clear m hs a w109; intro v110 w111 m a hs
     refine s_ hs m (ok_assign rfl) ?_
     clear hs a; intro a hs
     refine wpList_nil (n_block (n_then ?_))
     refine c_last ?_
     refine s_ hs m (ok_add (r := (k6 : Int) + 1) rfl rfl (wrap_i64 (by omega) (by omega))) (b_ m (ok_move rfl) (bn_ ?_))
     clear hs a; intro a hs
     have q112 : (((([] : List TOp) ++ pickM (fun e => (e.Local == true) && !staysM x_Neighs x_Fdbs y_Routes y_Neighs y_Fdbs e) delR x_Routes) ++ pickM (fun e => (e.Local == false) && !staysM x_Neighs x_Fdbs y_Routes y_Neighs y_Fdbs e) delR x_Routes) ++ pickM (fun e => lacksM cmpNeigh zNeigh y_Neighs e) delN x_Neighs) ++ pickM (fun e => lacksM cmpFdb zFdb y_Fdbs e) delF (x_Fdbs.take k6) ++ [(⟨⟨6, rfl⟩, (⟨(⟨⟨0, rfl⟩, ⟨0, rfl⟩⟩ : TPrefix), ⟨0, rfl⟩, false⟩ : TRoute), (⟨⟨0, rfl⟩, (⟨⟨0, rfl⟩, ⟨0, rfl⟩, ⟨0, rfl⟩, ⟨0, rfl⟩, ⟨0, rfl⟩, ⟨0, rfl⟩⟩ : TMAC)⟩ : TNeigh), e98⟩ : TOp)] = (((([] : List TOp) ++ pickM (fun e => (e.Local == true) && !staysM x_Neighs x_Fdbs y_Routes y_Neighs y_Fdbs e) delR x_Routes) ++ pickM (fun e => (e.Local == false) && !staysM x_Neighs x_Fdbs y_Routes y_Neighs y_Fdbs e) delR x_Routes) ++ pickM (fun e => lacksM cmpNeigh zNeigh y_Neighs e) delN x_Neighs) ++ pickM (fun e => lacksM cmpFdb zFdb y_Fdbs e) delF (x_Fdbs.take (k6 + 1)) := by exact pickM_t (by assumption) (by assumption)
     rw [q112] at m
     exact ⟨x_Fdbs.length - (k6 + 1), by omega, k6 + 1, v110, by omega, by exact Nat.le_trans pickM_add (by omega), rfl, hs.to ⟨rfl, rfl, rfl, rfl, rfl, rfl, trivial⟩, m.sub (.c r3 (.c r3 (.c r0 .n)))⟩
    refine wp_skip ?_
    refine n_block (n_then ?_)
    refine c_last ?_
    refine s_ hs m (ok_add (r := (k6 : Int) + 1) rfl rfl (wrap_i64 (by omega) (by omega))) (b_ m (ok_move rfl) (bn_ ?_))
    clear hs a; intro a hs
    have q113 : (((([] : List TOp) ++ pickM (fun e => (e.Local == true) && !staysM x_Neighs x_Fdbs y_Routes y_Neighs y_Fdbs e) delR x_Routes) ++ pickM (fun e => (e.Local == false) && !staysM x_Neighs x_Fdbs y_Routes y_Neighs y_Fdbs e) delR x_Routes) ++ pickM (fun e => lacksM cmpNeigh zNeigh y_Neighs e) delN x_Neighs) ++ pickM (fun e => lacksM cmpFdb zFdb y_Fdbs e) delF (x_Fdbs.take k6) = (((([] : List TOp) ++ pickM (fun e => (e.Local == true) && !staysM x_Neighs x_Fdbs y_Routes y_Neighs y_Fdbs e) delR x_Routes) ++ pickM (fun e => (e.Local == false) && !staysM x_Neighs x_Fdbs y_Routes y_Neighs y_Fdbs e) delR x_Routes) ++ pickM (fun e => lacksM cmpNeigh zNeigh y_Neighs e) delN x_Neighs) ++ pickM (fun e => lacksM cmpFdb zFdb y_Fdbs e) delF (x_Fdbs.take (k6 + 1)) := by exact pickM_f (by assumption) (by assumption)
    rw [q113] at m
    exact ⟨x_Fdbs.length - (k6 + 1), by omega, k6 + 1, v29, by omega, by exact Nat.le_trans pickM_add (by omega), rfl, hs.to ⟨rfl, rfl, rfl, rfl, rfl, rfl, trivial⟩, m.sub (.c r1 (.c r1 (.c r1 .n)))⟩
   have h28p := of_decide_eq_true h28
   refine wp_skip ?_
   refine n_then ?_
   refine c_seq ?_
   refine wp_block ?_
   refine c_reg ?_
   obtain ⟨e114, he115⟩ := get_of_lt (l := x_Neighs) (i := k4) (by omega)
   refine elF (c := cNeigh) (e := e114) hs m (x := (.tmp 59)) (ix := (.tmp 61)) rfl rfl sl26 ty54 hx_Neighs (by omega) he115 fun p116 hp117 ok118 => ?_
   refine s_ hs m (ok118 _ _ _ _ _) (b_ m (ok_load_ag (vs := cNeigh e114) rfl ty54 (fr_at hp117) rfl rfl) ?_)
   clear hs a; intro a hs
   refine r_alloc hs m ze54 rfl ?_
   clear m hs a w27; intro p119 w120 m a hs
   refine st_ (cNeigh e114) (cNeigh e114) hs m ty54 s0 ?_
   clear m w120; intro w121 m
   refine wpList_nil (n_then ?_)
   refine c_reg ?_
   refine s_ hs m (ok_fieldAddr (r := 1) rfl fd29_1 ty26 rfl) (b_ m (ok_load_sc rfl ty26 (bx_at r2) rfl) (b_ m (ok_load_ag (vs := cNeigh e114) rfl ty54 (bx_at r0) rfl rfl) ?_))
   clear hs a; intro a hs
   refine r_callP hs m rfl rfl ca58 rfl (lacksNeigh_c vy_Neighs y_Neighs e114 _ (m.rd hy_Neighs) ) rfl ?_
   clear m hs a w121; intro w122 m a hs
   refine wpList_nil (n_then ?_)
   refine c_cond hs rfl (fun h123 => ?_) (fun h123 => ?_)
   ·refine c_last ?_
    refine s_ hs m (ok_move rfl) (b_ m (ok_load_ag (vs := cNeigh e114) rfl ty54 (bx_at r0) rfl rfl) (b_ m (ok_build (cs := cOp (⟨⟨4, rfl⟩, (⟨(⟨⟨0, rfl⟩, ⟨0, rfl⟩⟩ : TPrefix), ⟨0, rfl⟩, false⟩ : TRoute), e114, (⟨(⟨⟨0, rfl⟩, ⟨0, rfl⟩, ⟨0, rfl⟩, ⟨0, rfl⟩, ⟨0, rfl⟩, ⟨0, rfl⟩⟩ : TMAC), ⟨0, rfl⟩⟩ : TFdb)⟩ : TOp)) st58 ze58 rfl rfl) ?_))
    clear hs a; intro a hs
    refine r_buildM (c := cOp) (ys := [(⟨⟨4, rfl⟩, (⟨(⟨⟨0, rfl⟩, ⟨0, rfl⟩⟩ : TPrefix), ⟨0, rfl⟩, false⟩ : TRoute), e114, (⟨(⟨⟨0, rfl⟩, ⟨0, rfl⟩, ⟨0, rfl⟩, ⟨0, rfl⟩, ⟨0, rfl⟩, ⟨0, rfl⟩⟩ : TMAC), ⟨0, rfl⟩⟩ : TFdb)⟩ : TOp)]) hs m sl35 ty58 ze58 rfl rfl rfl rfl rfl (fun _ => rfl) rfl rfl rfl ?_
    clear m hs a w122; intro v124 w125 m a hs
    refine r_appendM (c := cOp) (xs := ((([] : List TOp) ++ pickM (fun e => (e.Local == true) && !staysM x_Neighs x_Fdbs y_Routes y_Neighs y_Fdbs e) delR x_Routes) ++ pickM (fun e => (e.Local == false) && !staysM x_Neighs x_Fdbs y_Routes y_Neighs y_Fdbs e) delR x_Routes) ++ pickM (fun e => lacksM cmpNeigh zNeigh y_Neighs e) delN (x_Neighs.take k4)) (ys := [(⟨⟨4, rfl⟩, (⟨(⟨⟨0, rfl⟩, ⟨0, rfl⟩⟩ : TPrefix), ⟨0, rfl⟩, false⟩ : TRoute), e114, (⟨(⟨⟨0, rfl⟩, ⟨0, rfl⟩, ⟨0, rfl⟩, ⟨0, rfl⟩, ⟨0, rfl⟩, ⟨0, rfl⟩⟩ : TMAC), ⟨0, rfl⟩⟩ : TFdb)⟩ : TOp)]) hs m rfl rfl sl35 ni35 ty58 ze58 rfl by58 rfl r4 (m.rdv r0) (fun _ => rfl) (by (simp only [List.length_cons, List.length_nil]; omega)) rfl ?_
    clear m hs a w125; intro v126 w127 m a hs
    refine s_ hs m (ok_assign rfl) ?_
    clear hs a; intro a hs
    refine wpList_nil (n_block (n_then ?_))
    refine c_last ?_
    refine s_ hs m (ok_add (r := (k4 : Int) + 1) rfl rfl (wrap_i64 (by omega) (by omega))) (b_ m (ok_move rfl) (bn_ ?_))
    clear hs a; intro a hs
    have q128 : ((([] : List TOp) ++ pickM (fun e => (e.Local == true) && !staysM x_Neighs x_Fdbs y_Routes y_Neighs y_Fdbs e) delR x_Routes) ++ pickM (fun e => (e.Local == false) && !staysM x_Neighs x_Fdbs y_Routes y_Neighs y_Fdbs e) delR x_Routes) ++ pickM (fun e => lacksM cmpNeigh zNeigh y_Neighs e) delN (x_Neighs.take k4) ++ [(⟨⟨4, rfl⟩, (⟨(⟨⟨0, rfl⟩, ⟨0, rfl⟩⟩ : TPrefix), ⟨0, rfl⟩, false⟩ : TRoute), e114, (⟨(⟨⟨0, rfl⟩, ⟨0, rfl⟩, ⟨0, rfl⟩, ⟨0, rfl⟩, ⟨0, rfl⟩, ⟨0, rfl⟩⟩ : TMAC), ⟨0, rfl⟩⟩ : TFdb)⟩ : TOp)] = ((([] : List TOp) ++ pickM (fun e => (e.Local == true) && !staysM x_Neighs x_Fdbs y_Routes y_Neighs y_Fdbs e) delR x_Routes) ++ pickM (fun e => (e.Local == false) && !staysM x_Neighs x_Fdbs y_Routes y_Neighs y_Fdbs e) delR x_Routes) ++ pickM (fun e => lacksM cmpNeigh zNeigh y_Neighs e) delN (x_Neighs.take (k4 + 1)) := by exact pickM_t (by assumption) (by assumption)
    rw [q128] at m
    exact ⟨x_Neighs.length - (k4 + 1), by omega, k4 + 1, v126, by omega, by exact Nat.le_trans pickM_add (by omega), rfl, hs.to ⟨rfl, rfl, rfl, rfl, rfl, rfl, trivial⟩, m.sub (.c r3 (.c r3 (.c r0 .n)))⟩
   refine wp_skip ?_
   refine n_block (n_then ?_)
   refine c_last ?_
   refine s_ hs m (ok_add (r := (k4 : Int) + 1) rfl rfl (wrap_i64 (by omega) (by omega))) (b_ m (ok_move rfl) (bn_ ?_))
   clear hs a; intro a hs
   have q129 : ((([] : List TOp) ++ pickM (fun e => (e.Local == true) && !staysM x_Neighs x_Fdbs y_Routes y_Neighs y_Fdbs e) delR x_Routes) ++ pickM (fun e => (e.Local == false) && !staysM x_Neighs x_Fdbs y_Routes y_Neighs y_Fdbs e) delR x_Routes) ++ pickM (fun e => lacksM cmpNeigh zNeigh y_Neighs e) delN (x_Neighs.take k4) = ((([] : List TOp) ++ pickM (fun e => (e.Local == true) && !staysM x_Neighs x_Fdbs y_Routes y_Neighs y_Fdbs e) delR x_Routes) ++ pickM (fun e => (e.Local == false) && !staysM x_Neighs x_Fdbs y_Routes y_Neighs y_Fdbs e) delR x_Routes) ++ pickM (fun e => lacksM cmpNeigh zNeigh y_Neighs e) delN (x_Neighs.take (k4 + 1)) := by exact pickM_f (by assumption) (by assumption)
   rw [q129] at m
   exact ⟨x_Neighs.length - (k4 + 1), by omega, k4 + 1, v25, by omega, by exact Nat.le_trans pickM_add (by omega), rfl, hs.to ⟨rfl, rfl, rfl, rfl, rfl, rfl, trivial⟩, m.sub (.c r1 (.c r1 (.c r1 .n)))⟩
  have h23p := of_decide_eq_true h23
  refine wp_skip ?_
  refine n_then ?_
  refine c_seq ?_
  refine wp_block ?_
  refine c_reg ?_
  obtain ⟨e130, he131⟩ := get_of_lt (l := x_Routes) (i := k2f) (by omega)
  refine elF (c := cRoute) (e := e130) hs m (x := (.tmp 34)) (ix := (.tmp 36)) rfl rfl sl25 ty51 hx_Routes (by omega) he131 fun p132 hp133 ok134 => ?_
  refine s_ hs m (ok134 _ _ _ _ _) (b_ m (ok_load_ag (vs := cRoute e130) rfl ty51 (fr_at hp133) rfl rfl) ?_)
  clear hs a; intro a hs
  refine r_alloc hs m ze51 rfl ?_
  clear m hs a w22; intro p135 w136 m a hs
  refine st_ (cRoute e130) (cRoute e130) hs m ty51 s0 ?_
  clear m w136; intro w137 m
  refine wpList_nil (n_then ?_)
  refine c_reg ?_
  refine s_ hs m (ok_fieldAddr (r := 3) rfl fd51_2 ty4 rfl) (b_ m (ok_load_sc rfl ty4 (bx_at r0) rfl) (b_ m (ok_move rfl) (b_ m (ok_eqB rfl rfl ub4) (b_ m (ok_move rfl) ?_))))
  clear hs a; intro a hs
  refine l_cut (.c (.c (.c (.c (.c (.c (.n))))))) (fun a w => St 151 [(2, .pointer (some (padd p1 0))), (3, .pointer (some (padd p3 0))), (6, v20.v), (8, .bool false), (10, .pointer (some (padd p135 0))), (29, .agg ⟨[.bool true, .bool false]⟩), (30, .int .i64 1), (34, vx_Routes.v), (35, .int .i64 (x_Routes.length : Int)), (36, .int .i64 (k2f : Int)), (50, .bool ((e130.Local == false) && (!(staysM x_Neighs x_Fdbs y_Routes y_Neighs y_Fdbs e130))))] a ∧ Hp w0 (hh w0) [Bx p135 51 (cRoute e130), Bx p1 29 [vx_Routes.v, vx_Neighs.v, vx_Fdbs.v], Bx p3 29 [vy_Routes.v, vy_Neighs.v, vy_Fdbs.v], Sv 19 58 v20.v (((([] : List TOp) ++ pickM (fun e => (e.Local == true) && !staysM x_Neighs x_Fdbs y_Routes y_Neighs y_Fdbs e) delR x_Routes) ++ pickM (fun e => (e.Local == false) && !staysM x_Neighs x_Fdbs y_Routes y_Neighs y_Fdbs e) delR (x_Routes.take k2f)).map cOp)] w) ?_ ?_
  ·rcases Bool.eq_false_or_eq_true (e130.Local == false) with hb138 | hb138
   ·have hb138p := eq_of_beq hb138
    refine sg_ hs hb138 m (ok_load_ag (vs := [vx_Routes.v, vx_Neighs.v, vx_Fdbs.v]) rfl ty29 (bx_at r1) rfl rfl) (bg_ hb138 m (ok_load_ag (vs := [vy_Routes.v, vy_Neighs.v, vy_Fdbs.v]) rfl ty29 (bx_at r2) rfl rfl) (bg_ hb138 m (ok_load_ag (vs := cRoute e130) rfl ty51 (bx_at r0) rfl rfl) ?_))
    clear hs a; intro a hs
    refine r_callPg hs rfl rfl hb138 m rfl rfl ca57 rfl (stays_c vx_Routes x_Routes vx_Neighs x_Neighs vx_Fdbs x_Fdbs vy_Routes y_Routes vy_Neighs y_Neighs vy_Fdbs y_Fdbs e130 _ (m.rd hx_Routes) (m.rd hx_Neighs) (m.rd hx_Fdbs) (m.rd hy_Routes) (m.rd hy_Neighs) (m.rd hy_Fdbs) ) rfl ?_
    clear m hs a w137; intro w139 m a hs
    refine sg_ hs hb138 m (ok_not rfl) (b_ m (ok_pick (r := .bool ((e130.Local == false) && (!(staysM x_Neighs x_Fdbs y_Routes y_Neighs y_Fdbs e130)))) rfl rfl rfl (by rw [hb138]; rfl)) ?_)
    clear hs a; intro a hs
    exact wpList_nil (n_then ⟨hs.to ⟨rfl, rfl, rfl, rfl, rfl, rfl, rfl, rfl, rfl, rfl, rfl, trivial⟩, m⟩)
   ·have hb138p := ne_of_beq_false hb138
    refine so_ hs hb138 (bo_ hb138 (bo_ hb138 (bo_ hb138 (bo_ hb138 (b_ m (ok_pick (r := .bool ((e130.Local == false) && (!(staysM x_Neighs x_Fdbs y_Routes y_Neighs y_Fdbs e130)))) rfl rfl rfl (by rw [hb138]; rfl)) ?_)))))
    clear hs a; intro a hs
    exact wpList_nil (n_then ⟨hs.to ⟨rfl, rfl, rfl, rfl, rfl, rfl, rfl, rfl, rfl, rfl, rfl, trivial⟩, m⟩)
  clear hs m a w137; rintro a w140 ⟨hs, m⟩
  refine wpList_nil (n_then ?_)
  refine c_cond hs rfl (fun h141 => ?_) (fun h141 => ?_)
  ·have h141p := h141; simp only [bp_] at h141p
   refine c_last ?_
   refine s_ hs m (ok_move rfl) (b_ m (ok_load_ag (vs := cRoute e130) rfl ty51 (bx_at r0) rfl rfl) (b_ m (ok_build (cs := cOp (⟨⟨2, rfl⟩, e130, (⟨⟨0, rfl⟩, (⟨⟨0, rfl⟩, ⟨0, rfl⟩, ⟨0, rfl⟩, ⟨0, rfl⟩, ⟨0, rfl⟩, ⟨0, rfl⟩⟩ : TMAC)⟩ : TNeigh), (⟨(⟨⟨0, rfl⟩, ⟨0, rfl⟩, ⟨0, rfl⟩, ⟨0, rfl⟩, ⟨0, rfl⟩, ⟨0, rfl⟩⟩ : TMAC), ⟨0, rfl⟩⟩ : TFdb)⟩ : TOp)) st58 ze58 rfl rfl) ?_))
   clear hs a; intro a hs
   refine r_buildM (c := cOp) (ys := [(⟨⟨2, rfl⟩, e130, (⟨⟨0, rfl⟩, (⟨⟨0, rfl⟩, ⟨0, rfl⟩, ⟨0, rfl⟩, ⟨0, rfl⟩, ⟨0, rfl⟩, ⟨0, rfl⟩⟩ : TMAC)⟩ : TNeigh), (⟨(⟨⟨0, rfl⟩, ⟨0, rfl⟩, ⟨0, rfl⟩, ⟨0, rfl⟩, ⟨0, rfl⟩, ⟨0, rfl⟩⟩ : TMAC), ⟨0, rfl⟩⟩ : TFdb)⟩ : TOp)]) hs m sl35 ty58 ze58 rfl rfl rfl rfl rfl (fun _ => rfl) rfl rfl rfl ?_
   clear m hs a w140; intro v142 w143 m a hs
   refine r_appendM (c := cOp) (xs := (([] : List TOp) ++ pickM (fun e => (e.Local == true) && !staysM x_Neighs x_Fdbs y_Routes y_Neighs y_Fdbs e) delR x_Routes) ++ pickM (fun e => (e.Local == false) && !staysM x_Neighs x_Fdbs y_Routes y_Neighs y_Fdbs e) delR (x_Routes.take k2f)) (ys := [(⟨⟨2, rfl⟩, e130, (⟨⟨0, rfl⟩, (⟨⟨0, rfl⟩, ⟨0, rfl⟩, ⟨0, rfl⟩, ⟨0, rfl⟩, ⟨0, rfl⟩, ⟨0, rfl⟩⟩ : TMAC)⟩ : TNeigh), (⟨(⟨⟨0, rfl⟩, ⟨0, rfl⟩, ⟨0, rfl⟩, ⟨0, rfl⟩, ⟨0, rfl⟩, ⟨0, rfl⟩⟩ : TMAC), ⟨0, rfl⟩⟩ : TFdb)⟩ : TOp)]) hs m rfl rfl sl35 ni35 ty58 ze58 rfl by58 rfl r4 (m.rdv r0) (fun _ => rfl) (by (simp only [List.length_cons, List.length_nil]; omega)) rfl ?_
   clear m hs a w143; intro v144 w145 m a hs
   refine s_ hs m (ok_assign rfl) ?_
   clear hs a; intro a hs
   refine wpList_nil (n_block (n_then ?_))
   refine c_last ?_
   refine s_ hs m (ok_add (r := (k2f : Int) + 1) rfl rfl (wrap_i64 (by omega) (by omega))) (b_ m (ok_move rfl) (bn_ ?_))
   clear hs a; intro a hs
   have q146 : (([] : List TOp) ++ pickM (fun e => (e.Local == true) && !staysM x_Neighs x_Fdbs y_Routes y_Neighs y_Fdbs e) delR x_Routes) ++ pickM (fun e => (e.Local == false) && !staysM x_Neighs x_Fdbs y_Routes y_Neighs y_Fdbs e) delR (x_Routes.take k2f) ++ [(⟨⟨2, rfl⟩, e130, (⟨⟨0, rfl⟩, (⟨⟨0, rfl⟩, ⟨0, rfl⟩, ⟨0, rfl⟩, ⟨0, rfl⟩, ⟨0, rfl⟩, ⟨0, rfl⟩⟩ : TMAC)⟩ : TNeigh), (⟨(⟨⟨0, rfl⟩, ⟨0, rfl⟩, ⟨0, rfl⟩, ⟨0, rfl⟩, ⟨0, rfl⟩, ⟨0, rfl⟩⟩ : TMAC), ⟨0, rfl⟩⟩ : TFdb)⟩ : TOp)] = (([] : List TOp) ++ pickM (fun e => (e.Local == true) && !staysM x_Neighs x_Fdbs y_Routes y_Neighs y_Fdbs e) delR x_Routes) ++ pickM (fun e => (e.Local == false) && !staysM x_Neighs x_Fdbs y_Routes y_Neighs y_Fdbs e) delR (x_Routes.take (k2f + 1)) := by exact pickM_t (by assumption) (by assumption)
   rw [q146] at m
   exact ⟨x_Routes.length - (k2f + 1), by omega, k2f + 1, v144, by omega, by exact Nat.le_trans pickM_add (by omega), rfl, hs.to ⟨rfl, rfl, rfl, rfl, rfl, rfl, rfl, rfl, rfl, trivial⟩, m.sub (.c r3 (.c r3 (.c r0 .n)))⟩
  have h141p := h141; simp only [bp_] at h141p
  refine wp_skip ?_
  refine n_block (n_then ?_)
  refine c_last ?_
  refine s_ hs m (ok_add (r := (k2f : Int) + 1) rfl rfl (wrap_i64 (by omega) (by omega))) (b_ m (ok_move rfl) (bn_ ?_))
  clear hs a; intro a hs
  have q147 : (([] : List TOp) ++ pickM (fun e => (e.Local == true) && !staysM x_Neighs x_Fdbs y_Routes y_Neighs y_Fdbs e) delR x_Routes) ++ pickM (fun e => (e.Local == false) && !staysM x_Neighs x_Fdbs y_Routes y_Neighs y_Fdbs e) delR (x_Routes.take k2f) = (([] : List TOp) ++ pickM (fun e => (e.Local == true) && !staysM x_Neighs x_Fdbs y_Routes y_Neighs y_Fdbs e) delR x_Routes) ++ pickM (fun e => (e.Local == false) && !staysM x_Neighs x_Fdbs y_Routes y_Neighs y_Fdbs e) delR (x_Routes.take (k2f + 1)) := by exact pickM_f (by assumption) (by assumption)
  rw [q147] at m
  exact ⟨x_Routes.length - (k2f + 1), by omega, k2f + 1, v20, by omega, by exact Nat.le_trans pickM_add (by omega), rfl, hs.to ⟨rfl, rfl, rfl, rfl, rfl, rfl, rfl, rfl, rfl, trivial⟩, m.sub (.c r1 (.c r1 (.c r1 .n)))⟩
 have h18p := of_decide_eq_true h18
 refine wp_skip ?_
 refine n_then ?_
 refine c_seq ?_
 refine wp_block ?_
 refine c_reg ?_
 obtain ⟨e148, he149⟩ := get_of_lt (l := x_Routes) (i := k2t) (by omega)
 refine elF (c := cRoute) (e := e148) hs m (x := (.tmp 34)) (ix := (.tmp 36)) rfl rfl sl25 ty51 hx_Routes (by omega) he149 fun p150 hp151 ok152 => ?_
 refine s_ hs m (ok152 _ _ _ _ _) (b_ m (ok_load_ag (vs := cRoute e148) rfl ty51 (fr_at hp151) rfl rfl) ?_)
 clear hs a; intro a hs
 refine r_alloc hs m ze51 rfl ?_
 clear m hs a w17; intro p153 w154 m a hs
 refine st_ (cRoute e148) (cRoute e148) hs m ty51 s0 ?_
 clear m w154; intro w155 m
 refine wpList_nil (n_then ?_)
 refine c_reg ?_
 refine s_ hs m (ok_fieldAddr (r := 3) rfl fd51_2 ty4 rfl) (b_ m (ok_load_sc rfl ty4 (bx_at r0) rfl) (b_ m (ok_move rfl) (b_ m (ok_eqB rfl rfl ub4) (b_ m (ok_move rfl) ?_))))
 clear hs a; intro a hs
 refine l_cut (.c (.c (.c (.c (.c (.c (.n))))))) (fun a w => St 151 [(2, .pointer (some (padd p1 0))), (3, .pointer (some (padd p3 0))), (6, v14.v), (8, .bool true), (10, .pointer (some (padd p153 0))), (29, .agg ⟨[.bool true, .bool false]⟩), (30, .int .i64 0), (34, vx_Routes.v), (35, .int .i64 (x_Routes.length : Int)), (36, .int .i64 (k2t : Int)), (50, .bool ((e148.Local == true) && (!(staysM x_Neighs x_Fdbs y_Routes y_Neighs y_Fdbs e148))))] a ∧ Hp w0 (hh w0) [Bx p153 51 (cRoute e148), Bx p1 29 [vx_Routes.v, vx_Neighs.v, vx_Fdbs.v], Bx p3 29 [vy_Routes.v, vy_Neighs.v, vy_Fdbs.v], Sv 19 58 v14.v ((([] : List TOp) ++ pickM (fun e => (e.Local == true) && !staysM x_Neighs x_Fdbs y_Routes y_Neighs y_Fdbs e) delR (x_Routes.take k2t)).map cOp)] w) ?_ ?_
 ·rcases Bool.eq_false_or_eq_true (e148.Local == true) with hb156 | hb156
  ·have hb156p := eq_of_beq hb156
   refine sg_ hs hb156 m (ok_load_ag (vs := [vx_Routes.v, vx_Neighs.v, vx_Fdbs.v]) rfl ty29 (bx_at r1) rfl rfl) (bg_ hb156 m (ok_load_ag (vs := [vy_Routes.v, vy_Neighs.v, vy_Fdbs.v]) rfl ty29 (bx_at r2) rfl rfl) (bg_ hb156 m (ok_load_ag (vs := cRoute e148) rfl ty51 (bx_at r0) rfl rfl) ?_))
   clear hs a; intro a hs
   refine r_callPg hs rfl rfl hb156 m rfl rfl ca57 rfl (stays_c vx_Routes x_Routes vx_Neighs x_Neighs vx_Fdbs x_Fdbs vy_Routes y_Routes vy_Neighs y_Neighs vy_Fdbs y_Fdbs e148 _ (m.rd hx_Routes) (m.rd hx_Neighs) (m.rd hx_Fdbs) (m.rd hy_Routes) (m.rd hy_Neighs) (m.rd hy_Fdbs) ) rfl ?_
   clear m hs a w155; intro w157 m a hs
   refine sg_ hs hb156 m (ok_not rfl) (b_ m (ok_pick (r := .bool ((e148.Local == true) && (!(staysM x_Neighs x_Fdbs y_Routes y_Neighs y_Fdbs e148)))) rfl rfl rfl (by rw [hb156]; rfl)) ?_)
   clear hs a; intro a hs
   exact wpList_nil (n_then ⟨hs.to ⟨rfl, rfl, rfl, rfl, rfl, rfl, rfl, rfl, rfl, rfl, rfl, trivial⟩, m⟩)
  ·have hb156p := ne_of_beq_false hb156
   refine so_ hs hb156 (bo_ hb156 (bo_ hb156 (bo_ hb156 (bo_ hb156 (b_ m (ok_pick (r := .bool ((e148.Local == true) && (!(staysM x_Neighs x_Fdbs y_Routes y_Neighs y_Fdbs e148)))) rfl rfl rfl (by rw [hb156]; rfl)) ?_)))))
   clear hs a; intro a hs
   exact wpList_nil (n_then ⟨hs.to ⟨rfl, rfl, rfl, rfl, rfl, rfl, rfl, rfl, rfl, rfl, rfl, trivial⟩, m⟩)
 clear hs m a w155; rintro a w158 ⟨hs, m⟩
 refine wpList_nil (n_then ?_)
 refine c_cond hs rfl (fun h159 => ?_) (fun h159 => ?_)
 ·have h159p := h159; simp only [bp_] at h159p
  refine c_last ?_
  refine s_ hs m (ok_move rfl) (b_ m (ok_load_ag (vs := cRoute e148) rfl ty51 (bx_at r0) rfl rfl) (b_ m (ok_build (cs := cOp (⟨⟨2, rfl⟩, e148, (⟨⟨0, rfl⟩, (⟨⟨0, rfl⟩, ⟨0, rfl⟩, ⟨0, rfl⟩, ⟨0, rfl⟩, ⟨0, rfl⟩, ⟨0, rfl⟩⟩ : TMAC)⟩ : TNeigh), (⟨(⟨⟨0, rfl⟩, ⟨0, rfl⟩, ⟨0, rfl⟩, ⟨0, rfl⟩, ⟨0, rfl⟩, ⟨0, rfl⟩⟩ : TMAC), ⟨0, rfl⟩⟩ : TFdb)⟩ : TOp)) st58 ze58 rfl rfl) ?_))
  clear hs a; intro a hs
  refine r_buildM (c := cOp) (ys := [(⟨⟨2, rfl⟩, e148, (⟨⟨0, rfl⟩, (⟨⟨0, rfl⟩, ⟨0, rfl⟩, ⟨0, rfl⟩, ⟨0, rfl⟩, ⟨0, rfl⟩, ⟨0, rfl⟩⟩ : TMAC)⟩ : TNeigh), (⟨(⟨⟨0, rfl⟩, ⟨0, rfl⟩, ⟨0, rfl⟩, ⟨0, rfl⟩, ⟨0, rfl⟩, ⟨0, rfl⟩⟩ : TMAC), ⟨0, rfl⟩⟩ : TFdb)⟩ : TOp)]) hs m sl35 ty58 ze58 rfl rfl rfl rfl rfl (fun _ => rfl) rfl rfl rfl ?_
  clear m hs a w158; intro v160 w161 m a hs
  refine r_appendM (c := cOp) (xs := ([] : List TOp) ++ pickM (fun e => (e.Local == true) && !staysM x_Neighs x_Fdbs y_Routes y_Neighs y_Fdbs e) delR (x_Routes.take k2t)) (ys := [(⟨⟨2, rfl⟩, e148, (⟨⟨0, rfl⟩, (⟨⟨0, rfl⟩, ⟨0, rfl⟩, ⟨0, rfl⟩, ⟨0, rfl⟩, ⟨0, rfl⟩, ⟨0, rfl⟩⟩ : TMAC)⟩ : TNeigh), (⟨(⟨⟨0, rfl⟩, ⟨0, rfl⟩, ⟨0, rfl⟩, ⟨0, rfl⟩, ⟨0, rfl⟩, ⟨0, rfl⟩⟩ : TMAC), ⟨0, rfl⟩⟩ : TFdb)⟩ : TOp)]) hs m rfl rfl sl35 ni35 ty58 ze58 rfl by58 rfl r4 (m.rdv r0) (fun _ => rfl) (by (simp only [List.length_cons, List.length_nil]; omega)) rfl ?_
  clear m hs a w161; intro v162 w163 m a hs
  refine s_ hs m (ok_assign rfl) ?_
  clear hs a; intro a hs
  refine wpList_nil (n_block (n_then ?_))
  refine c_last ?_
  refine s_ hs m (ok_add (r := (k2t : Int) + 1) rfl rfl (wrap_i64 (by omega) (by omega))) (b_ m (ok_move rfl) (bn_ ?_))
  clear hs a; intro a hs
  have q164 : ([] : List TOp) ++ pickM (fun e => (e.Local == true) && !staysM x_Neighs x_Fdbs y_Routes y_Neighs y_Fdbs e) delR (x_Routes.take k2t) ++ [(⟨⟨2, rfl⟩, e148, (⟨⟨0, rfl⟩, (⟨⟨0, rfl⟩, ⟨0, rfl⟩, ⟨0, rfl⟩, ⟨0, rfl⟩, ⟨0, rfl⟩, ⟨0, rfl⟩⟩ : TMAC)⟩ : TNeigh), (⟨(⟨⟨0, rfl⟩, ⟨0, rfl⟩, ⟨0, rfl⟩, ⟨0, rfl⟩, ⟨0, rfl⟩, ⟨0, rfl⟩⟩ : TMAC), ⟨0, rfl⟩⟩ : TFdb)⟩ : TOp)] = ([] : List TOp) ++ pickM (fun e => (e.Local == true) && !staysM x_Neighs x_Fdbs y_Routes y_Neighs y_Fdbs e) delR (x_Routes.take (k2t + 1)) := by exact pickM_t (by assumption) (by assumption)
  rw [q164] at m
  exact ⟨x_Routes.length - (k2t + 1), by omega, k2t + 1, v162, by omega, by exact Nat.le_trans pickM_add (by omega), rfl, hs.to ⟨rfl, rfl, rfl, rfl, rfl, rfl, rfl, rfl, rfl, trivial⟩, m.sub (.c r3 (.c r3 (.c r0 .n)))⟩
 have h159p := h159; simp only [bp_] at h159p
 refine wp_skip ?_
 refine n_block (n_then ?_)
 refine c_last ?_
 refine s_ hs m (ok_add (r := (k2t : Int) + 1) rfl rfl (wrap_i64 (by omega) (by omega))) (b_ m (ok_move rfl) (bn_ ?_))
 clear hs a; intro a hs
 have q165 : ([] : List TOp) ++ pickM (fun e => (e.Local == true) && !staysM x_Neighs x_Fdbs y_Routes y_Neighs y_Fdbs e) delR (x_Routes.take k2t) = ([] : List TOp) ++ pickM (fun e => (e.Local == true) && !staysM x_Neighs x_Fdbs y_Routes y_Neighs y_Fdbs e) delR (x_Routes.take (k2t + 1)) := by exact pickM_f (by assumption) (by assumption)
 rw [q165] at m
 exact ⟨x_Routes.length - (k2t + 1), by omega, k2t + 1, v14, by omega, by exact Nat.le_trans pickM_add (by omega), rfl, hs.to ⟨rfl, rfl, rfl, rfl, rfl, rfl, rfl, rfl, rfl, trivial⟩, m.sub (.c r1 (.c r1 (.c r1 .n)))⟩
end Go.Proofs.YtnbpodjbemfpbaaGreat.Fw
set_option linter.all false
set_option maxHeartbeats 4000000
set_option maxRecDepth 100000
namespace Go.Proofs.YtnbpodjbemfpbaaGreat.Fw
open Go
end Go.Proofs.YtnbpodjbemfpbaaGreat.Fw
set_option linter.all false
set_option maxHeartbeats 4000000
set_option maxRecDepth 100000
namespace Go.Proofs.YtnbpodjbemfpbaaGreat.Fw
open Go
theorem plan_c (vleases : SH) (leases : List TLease) (host : Int) (w0 : World) (hleases : RdS (hh w0) 12 vleases.v (leases.map cLease)) (A1 : leases.length ≤ 2599999999990) : Calls Tryz.prog 12 ⟨[vleases.v, .int .i64 host]⟩ w0 fun e w' => ∃ v, e = .returned v ∧ (∃ x0 : SH, ∃ x1 : SH, ∃ x2 : SH, v = (.agg ⟨[x0.v, x1.v, x2.v]⟩) ∧ Hp w0 (hh w0) [Sv 4 51 x0.v (((planM leases host).R).map cRoute), Sv 7 54 x1.v (((planM leases host).N).map cNeigh), Sv 7 56 x2.v (((planM leases host).F).map cFdb)] w') := by
 have lvleases := hleases.bd
 refine enter (n := 60) Tryz.func12 rfl rfl rfl fun a (hs : St 60 [(0, vleases.v), (1, .int .i64 host)] a) => ?_
 have m := Hp.start w0
 refine c_reg ?_
 refine r_alloc hs m ze29 rfl ?_
 clear m hs a; intro p1 w2 m a hs
 refine wpList_nil (n_then ?_)
 refine c_reg ?_
 refine r_alloc hs m ze29 rfl ?_
 clear m hs a w2; intro p3 w4 m a hs
 refine wpList_nil (n_then ?_)
 refine c_seq ?_
 refine c_reg ?_
 refine s_ hs m (ok_move rfl) (b_ m (ok_len (r := (leases.length : Int)) m rfl sl22 (rc_fr hleases) (by simp)) (b_ m (ok_move rfl) (bn_ ?_)))
 clear hs a; intro a hs
 refine wp_block ?_
 replace m := m.nilSvM cRoute 4 51
 have q9 : ([] : List TRoute) = (planK leases host 0).R := by rw [planK_0]
 rw [q9] at m
 replace m := m.nilSvM cNeigh 7 54
 have q11 : ([] : List TNeigh) = (planK leases host 0).N := by rw [planK_0]
 rw [q11] at m
 replace m := m.nilSvM cFdb 7 56
 have q13 : ([] : List TFdb) = (planK leases host 0).F := by rw [planK_0]
 rw [q13] at m
 refine wp_loop_ghost (fun gn a w => ∃ k : Nat, ∃ v5 : SH, ∃ v6 : SH, ∃ v7 : SH, (k ≤ leases.length) ∧ gn = leases.length - k ∧ St 60 [(1, .int .i64 host), (4, .pointer (some (padd p1 0))), (5, .pointer (some (padd p3 0))), (8, vleases.v), (9, .int .i64 (leases.length : Int)), (10, .int .i64 (k : Int))] a ∧ Hp w0 (hh w0) [Bx p1 29 [nilH.v, nilH.v, nilH.v], Bx p3 29 [v5.v, v6.v, v7.v], Sv 4 51 v5.v (((planK leases host k).R).map cRoute), Sv 7 54 v6.v (((planK leases host k).N).map cNeigh), Sv 7 56 v7.v (((planK leases host k).F).map cFdb)] w) (leases.length - 0) ⟨0, nilH, nilH, nilH, by omega, rfl, hs.to ⟨rfl, rfl, rfl, rfl, rfl, rfl, trivial⟩, m.sub (.c r4 (.c r3 (.c r2 (.c r1 (.c r0 .n)))))⟩ ?_
 clear hs m a w4
 rintro gn a w14 ⟨k, v5, v6, v7, hk, rfl, hs, m⟩
 have hal := planK_len leases host k
 refine c_reg ?_
 refine s_ hs m (ok_bin rfl rfl rfl) (bn_ ?_)
 clear hs a; intro a hs
 refine c_seq ?_
 refine c_cond hs rfl (fun h15 => ?_) (fun h15 => ?_)
 rotate_left
 ·have h15p := of_decide_eq_false h15
  refine wp_exit ?_
  refine ex_then (ex_then (ex_hit (?_)))
  refine n_then ?_
  refine c_reg ?_
  refine s_ hs m (ok_load_ag (vs := [v5.v, v6.v, v7.v]) rfl ty29 (bx_at r1) rfl rfl) ?_
  clear hs a; intro a hs
  refine st_ ([v5.v, v6.v, v7.v]) ([v5.v, v6.v, v7.v]) hs m ty29 s0 ?_
  clear m w14; intro w16 m
  refine wpList_nil (n_then ?_)
  refine wp_ret ?_
  refine leave hs (vs := [.agg ⟨[v5.v, v6.v, v7.v]⟩]) rfl ⟨resv_cell (cs := [v5.v, v6.v, v7.v]) m rfl ty29 r0 rfl, trivial⟩ ?_
  have q17 : (planK leases host k).R = (planM leases host).R := by rw [planK_end (by omega)]
  rw [q17] at m
  have q18 : (planK leases host k).N = (planM leases host).N := by rw [planK_end (by omega)]
  rw [q18] at m
  have q19 : (planK leases host k).F = (planM leases host).F := by rw [planK_end (by omega)]
  rw [q19] at m
  refine ⟨_, rfl, v5, v6, v7, ?_, m.sub (.c r2 (.c r2 (.c r2 .n)))⟩
  rfl
 have h15p := of_decide_eq_true h15
 refine wp_skip ?_
 refine n_then ?_
 refine c_seq ?_
 refine wp_block ?_
 refine c_reg ?_
 obtain ⟨e20, he21⟩ := get_of_lt (l := leases) (i := k) (by omega)
 refine elF (c := cLease) (e := e20) hs m (x := (.tmp 8)) (ix := (.tmp 10)) rfl rfl sl22 ty48 hleases (by omega) he21 fun p22 hp23 ok24 => ?_
 refine s_ hs m (ok24 _ _ _ _ _) (b_ m (ok_load_ag (vs := cLease e20) rfl ty48 (fr_at hp23) rfl rfl) ?_)
 clear hs a; intro a hs
 refine r_alloc hs m ze48 rfl ?_
 clear m hs a w14; intro p25 w26 m a hs
 refine st_ (cLease e20) (cLease e20) hs m ty48 s0 ?_
 clear m w26; intro w27 m
 refine wpList_nil (n_then ?_)
 refine c_seq ?_
 refine c_reg ?_
 refine s_ hs m (ok_fieldAddr (r := 1) rfl fd48_1 ty44 rfl) (b_ m (ok_load_ag (vs := cPrefix e20.Subnet) rfl ty44 (bx_at r0) rfl rfl) ?_)
 clear hs a; intro a hs
 refine r_callP hs m rfl rfl ca43 rfl (valid_c e20.Subnet _  ) rfl ?_
 clear m hs a w27; intro w28 m a hs
 refine s_ hs m (ok_not rfl) (bn_ ?_)
 clear hs a; intro a hs
 refine c_cond hs rfl (fun h29 => ?_) (fun h29 => ?_)
 ·have h29p := h29; simp only [bp_] at h29p
  refine wp_exit ?_
  refine ex_then (ex_hit (?_))
  refine n_then ?_
  refine c_last ?_
  refine s_ hs m (ok_add (r := (k : Int) + 1) rfl rfl (wrap_i64 (by omega) (by omega))) (b_ m (ok_move rfl) (bn_ ?_))
  clear hs a; intro a hs
  have q30 : (planK leases host k).R = (planK leases host (k + 1)).R := by rw [planK_inv (by assumption) (by assumption)]
  rw [q30] at m
  have q31 : (planK leases host k).N = (planK leases host (k + 1)).N := by rw [planK_inv (by assumption) (by assumption)]
  rw [q31] at m
  have q32 : (planK leases host k).F = (planK leases host (k + 1)).F := by rw [planK_inv (by assumption) (by assumption)]
  rw [q32] at m
  exact ⟨leases.length - (k + 1), by omega, k + 1, v5, v6, v7, by omega, rfl, hs.to ⟨rfl, rfl, rfl, rfl, rfl, rfl, trivial⟩, m.sub (.c r1 (.c r1 (.c r1 (.c r1 (.c r1 .n)))))⟩
 have h29p := h29; simp only [bp_] at h29p
 refine wp_skip ?_
 refine n_then ?_
 refine c_seq ?_
 refine c_reg ?_
 refine s_ hs m (ok_fieldAddr (r := 0) rfl fd48_0 ty3 rfl) (b_ m (ok_load_sc rfl ty3 (bx_at r0) rfl) (b_ m (ok_move rfl) (b_ m (ok_bin rfl rfl rfl) (bn_ ?_))))
 clear hs a; intro a hs
 refine c_cond hs rfl (fun h33 => ?_) (fun h33 => ?_)
 ·have h33p := eq_of_beq h33
  refine c_reg ?_
  refine s_ hs m (ok_fieldAddr (r := 0) rfl fd29_0 ty25 rfl) (b_ m (ok_load_sc rfl ty25 (bx_at r2) rfl) (b_ m (ok_fieldAddr (r := 1) rfl fd48_1 ty44 rfl) (b_ m (ok_load_ag (vs := cPrefix e20.Subnet) rfl ty44 (bx_at r0) rfl rfl) (b_ m (ok_build (cs := cRoute (⟨e20.Subnet, ⟨0, rfl⟩, true⟩ : TRoute)) st51 ze51 rfl rfl) ?_))))
  clear hs a; intro a hs
  obtain ⟨R1, hR, hR2, ⟨y1, sy, ly⟩, mc, back⟩ := Hp.split (Pc := [Sv 4 51 v5.v (((planK leases host k).R).map cRoute)]) (Ps := [Bx p25 48 (cLease e20), Bx p1 29 [nilH.v, nilH.v, nilH.v], Bx p3 29 [v5.v, v6.v, v7.v], Sv 7 54 v6.v (((planK leases host k).N).map cNeigh), Sv 7 56 v7.v (((planK leases host k).F).map cFdb)]) (m.sub (.c r3 (.c r0 (.c r0 (.c r0 (.c r0 (.c r0 .n)))))))
  refine r_call hs rfl rfl ca44 rfl (setRoute_c v5 ((planK leases host k).R) (⟨e20.Subnet, ⟨0, rfl⟩, true⟩ : TRoute) _ R1  (by omega) mc) rfl ?_
  clear hs a; rintro _ w35 ⟨v34, rfl, hm⟩ a hs
  replace m : Hp w0 (hh w0) [Sv 4 51 v34.v ((setM cmpRoute ((planK leases host k).R) (⟨e20.Subnet, ⟨0, rfl⟩, true⟩ : TRoute)).map cRoute), Bx p25 48 (cLease e20), Bx p1 29 [nilH.v, nilH.v, nilH.v], Bx p3 29 [v5.v, v6.v, v7.v], Sv 7 54 v6.v (((planK leases host k).N).map cNeigh), Sv 7 56 v7.v (((planK leases host k).F).map cFdb)] w35 := back _ _ hm
  clear hm back mc sy ly hR2 hR y1 R1 w28
  refine s_ hs m (ok_fieldAddr (r := 0) rfl fd29_0 ty25 rfl) ?_
  clear hs a; intro a hs
  refine st_ [v34.v, v6.v, v7.v] [v34.v] hs m ty25 s3 ?_
  clear m w35; intro w36 m
  refine wpList_nil (n_then ?_)
  refine wp_exit ?_
  refine ex_then (ex_hit (?_))
  refine n_then ?_
  refine c_last ?_
  refine s_ hs m (ok_add (r := (k : Int) + 1) rfl rfl (wrap_i64 (by omega) (by omega))) (b_ m (ok_move rfl) (bn_ ?_))
  clear hs a; intro a hs
  have q37 : setM cmpRoute ((planK leases host k).R) (⟨e20.Subnet, ⟨0, rfl⟩, true⟩ : TRoute) = (planK leases host (k + 1)).R := by rw [planK_loc (by assumption) (by assumption) (by assumption)]
  rw [q37] at m
  have q38 : (planK leases host k).N = (planK leases host (k + 1)).N := by rw [planK_loc (by assumption) (by assumption) (by assumption)]
  rw [q38] at m
  have q39 : (planK leases host k).F = (planK leases host (k + 1)).F := by rw [planK_loc (by assumption) (by assumption) (by assumption)]
  rw [q39] at m
  exact ⟨leases.length - (k + 1), by omega, k + 1, v34, v6, v7, by omega, rfl, hs.to ⟨rfl, rfl, rfl, rfl, rfl, rfl, trivial⟩, m.sub (.c r2 (.c r2 (.c r0 (.c r1 (.c r1 .n)))))⟩
 have h33p := ne_of_beq_false h33
 refine wp_skip ?_
 refine n_then ?_
 refine c_reg ?_
 refine s_ hs m (ok_fieldAddr (r := 0) rfl fd29_0 ty25 rfl) (b_ m (ok_load_sc rfl ty25 (bx_at r2) rfl) (b_ m (ok_fieldAddr (r := 1) rfl fd48_1 ty44 rfl) (b_ m (ok_load_ag (vs := cPrefix e20.Subnet) rfl ty44 (bx_at r0) rfl rfl) (b_ m (ok_fieldAddr (r := 1) rfl fd48_1 ty44 rfl) (b_ m (ok_fieldAddr (r := 1) rfl fd44_0 ty42 rfl) (b_ m (ok_load_sc rfl ty42 (bx_at r0) rfl) (b_ m (ok_build (cs := cRoute (⟨e20.Subnet, e20.Subnet.Addr, false⟩ : TRoute)) st51 ze51 rfl rfl) ?_)))))))
 clear hs a; intro a hs
 obtain ⟨R1, hR, hR2, ⟨y1, sy, ly⟩, mc, back⟩ := Hp.split (Pc := [Sv 4 51 v5.v (((planK leases host k).R).map cRoute)]) (Ps := [Bx p25 48 (cLease e20), Bx p1 29 [nilH.v, nilH.v, nilH.v], Bx p3 29 [v5.v, v6.v, v7.v], Sv 7 54 v6.v (((planK leases host k).N).map cNeigh), Sv 7 56 v7.v (((planK leases host k).F).map cFdb)]) (m.sub (.c r3 (.c r0 (.c r0 (.c r0 (.c r0 (.c r0 .n)))))))
 refine r_call hs rfl rfl ca44 rfl (setRoute_c v5 ((planK leases host k).R) (⟨e20.Subnet, e20.Subnet.Addr, false⟩ : TRoute) _ R1  (by omega) mc) rfl ?_
 clear hs a; rintro _ w41 ⟨v40, rfl, hm⟩ a hs
 replace m : Hp w0 (hh w0) [Sv 4 51 v40.v ((setM cmpRoute ((planK leases host k).R) (⟨e20.Subnet, e20.Subnet.Addr, false⟩ : TRoute)).map cRoute), Bx p25 48 (cLease e20), Bx p1 29 [nilH.v, nilH.v, nilH.v], Bx p3 29 [v5.v, v6.v, v7.v], Sv 7 54 v6.v (((planK leases host k).N).map cNeigh), Sv 7 56 v7.v (((planK leases host k).F).map cFdb)] w41 := back _ _ hm
 clear hm back mc sy ly hR2 hR y1 R1 w28
 refine s_ hs m (ok_fieldAddr (r := 0) rfl fd29_0 ty25 rfl) ?_
 clear hs a; intro a hs
 refine st_ [v40.v, v6.v, v7.v] [v40.v] hs m ty25 s3 ?_
 clear m w41; intro w42 m
 refine wpList_nil (n_then ?_)
 refine c_reg ?_
 refine s_ hs m (ok_fieldAddr (r := 1) rfl fd29_1 ty26 rfl) (b_ m (ok_load_sc rfl ty26 (bx_at r3) rfl) (b_ m (ok_fieldAddr (r := 1) rfl fd48_1 ty44 rfl) (b_ m (ok_fieldAddr (r := 1) rfl fd44_0 ty42 rfl) (b_ m (ok_load_sc rfl ty42 (bx_at r1) rfl) (b_ m (ok_fieldAddr (r := 4) rfl fd48_3 ty46 rfl) (b_ m (ok_load_ag (vs := cMAC e20.MAC) rfl ty46 (bx_at r1) rfl rfl) (b_ m (ok_build (cs := cNeigh (⟨e20.Subnet.Addr, e20.MAC⟩ : TNeigh)) st54 ze54 rfl rfl) ?_)))))))
 clear hs a; intro a hs
 obtain ⟨R1, hR, hR2, ⟨y1, sy, ly⟩, mc, back⟩ := Hp.split (Pc := [Sv 7 54 v6.v (((planK leases host k).N).map cNeigh)]) (Ps := [Sv 4 51 v40.v ((setM cmpRoute ((planK leases host k).R) (⟨e20.Subnet, e20.Subnet.Addr, false⟩ : TRoute)).map cRoute), Bx p25 48 (cLease e20), Bx p1 29 [nilH.v, nilH.v, nilH.v], Bx p3 29 [v40.v, v6.v, v7.v], Sv 7 56 v7.v (((planK leases host k).F).map cFdb)]) (m.sub (.c r4 (.c r0 (.c r0 (.c r0 (.c r0 (.c r0 .n)))))))
 refine r_call hs rfl rfl ca46 rfl (setNeigh_c v6 ((planK leases host k).N) (⟨e20.Subnet.Addr, e20.MAC⟩ : TNeigh) _ R1  (by omega) mc) rfl ?_
 clear hs a; rintro _ w44 ⟨v43, rfl, hm⟩ a hs
 replace m : Hp w0 (hh w0) [Sv 7 54 v43.v ((setM cmpNeigh ((planK leases host k).N) (⟨e20.Subnet.Addr, e20.MAC⟩ : TNeigh)).map cNeigh), Sv 4 51 v40.v ((setM cmpRoute ((planK leases host k).R) (⟨e20.Subnet, e20.Subnet.Addr, false⟩ : TRoute)).map cRoute), Bx p25 48 (cLease e20), Bx p1 29 [nilH.v, nilH.v, nilH.v], Bx p3 29 [v40.v, v6.v, v7.v], Sv 7 56 v7.v (((planK leases host k).F).map cFdb)] w44 := back _ _ hm
 clear hm back mc sy ly hR2 hR y1 R1 w42
 refine s_ hs m (ok_fieldAddr (r := 1) rfl fd29_1 ty26 rfl) ?_
 clear hs a; intro a hs
 refine st_ [v40.v, v43.v, v7.v] [v43.v] hs m ty26 s4 ?_
 clear m w44; intro w45 m
 refine wpList_nil (n_then ?_)
 refine c_last ?_
 refine s_ hs m (ok_fieldAddr (r := 2) rfl fd29_2 ty27 rfl) (b_ m (ok_load_sc rfl ty27 (bx_at r4) rfl) (b_ m (ok_fieldAddr (r := 4) rfl fd48_3 ty46 rfl) (b_ m (ok_load_ag (vs := cMAC e20.MAC) rfl ty46 (bx_at r2) rfl rfl) (b_ m (ok_fieldAddr (r := 3) rfl fd48_2 ty42 rfl) (b_ m (ok_load_sc rfl ty42 (bx_at r2) rfl) (b_ m (ok_build (cs := cFdb (⟨e20.MAC, e20.Pub⟩ : TFdb)) st56 ze56 rfl rfl) ?_))))))
 clear hs a; intro a hs
 obtain ⟨R1, hR, hR2, ⟨y1, sy, ly⟩, mc, back⟩ := Hp.split (Pc := [Sv 7 56 v7.v (((planK leases host k).F).map cFdb)]) (Ps := [Sv 7 54 v43.v ((setM cmpNeigh ((planK leases host k).N) (⟨e20.Subnet.Addr, e20.MAC⟩ : TNeigh)).map cNeigh), Sv 4 51 v40.v ((setM cmpRoute ((planK leases host k).R) (⟨e20.Subnet, e20.Subnet.Addr, false⟩ : TRoute)).map cRoute), Bx p25 48 (cLease e20), Bx p1 29 [nilH.v, nilH.v, nilH.v], Bx p3 29 [v40.v, v43.v, v7.v]]) (m.sub (.c r5 (.c r0 (.c r0 (.c r0 (.c r0 (.c r0 .n)))))))
 refine r_call hs rfl rfl ca48 rfl (setFdb_c v7 ((planK leases host k).F) (⟨e20.MAC, e20.Pub⟩ : TFdb) _ R1  (by omega) mc) rfl ?_
 clear hs a; rintro _ w47 ⟨v46, rfl, hm⟩ a hs
 replace m : Hp w0 (hh w0) [Sv 7 56 v46.v ((setM cmpFdb ((planK leases host k).F) (⟨e20.MAC, e20.Pub⟩ : TFdb)).map cFdb), Sv 7 54 v43.v ((setM cmpNeigh ((planK leases host k).N) (⟨e20.Subnet.Addr, e20.MAC⟩ : TNeigh)).map cNeigh), Sv 4 51 v40.v ((setM cmpRoute ((planK leases host k).R) (⟨e20.Subnet, e20.Subnet.Addr, false⟩ : TRoute)).map cRoute), Bx p25 48 (cLease e20), Bx p1 29 [nilH.v, nilH.v, nilH.v], Bx p3 29 [v40.v, v43.v, v7.v]] w47 := back _ _ hm
 clear hm back mc sy ly hR2 hR y1 R1 w45
 refine s_ hs m (ok_fieldAddr (r := 2) rfl fd29_2 ty27 rfl) ?_
 clear hs a; intro a hs
 refine st_ [v40.v, v43.v, v46.v] [v46.v] hs m ty27 s5 ?_
 clear m w47; intro w48 m
 refine wpList_nil (n_block (n_then ?_))
 refine c_last ?_
 refine s_ hs m (ok_add (r := (k : Int) + 1) rfl rfl (wrap_i64 (by omega) (by omega))) (b_ m (ok_move rfl) (bn_ ?_))
 clear hs a; intro a hs
 have q49 : setM cmpRoute ((planK leases host k).R) (⟨e20.Subnet, e20.Subnet.Addr, false⟩ : TRoute) = (planK leases host (k + 1)).R := by rw [planK_far (by assumption) (by assumption) (by assumption)]
 rw [q49] at m
 have q50 : setM cmpNeigh ((planK leases host k).N) (⟨e20.Subnet.Addr, e20.MAC⟩ : TNeigh) = (planK leases host (k + 1)).N := by rw [planK_far (by assumption) (by assumption) (by assumption)]
 rw [q50] at m
 have q51 : setM cmpFdb ((planK leases host k).F) (⟨e20.MAC, e20.Pub⟩ : TFdb) = (planK leases host (k + 1)).F := by rw [planK_far (by assumption) (by assumption) (by assumption)]
 rw [q51] at m
 exact ⟨leases.length - (k + 1), by omega, k + 1, v40, v43, v46, by omega, rfl, hs.to ⟨rfl, rfl, rfl, rfl, rfl, rfl, trivial⟩, m.sub (.c r4 (.c r4 (.c r2 (.c r1 (.c r0 .n)))))⟩
end Go.Proofs.YtnbpodjbemfpbaaGreat.Fw
set_option linter.all false
set_option maxHeartbeats 4000000
set_option maxRecDepth 100000
namespace Go.Proofs.YtnbpodjbemfpbaaGreat.Fw
open Go
theorem own1_c (l : TLease) (qag pag : Addr) (ag : AgM) (w0 : World) (hqag : CellsAt (hh w0) qag [.pointer (some (padd pag 0))]) (hag : AgR (hh w0) pag ag) : Pure Tryz.prog 130 [.agg ⟨cLease l⟩, .pointer (some (padd qag 0))] (.bool (l.Host.v == ag.self.Host.v)) w0 := by
 refine enter (n := 12) Tryz.func130 rfl rfl rfl fun a (hs : St 12 [(0, .agg ⟨cLease l⟩), (1, .pointer (some (padd qag 0)))] a) => ?_
 have m := Hp.start w0
 have hag0 := hag
 obtain ⟨x1, x2, x3, x4, x5, x6, x7, hx8, hx9, hx10, hx11, hx12, hx13, hx14, hx15⟩ := hag0
 have lx2 := hx10.bd
 have lx3 := hx11.bd
 have lx4 := hx12.bd
 have lx5 := hx13.bd
 have lx6 := hx14.bd
 have lx7 := hx15.bd
 refine c_reg ?_
 refine r_box (cs := cLease l) hs m rfl (by kernel_rfl) rfl ?_
 clear m hs a; intro p16 w17 m a hs
 refine s_ hs m (ok_assign rfl) (bn_ ?_)
 clear hs a; intro a hs
 refine c_draw m mo (by kernel_rfl) ?_
 refine sq_ hs (ok_fieldAddr (r := 0) rfl fd48_0 ty3 rfl) (bq_ (ok_load_sc rfl ty3 (bx_at r0) rfl) (bq_ (ok_load_sc rfl ty63 (fr_at hqag) rfl) (bq_ (ok_nilCheck rfl) (bq_ (ok_fieldAddr (r := 0) rfl fd135_0 ty61 rfl) (bq_ (ok_fieldAddr (r := 0) rfl fd61_0 ty3 rfl) (bq_ (ok_load_sc rfl ty3 (fr_at hx8) rfl) (bq_ (ok_bin rfl rfl rfl) (bq_ (ok_assign rfl) ?_))))))))
 clear hs a; intro a hs
 refine wpQuiet_nil ?_; clear m w17; intro w18 m
 refine wp_ret ?_
 refine leave hs (vs := [.bool (l.Host.v == ag.self.Host.v)]) rfl ⟨rfl, trivial⟩ ?_
 refine ⟨?_, m.sub .n⟩
 rfl
theorem indexFunc_c (vx : SH) (x : List TLease) (qag pag : Addr) (ag : AgM) (w0 : World) (hx : RdS (hh w0) 12 vx.v (x.map cLease)) (hqag : CellsAt (hh w0) qag [.pointer (some (padd pag 0))]) (hag : AgR (hh w0) pag ag) : Pure Tryz.prog 129 [vx.v, .func (.func 130) ⟨[]⟩ ⟨[.pointer (some (padd qag 0))]⟩] (.int .i64 (ownI ag.self.Host.v x)) w0 := by
 have lvx := hx.bd
 refine enter (n := 19) Tryz.func129 rfl rfl rfl fun a (hs : St 19 [(0, vx.v), (1, .func (.func 130) ⟨[]⟩ ⟨[.pointer (some (padd qag 0))]⟩)] a) => ?_
 have m := Hp.start w0
 have hag0 := hag
 obtain ⟨x1, x2, x3, x4, x5, x6, x7, hx8, hx9, hx10, hx11, hx12, hx13, hx14, hx15⟩ := hag0
 have lx2 := hx10.bd
 have lx3 := hx11.bd
 have lx4 := hx12.bd
 have lx5 := hx13.bd
 have lx6 := hx14.bd
 have lx7 := hx15.bd
 refine c_reg ?_
 refine s_ hs m (ok_assign rfl) (bn_ ?_)
 clear hs a; intro a hs
 refine c_seq ?_
 refine c_reg ?_
 refine s_ hs m (ok_move rfl) (b_ m (ok_len (r := (x.length : Int)) m rfl sl22 (rc_fr hx) (by simp)) (b_ m (ok_move rfl) (bn_ ?_)))
 clear hs a; intro a hs
 refine wp_block ?_
 refine wp_loop_ghost (fun gn a w => ∃ k : Nat, (k ≤ x.length) ∧ (∀ i, i < k → ∀ y, x[i]? = some y → ¬ y.Host.v = ag.self.Host.v) ∧ gn = x.length - k ∧ St 19 [(0, vx.v), (1, .func (.func 130) ⟨[]⟩ ⟨[.pointer (some (padd qag 0))]⟩), (7, .int .i64 (x.length : Int)), (8, .int .i64 (k : Int))] a ∧ Hp w0 (hh w0) [] w) (x.length - 0) ⟨0, by omega, by (intro i hi; omega), rfl, hs.to ⟨rfl, rfl, rfl, rfl, trivial⟩, m.sub .n⟩ ?_
 clear hs m a
 rintro gn a w16 ⟨k, hk, hn, rfl, hs, m⟩
 refine c_reg ?_
 refine s_ hs m (ok_bin rfl rfl rfl) (bn_ ?_)
 clear hs a; intro a hs
 refine c_seq ?_
 refine c_cond hs rfl (fun h17 => ?_) (fun h17 => ?_)
 rotate_left
 ·have h17p := of_decide_eq_false h17
  refine wp_exit ?_
  refine ex_then (ex_then (ex_hit (?_)))
  refine n_then ?_
  refine c_reg ?_
  refine s_ hs m (ok_assign rfl) (bn_ ?_)
  clear hs a; intro a hs
  refine wp_ret ?_
  refine leave hs (vs := [.int .i64 (-1)]) rfl ⟨rfl, trivial⟩ ?_
  refine ⟨?_, m.sub .n⟩
  have q18 : ((-1) : Int) = ownI ag.self.Host.v x := by clear hs m; exact own_miss hn (by omega)
  (rw [q18]; rfl)
 have h17p := of_decide_eq_true h17
 refine wp_skip ?_
 refine n_then ?_
 refine c_seq ?_
 refine wp_block ?_
 refine c_reg ?_
 refine s_ hs m (ok_move rfl) (b_ m (ok_assign rfl) (bn_ (bc_ (b_ m (ok_move rfl) (b_ m (ok_move rfl) (b_ m (ok_move rfl) ?_))))))
 clear hs a; intro a hs
 obtain ⟨e19, he20⟩ := get_of_lt (l := x) (i := k) (by omega)
 refine elF (c := cLease) (e := e19) hs m (x := (.tmp 12)) (ix := (.tmp 13)) rfl rfl sl22 ty48 hx (by omega) he20 fun p21 hp22 ok23 => ?_
 refine s_ hs m (ok23 _ _ _ _ _) (b_ m (ok_load_ag (vs := cLease e19) rfl ty48 (fr_at hp22) (by kernel_rfl) (by kernel_rfl)) ?_)
 clear hs a; intro a hs
 refine r_callP hs m rfl rfl ca130 rfl (own1_c e19 qag pag ag _ (fr_at hqag _ m) (hag.le m.frame) ) rfl ?_
 clear m hs a w16; intro w24 m a hs
 refine wpList_nil (n_then ?_)
 refine c_cond hs rfl (fun h25 => ?_) (fun h25 => ?_)
 ·have h25p := eq_of_beq h25
  refine c_reg ?_
  refine s_ hs m (ok_move rfl) (b_ m (ok_assign rfl) (bn_ ?_))
  clear hs a; intro a hs
  refine wp_ret ?_
  refine ret_block (ret_then (ret_then (ret_block (ret_then (leave hs (vs := [.int .i64 (k : Int)]) rfl ⟨rfl, trivial⟩ ?_)))))
  refine ⟨?_, m.sub .n⟩
  have q26 : ((k : Int) : Int) = ownI ag.self.Host.v x := by clear hs m; exact own_hit hn (by assumption) (by assumption)
  (rw [q26]; rfl)
 have h25p := ne_of_beq_false h25
 refine wp_skip ?_
 refine n_block (n_then ?_)
 refine c_last ?_
 refine s_ hs m (ok_add (r := (k : Int) + 1) rfl rfl (wrap_i64 (by omega) (by omega))) (b_ m (ok_move rfl) (bn_ ?_))
 clear hs a; intro a hs
 exact ⟨x.length - (k + 1), by omega, k + 1, by omega, by exact own_next hn (by assumption) (by assumption), rfl, hs.to ⟨rfl, rfl, rfl, rfl, trivial⟩, m.sub .n⟩
theorem own_c (pag : Addr) (ag : AgM) (w0 : World) (hag : AgR (hh w0) pag ag) : Pure Tryz.prog 84 [.pointer (some (padd pag 0))] (.int .i64 (ownI ag.self.Host.v ag.view)) w0 := by
 refine enter (n := 9) Tryz.func84 rfl rfl rfl fun a (hs : St 9 [(0, .pointer (some (padd pag 0)))] a) => ?_
 have m := Hp.start w0
 have hag0 := hag
 obtain ⟨x1, x2, x3, x4, x5, x6, x7, hx8, hx9, hx10, hx11, hx12, hx13, hx14, hx15⟩ := hag0
 have lx2 := hx10.bd
 have lx3 := hx11.bd
 have lx4 := hx12.bd
 have lx5 := hx13.bd
 have lx6 := hx14.bd
 have lx7 := hx15.bd
 refine c_reg ?_
 refine r_box (cs := [.pointer (some (padd pag 0))]) hs m rfl rfl rfl ?_
 clear m hs a; intro p16 w17 m a hs
 refine s_ hs m (ok_assign rfl) (bn_ (bc_ (b_ m (ok_load_sc rfl ty63 (bx_at r0) rfl) (b_ m (ok_nilCheck rfl) (b_ m (ok_fieldAddr (r := 48) rfl fd135_5 ty22 rfl) (b_ m (ok_load_sc rfl ty22 (fr_at hx8) rfl) (b_ m (ok_makeFunc (us := []) (vs := [.pointer (some (padd p16 0))]) rfl rfl) ?_)))))))
 clear hs a; intro a hs
 refine r_callP hs m rfl rfl ca129 rfl (indexFunc_c x6 ag.view p16 pag ag _ (m.rd hx14) (bx_at r0 _ m) (hag.le m.frame) ) rfl ?_
 clear m hs a w17; intro w18 m a hs
 refine s_ hs m (ok_assign rfl) (bn_ ?_)
 clear hs a; intro a hs
 refine wp_ret ?_
 refine leave hs (vs := [.int .i64 (ownI ag.self.Host.v ag.view)]) rfl ⟨rfl, trivial⟩ ?_
 refine ⟨?_, m.sub .n⟩
 rfl
theorem changes_c (pag : Addr) (ag : AgM) (w0 : World) (hag : AgR (hh w0) pag ag) (A0 : ag.view.length ≤ 8388608) (A1 : ag.Routes.length ≤ 8388608) (A2 : ag.Neighs.length ≤ 8388608) (A3 : ag.Fdbs.length ≤ 8388608) : Calls Tryz.prog 85 ⟨[.pointer (some (padd pag 0))]⟩ w0 fun e w' => ∃ v, e = .returned v ∧ (∃ x0 : SH, v = (x0.v) ∧ Hp w0 (hh w0) [Sv 19 58 x0.v ((changesM ag).map cOp)] w') := by
 refine enter (n := 52) Tryz.func85 rfl rfl rfl fun a (hs : St 52 [(0, .pointer (some (padd pag 0)))] a) => ?_
 have m := Hp.start w0
 have hag0 := hag
 obtain ⟨x1, x2, x3, x4, x5, x6, x7, hx8, hx9, hx10, hx11, hx12, hx13, hx14, hx15⟩ := hag0
 have lx2 := hx10.bd
 have lx3 := hx11.bd
 have lx4 := hx12.bd
 have lx5 := hx13.bd
 have lx6 := hx14.bd
 have lx7 := hx15.bd
 refine c_reg ?_
 refine s_ hs m (ok_assign rfl) (bn_ (bc_ (b_ m (ok_assign rfl) (bn_ ?_))))
 clear hs a; intro a hs
 refine c_seq ?_
 refine c_reg ?_
 refine s_ hs m (ok_move rfl) (b_ m (ok_nilCheck rfl) (b_ m (ok_fieldAddr (r := 48) rfl fd135_5 ty22 rfl) (b_ m (ok_load_sc rfl ty22 (fr_at hx8) rfl) (b_ m (ok_len (r := (ag.view.length : Int)) m rfl sl22 (rc_fr hx14) (by simp)) (b_ m (ok_move rfl) (bn_ ?_))))))
 clear hs a; intro a hs
 refine wp_block ?_
 replace m := m.nilSvM cLease 12 48
 have q18 : ([] : List TLease) = keepM ag.skipped (ag.view.take 0) := by exact keepM_0
 rw [q18] at m
 refine wp_loop_ghost (fun gn a w => ∃ k : Nat, ∃ v16 : SH, (k ≤ ag.view.length) ∧ gn = ag.view.length - k ∧ St 52 [(0, .pointer (some (padd pag 0))), (3, v16.v), (13, x6.v), (14, .int .i64 (ag.view.length : Int)), (15, .int .i64 (k : Int))] a ∧ Hp w0 (hh w0) [Sv 12 48 v16.v ((keepM ag.skipped (ag.view.take k)).map cLease)] w) (ag.view.length - 0) ⟨0, nilH, by omega, rfl, hs.to ⟨rfl, rfl, rfl, rfl, rfl, trivial⟩, m.sub (.c r0 .n)⟩ ?_
 clear hs m a
 rintro gn a w19 ⟨k, v16, hk, rfl, hs, m⟩
 have hcp := changes_plan ag k
 refine c_reg ?_
 refine s_ hs m (ok_bin rfl rfl rfl) (bn_ ?_)
 clear hs a; intro a hs
 refine c_seq ?_
 refine c_cond hs rfl (fun h20 => ?_) (fun h20 => ?_)
 rotate_left
 ·have h20p := of_decide_eq_false h20
  refine wp_exit ?_
  refine ex_then (ex_then (ex_hit (?_)))
  refine n_then ?_
  refine c_drawH (Hp w0 (hh w0) [Sv 12 48 v16.v ((keepM ag.skipped (ag.view.take k)).map cLease)]) m mo ?_; clear m w19; intro w21 m
  refine sh_ (i := 0) rfl hs (m.sub (.c r0 .n)) (ok_move rfl) (bh_ (i := 1) rfl (m.sub (.c r0 .n)) (ok_nilCheck rfl) (bh_ (i := 2) rfl (m.sub (.c r0 .n)) (ok_fieldAddr (r := 45) rfl fd135_4 ty29 rfl) (bh_ (i := 3) rfl (m.sub (.c r0 .n)) (ok_load_ag (vs := [x3.v, x4.v, x5.v]) rfl ty29 (fr_at hx8) (by kernel_rfl) (by kernel_rfl)) (bh_ (i := 4) rfl (m.sub (.c r0 .n)) (ok_move rfl) (bh_ (i := 5) rfl (m.sub (.c r0 .n)) (ok_move rfl) (bh_ (i := 6) rfl (m.sub (.c r0 .n)) (ok_nilCheck rfl) (bh_ (i := 7) rfl (m.sub (.c r0 .n)) (ok_fieldAddr (r := 0) rfl fd135_0 ty61 rfl) (bh_ (i := 8) rfl (m.sub (.c r0 .n)) (ok_fieldAddr (r := 0) rfl fd61_0 ty3 rfl) (bh_ (i := 9) rfl (m.sub (.c r0 .n)) (ok_load_sc rfl ty3 (fr_at hx8) rfl) ?_)))))))))
  clear hs a; intro a hs
  refine h_eff (i := 10) (by kernel_rfl) rfl ?_
  refine r_call hs rfl rfl ca12 rfl (plan_c v16 (keepM ag.skipped (ag.view.take k)) ag.self.Host.v _ (m.rdv r0) (by omega)) rfl ?_
  clear hs a; rintro _ w25 ⟨v22, v23, v24, rfl, hm⟩ a hs
  replace m : Hp w0 (hh w0) [Sv 4 51 v22.v (((planM (keepM ag.skipped (ag.view.take k)) ag.self.Host.v).R).map cRoute), Sv 7 54 v23.v (((planM (keepM ag.skipped (ag.view.take k)) ag.self.Host.v).N).map cNeigh), Sv 7 56 v24.v (((planM (keepM ag.skipped (ag.view.take k)) ag.self.Host.v).F).map cFdb), Sv 12 48 v16.v ((keepM ag.skipped (ag.view.take k)).map cLease)] w25 := m.after hm
  clear hm w21
  refine wpList_nil (n_then ⟨(m.sub (.c r3 .n)), ?_⟩)
  refine h_eff (i := 11) (by kernel_rfl) rfl ?_
  refine r_call hs rfl rfl ca17 rfl (diff_c x3 ag.Routes x4 ag.Neighs x5 ag.Fdbs v22 ((planM (keepM ag.skipped (ag.view.take k)) ag.self.Host.v).R) v23 ((planM (keepM ag.skipped (ag.view.take k)) ag.self.Host.v).N) v24 ((planM (keepM ag.skipped (ag.view.take k)) ag.self.Host.v).F) _ (m.rd hx11) (m.rd hx12) (m.rd hx13) (m.rdv r0) (m.rdv r1) (m.rdv r2) (by omega) (by omega) (by omega) (by omega) (by omega) (by omega)) rfl ?_
  clear hs a; rintro _ w27 ⟨v26, rfl, hm⟩ a hs
  replace m : Hp w0 (hh w0) [Sv 19 58 v26.v ((diffM ag.Routes ag.Neighs ag.Fdbs ((planM (keepM ag.skipped (ag.view.take k)) ag.self.Host.v).R) ((planM (keepM ag.skipped (ag.view.take k)) ag.self.Host.v).N) ((planM (keepM ag.skipped (ag.view.take k)) ag.self.Host.v).F)).map cOp), Sv 4 51 v22.v (((planM (keepM ag.skipped (ag.view.take k)) ag.self.Host.v).R).map cRoute), Sv 7 54 v23.v (((planM (keepM ag.skipped (ag.view.take k)) ag.self.Host.v).N).map cNeigh), Sv 7 56 v24.v (((planM (keepM ag.skipped (ag.view.take k)) ag.self.Host.v).F).map cFdb), Sv 12 48 v16.v ((keepM ag.skipped (ag.view.take k)).map cLease)] w27 := m.after hm
  clear hm w25
  refine wpList_nil (n_then ⟨(m.sub (.c r4 .n)), ?_⟩)
  refine sh_ (i := 12) rfl hs (m.sub (.c r4 .n)) (ok_move rfl) (bh_ (i := 13) rfl (m.sub (.c r4 .n)) (ok_extract rfl rfl) (bh_ (i := 14) rfl (m.sub (.c r4 .n)) (ok_extract rfl rfl) (bh_ (i := 15) rfl (m.sub (.c r4 .n)) (ok_assign rfl) (bh_ (i := 16) rfl (m.sub (.c r4 .n)) (ok_assign rfl) ?_))))
  clear hs a; intro a hs
  refine h_done (by kernel_rfl) (n_then ?_)
  refine c_reg ?_
  refine s_ hs m (ok_move rfl) (b_ m (ok_assign rfl) (bn_ ?_))
  clear hs a; intro a hs
  refine wp_ret ?_
  refine leave hs (vs := [v26.v]) rfl ⟨rfl, trivial⟩ ?_
  have q28 : diffM ag.Routes ag.Neighs ag.Fdbs ((planM (keepM ag.skipped (ag.view.take k)) ag.self.Host.v).R) ((planM (keepM ag.skipped (ag.view.take k)) ag.self.Host.v).N) ((planM (keepM ag.skipped (ag.view.take k)) ag.self.Host.v).F) = changesM ag := by exact changesM_eq (by omega)
  rw [q28] at m
  refine ⟨_, rfl, v26, ?_, m.sub (.c r0 .n)⟩
  rfl
 have h20p := of_decide_eq_true h20
 refine wp_skip ?_
 refine n_then ?_
 refine c_seq ?_
 refine wp_block ?_
 refine c_reg ?_
 obtain ⟨e29, he30⟩ := get_of_lt (l := ag.view) (i := k) (by omega)
 refine elF (c := cLease) (e := e29) hs m (x := (.tmp 13)) (ix := (.tmp 15)) rfl rfl sl22 ty48 hx14 (by omega) he30 fun p31 hp32 ok33 => ?_
 refine s_ hs m (ok33 _ _ _ _ _) (b_ m (ok_load_ag (vs := cLease e29) rfl ty48 (fr_at hp32) (by kernel_rfl) (by kernel_rfl)) ?_)
 clear hs a; intro a hs
 refine r_alloc hs m ze48 rfl ?_
 clear m hs a w19; intro p34 w35 m a hs
 refine st_ (cLease e29) (cLease e29) hs m ty48 s0 ?_
 clear m w35; intro w36 m
 refine wpList_nil (n_then ?_)
 refine c_draw m mo (by kernel_rfl) ?_
 refine sq_ hs (ok_move rfl) (bq_ (ok_nilCheck rfl) (bq_ (ok_fieldAddr (r := 51) rfl fd135_8 ty82 rfl) (bq_ (ok_load_sc rfl ty82 (fr_at hx8) rfl) (bq_ (ok_fieldAddr (r := 1) rfl fd48_1 ty44 rfl) (bq_ (ok_load_ag (vs := cPrefix e29.Subnet) rfl ty44 (bx_at r0) (by kernel_rfl) (by kernel_rfl)) ?_)))))
 clear hs a; intro a hs
 refine q_callP hs rfl rfl ca131 rfl (fun w m => bsPrefix_c x7 ag.skipped e29.Subnet w (m.rd hx15) ) rfl ?_
 clear hs a; intro a hs
 refine sq_ hs (ok_move rfl) (bq_ (ok_extract rfl rfl) (bq_ (ok_extract rfl rfl) (bq_ (ok_assign rfl) (bq_ (ok_assign rfl) ?_))))
 clear hs a; intro a hs
 refine wpQuiet_nil ?_; clear m w36; intro w37 m
 refine c_reg ?_
 refine s_ hs m (ok_move rfl) (b_ m (ok_not rfl) (bn_ ?_))
 clear hs a; intro a hs
 refine c_cond hs rfl (fun h38 => ?_) (fun h38 => ?_)
 ·have h38p := h38; simp only [bp_] at h38p
  refine c_last ?_
  refine s_ hs m (ok_move rfl) (b_ m (ok_load_ag (vs := cLease e29) rfl ty48 (bx_at r0) (by kernel_rfl) (by kernel_rfl)) ?_)
  clear hs a; intro a hs
  refine r_buildM (c := cLease) (ys := [e29]) hs m sl22 ty48 ze48 rfl rfl rfl rfl rfl (fun _ => rfl) rfl rfl rfl ?_
  clear m hs a w37; intro v39 w40 m a hs
  refine r_appendM (c := cLease) (xs := keepM ag.skipped (ag.view.take k)) (ys := [e29]) hs m rfl rfl sl22 ni22 ty48 ze48 rfl by48 rfl r2 (m.rdv r0) (fun _ => rfl) (by (simp; omega)) rfl ?_
  clear m hs a w40; intro v41 w42 m a hs
  refine s_ hs m (ok_assign rfl) ?_
  clear hs a; intro a hs
  refine wpList_nil (n_block (n_then ?_))
  refine c_last ?_
  refine s_ hs m (ok_add (r := (k : Int) + 1) rfl rfl (wrap_i64 (by omega) (by omega))) (b_ m (ok_move rfl) (bn_ ?_))
  clear hs a; intro a hs
  have q43 : (keepM ag.skipped (ag.view.take k)) ++ [e29] = keepM ag.skipped (ag.view.take (k + 1)) := by exact keepM_t (by assumption) (by assumption)
  rw [q43] at m
  exact ⟨ag.view.length - (k + 1), by omega, k + 1, v41, by omega, rfl, hs.to ⟨rfl, rfl, rfl, rfl, rfl, trivial⟩, m.sub (.c r0 .n)⟩
 have h38p := h38; simp only [bp_] at h38p
 refine wp_skip ?_
 refine n_block (n_then ?_)
 refine c_last ?_
 refine s_ hs m (ok_add (r := (k : Int) + 1) rfl rfl (wrap_i64 (by omega) (by omega))) (b_ m (ok_move rfl) (bn_ ?_))
 clear hs a; intro a hs
 have q44 : keepM ag.skipped (ag.view.take k) = keepM ag.skipped (ag.view.take (k + 1)) := by exact keepM_f (by assumption) (by assumption)
 rw [q44] at m
 exact ⟨ag.view.length - (k + 1), by omega, k + 1, v16, by omega, rfl, hs.to ⟨rfl, rfl, rfl, rfl, rfl, trivial⟩, m.sub (.c r1 .n)⟩
end Go.Proofs.YtnbpodjbemfpbaaGreat.Fw
set_option linter.all false
set_option maxHeartbeats 4000000
set_option maxRecDepth 100000
namespace Go.Proofs.YtnbpodjbemfpbaaGreat.Fw
open Go
theorem afterC_c (x : Int) (y : Int) (w0 : World) : Pure Tryz.prog 117 [.int .i64 x, .int .i64 y] (.int .i64 (afterM x y)) w0 := by
 refine enter (n := 32) Tryz.func117 rfl rfl rfl fun a (hs : St 32 [(0, .int .i64 x), (1, .int .i64 y)] a) => ?_
 have m := Hp.start w0
 refine c_reg ?_
 refine s_ hs m (ok_assign rfl) (bn_ (bc_ (b_ m (ok_move rfl) (b_ m (ok_move rfl) (b_ m (ok_add (r := IntKind.i64.wrap (x + y)) rfl rfl rfl) (b_ m (ok_assign rfl) (bn_ ?_)))))))
 clear hs a; intro a hs
 refine c_seq ?_
 refine wp_block ?_
 refine c_reg ?_
 refine s_ hs m (ok_move rfl) (b_ m (ok_bin rfl rfl rfl) (b_ m (ok_move rfl) ?_))
 clear hs a; intro a hs
 refine l_cut (.c (.c (.c (.n)))) (fun a w => St 32 [(0, .int .i64 x), (1, .int .i64 y), (5, .int .i64 (IntKind.i64.wrap (x + y))), (15, .bool ((decide (x > 0)) && (decide (y > 0))))] a ∧ Hp w0 (hh w0) [] w) ?_ ?_
 ·rcases Bool.eq_false_or_eq_true (decide (x > 0)) with hb1 | hb1
  ·have hb1p := of_decide_eq_true hb1
   refine sg_ hs hb1 m (ok_move rfl) (bg_ hb1 m (ok_bin rfl rfl rfl) (b_ m (ok_pick (r := .bool ((decide (x > 0)) && (decide (y > 0)))) rfl rfl rfl (by rw [hb1]; rfl)) ?_))
   clear hs a; intro a hs
   exact wpList_nil (n_then ⟨hs.to ⟨rfl, rfl, rfl, rfl, trivial⟩, m⟩)
  ·have hb1p := of_decide_eq_false hb1
   refine so_ hs hb1 (bo_ hb1 (b_ m (ok_pick (r := .bool ((decide (x > 0)) && (decide (y > 0)))) rfl rfl rfl (by rw [hb1]; rfl)) ?_))
   clear hs a; intro a hs
   exact wpList_nil (n_then ⟨hs.to ⟨rfl, rfl, rfl, rfl, trivial⟩, m⟩)
 clear hs m a; rintro a w2 ⟨hs, m⟩
 refine s_ hs m (ok_move rfl) ?_
 clear hs a; intro a hs
 refine l_cut (.c (.c (.c (.n)))) (fun a w => St 32 [(0, .int .i64 x), (1, .int .i64 y), (5, .int .i64 (IntKind.i64.wrap (x + y))), (19, .bool (((decide (x > 0)) && (decide (y > 0))) && (decide ((IntKind.i64.wrap (x + y)) < 0))))] a ∧ Hp w0 (hh w0) [] w) ?_ ?_
 ·rcases Bool.eq_false_or_eq_true ((decide (x > 0)) && (decide (y > 0))) with hb3 | hb3
  ·have hb3p := hb3; simp only [bp_] at hb3p
   refine sg_ hs hb3 m (ok_move rfl) (bg_ hb3 m (ok_bin rfl rfl rfl) (b_ m (ok_pick (r := .bool (((decide (x > 0)) && (decide (y > 0))) && (decide ((IntKind.i64.wrap (x + y)) < 0)))) rfl rfl rfl (by rw [hb3]; rfl)) ?_))
   clear hs a; intro a hs
   exact wpList_nil (n_then ⟨hs.to ⟨rfl, rfl, rfl, rfl, trivial⟩, m⟩)
  ·have hb3p := hb3; simp only [bp_] at hb3p
   refine so_ hs hb3 (bo_ hb3 (b_ m (ok_pick (r := .bool (((decide (x > 0)) && (decide (y > 0))) && (decide ((IntKind.i64.wrap (x + y)) < 0)))) rfl rfl rfl (by rw [hb3]; rfl)) ?_))
   clear hs a; intro a hs
   exact wpList_nil (n_then ⟨hs.to ⟨rfl, rfl, rfl, rfl, trivial⟩, m⟩)
 clear hs m a w2; rintro a w4 ⟨hs, m⟩
 refine s_ hs m (ok_assign rfl) (bn_ ?_)
 clear hs a; intro a hs
 refine c_cond hs rfl (fun h5 => ?_) (fun h5 => ?_)
 ·have h5p := h5; simp only [bp_] at h5p
  refine c_reg ?_
  refine s_ hs m (ok_assign rfl) (bn_ ?_)
  clear hs a; intro a hs
  refine wp_ret ?_
  refine ret_block (ret_then (leave hs (vs := [.int .i64 9223372036854775807]) rfl ⟨rfl, trivial⟩ ?_))
  refine ⟨?_, m.sub .n⟩
  have q6 : (9223372036854775807 : Int) = afterM x y := by clear hs m; simp only [afterM, *]; rfl
  (rw [q6]; rfl)
 have h5p := h5; simp only [bp_] at h5p
 refine c_reg ?_
 refine s_ hs m (ok_move rfl) (b_ m (ok_bin rfl rfl rfl) (b_ m (ok_move rfl) ?_))
 clear hs a; intro a hs
 refine l_cut (.c (.c (.c (.n)))) (fun a w => St 32 [(5, .int .i64 (IntKind.i64.wrap (x + y))), (26, .bool ((decide (x < 0)) && (decide (y < 0))))] a ∧ Hp w0 (hh w0) [] w) ?_ ?_
 ·rcases Bool.eq_false_or_eq_true (decide (x < 0)) with hb7 | hb7
  ·have hb7p := of_decide_eq_true hb7
   refine sg_ hs hb7 m (ok_move rfl) (bg_ hb7 m (ok_bin rfl rfl rfl) (b_ m (ok_pick (r := .bool ((decide (x < 0)) && (decide (y < 0)))) rfl rfl rfl (by rw [hb7]; rfl)) ?_))
   clear hs a; intro a hs
   exact wpList_nil (n_then ⟨hs.to ⟨rfl, rfl, trivial⟩, m⟩)
  ·have hb7p := of_decide_eq_false hb7
   refine so_ hs hb7 (bo_ hb7 (b_ m (ok_pick (r := .bool ((decide (x < 0)) && (decide (y < 0)))) rfl rfl rfl (by rw [hb7]; rfl)) ?_))
   clear hs a; intro a hs
   exact wpList_nil (n_then ⟨hs.to ⟨rfl, rfl, trivial⟩, m⟩)
 clear hs m a w4; rintro a w8 ⟨hs, m⟩
 refine s_ hs m (ok_move rfl) ?_
 clear hs a; intro a hs
 refine l_cut (.c (.c (.c (.n)))) (fun a w => St 32 [(5, .int .i64 (IntKind.i64.wrap (x + y))), (30, .bool (((decide (x < 0)) && (decide (y < 0))) && (decide ((IntKind.i64.wrap (x + y)) ≥ 0))))] a ∧ Hp w0 (hh w0) [] w) ?_ ?_
 ·rcases Bool.eq_false_or_eq_true ((decide (x < 0)) && (decide (y < 0))) with hb9 | hb9
  ·have hb9p := hb9; simp only [bp_] at hb9p
   refine sg_ hs hb9 m (ok_move rfl) (bg_ hb9 m (ok_bin rfl rfl rfl) (b_ m (ok_pick (r := .bool (((decide (x < 0)) && (decide (y < 0))) && (decide ((IntKind.i64.wrap (x + y)) ≥ 0)))) rfl rfl rfl (by rw [hb9]; rfl)) ?_))
   clear hs a; intro a hs
   exact wpList_nil (n_then ⟨hs.to ⟨rfl, rfl, trivial⟩, m⟩)
  ·have hb9p := hb9; simp only [bp_] at hb9p
   refine so_ hs hb9 (bo_ hb9 (b_ m (ok_pick (r := .bool (((decide (x < 0)) && (decide (y < 0))) && (decide ((IntKind.i64.wrap (x + y)) ≥ 0)))) rfl rfl rfl (by rw [hb9]; rfl)) ?_))
   clear hs a; intro a hs
   exact wpList_nil (n_then ⟨hs.to ⟨rfl, rfl, trivial⟩, m⟩)
 clear hs m a w8; rintro a w10 ⟨hs, m⟩
 refine s_ hs m (ok_assign rfl) (bn_ ?_)
 clear hs a; intro a hs
 refine c_cond hs rfl (fun h11 => ?_) (fun h11 => ?_)
 ·have h11p := h11; simp only [bp_] at h11p
  refine c_reg ?_
  refine s_ hs m (ok_assign rfl) (bn_ ?_)
  clear hs a; intro a hs
  refine wp_ret ?_
  refine ret_block (ret_then (leave hs (vs := [.int .i64 (-9223372036854775808)]) rfl ⟨rfl, trivial⟩ ?_))
  refine ⟨?_, m.sub .n⟩
  have q12 : ((-9223372036854775808) : Int) = afterM x y := by clear hs m; simp only [afterM, *]; rfl
  (rw [q12]; rfl)
 have h11p := h11; simp only [bp_] at h11p
 refine wp_skip ?_
 refine n_block (n_then ?_)
 refine c_reg ?_
 refine s_ hs m (ok_move rfl) (b_ m (ok_assign rfl) (bn_ ?_))
 clear hs a; intro a hs
 refine wp_ret ?_
 refine leave hs (vs := [.int .i64 (IntKind.i64.wrap (x + y))]) rfl ⟨rfl, trivial⟩ ?_
 refine ⟨?_, m.sub .n⟩
 have q13 : (IntKind.i64.wrap (x + y) : Int) = afterM x y := by clear hs m; simp only [afterM, *]; rfl
 (rw [q13]; rfl)
theorem acquire_c (pag : Addr) (ag : AgM) (now : Int) (w0 : World) (hag : AgR (hh w0) pag ag) : Pure Tryz.prog 74 [.pointer (some (padd pag 0)), .int .i64 now] (.tuple ⟨[.agg ⟨cReq (acqQ ag)⟩, .bool (acqB ag)]⟩) w0 := by
 have hol := ownI_lt (h := ag.self.Host.v) (l := ag.view)
 refine enter (n := 83) Tryz.func74 rfl rfl rfl fun a (hs : St 83 [(0, .pointer (some (padd pag 0))), (1, .int .i64 now)] a) => ?_
 have m := Hp.start w0
 have hag0 := hag
 obtain ⟨x1, x2, x3, x4, x5, x6, x7, hx8, hx9, hx10, hx11, hx12, hx13, hx14, hx15⟩ := hag0
 have lx2 := hx10.bd
 have lx3 := hx11.bd
 have lx4 := hx12.bd
 have lx5 := hx13.bd
 have lx6 := hx14.bd
 have lx7 := hx15.bd
 refine c_reg ?_
 refine r_alloc hs m ze89 rfl ?_
 clear m hs a; intro p16 w17 m a hs
 refine s_ hs m (ok_assign rfl) (bn_ ?_)
 clear hs a; intro a hs
 refine c_seq ?_
 refine c_reg ?_
 refine s_ hs m (ok_move rfl) ?_
 clear hs a; intro a hs
 refine r_callP hs m rfl rfl ca84 rfl (own_c pag ag _ (hag.le m.frame) ) rfl ?_
 clear m hs a w17; intro w18 m a hs
 refine s_ hs m (ok_assign rfl) (bn_ ?_)
 clear hs a; intro a hs
 refine c_draw m mo (by kernel_rfl) ?_
 refine sq_ hs (ok_move rfl) (bq_ (ok_bin rfl rfl rfl) (bq_ (ok_move rfl) ?_))
 clear hs a; intro a hs
 rcases Bool.eq_false_or_eq_true (decide ((ownI ag.self.Host.v ag.view) ≥ 0)) with hb19 | hb19
 ·have hb19p := of_decide_eq_true hb19
  refine q_okg hs rfl rfl hb19 (ok_move rfl) rfl ?_
  clear hs a; intro a hs
  refine q_okg hs rfl rfl hb19 (ok_nilCheck rfl) rfl ?_
  clear hs a; intro a hs
  refine q_okg hs rfl rfl hb19 (ok_fieldAddr (r := 48) rfl fd135_5 ty22 rfl) rfl ?_
  clear hs a; intro a hs
  refine q_okg hs rfl rfl hb19 (ok_load_sc rfl ty22 (fr_at hx8) rfl) rfl ?_
  clear hs a; intro a hs
  refine q_okg hs rfl rfl hb19 (ok_move rfl) rfl ?_
  clear hs a; intro a hs
  obtain ⟨e20, he21⟩ := get_of_lt (l := ag.view) (i := (ownI ag.self.Host.v ag.view).toNat) (by omega)
  refine elF (c := cLease) (e := e20) hs m (x := (.tmp 16)) (ix := (.tmp 17)) rfl rfl sl22 ty48 hx14 (by omega) he21 fun p22 hp23 ok24 => ?_
  refine q_okg hs rfl rfl hb19 (ok24 _ _ _ _ _) rfl ?_
  clear hs a; intro a hs
  refine q_okg hs rfl rfl hb19 (ok_fieldAddr (r := 3) rfl fd48_2 ty42 rfl) rfl ?_
  clear hs a; intro a hs
  refine q_okg hs rfl rfl hb19 (ok_load_sc rfl ty42 (fr_at hp23) rfl) rfl ?_
  clear hs a; intro a hs
  refine q_okg hs rfl rfl hb19 (ok_move rfl) rfl ?_
  clear hs a; intro a hs
  refine q_okg hs rfl rfl hb19 (ok_nilCheck rfl) rfl ?_
  clear hs a; intro a hs
  refine q_okg hs rfl rfl hb19 (ok_fieldAddr (r := 0) rfl fd135_0 ty61 rfl) rfl ?_
  clear hs a; intro a hs
  refine q_okg hs rfl rfl hb19 (ok_fieldAddr (r := 1) rfl fd61_1 ty42 rfl) rfl ?_
  clear hs a; intro a hs
  refine q_okg hs rfl rfl hb19 (ok_load_sc rfl ty42 (fr_at hx8) rfl) rfl ?_
  clear hs a; intro a hs
  refine q_okg hs rfl rfl hb19 (ok_bin rfl rfl rfl) rfl ?_
  clear hs a; intro a hs
  refine sq_ hs (ok_pick (r := .bool (e20.Pub.v == ag.self.Pub.v)) rfl rfl rfl (by rw [hb19]; rfl)) (bq_ (ok_move rfl) ?_)
  clear hs a; intro a hs
  rcases Bool.eq_false_or_eq_true (e20.Pub.v == ag.self.Pub.v) with hb25 | hb25
  ·have hb25p := eq_of_beq hb25
   refine q_okg hs rfl rfl hb25 (ok_move rfl) rfl ?_
   clear hs a; intro a hs
   refine q_okg hs rfl rfl hb25 (ok_nilCheck rfl) rfl ?_
   clear hs a; intro a hs
   refine q_okg hs rfl rfl hb25 (ok_fieldAddr (r := 48) rfl fd135_5 ty22 rfl) rfl ?_
   clear hs a; intro a hs
   refine q_okg hs rfl rfl hb25 (ok_load_sc rfl ty22 (fr_at hx8) rfl) rfl ?_
   clear hs a; intro a hs
   refine q_okg hs rfl rfl hb25 (ok_move rfl) rfl ?_
   clear hs a; intro a hs
   refine elF (c := cLease) (e := e20) hs m (x := (.tmp 32)) (ix := (.tmp 33)) rfl rfl sl22 ty48 hx14 (by omega) he21 fun p26 hp27 ok28 => ?_
   refine q_okg hs rfl rfl hb25 (ok28 _ _ _ _ _) rfl ?_
   clear hs a; intro a hs
   refine q_okg hs rfl rfl hb25 (ok_fieldAddr (r := 4) rfl fd48_3 ty46 rfl) rfl ?_
   clear hs a; intro a hs
   refine q_okg hs rfl rfl hb25 (ok_load_ag (vs := cMAC e20.MAC) rfl ty46 (fr_at hp27) (by kernel_rfl) (by kernel_rfl)) rfl ?_
   clear hs a; intro a hs
   refine q_okg hs rfl rfl hb25 (ok_move rfl) rfl ?_
   clear hs a; intro a hs
   refine q_okg hs rfl rfl hb25 (ok_nilCheck rfl) rfl ?_
   clear hs a; intro a hs
   refine q_okg hs rfl rfl hb25 (ok_fieldAddr (r := 0) rfl fd135_0 ty61 rfl) rfl ?_
   clear hs a; intro a hs
   refine q_okg hs rfl rfl hb25 (ok_fieldAddr (r := 2) rfl fd61_2 ty46 rfl) rfl ?_
   clear hs a; intro a hs
   refine q_okg hs rfl rfl hb25 (ok_load_ag (vs := cMAC ag.self.MAC) rfl ty46 (fr_at hx8) (by kernel_rfl) (by kernel_rfl)) rfl ?_
   clear hs a; intro a hs
   refine q_okg hs rfl rfl hb25 (ok_eqv (b := decide (e20.MAC = ag.self.MAC)) rfl rfl eqT46 (fMAC _) (fMAC _) (iMAC e20.MAC ag.self.MAC)) rfl ?_
   clear hs a; intro a hs
   refine sq_ hs (ok_pick (r := .bool (decide (e20.MAC = ag.self.MAC))) rfl rfl rfl (by rw [hb25]; rfl)) ?_
   clear hs a; intro a hs
   refine wpQuiet_nil ?_; clear m w18; intro w29 m
   refine c_cond hs rfl (fun h30 => ?_) (fun h30 => ?_)
   ·have h30p := of_decide_eq_true h30
    refine c_reg ?_
    refine s_ hs m (ok_build (cs := cReq zReq) st89 ze89 rfl (by kernel_rfl)) ?_
    clear hs a; intro a hs
    refine st_ (cReq zReq) (cReq zReq) hs m ty89 s0 ?_
    clear m w29; intro w31 m
    refine s_ hs m (ok_assign rfl) (bn_ ?_)
    clear hs a; intro a hs
    refine wp_ret ?_
    refine ret_then (leave hs (vs := [.agg ⟨cReq zReq⟩, .bool false]) rfl ⟨resv_cell (cs := cReq zReq) m rfl ty89 r0 rfl, rfl, trivial⟩ ?_)
    refine ⟨?_, m.sub .n⟩
    have q32 : (zReq : TReq) = acqQ ag := by clear hs m; exact acqQ_t (mine_t (by assumption) (by assumption) (by assumption) (by assumption))
    have q33 : (false : Bool) = acqB ag := by clear hs m; exact acqB_t (mine_t (by assumption) (by assumption) (by assumption) (by assumption))
    (rw [q32, q33]; rfl)
   have h30p := of_decide_eq_false h30
   refine wp_skip ?_
   refine n_then ?_
   refine c_drawH (Hp w0 (hh w0) [Bx p16 89 (cReq zReq)]) m mo ?_; clear m w29; intro w34 m
   refine sh_ (i := 0) rfl hs (m.sub (.c r0 .n)) (ok_move rfl) (bh_ (i := 1) rfl (m.sub (.c r0 .n)) (ok_nilCheck rfl) (bh_ (i := 2) rfl (m.sub (.c r0 .n)) (ok_fieldAddr (r := 0) rfl fd135_0 ty61 rfl) (bh_ (i := 3) rfl (m.sub (.c r0 .n)) (ok_fieldAddr (r := 0) rfl fd61_0 ty3 rfl) (bh_ (i := 4) rfl (m.sub (.c r0 .n)) (ok_load_sc rfl ty3 (fr_at hx8) rfl) (bh_ (i := 5) rfl (m.sub (.c r0 .n)) (ok_move rfl) (bh_ (i := 6) rfl (m.sub (.c r0 .n)) (ok_nilCheck rfl) (bh_ (i := 7) rfl (m.sub (.c r0 .n)) (ok_fieldAddr (r := 55) rfl fd135_12 ty44 rfl) (bh_ (i := 8) rfl (m.sub (.c r0 .n)) (ok_load_ag (vs := cPrefix ag.wish) rfl ty44 (fr_at hx8) (by kernel_rfl) (by kernel_rfl)) (bh_ (i := 9) rfl (m.sub (.c r0 .n)) (ok_move rfl) (bh_ (i := 10) rfl (m.sub (.c r0 .n)) (ok_nilCheck rfl) (bh_ (i := 11) rfl (m.sub (.c r0 .n)) (ok_fieldAddr (r := 0) rfl fd135_0 ty61 rfl) ?_)))))))))))
   clear hs a; intro a hs
   refine sh_ (i := 12) rfl hs (m.sub (.c r0 .n)) (ok_fieldAddr (r := 1) rfl fd61_1 ty42 rfl) (bh_ (i := 13) rfl (m.sub (.c r0 .n)) (ok_load_sc rfl ty42 (fr_at hx8) rfl) (bh_ (i := 14) rfl (m.sub (.c r0 .n)) (ok_move rfl) (bh_ (i := 15) rfl (m.sub (.c r0 .n)) (ok_nilCheck rfl) (bh_ (i := 16) rfl (m.sub (.c r0 .n)) (ok_fieldAddr (r := 0) rfl fd135_0 ty61 rfl) (bh_ (i := 17) rfl (m.sub (.c r0 .n)) (ok_fieldAddr (r := 2) rfl fd61_2 ty46 rfl) (bh_ (i := 18) rfl (m.sub (.c r0 .n)) (ok_load_ag (vs := cMAC ag.self.MAC) rfl ty46 (fr_at hx8) (by kernel_rfl) (by kernel_rfl)) (bh_ (i := 19) rfl (m.sub (.c r0 .n)) (ok_build (cs := cCmd (⟨⟨1, rfl⟩, ag.self.Host, ag.wish, ag.self.Pub, ag.self.MAC, ⟨0, rfl⟩⟩ : TCmd)) st87 ze87 rfl (by kernel_rfl)) ?_)))))))
   clear hs a; intro a hs
   refine h_eff (i := 20) (by kernel_rfl) rfl ?_
   refine r_alloc hs m ze87 rfl ?_
   clear m hs a w34; intro p35 w36 m a hs
   refine wpList_nil (n_then ⟨(m.sub (.c r1 .n)), ?_⟩)
   refine h_eff (i := 21) (by kernel_rfl) rfl ?_
   refine st_ (cCmd (⟨⟨1, rfl⟩, ag.self.Host, ag.wish, ag.self.Pub, ag.self.MAC, ⟨0, rfl⟩⟩ : TCmd)) (cCmd (⟨⟨1, rfl⟩, ag.self.Host, ag.wish, ag.self.Pub, ag.self.MAC, ⟨0, rfl⟩⟩ : TCmd)) hs m ty87 s0 ?_
   clear m w36; intro w37 m
   refine wpList_nil (n_then ⟨(m.sub (.c r1 .n)), ?_⟩)
   refine h_done (by kernel_rfl) (n_then ?_)
   refine c_drawH (Hp w0 (hh w0) [Bx p35 87 (cCmd (⟨⟨1, rfl⟩, ag.self.Host, ag.wish, ag.self.Pub, ag.self.MAC, ⟨0, rfl⟩⟩ : TCmd))]) m mo ?_; clear m w37; intro w38 m
   refine sh_ (i := 0) rfl hs (m.sub (.c r0 .n)) (ok_load_ag (vs := cCmd (⟨⟨1, rfl⟩, ag.self.Host, ag.wish, ag.self.Pub, ag.self.MAC, ⟨0, rfl⟩⟩ : TCmd)) rfl ty87 (bx_at r0) (by kernel_rfl) (by kernel_rfl)) (bh_ (i := 1) rfl (m.sub (.c r0 .n)) (ok_build (cs := cReq (⟨⟨4, rfl⟩, (⟨⟨1, rfl⟩, ag.self.Host, ag.wish, ag.self.Pub, ag.self.MAC, ⟨0, rfl⟩⟩ : TCmd), zOp, ⟨0, rfl⟩, ⟨0, rfl⟩⟩ : TReq)) st89 ze89 rfl (by kernel_rfl)) (bh_ (i := 2) rfl (m.sub (.c r0 .n)) (ok_move rfl) (bh_ (i := 3) rfl (m.sub (.c r0 .n)) (ok_nilCheck rfl) (bh_ (i := 4) rfl (m.sub (.c r0 .n)) (ok_fieldAddr (r := 49) rfl fd135_6 ty2 rfl) (bh_ (i := 5) rfl (m.sub (.c r0 .n)) (ok_load_sc rfl ty2 (fr_at hx8) rfl) (bh_ (i := 6) rfl (m.sub (.c r0 .n)) (ok_move rfl) (bh_ (i := 7) rfl (m.sub (.c r0 .n)) (ok_nilCheck rfl) (bh_ (i := 8) rfl (m.sub (.c r0 .n)) (ok_fieldAddr (r := 53) rfl fd135_10 ty2 rfl) (bh_ (i := 9) rfl (m.sub (.c r0 .n)) (ok_load_sc rfl ty2 (fr_at hx8) rfl) (bh_ (i := 10) rfl (m.sub (.c r0 .n)) (ok_bin rfl rfl rfl) (bh_ (i := 11) rfl (m.sub (.c r0 .n)) (ok_move rfl) ?_)))))))))))
   clear hs a; intro a hs
   rcases Bool.eq_false_or_eq_true (decide (ag.cursor.v ≥ ag.granted.v)) with hb39 | hb39
   ·have hb39p := of_decide_eq_true hb39
    refine h_okg (i := 12) rfl (by kernel_rfl) (by kernel_rfl) (by kernel_rfl) hs (m.sub (.c r0 .n)) rfl rfl hb39 (ok_move rfl) rfl ?_
    clear hs a; intro a hs
    refine h_okg (i := 13) rfl (by kernel_rfl) (by kernel_rfl) (by kernel_rfl) hs (m.sub (.c r0 .n)) rfl rfl hb39 (ok_nilCheck rfl) rfl ?_
    clear hs a; intro a hs
    refine h_okg (i := 14) rfl (by kernel_rfl) (by kernel_rfl) (by kernel_rfl) hs (m.sub (.c r0 .n)) rfl rfl hb39 (ok_fieldAddr (r := 54) rfl fd135_11 ty4 rfl) rfl ?_
    clear hs a; intro a hs
    refine h_okg (i := 15) rfl (by kernel_rfl) (by kernel_rfl) (by kernel_rfl) hs (m.sub (.c r0 .n)) rfl rfl hb39 (ok_load_sc rfl ty4 (fr_at hx8) rfl) rfl ?_
    clear hs a; intro a hs
    refine h_okg (i := 16) rfl (by kernel_rfl) (by kernel_rfl) (by kernel_rfl) hs (m.sub (.c r0 .n)) rfl rfl hb39 (ok_not rfl) rfl ?_
    clear hs a; intro a hs
    refine sh_ (i := 17) rfl hs (m.sub (.c r0 .n)) (ok_pick (r := .bool (!ag.waiting)) rfl rfl rfl (by rw [hb39]; rfl)) ?_
    clear hs a; intro a hs
    refine h_eff (i := 18) (by kernel_rfl) rfl ?_
    refine st_ (cReq (⟨⟨4, rfl⟩, (⟨⟨1, rfl⟩, ag.self.Host, ag.wish, ag.self.Pub, ag.self.MAC, ⟨0, rfl⟩⟩ : TCmd), zOp, ⟨0, rfl⟩, ⟨0, rfl⟩⟩ : TReq)) (cReq (⟨⟨4, rfl⟩, (⟨⟨1, rfl⟩, ag.self.Host, ag.wish, ag.self.Pub, ag.self.MAC, ⟨0, rfl⟩⟩ : TCmd), zOp, ⟨0, rfl⟩, ⟨0, rfl⟩⟩ : TReq)) hs m ty89 s1 ?_
    clear m w38; intro w40 m
    refine wpList_nil (n_then ⟨(m.sub (.c r0 .n)), ?_⟩)
    refine sh_ (i := 19) rfl hs (m.sub (.c r0 .n)) (ok_assign rfl) ?_
    clear hs a; intro a hs
    refine h_done (by kernel_rfl) (n_then ?_)
    refine wp_ret ?_
    refine leave hs (vs := [.agg ⟨cReq (⟨⟨4, rfl⟩, (⟨⟨1, rfl⟩, ag.self.Host, ag.wish, ag.self.Pub, ag.self.MAC, ⟨0, rfl⟩⟩ : TCmd), zOp, ⟨0, rfl⟩, ⟨0, rfl⟩⟩ : TReq)⟩, .bool (!ag.waiting)]) rfl ⟨resv_cell (cs := cReq (⟨⟨4, rfl⟩, (⟨⟨1, rfl⟩, ag.self.Host, ag.wish, ag.self.Pub, ag.self.MAC, ⟨0, rfl⟩⟩ : TCmd), zOp, ⟨0, rfl⟩, ⟨0, rfl⟩⟩ : TReq)) m rfl ty89 r1 rfl, rfl, trivial⟩ ?_
    refine ⟨?_, m.sub .n⟩
    have q41 : ((⟨⟨4, rfl⟩, (⟨⟨1, rfl⟩, ag.self.Host, ag.wish, ag.self.Pub, ag.self.MAC, ⟨0, rfl⟩⟩ : TCmd), zOp, ⟨0, rfl⟩, ⟨0, rfl⟩⟩ : TReq) : TReq) = acqQ ag := by clear hs m; exact acqQ_f (mine_f2 (by assumption) (by assumption))
    have q42 : (!ag.waiting : Bool) = acqB ag := by clear hs m; exact acqB_w (mine_f2 (by assumption) (by assumption)) (by assumption)
    (rw [q41, q42]; rfl)
   ·have hb39p := of_decide_eq_false hb39
    refine h_out (i := 12) rfl (by kernel_rfl) (by kernel_rfl) (by kernel_rfl) hs (m.sub (.c r0 .n)) rfl rfl hb39 rfl ?_
    clear hs a; intro a hs
    refine h_out (i := 13) rfl (by kernel_rfl) (by kernel_rfl) (by kernel_rfl) hs (m.sub (.c r0 .n)) rfl rfl hb39 rfl ?_
    clear hs a; intro a hs
    refine h_out (i := 14) rfl (by kernel_rfl) (by kernel_rfl) (by kernel_rfl) hs (m.sub (.c r0 .n)) rfl rfl hb39 rfl ?_
    clear hs a; intro a hs
    refine h_out (i := 15) rfl (by kernel_rfl) (by kernel_rfl) (by kernel_rfl) hs (m.sub (.c r0 .n)) rfl rfl hb39 rfl ?_
    clear hs a; intro a hs
    refine h_out (i := 16) rfl (by kernel_rfl) (by kernel_rfl) (by kernel_rfl) hs (m.sub (.c r0 .n)) rfl rfl hb39 rfl ?_
    clear hs a; intro a hs
    refine sh_ (i := 17) rfl hs (m.sub (.c r0 .n)) (ok_pick (r := .bool false) rfl rfl rfl (by rw [hb39]; rfl)) ?_
    clear hs a; intro a hs
    refine h_eff (i := 18) (by kernel_rfl) rfl ?_
    refine st_ (cReq (⟨⟨4, rfl⟩, (⟨⟨1, rfl⟩, ag.self.Host, ag.wish, ag.self.Pub, ag.self.MAC, ⟨0, rfl⟩⟩ : TCmd), zOp, ⟨0, rfl⟩, ⟨0, rfl⟩⟩ : TReq)) (cReq (⟨⟨4, rfl⟩, (⟨⟨1, rfl⟩, ag.self.Host, ag.wish, ag.self.Pub, ag.self.MAC, ⟨0, rfl⟩⟩ : TCmd), zOp, ⟨0, rfl⟩, ⟨0, rfl⟩⟩ : TReq)) hs m ty89 s1 ?_
    clear m w38; intro w43 m
    refine wpList_nil (n_then ⟨(m.sub (.c r0 .n)), ?_⟩)
    refine sh_ (i := 19) rfl hs (m.sub (.c r0 .n)) (ok_assign rfl) ?_
    clear hs a; intro a hs
    refine h_done (by kernel_rfl) (n_then ?_)
    refine wp_ret ?_
    refine leave hs (vs := [.agg ⟨cReq (⟨⟨4, rfl⟩, (⟨⟨1, rfl⟩, ag.self.Host, ag.wish, ag.self.Pub, ag.self.MAC, ⟨0, rfl⟩⟩ : TCmd), zOp, ⟨0, rfl⟩, ⟨0, rfl⟩⟩ : TReq)⟩, .bool false]) rfl ⟨resv_cell (cs := cReq (⟨⟨4, rfl⟩, (⟨⟨1, rfl⟩, ag.self.Host, ag.wish, ag.self.Pub, ag.self.MAC, ⟨0, rfl⟩⟩ : TCmd), zOp, ⟨0, rfl⟩, ⟨0, rfl⟩⟩ : TReq)) m rfl ty89 r1 rfl, rfl, trivial⟩ ?_
    refine ⟨?_, m.sub .n⟩
    have q44 : ((⟨⟨4, rfl⟩, (⟨⟨1, rfl⟩, ag.self.Host, ag.wish, ag.self.Pub, ag.self.MAC, ⟨0, rfl⟩⟩ : TCmd), zOp, ⟨0, rfl⟩, ⟨0, rfl⟩⟩ : TReq) : TReq) = acqQ ag := by clear hs m; exact acqQ_f (mine_f2 (by assumption) (by assumption))
    have q45 : (false : Bool) = acqB ag := by clear hs m; exact acqB_c (mine_f2 (by assumption) (by assumption)) (by assumption)
    (rw [q44, q45]; rfl)
  ·have hb25p := ne_of_beq_false hb25
   refine q_out hs rfl rfl hb25 rfl ?_
   clear hs a; intro a hs
   refine q_out hs rfl rfl hb25 rfl ?_
   clear hs a; intro a hs
   refine q_out hs rfl rfl hb25 rfl ?_
   clear hs a; intro a hs
   refine q_out hs rfl rfl hb25 rfl ?_
   clear hs a; intro a hs
   refine q_out hs rfl rfl hb25 rfl ?_
   clear hs a; intro a hs
   refine q_out hs rfl rfl hb25 rfl ?_
   clear hs a; intro a hs
   refine q_out hs rfl rfl hb25 rfl ?_
   clear hs a; intro a hs
   refine q_out hs rfl rfl hb25 rfl ?_
   clear hs a; intro a hs
   refine q_out hs rfl rfl hb25 rfl ?_
   clear hs a; intro a hs
   refine q_out hs rfl rfl hb25 rfl ?_
   clear hs a; intro a hs
   refine q_out hs rfl rfl hb25 rfl ?_
   clear hs a; intro a hs
   refine q_out hs rfl rfl hb25 rfl ?_
   clear hs a; intro a hs
   refine q_out hs rfl rfl hb25 rfl ?_
   clear hs a; intro a hs
   refine q_out hs rfl rfl hb25 rfl ?_
   clear hs a; intro a hs
   refine sq_ hs (ok_pick (r := .bool false) rfl rfl rfl (by rw [hb25]; rfl)) ?_
   clear hs a; intro a hs
   refine wpQuiet_nil ?_; clear m w18; intro w46 m
   refine c_false hs rfl rfl ?_
   refine wp_skip ?_
   refine n_then ?_
   refine c_drawH (Hp w0 (hh w0) [Bx p16 89 (cReq zReq)]) m mo ?_; clear m w46; intro w48 m
   refine sh_ (i := 0) rfl hs (m.sub (.c r0 .n)) (ok_move rfl) (bh_ (i := 1) rfl (m.sub (.c r0 .n)) (ok_nilCheck rfl) (bh_ (i := 2) rfl (m.sub (.c r0 .n)) (ok_fieldAddr (r := 0) rfl fd135_0 ty61 rfl) (bh_ (i := 3) rfl (m.sub (.c r0 .n)) (ok_fieldAddr (r := 0) rfl fd61_0 ty3 rfl) (bh_ (i := 4) rfl (m.sub (.c r0 .n)) (ok_load_sc rfl ty3 (fr_at hx8) rfl) (bh_ (i := 5) rfl (m.sub (.c r0 .n)) (ok_move rfl) (bh_ (i := 6) rfl (m.sub (.c r0 .n)) (ok_nilCheck rfl) (bh_ (i := 7) rfl (m.sub (.c r0 .n)) (ok_fieldAddr (r := 55) rfl fd135_12 ty44 rfl) (bh_ (i := 8) rfl (m.sub (.c r0 .n)) (ok_load_ag (vs := cPrefix ag.wish) rfl ty44 (fr_at hx8) (by kernel_rfl) (by kernel_rfl)) (bh_ (i := 9) rfl (m.sub (.c r0 .n)) (ok_move rfl) (bh_ (i := 10) rfl (m.sub (.c r0 .n)) (ok_nilCheck rfl) (bh_ (i := 11) rfl (m.sub (.c r0 .n)) (ok_fieldAddr (r := 0) rfl fd135_0 ty61 rfl) ?_)))))))))))
   clear hs a; intro a hs
   refine sh_ (i := 12) rfl hs (m.sub (.c r0 .n)) (ok_fieldAddr (r := 1) rfl fd61_1 ty42 rfl) (bh_ (i := 13) rfl (m.sub (.c r0 .n)) (ok_load_sc rfl ty42 (fr_at hx8) rfl) (bh_ (i := 14) rfl (m.sub (.c r0 .n)) (ok_move rfl) (bh_ (i := 15) rfl (m.sub (.c r0 .n)) (ok_nilCheck rfl) (bh_ (i := 16) rfl (m.sub (.c r0 .n)) (ok_fieldAddr (r := 0) rfl fd135_0 ty61 rfl) (bh_ (i := 17) rfl (m.sub (.c r0 .n)) (ok_fieldAddr (r := 2) rfl fd61_2 ty46 rfl) (bh_ (i := 18) rfl (m.sub (.c r0 .n)) (ok_load_ag (vs := cMAC ag.self.MAC) rfl ty46 (fr_at hx8) (by kernel_rfl) (by kernel_rfl)) (bh_ (i := 19) rfl (m.sub (.c r0 .n)) (ok_build (cs := cCmd (⟨⟨1, rfl⟩, ag.self.Host, ag.wish, ag.self.Pub, ag.self.MAC, ⟨0, rfl⟩⟩ : TCmd)) st87 ze87 rfl (by kernel_rfl)) ?_)))))))
   clear hs a; intro a hs
   refine h_eff (i := 20) (by kernel_rfl) rfl ?_
   refine r_alloc hs m ze87 rfl ?_
   clear m hs a w48; intro p49 w50 m a hs
   refine wpList_nil (n_then ⟨(m.sub (.c r1 .n)), ?_⟩)
   refine h_eff (i := 21) (by kernel_rfl) rfl ?_
   refine st_ (cCmd (⟨⟨1, rfl⟩, ag.self.Host, ag.wish, ag.self.Pub, ag.self.MAC, ⟨0, rfl⟩⟩ : TCmd)) (cCmd (⟨⟨1, rfl⟩, ag.self.Host, ag.wish, ag.self.Pub, ag.self.MAC, ⟨0, rfl⟩⟩ : TCmd)) hs m ty87 s0 ?_
   clear m w50; intro w51 m
   refine wpList_nil (n_then ⟨(m.sub (.c r1 .n)), ?_⟩)
   refine h_done (by kernel_rfl) (n_then ?_)
   refine c_drawH (Hp w0 (hh w0) [Bx p49 87 (cCmd (⟨⟨1, rfl⟩, ag.self.Host, ag.wish, ag.self.Pub, ag.self.MAC, ⟨0, rfl⟩⟩ : TCmd))]) m mo ?_; clear m w51; intro w52 m
   refine sh_ (i := 0) rfl hs (m.sub (.c r0 .n)) (ok_load_ag (vs := cCmd (⟨⟨1, rfl⟩, ag.self.Host, ag.wish, ag.self.Pub, ag.self.MAC, ⟨0, rfl⟩⟩ : TCmd)) rfl ty87 (bx_at r0) (by kernel_rfl) (by kernel_rfl)) (bh_ (i := 1) rfl (m.sub (.c r0 .n)) (ok_build (cs := cReq (⟨⟨4, rfl⟩, (⟨⟨1, rfl⟩, ag.self.Host, ag.wish, ag.self.Pub, ag.self.MAC, ⟨0, rfl⟩⟩ : TCmd), zOp, ⟨0, rfl⟩, ⟨0, rfl⟩⟩ : TReq)) st89 ze89 rfl (by kernel_rfl)) (bh_ (i := 2) rfl (m.sub (.c r0 .n)) (ok_move rfl) (bh_ (i := 3) rfl (m.sub (.c r0 .n)) (ok_nilCheck rfl) (bh_ (i := 4) rfl (m.sub (.c r0 .n)) (ok_fieldAddr (r := 49) rfl fd135_6 ty2 rfl) (bh_ (i := 5) rfl (m.sub (.c r0 .n)) (ok_load_sc rfl ty2 (fr_at hx8) rfl) (bh_ (i := 6) rfl (m.sub (.c r0 .n)) (ok_move rfl) (bh_ (i := 7) rfl (m.sub (.c r0 .n)) (ok_nilCheck rfl) (bh_ (i := 8) rfl (m.sub (.c r0 .n)) (ok_fieldAddr (r := 53) rfl fd135_10 ty2 rfl) (bh_ (i := 9) rfl (m.sub (.c r0 .n)) (ok_load_sc rfl ty2 (fr_at hx8) rfl) (bh_ (i := 10) rfl (m.sub (.c r0 .n)) (ok_bin rfl rfl rfl) (bh_ (i := 11) rfl (m.sub (.c r0 .n)) (ok_move rfl) ?_)))))))))))
   clear hs a; intro a hs
   rcases Bool.eq_false_or_eq_true (decide (ag.cursor.v ≥ ag.granted.v)) with hb53 | hb53
   ·have hb53p := of_decide_eq_true hb53
    refine h_okg (i := 12) rfl (by kernel_rfl) (by kernel_rfl) (by kernel_rfl) hs (m.sub (.c r0 .n)) rfl rfl hb53 (ok_move rfl) rfl ?_
    clear hs a; intro a hs
    refine h_okg (i := 13) rfl (by kernel_rfl) (by kernel_rfl) (by kernel_rfl) hs (m.sub (.c r0 .n)) rfl rfl hb53 (ok_nilCheck rfl) rfl ?_
    clear hs a; intro a hs
    refine h_okg (i := 14) rfl (by kernel_rfl) (by kernel_rfl) (by kernel_rfl) hs (m.sub (.c r0 .n)) rfl rfl hb53 (ok_fieldAddr (r := 54) rfl fd135_11 ty4 rfl) rfl ?_
    clear hs a; intro a hs
    refine h_okg (i := 15) rfl (by kernel_rfl) (by kernel_rfl) (by kernel_rfl) hs (m.sub (.c r0 .n)) rfl rfl hb53 (ok_load_sc rfl ty4 (fr_at hx8) rfl) rfl ?_
    clear hs a; intro a hs
    refine h_okg (i := 16) rfl (by kernel_rfl) (by kernel_rfl) (by kernel_rfl) hs (m.sub (.c r0 .n)) rfl rfl hb53 (ok_not rfl) rfl ?_
    clear hs a; intro a hs
    refine sh_ (i := 17) rfl hs (m.sub (.c r0 .n)) (ok_pick (r := .bool (!ag.waiting)) rfl rfl rfl (by rw [hb53]; rfl)) ?_
    clear hs a; intro a hs
    refine h_eff (i := 18) (by kernel_rfl) rfl ?_
    refine st_ (cReq (⟨⟨4, rfl⟩, (⟨⟨1, rfl⟩, ag.self.Host, ag.wish, ag.self.Pub, ag.self.MAC, ⟨0, rfl⟩⟩ : TCmd), zOp, ⟨0, rfl⟩, ⟨0, rfl⟩⟩ : TReq)) (cReq (⟨⟨4, rfl⟩, (⟨⟨1, rfl⟩, ag.self.Host, ag.wish, ag.self.Pub, ag.self.MAC, ⟨0, rfl⟩⟩ : TCmd), zOp, ⟨0, rfl⟩, ⟨0, rfl⟩⟩ : TReq)) hs m ty89 s1 ?_
    clear m w52; intro w54 m
    refine wpList_nil (n_then ⟨(m.sub (.c r0 .n)), ?_⟩)
    refine sh_ (i := 19) rfl hs (m.sub (.c r0 .n)) (ok_assign rfl) ?_
    clear hs a; intro a hs
    refine h_done (by kernel_rfl) (n_then ?_)
    refine wp_ret ?_
    refine leave hs (vs := [.agg ⟨cReq (⟨⟨4, rfl⟩, (⟨⟨1, rfl⟩, ag.self.Host, ag.wish, ag.self.Pub, ag.self.MAC, ⟨0, rfl⟩⟩ : TCmd), zOp, ⟨0, rfl⟩, ⟨0, rfl⟩⟩ : TReq)⟩, .bool (!ag.waiting)]) rfl ⟨resv_cell (cs := cReq (⟨⟨4, rfl⟩, (⟨⟨1, rfl⟩, ag.self.Host, ag.wish, ag.self.Pub, ag.self.MAC, ⟨0, rfl⟩⟩ : TCmd), zOp, ⟨0, rfl⟩, ⟨0, rfl⟩⟩ : TReq)) m rfl ty89 r1 rfl, rfl, trivial⟩ ?_
    refine ⟨?_, m.sub .n⟩
    have q55 : ((⟨⟨4, rfl⟩, (⟨⟨1, rfl⟩, ag.self.Host, ag.wish, ag.self.Pub, ag.self.MAC, ⟨0, rfl⟩⟩ : TCmd), zOp, ⟨0, rfl⟩, ⟨0, rfl⟩⟩ : TReq) : TReq) = acqQ ag := by clear hs m; exact acqQ_f (mine_f1 (by assumption) (by assumption))
    have q56 : (!ag.waiting : Bool) = acqB ag := by clear hs m; exact acqB_w (mine_f1 (by assumption) (by assumption)) (by assumption)
    (rw [q55, q56]; rfl)
   ·have hb53p := of_decide_eq_false hb53
    refine h_out (i := 12) rfl (by kernel_rfl) (by kernel_rfl) (by kernel_rfl) hs (m.sub (.c r0 .n)) rfl rfl hb53 rfl ?_
    clear hs a; intro a hs
    refine h_out (i := 13) rfl (by kernel_rfl) (by kernel_rfl) (by kernel_rfl) hs (m.sub (.c r0 .n)) rfl rfl hb53 rfl ?_
    clear hs a; intro a hs
    refine h_out (i := 14) rfl (by kernel_rfl) (by kernel_rfl) (by kernel_rfl) hs (m.sub (.c r0 .n)) rfl rfl hb53 rfl ?_
    clear hs a; intro a hs
    refine h_out (i := 15) rfl (by kernel_rfl) (by kernel_rfl) (by kernel_rfl) hs (m.sub (.c r0 .n)) rfl rfl hb53 rfl ?_
    clear hs a; intro a hs
    refine h_out (i := 16) rfl (by kernel_rfl) (by kernel_rfl) (by kernel_rfl) hs (m.sub (.c r0 .n)) rfl rfl hb53 rfl ?_
    clear hs a; intro a hs
    refine sh_ (i := 17) rfl hs (m.sub (.c r0 .n)) (ok_pick (r := .bool false) rfl rfl rfl (by rw [hb53]; rfl)) ?_
    clear hs a; intro a hs
    refine h_eff (i := 18) (by kernel_rfl) rfl ?_
    refine st_ (cReq (⟨⟨4, rfl⟩, (⟨⟨1, rfl⟩, ag.self.Host, ag.wish, ag.self.Pub, ag.self.MAC, ⟨0, rfl⟩⟩ : TCmd), zOp, ⟨0, rfl⟩, ⟨0, rfl⟩⟩ : TReq)) (cReq (⟨⟨4, rfl⟩, (⟨⟨1, rfl⟩, ag.self.Host, ag.wish, ag.self.Pub, ag.self.MAC, ⟨0, rfl⟩⟩ : TCmd), zOp, ⟨0, rfl⟩, ⟨0, rfl⟩⟩ : TReq)) hs m ty89 s1 ?_
    clear m w52; intro w57 m
    refine wpList_nil (n_then ⟨(m.sub (.c r0 .n)), ?_⟩)
    refine sh_ (i := 19) rfl hs (m.sub (.c r0 .n)) (ok_assign rfl) ?_
    clear hs a; intro a hs
    refine h_done (by kernel_rfl) (n_then ?_)
    refine wp_ret ?_
    refine leave hs (vs := [.agg ⟨cReq (⟨⟨4, rfl⟩, (⟨⟨1, rfl⟩, ag.self.Host, ag.wish, ag.self.Pub, ag.self.MAC, ⟨0, rfl⟩⟩ : TCmd), zOp, ⟨0, rfl⟩, ⟨0, rfl⟩⟩ : TReq)⟩, .bool false]) rfl ⟨resv_cell (cs := cReq (⟨⟨4, rfl⟩, (⟨⟨1, rfl⟩, ag.self.Host, ag.wish, ag.self.Pub, ag.self.MAC, ⟨0, rfl⟩⟩ : TCmd), zOp, ⟨0, rfl⟩, ⟨0, rfl⟩⟩ : TReq)) m rfl ty89 r1 rfl, rfl, trivial⟩ ?_
    refine ⟨?_, m.sub .n⟩
    have q58 : ((⟨⟨4, rfl⟩, (⟨⟨1, rfl⟩, ag.self.Host, ag.wish, ag.self.Pub, ag.self.MAC, ⟨0, rfl⟩⟩ : TCmd), zOp, ⟨0, rfl⟩, ⟨0, rfl⟩⟩ : TReq) : TReq) = acqQ ag := by clear hs m; exact acqQ_f (mine_f1 (by assumption) (by assumption))
    have q59 : (false : Bool) = acqB ag := by clear hs m; exact acqB_c (mine_f1 (by assumption) (by assumption)) (by assumption)
    (rw [q58, q59]; rfl)
 ·have hb19p := of_decide_eq_false hb19
  refine q_out hs rfl rfl hb19 rfl ?_
  clear hs a; intro a hs
  refine q_out hs rfl rfl hb19 rfl ?_
  clear hs a; intro a hs
  refine q_out hs rfl rfl hb19 rfl ?_
  clear hs a; intro a hs
  refine q_out hs rfl rfl hb19 rfl ?_
  clear hs a; intro a hs
  refine q_out hs rfl rfl hb19 rfl ?_
  clear hs a; intro a hs
  refine q_out hs rfl rfl hb19 rfl ?_
  clear hs a; intro a hs
  refine q_out hs rfl rfl hb19 rfl ?_
  clear hs a; intro a hs
  refine q_out hs rfl rfl hb19 rfl ?_
  clear hs a; intro a hs
  refine q_out hs rfl rfl hb19 rfl ?_
  clear hs a; intro a hs
  refine q_out hs rfl rfl hb19 rfl ?_
  clear hs a; intro a hs
  refine q_out hs rfl rfl hb19 rfl ?_
  clear hs a; intro a hs
  refine q_out hs rfl rfl hb19 rfl ?_
  clear hs a; intro a hs
  refine q_out hs rfl rfl hb19 rfl ?_
  clear hs a; intro a hs
  refine q_out hs rfl rfl hb19 rfl ?_
  clear hs a; intro a hs
  refine sq_ hs (ok_pick (r := .bool false) rfl rfl rfl (by rw [hb19]; rfl)) (bq_ (ok_move rfl) ?_)
  clear hs a; intro a hs
  refine q_out hs rfl rfl rfl rfl ?_
  clear hs a; intro a hs
  refine q_out hs rfl rfl rfl rfl ?_
  clear hs a; intro a hs
  refine q_out hs rfl rfl rfl rfl ?_
  clear hs a; intro a hs
  refine q_out hs rfl rfl rfl rfl ?_
  clear hs a; intro a hs
  refine q_out hs rfl rfl rfl rfl ?_
  clear hs a; intro a hs
  refine q_out hs rfl rfl rfl rfl ?_
  clear hs a; intro a hs
  refine q_out hs rfl rfl rfl rfl ?_
  clear hs a; intro a hs
  refine q_out hs rfl rfl rfl rfl ?_
  clear hs a; intro a hs
  refine q_out hs rfl rfl rfl rfl ?_
  clear hs a; intro a hs
  refine q_out hs rfl rfl rfl rfl ?_
  clear hs a; intro a hs
  refine q_out hs rfl rfl rfl rfl ?_
  clear hs a; intro a hs
  refine q_out hs rfl rfl rfl rfl ?_
  clear hs a; intro a hs
  refine q_out hs rfl rfl rfl rfl ?_
  clear hs a; intro a hs
  refine q_out hs rfl rfl rfl rfl ?_
  clear hs a; intro a hs
  refine sq_ hs (ok_pick (r := .bool false) rfl rfl rfl rfl) ?_
  clear hs a; intro a hs
  refine wpQuiet_nil ?_; clear m w18; intro w60 m
  refine c_false hs rfl rfl ?_
  refine wp_skip ?_
  refine n_then ?_
  refine c_drawH (Hp w0 (hh w0) [Bx p16 89 (cReq zReq)]) m mo ?_; clear m w60; intro w62 m
  refine sh_ (i := 0) rfl hs (m.sub (.c r0 .n)) (ok_move rfl) (bh_ (i := 1) rfl (m.sub (.c r0 .n)) (ok_nilCheck rfl) (bh_ (i := 2) rfl (m.sub (.c r0 .n)) (ok_fieldAddr (r := 0) rfl fd135_0 ty61 rfl) (bh_ (i := 3) rfl (m.sub (.c r0 .n)) (ok_fieldAddr (r := 0) rfl fd61_0 ty3 rfl) (bh_ (i := 4) rfl (m.sub (.c r0 .n)) (ok_load_sc rfl ty3 (fr_at hx8) rfl) (bh_ (i := 5) rfl (m.sub (.c r0 .n)) (ok_move rfl) (bh_ (i := 6) rfl (m.sub (.c r0 .n)) (ok_nilCheck rfl) (bh_ (i := 7) rfl (m.sub (.c r0 .n)) (ok_fieldAddr (r := 55) rfl fd135_12 ty44 rfl) (bh_ (i := 8) rfl (m.sub (.c r0 .n)) (ok_load_ag (vs := cPrefix ag.wish) rfl ty44 (fr_at hx8) (by kernel_rfl) (by kernel_rfl)) (bh_ (i := 9) rfl (m.sub (.c r0 .n)) (ok_move rfl) (bh_ (i := 10) rfl (m.sub (.c r0 .n)) (ok_nilCheck rfl) (bh_ (i := 11) rfl (m.sub (.c r0 .n)) (ok_fieldAddr (r := 0) rfl fd135_0 ty61 rfl) ?_)))))))))))
  clear hs a; intro a hs
  refine sh_ (i := 12) rfl hs (m.sub (.c r0 .n)) (ok_fieldAddr (r := 1) rfl fd61_1 ty42 rfl) (bh_ (i := 13) rfl (m.sub (.c r0 .n)) (ok_load_sc rfl ty42 (fr_at hx8) rfl) (bh_ (i := 14) rfl (m.sub (.c r0 .n)) (ok_move rfl) (bh_ (i := 15) rfl (m.sub (.c r0 .n)) (ok_nilCheck rfl) (bh_ (i := 16) rfl (m.sub (.c r0 .n)) (ok_fieldAddr (r := 0) rfl fd135_0 ty61 rfl) (bh_ (i := 17) rfl (m.sub (.c r0 .n)) (ok_fieldAddr (r := 2) rfl fd61_2 ty46 rfl) (bh_ (i := 18) rfl (m.sub (.c r0 .n)) (ok_load_ag (vs := cMAC ag.self.MAC) rfl ty46 (fr_at hx8) (by kernel_rfl) (by kernel_rfl)) (bh_ (i := 19) rfl (m.sub (.c r0 .n)) (ok_build (cs := cCmd (⟨⟨1, rfl⟩, ag.self.Host, ag.wish, ag.self.Pub, ag.self.MAC, ⟨0, rfl⟩⟩ : TCmd)) st87 ze87 rfl (by kernel_rfl)) ?_)))))))
  clear hs a; intro a hs
  refine h_eff (i := 20) (by kernel_rfl) rfl ?_
  refine r_alloc hs m ze87 rfl ?_
  clear m hs a w62; intro p63 w64 m a hs
  refine wpList_nil (n_then ⟨(m.sub (.c r1 .n)), ?_⟩)
  refine h_eff (i := 21) (by kernel_rfl) rfl ?_
  refine st_ (cCmd (⟨⟨1, rfl⟩, ag.self.Host, ag.wish, ag.self.Pub, ag.self.MAC, ⟨0, rfl⟩⟩ : TCmd)) (cCmd (⟨⟨1, rfl⟩, ag.self.Host, ag.wish, ag.self.Pub, ag.self.MAC, ⟨0, rfl⟩⟩ : TCmd)) hs m ty87 s0 ?_
  clear m w64; intro w65 m
  refine wpList_nil (n_then ⟨(m.sub (.c r1 .n)), ?_⟩)
  refine h_done (by kernel_rfl) (n_then ?_)
  refine c_drawH (Hp w0 (hh w0) [Bx p63 87 (cCmd (⟨⟨1, rfl⟩, ag.self.Host, ag.wish, ag.self.Pub, ag.self.MAC, ⟨0, rfl⟩⟩ : TCmd))]) m mo ?_; clear m w65; intro w66 m
  refine sh_ (i := 0) rfl hs (m.sub (.c r0 .n)) (ok_load_ag (vs := cCmd (⟨⟨1, rfl⟩, ag.self.Host, ag.wish, ag.self.Pub, ag.self.MAC, ⟨0, rfl⟩⟩ : TCmd)) rfl ty87 (bx_at r0) (by kernel_rfl) (by kernel_rfl)) (bh_ (i := 1) rfl (m.sub (.c r0 .n)) (ok_build (cs := cReq (⟨⟨4, rfl⟩, (⟨⟨1, rfl⟩, ag.self.Host, ag.wish, ag.self.Pub, ag.self.MAC, ⟨0, rfl⟩⟩ : TCmd), zOp, ⟨0, rfl⟩, ⟨0, rfl⟩⟩ : TReq)) st89 ze89 rfl (by kernel_rfl)) (bh_ (i := 2) rfl (m.sub (.c r0 .n)) (ok_move rfl) (bh_ (i := 3) rfl (m.sub (.c r0 .n)) (ok_nilCheck rfl) (bh_ (i := 4) rfl (m.sub (.c r0 .n)) (ok_fieldAddr (r := 49) rfl fd135_6 ty2 rfl) (bh_ (i := 5) rfl (m.sub (.c r0 .n)) (ok_load_sc rfl ty2 (fr_at hx8) rfl) (bh_ (i := 6) rfl (m.sub (.c r0 .n)) (ok_move rfl) (bh_ (i := 7) rfl (m.sub (.c r0 .n)) (ok_nilCheck rfl) (bh_ (i := 8) rfl (m.sub (.c r0 .n)) (ok_fieldAddr (r := 53) rfl fd135_10 ty2 rfl) (bh_ (i := 9) rfl (m.sub (.c r0 .n)) (ok_load_sc rfl ty2 (fr_at hx8) rfl) (bh_ (i := 10) rfl (m.sub (.c r0 .n)) (ok_bin rfl rfl rfl) (bh_ (i := 11) rfl (m.sub (.c r0 .n)) (ok_move rfl) ?_)))))))))))
  clear hs a; intro a hs
  rcases Bool.eq_false_or_eq_true (decide (ag.cursor.v ≥ ag.granted.v)) with hb67 | hb67
  ·have hb67p := of_decide_eq_true hb67
   refine h_okg (i := 12) rfl (by kernel_rfl) (by kernel_rfl) (by kernel_rfl) hs (m.sub (.c r0 .n)) rfl rfl hb67 (ok_move rfl) rfl ?_
   clear hs a; intro a hs
   refine h_okg (i := 13) rfl (by kernel_rfl) (by kernel_rfl) (by kernel_rfl) hs (m.sub (.c r0 .n)) rfl rfl hb67 (ok_nilCheck rfl) rfl ?_
   clear hs a; intro a hs
   refine h_okg (i := 14) rfl (by kernel_rfl) (by kernel_rfl) (by kernel_rfl) hs (m.sub (.c r0 .n)) rfl rfl hb67 (ok_fieldAddr (r := 54) rfl fd135_11 ty4 rfl) rfl ?_
   clear hs a; intro a hs
   refine h_okg (i := 15) rfl (by kernel_rfl) (by kernel_rfl) (by kernel_rfl) hs (m.sub (.c r0 .n)) rfl rfl hb67 (ok_load_sc rfl ty4 (fr_at hx8) rfl) rfl ?_
   clear hs a; intro a hs
   refine h_okg (i := 16) rfl (by kernel_rfl) (by kernel_rfl) (by kernel_rfl) hs (m.sub (.c r0 .n)) rfl rfl hb67 (ok_not rfl) rfl ?_
   clear hs a; intro a hs
   refine sh_ (i := 17) rfl hs (m.sub (.c r0 .n)) (ok_pick (r := .bool (!ag.waiting)) rfl rfl rfl (by rw [hb67]; rfl)) ?_
   clear hs a; intro a hs
   refine h_eff (i := 18) (by kernel_rfl) rfl ?_
   refine st_ (cReq (⟨⟨4, rfl⟩, (⟨⟨1, rfl⟩, ag.self.Host, ag.wish, ag.self.Pub, ag.self.MAC, ⟨0, rfl⟩⟩ : TCmd), zOp, ⟨0, rfl⟩, ⟨0, rfl⟩⟩ : TReq)) (cReq (⟨⟨4, rfl⟩, (⟨⟨1, rfl⟩, ag.self.Host, ag.wish, ag.self.Pub, ag.self.MAC, ⟨0, rfl⟩⟩ : TCmd), zOp, ⟨0, rfl⟩, ⟨0, rfl⟩⟩ : TReq)) hs m ty89 s1 ?_
   clear m w66; intro w68 m
   refine wpList_nil (n_then ⟨(m.sub (.c r0 .n)), ?_⟩)
   refine sh_ (i := 19) rfl hs (m.sub (.c r0 .n)) (ok_assign rfl) ?_
   clear hs a; intro a hs
   refine h_done (by kernel_rfl) (n_then ?_)
   refine wp_ret ?_
   refine leave hs (vs := [.agg ⟨cReq (⟨⟨4, rfl⟩, (⟨⟨1, rfl⟩, ag.self.Host, ag.wish, ag.self.Pub, ag.self.MAC, ⟨0, rfl⟩⟩ : TCmd), zOp, ⟨0, rfl⟩, ⟨0, rfl⟩⟩ : TReq)⟩, .bool (!ag.waiting)]) rfl ⟨resv_cell (cs := cReq (⟨⟨4, rfl⟩, (⟨⟨1, rfl⟩, ag.self.Host, ag.wish, ag.self.Pub, ag.self.MAC, ⟨0, rfl⟩⟩ : TCmd), zOp, ⟨0, rfl⟩, ⟨0, rfl⟩⟩ : TReq)) m rfl ty89 r1 rfl, rfl, trivial⟩ ?_
   refine ⟨?_, m.sub .n⟩
   have q69 : ((⟨⟨4, rfl⟩, (⟨⟨1, rfl⟩, ag.self.Host, ag.wish, ag.self.Pub, ag.self.MAC, ⟨0, rfl⟩⟩ : TCmd), zOp, ⟨0, rfl⟩, ⟨0, rfl⟩⟩ : TReq) : TReq) = acqQ ag := by clear hs m; exact acqQ_f (mine_f0 (by omega))
   have q70 : (!ag.waiting : Bool) = acqB ag := by clear hs m; exact acqB_w (mine_f0 (by omega)) (by assumption)
   (rw [q69, q70]; rfl)
  ·have hb67p := of_decide_eq_false hb67
   refine h_out (i := 12) rfl (by kernel_rfl) (by kernel_rfl) (by kernel_rfl) hs (m.sub (.c r0 .n)) rfl rfl hb67 rfl ?_
   clear hs a; intro a hs
   refine h_out (i := 13) rfl (by kernel_rfl) (by kernel_rfl) (by kernel_rfl) hs (m.sub (.c r0 .n)) rfl rfl hb67 rfl ?_
   clear hs a; intro a hs
   refine h_out (i := 14) rfl (by kernel_rfl) (by kernel_rfl) (by kernel_rfl) hs (m.sub (.c r0 .n)) rfl rfl hb67 rfl ?_
   clear hs a; intro a hs
   refine h_out (i := 15) rfl (by kernel_rfl) (by kernel_rfl) (by kernel_rfl) hs (m.sub (.c r0 .n)) rfl rfl hb67 rfl ?_
   clear hs a; intro a hs
   refine h_out (i := 16) rfl (by kernel_rfl) (by kernel_rfl) (by kernel_rfl) hs (m.sub (.c r0 .n)) rfl rfl hb67 rfl ?_
   clear hs a; intro a hs
   refine sh_ (i := 17) rfl hs (m.sub (.c r0 .n)) (ok_pick (r := .bool false) rfl rfl rfl (by rw [hb67]; rfl)) ?_
   clear hs a; intro a hs
   refine h_eff (i := 18) (by kernel_rfl) rfl ?_
   refine st_ (cReq (⟨⟨4, rfl⟩, (⟨⟨1, rfl⟩, ag.self.Host, ag.wish, ag.self.Pub, ag.self.MAC, ⟨0, rfl⟩⟩ : TCmd), zOp, ⟨0, rfl⟩, ⟨0, rfl⟩⟩ : TReq)) (cReq (⟨⟨4, rfl⟩, (⟨⟨1, rfl⟩, ag.self.Host, ag.wish, ag.self.Pub, ag.self.MAC, ⟨0, rfl⟩⟩ : TCmd), zOp, ⟨0, rfl⟩, ⟨0, rfl⟩⟩ : TReq)) hs m ty89 s1 ?_
   clear m w66; intro w71 m
   refine wpList_nil (n_then ⟨(m.sub (.c r0 .n)), ?_⟩)
   refine sh_ (i := 19) rfl hs (m.sub (.c r0 .n)) (ok_assign rfl) ?_
   clear hs a; intro a hs
   refine h_done (by kernel_rfl) (n_then ?_)
   refine wp_ret ?_
   refine leave hs (vs := [.agg ⟨cReq (⟨⟨4, rfl⟩, (⟨⟨1, rfl⟩, ag.self.Host, ag.wish, ag.self.Pub, ag.self.MAC, ⟨0, rfl⟩⟩ : TCmd), zOp, ⟨0, rfl⟩, ⟨0, rfl⟩⟩ : TReq)⟩, .bool false]) rfl ⟨resv_cell (cs := cReq (⟨⟨4, rfl⟩, (⟨⟨1, rfl⟩, ag.self.Host, ag.wish, ag.self.Pub, ag.self.MAC, ⟨0, rfl⟩⟩ : TCmd), zOp, ⟨0, rfl⟩, ⟨0, rfl⟩⟩ : TReq)) m rfl ty89 r1 rfl, rfl, trivial⟩ ?_
   refine ⟨?_, m.sub .n⟩
   have q72 : ((⟨⟨4, rfl⟩, (⟨⟨1, rfl⟩, ag.self.Host, ag.wish, ag.self.Pub, ag.self.MAC, ⟨0, rfl⟩⟩ : TCmd), zOp, ⟨0, rfl⟩, ⟨0, rfl⟩⟩ : TReq) : TReq) = acqQ ag := by clear hs m; exact acqQ_f (mine_f0 (by omega))
   have q73 : (false : Bool) = acqB ag := by clear hs m; exact acqB_c (mine_f0 (by omega)) (by assumption)
   (rw [q72, q73]; rfl)
theorem renew_c (pag : Addr) (ag : AgM) (now : Int) (w0 : World) (hag : AgR (hh w0) pag ag) : Pure Tryz.prog 75 [.pointer (some (padd pag 0)), .int .i64 now] (.tuple ⟨[.agg ⟨cReq (renQ ag)⟩, .bool (renB ag now)]⟩) w0 := by
 have hol := ownI_lt (h := ag.self.Host.v) (l := ag.view)
 refine enter (n := 53) Tryz.func75 rfl rfl rfl fun a (hs : St 53 [(0, .pointer (some (padd pag 0))), (1, .int .i64 now)] a) => ?_
 have m := Hp.start w0
 have hag0 := hag
 obtain ⟨x1, x2, x3, x4, x5, x6, x7, hx8, hx9, hx10, hx11, hx12, hx13, hx14, hx15⟩ := hag0
 have lx2 := hx10.bd
 have lx3 := hx11.bd
 have lx4 := hx12.bd
 have lx5 := hx13.bd
 have lx6 := hx14.bd
 have lx7 := hx15.bd
 refine c_reg ?_
 refine r_alloc hs m ze89 rfl ?_
 clear m hs a; intro p16 w17 m a hs
 refine s_ hs m (ok_assign rfl) (bn_ (bc_ (b_ m (ok_move rfl) ?_)))
 clear hs a; intro a hs
 refine r_callP hs m rfl rfl ca84 rfl (own_c pag ag _ (hag.le m.frame) ) rfl ?_
 clear m hs a w17; intro w18 m a hs
 refine s_ hs m (ok_assign rfl) (bn_ ?_)
 clear hs a; intro a hs
 refine c_seq ?_
 refine c_reg ?_
 refine s_ hs m (ok_move rfl) (b_ m (ok_bin rfl rfl rfl) (b_ m (ok_move rfl) ?_))
 clear hs a; intro a hs
 refine l_cut (.c (.c (.c (.c (.c (.n)))))) (fun a w => St 53 [(0, .pointer (some (padd pag 0))), (1, .int .i64 now), (4, .pointer (some (padd p16 0))), (6, .int .i64 (ownI ag.self.Host.v ag.view)), (18, .bool ((decide ((ownI ag.self.Host.v ag.view) < 0)) || ag.renewed))] a ∧ Hp w0 (hh w0) [Bx p16 89 (cReq zReq)] w) ?_ ?_
 ·rcases Bool.eq_false_or_eq_true (decide ((ownI ag.self.Host.v ag.view) < 0)) with hb19 | hb19
  ·have hb19p := of_decide_eq_true hb19
   refine so_ hs hb19 (bo_ hb19 (bo_ hb19 (bo_ hb19 (b_ m (ok_pick (r := .bool ((decide ((ownI ag.self.Host.v ag.view) < 0)) || ag.renewed)) rfl rfl rfl (by rw [hb19]; rfl)) ?_))))
   clear hs a; intro a hs
   exact wpList_nil (n_then ⟨hs.to ⟨rfl, rfl, rfl, rfl, rfl, trivial⟩, m⟩)
  ·have hb19p := of_decide_eq_false hb19
   refine sg_ hs hb19 m (ok_move rfl) (bg_ hb19 m (ok_nilCheck rfl) (bg_ hb19 m (ok_fieldAddr (r := 57) rfl fd135_13 ty4 rfl) (bg_ hb19 m (ok_load_sc rfl ty4 (fr_at hx8) rfl) (b_ m (ok_pick (r := .bool ((decide ((ownI ag.self.Host.v ag.view) < 0)) || ag.renewed)) rfl rfl rfl (by rw [hb19]; rfl)) ?_))))
   clear hs a; intro a hs
   exact wpList_nil (n_then ⟨hs.to ⟨rfl, rfl, rfl, rfl, rfl, trivial⟩, m⟩)
 clear hs m a w18; rintro a w20 ⟨hs, m⟩
 refine wpList_nil (n_then ?_)
 refine c_cond hs rfl (fun h21 => ?_) (fun h21 => ?_)
 ·have h21p := h21; simp only [bp_] at h21p
  refine c_reg ?_
  refine s_ hs m (ok_build (cs := cReq zReq) st89 ze89 rfl (by kernel_rfl)) ?_
  clear hs a; intro a hs
  refine st_ (cReq zReq) (cReq zReq) hs m ty89 s0 ?_
  clear m w20; intro w22 m
  refine s_ hs m (ok_assign rfl) (bn_ ?_)
  clear hs a; intro a hs
  refine wp_ret ?_
  refine ret_then (leave hs (vs := [.agg ⟨cReq zReq⟩, .bool false]) rfl ⟨resv_cell (cs := cReq zReq) m rfl ty89 r0 rfl, rfl, trivial⟩ ?_)
  refine ⟨?_, m.sub .n⟩
  have q23 : (zReq : TReq) = renQ ag := by clear hs m; exact renQ_t (by assumption)
  have q24 : (false : Bool) = renB ag now := by clear hs m; exact renB_t (by assumption)
  (rw [q23, q24]; rfl)
 have h21p := h21; simp only [bp_] at h21p
 refine wp_skip ?_
 refine n_then ?_
 refine c_reg ?_
 refine s_ hs m (ok_move rfl) (b_ m (ok_nilCheck rfl) (b_ m (ok_fieldAddr (r := 48) rfl fd135_5 ty22 rfl) (b_ m (ok_load_sc rfl ty22 (fr_at hx8) rfl) (b_ m (ok_move rfl) ?_))))
 clear hs a; intro a hs
 obtain ⟨e25, he26⟩ := get_of_lt (l := ag.view) (i := (ownI ag.self.Host.v ag.view).toNat) (by omega)
 refine elF (c := cLease) (e := e25) hs m (x := (.tmp 23)) (ix := (.tmp 24)) rfl rfl sl22 ty48 hx14 (by omega) he26 fun p27 hp28 ok29 => ?_
 refine s_ hs m (ok29 _ _ _ _ _) (b_ m (ok_load_ag (vs := cLease e25) rfl ty48 (fr_at hp28) (by kernel_rfl) (by kernel_rfl)) ?_)
 clear hs a; intro a hs
 refine r_alloc hs m ze48 rfl ?_
 clear m hs a w20; intro p30 w31 m a hs
 refine st_ (cLease e25) (cLease e25) hs m ty48 s0 ?_
 clear m w31; intro w32 m
 refine wpList_nil (n_then ?_)
 refine c_drawH (Hp w0 (hh w0) [Bx p30 48 (cLease e25), Bx p16 89 (cReq zReq)]) m mo ?_; clear m w32; intro w33 m
 refine sh_ (i := 0) rfl hs (m.sub (.c r0 (.c r0 .n))) (ok_move rfl) (bh_ (i := 1) rfl (m.sub (.c r0 (.c r0 .n))) (ok_nilCheck rfl) (bh_ (i := 2) rfl (m.sub (.c r0 (.c r0 .n))) (ok_fieldAddr (r := 0) rfl fd135_0 ty61 rfl) (bh_ (i := 3) rfl (m.sub (.c r0 (.c r0 .n))) (ok_fieldAddr (r := 0) rfl fd61_0 ty3 rfl) (bh_ (i := 4) rfl (m.sub (.c r0 (.c r0 .n))) (ok_load_sc rfl ty3 (fr_at hx8) rfl) (bh_ (i := 5) rfl (m.sub (.c r0 (.c r0 .n))) (ok_fieldAddr (r := 1) rfl fd48_1 ty44 rfl) (bh_ (i := 6) rfl (m.sub (.c r0 (.c r0 .n))) (ok_load_ag (vs := cPrefix e25.Subnet) rfl ty44 (bx_at r0) (by kernel_rfl) (by kernel_rfl)) (bh_ (i := 7) rfl (m.sub (.c r0 (.c r0 .n))) (ok_build (cs := cCmd (⟨⟨2, rfl⟩, ag.self.Host, e25.Subnet, ⟨0, rfl⟩, zMAC, ⟨0, rfl⟩⟩ : TCmd)) st87 ze87 rfl (by kernel_rfl)) ?_)))))))
 clear hs a; intro a hs
 refine h_eff (i := 8) (by kernel_rfl) rfl ?_
 refine r_alloc hs m ze87 rfl ?_
 clear m hs a w33; intro p34 w35 m a hs
 refine wpList_nil (n_then ⟨(m.sub (.c r1 (.c r1 .n))), ?_⟩)
 refine h_eff (i := 9) (by kernel_rfl) rfl ?_
 refine st_ (cCmd (⟨⟨2, rfl⟩, ag.self.Host, e25.Subnet, ⟨0, rfl⟩, zMAC, ⟨0, rfl⟩⟩ : TCmd)) (cCmd (⟨⟨2, rfl⟩, ag.self.Host, e25.Subnet, ⟨0, rfl⟩, zMAC, ⟨0, rfl⟩⟩ : TCmd)) hs m ty87 s0 ?_
 clear m w35; intro w36 m
 refine wpList_nil (n_then ⟨(m.sub (.c r1 (.c r1 .n))), ?_⟩)
 refine h_done (by kernel_rfl) (n_then ?_)
 refine c_drawH (Hp w0 (hh w0) [Bx p34 87 (cCmd (⟨⟨2, rfl⟩, ag.self.Host, e25.Subnet, ⟨0, rfl⟩, zMAC, ⟨0, rfl⟩⟩ : TCmd)), Bx p30 48 (cLease e25)]) m mo ?_; clear m w36; intro w37 m
 refine sh_ (i := 0) rfl hs (m.sub (.c r0 (.c r0 .n))) (ok_load_ag (vs := cCmd (⟨⟨2, rfl⟩, ag.self.Host, e25.Subnet, ⟨0, rfl⟩, zMAC, ⟨0, rfl⟩⟩ : TCmd)) rfl ty87 (bx_at r0) (by kernel_rfl) (by kernel_rfl)) (bh_ (i := 1) rfl (m.sub (.c r0 (.c r0 .n))) (ok_build (cs := cReq (⟨⟨5, rfl⟩, (⟨⟨2, rfl⟩, ag.self.Host, e25.Subnet, ⟨0, rfl⟩, zMAC, ⟨0, rfl⟩⟩ : TCmd), zOp, ⟨0, rfl⟩, ⟨0, rfl⟩⟩ : TReq)) st89 ze89 rfl (by kernel_rfl)) (bh_ (i := 2) rfl (m.sub (.c r0 (.c r0 .n))) (ok_fieldAddr (r := 10) rfl fd48_4 ty2 rfl) (bh_ (i := 3) rfl (m.sub (.c r0 (.c r0 .n))) (ok_load_sc rfl ty2 (bx_at r1) rfl) (bh_ (i := 4) rfl (m.sub (.c r0 (.c r0 .n))) (ok_bin rfl rfl rfl) (bh_ (i := 5) rfl (m.sub (.c r0 (.c r0 .n))) (ok_move rfl) ?_)))))
 clear hs a; intro a hs
 rcases Bool.eq_false_or_eq_true (decide (e25.Until.v < 9223372036854775807)) with hb38 | hb38
 ·have hb38p := of_decide_eq_true hb38
  refine h_okg (i := 6) rfl (by kernel_rfl) (by kernel_rfl) (by kernel_rfl) hs (m.sub (.c r0 (.c r0 .n))) rfl rfl hb38 (ok_move rfl) rfl ?_
  clear hs a; intro a hs
  refine h_okg (i := 7) rfl (by kernel_rfl) (by kernel_rfl) (by kernel_rfl) hs (m.sub (.c r0 (.c r0 .n))) rfl rfl hb38 (ok_fieldAddr (r := 10) rfl fd48_4 ty2 rfl) rfl ?_
  clear hs a; intro a hs
  refine h_okg (i := 8) rfl (by kernel_rfl) (by kernel_rfl) (by kernel_rfl) hs (m.sub (.c r0 (.c r0 .n))) rfl rfl hb38 (ok_load_sc rfl ty2 (bx_at r1) rfl) rfl ?_
  clear hs a; intro a hs
  refine h_okg (i := 9) rfl (by kernel_rfl) (by kernel_rfl) (by kernel_rfl) hs (m.sub (.c r0 (.c r0 .n))) rfl rfl hb38 (ok_move rfl) rfl ?_
  clear hs a; intro a hs
  refine h_okg (i := 10) rfl (by kernel_rfl) (by kernel_rfl) (by kernel_rfl) hs (m.sub (.c r0 (.c r0 .n))) rfl rfl hb38 (ok_nilCheck rfl) rfl ?_
  clear hs a; intro a hs
  refine h_okg (i := 11) rfl (by kernel_rfl) (by kernel_rfl) (by kernel_rfl) hs (m.sub (.c r0 (.c r0 .n))) rfl rfl hb38 (ok_fieldAddr (r := 0) rfl fd135_0 ty61 rfl) rfl ?_
  clear hs a; intro a hs
  refine h_okg (i := 12) rfl (by kernel_rfl) (by kernel_rfl) (by kernel_rfl) hs (m.sub (.c r0 (.c r0 .n))) rfl rfl hb38 (ok_fieldAddr (r := 8) rfl fd61_3 ty2 rfl) rfl ?_
  clear hs a; intro a hs
  refine h_okg (i := 13) rfl (by kernel_rfl) (by kernel_rfl) (by kernel_rfl) hs (m.sub (.c r0 (.c r0 .n))) rfl rfl hb38 (ok_load_sc rfl ty2 (fr_at hx8) rfl) rfl ?_
  clear hs a; intro a hs
  refine h_okg (i := 14) rfl (by kernel_rfl) (by kernel_rfl) (by kernel_rfl) hs (m.sub (.c r0 (.c r0 .n))) rfl rfl hb38 (ok_neg (r := IntKind.i64.wrap (0 - ag.self.Renew.v)) rfl rfl) rfl ?_
  clear hs a; intro a hs
  refine h_eff (i := 15) (by kernel_rfl) rfl ?_
  refine g_strip hs rfl rfl hb38 ?_
  refine r_callP hs m rfl rfl ca117 rfl (afterC_c e25.Until.v (IntKind.i64.wrap (0 - ag.self.Renew.v)) _  ) rfl ?_
  clear m hs a w37; intro w39 m a hs
  refine wpList_nil (n_then ⟨(m.sub (.c r0 (.c r0 .n))), ?_⟩)
  refine h_okg (i := 16) rfl (by kernel_rfl) (by kernel_rfl) (by kernel_rfl) hs (m.sub (.c r0 (.c r0 .n))) rfl rfl hb38 (ok_bin rfl rfl rfl) rfl ?_
  clear hs a; intro a hs
  refine sh_ (i := 17) rfl hs (m.sub (.c r0 (.c r0 .n))) (ok_pick (r := .bool (decide (now ≥ (afterM e25.Until.v (IntKind.i64.wrap (0 - ag.self.Renew.v)))))) rfl rfl rfl (by rw [hb38]; rfl)) ?_
  clear hs a; intro a hs
  refine h_eff (i := 18) (by kernel_rfl) rfl ?_
  refine st_ (cReq (⟨⟨5, rfl⟩, (⟨⟨2, rfl⟩, ag.self.Host, e25.Subnet, ⟨0, rfl⟩, zMAC, ⟨0, rfl⟩⟩ : TCmd), zOp, ⟨0, rfl⟩, ⟨0, rfl⟩⟩ : TReq)) (cReq (⟨⟨5, rfl⟩, (⟨⟨2, rfl⟩, ag.self.Host, e25.Subnet, ⟨0, rfl⟩, zMAC, ⟨0, rfl⟩⟩ : TCmd), zOp, ⟨0, rfl⟩, ⟨0, rfl⟩⟩ : TReq)) hs m ty89 s2 ?_
  clear m w39; intro w40 m
  refine wpList_nil (n_then ⟨(m.sub (.c r0 (.c r0 .n))), ?_⟩)
  refine sh_ (i := 19) rfl hs (m.sub (.c r0 (.c r0 .n))) (ok_assign rfl) ?_
  clear hs a; intro a hs
  refine h_done (by kernel_rfl) (n_then ?_)
  refine wp_ret ?_
  refine leave hs (vs := [.agg ⟨cReq (⟨⟨5, rfl⟩, (⟨⟨2, rfl⟩, ag.self.Host, e25.Subnet, ⟨0, rfl⟩, zMAC, ⟨0, rfl⟩⟩ : TCmd), zOp, ⟨0, rfl⟩, ⟨0, rfl⟩⟩ : TReq)⟩, .bool (decide (now ≥ (afterM e25.Until.v (IntKind.i64.wrap (0 - ag.self.Renew.v)))))]) rfl ⟨resv_cell (cs := cReq (⟨⟨5, rfl⟩, (⟨⟨2, rfl⟩, ag.self.Host, e25.Subnet, ⟨0, rfl⟩, zMAC, ⟨0, rfl⟩⟩ : TCmd), zOp, ⟨0, rfl⟩, ⟨0, rfl⟩⟩ : TReq)) m rfl ty89 r2 rfl, rfl, trivial⟩ ?_
  refine ⟨?_, m.sub .n⟩
  have q41 : ((⟨⟨5, rfl⟩, (⟨⟨2, rfl⟩, ag.self.Host, e25.Subnet, ⟨0, rfl⟩, zMAC, ⟨0, rfl⟩⟩ : TCmd), zOp, ⟨0, rfl⟩, ⟨0, rfl⟩⟩ : TReq) : TReq) = renQ ag := by clear hs m; exact renQ_f (by assumption) (by assumption)
  have q42 : (decide (now ≥ (afterM e25.Until.v (IntKind.i64.wrap (0 - ag.self.Renew.v)))) : Bool) = renB ag now := by clear hs m; exact renB_w (by assumption) (by assumption) (by assumption)
  (rw [q41, q42]; rfl)
 ·have hb38p := of_decide_eq_false hb38
  refine h_out (i := 6) rfl (by kernel_rfl) (by kernel_rfl) (by kernel_rfl) hs (m.sub (.c r0 (.c r0 .n))) rfl rfl hb38 rfl ?_
  clear hs a; intro a hs
  refine h_out (i := 7) rfl (by kernel_rfl) (by kernel_rfl) (by kernel_rfl) hs (m.sub (.c r0 (.c r0 .n))) rfl rfl hb38 rfl ?_
  clear hs a; intro a hs
  refine h_out (i := 8) rfl (by kernel_rfl) (by kernel_rfl) (by kernel_rfl) hs (m.sub (.c r0 (.c r0 .n))) rfl rfl hb38 rfl ?_
  clear hs a; intro a hs
  refine h_out (i := 9) rfl (by kernel_rfl) (by kernel_rfl) (by kernel_rfl) hs (m.sub (.c r0 (.c r0 .n))) rfl rfl hb38 rfl ?_
  clear hs a; intro a hs
  refine h_out (i := 10) rfl (by kernel_rfl) (by kernel_rfl) (by kernel_rfl) hs (m.sub (.c r0 (.c r0 .n))) rfl rfl hb38 rfl ?_
  clear hs a; intro a hs
  refine h_out (i := 11) rfl (by kernel_rfl) (by kernel_rfl) (by kernel_rfl) hs (m.sub (.c r0 (.c r0 .n))) rfl rfl hb38 rfl ?_
  clear hs a; intro a hs
  refine h_out (i := 12) rfl (by kernel_rfl) (by kernel_rfl) (by kernel_rfl) hs (m.sub (.c r0 (.c r0 .n))) rfl rfl hb38 rfl ?_
  clear hs a; intro a hs
  refine h_out (i := 13) rfl (by kernel_rfl) (by kernel_rfl) (by kernel_rfl) hs (m.sub (.c r0 (.c r0 .n))) rfl rfl hb38 rfl ?_
  clear hs a; intro a hs
  refine h_out (i := 14) rfl (by kernel_rfl) (by kernel_rfl) (by kernel_rfl) hs (m.sub (.c r0 (.c r0 .n))) rfl rfl hb38 rfl ?_
  clear hs a; intro a hs
  refine h_out (i := 15) rfl (by kernel_rfl) (by kernel_rfl) (by kernel_rfl) hs (m.sub (.c r0 (.c r0 .n))) rfl rfl hb38 rfl ?_
  clear hs a; intro a hs
  refine h_out (i := 16) rfl (by kernel_rfl) (by kernel_rfl) (by kernel_rfl) hs (m.sub (.c r0 (.c r0 .n))) rfl rfl hb38 rfl ?_
  clear hs a; intro a hs
  refine sh_ (i := 17) rfl hs (m.sub (.c r0 (.c r0 .n))) (ok_pick (r := .bool false) rfl rfl rfl (by rw [hb38]; rfl)) ?_
  clear hs a; intro a hs
  refine h_eff (i := 18) (by kernel_rfl) rfl ?_
  refine st_ (cReq (⟨⟨5, rfl⟩, (⟨⟨2, rfl⟩, ag.self.Host, e25.Subnet, ⟨0, rfl⟩, zMAC, ⟨0, rfl⟩⟩ : TCmd), zOp, ⟨0, rfl⟩, ⟨0, rfl⟩⟩ : TReq)) (cReq (⟨⟨5, rfl⟩, (⟨⟨2, rfl⟩, ag.self.Host, e25.Subnet, ⟨0, rfl⟩, zMAC, ⟨0, rfl⟩⟩ : TCmd), zOp, ⟨0, rfl⟩, ⟨0, rfl⟩⟩ : TReq)) hs m ty89 s2 ?_
  clear m w37; intro w43 m
  refine wpList_nil (n_then ⟨(m.sub (.c r0 (.c r0 .n))), ?_⟩)
  refine sh_ (i := 19) rfl hs (m.sub (.c r0 (.c r0 .n))) (ok_assign rfl) ?_
  clear hs a; intro a hs
  refine h_done (by kernel_rfl) (n_then ?_)
  refine wp_ret ?_
  refine leave hs (vs := [.agg ⟨cReq (⟨⟨5, rfl⟩, (⟨⟨2, rfl⟩, ag.self.Host, e25.Subnet, ⟨0, rfl⟩, zMAC, ⟨0, rfl⟩⟩ : TCmd), zOp, ⟨0, rfl⟩, ⟨0, rfl⟩⟩ : TReq)⟩, .bool false]) rfl ⟨resv_cell (cs := cReq (⟨⟨5, rfl⟩, (⟨⟨2, rfl⟩, ag.self.Host, e25.Subnet, ⟨0, rfl⟩, zMAC, ⟨0, rfl⟩⟩ : TCmd), zOp, ⟨0, rfl⟩, ⟨0, rfl⟩⟩ : TReq)) m rfl ty89 r2 rfl, rfl, trivial⟩ ?_
  refine ⟨?_, m.sub .n⟩
  have q44 : ((⟨⟨5, rfl⟩, (⟨⟨2, rfl⟩, ag.self.Host, e25.Subnet, ⟨0, rfl⟩, zMAC, ⟨0, rfl⟩⟩ : TCmd), zOp, ⟨0, rfl⟩, ⟨0, rfl⟩⟩ : TReq) : TReq) = renQ ag := by clear hs m; exact renQ_f (by assumption) (by assumption)
  have q45 : (false : Bool) = renB ag now := by clear hs m; exact renB_c (by assumption) (by assumption) (by assumption)
  (rw [q44, q45]; rfl)
theorem change_c (pag : Addr) (ag : AgM) (now : Int) (w0 : World) (hag : AgR (hh w0) pag ag) (A0 : ag.view.length ≤ 8388608) (A1 : ag.Routes.length ≤ 8388608) (A2 : ag.Neighs.length ≤ 8388608) (A3 : ag.Fdbs.length ≤ 8388608) : Pure Tryz.prog 73 [.pointer (some (padd pag 0)), .int .i64 now] (.tuple ⟨[.agg ⟨cReq (chgQ ag)⟩, .bool (chgB ag)]⟩) w0 := by
 refine enter (n := 17) Tryz.func73 rfl rfl rfl fun a (hs : St 17 [(0, .pointer (some (padd pag 0))), (1, .int .i64 now)] a) => ?_
 have m := Hp.start w0
 have hag0 := hag
 obtain ⟨x1, x2, x3, x4, x5, x6, x7, hx8, hx9, hx10, hx11, hx12, hx13, hx14, hx15⟩ := hag0
 have lx2 := hx10.bd
 have lx3 := hx11.bd
 have lx4 := hx12.bd
 have lx5 := hx13.bd
 have lx6 := hx14.bd
 have lx7 := hx15.bd
 refine c_reg ?_
 refine r_alloc hs m ze89 rfl ?_
 clear m hs a; intro p16 w17 m a hs
 refine s_ hs m (ok_assign rfl) (bn_ (bc_ (b_ m (ok_move rfl) ?_)))
 clear hs a; intro a hs
 refine r_call hs rfl rfl ca85 rfl (changes_c pag ag _ (hag.le m.frame) (by omega) (by omega) (by omega) (by omega)) rfl ?_
 clear hs a; rintro _ w19 ⟨v18, rfl, hm⟩ a hs
 replace m : Hp w0 (hh w0) [Sv 19 58 v18.v ((changesM ag).map cOp), Bx p16 89 (cReq zReq)] w19 := m.after hm
 clear hm w17
 refine s_ hs m (ok_assign rfl) (bn_ ?_)
 clear hs a; intro a hs
 refine c_seq ?_
 refine c_reg ?_
 refine s_ hs m (ok_move rfl) (b_ m (ok_len (r := ((changesM ag).length : Int)) m rfl sl35 (rc_own r0) (by simp)) (b_ m (ok_bin rfl rfl rfl) (bn_ ?_)))
 clear hs a; intro a hs
 refine c_cond hs rfl (fun h20 => ?_) (fun h20 => ?_)
 ·have h20p := eq_of_beq h20
  refine c_reg ?_
  refine s_ hs m (ok_build (cs := cReq zReq) st89 ze89 rfl (by kernel_rfl)) ?_
  clear hs a; intro a hs
  refine st_ (cReq zReq) (cReq zReq) hs m ty89 s1 ?_
  clear m w19; intro w21 m
  refine s_ hs m (ok_assign rfl) (bn_ ?_)
  clear hs a; intro a hs
  refine wp_ret ?_
  refine ret_then (leave hs (vs := [.agg ⟨cReq zReq⟩, .bool false]) rfl ⟨resv_cell (cs := cReq zReq) m rfl ty89 r1 rfl, rfl, trivial⟩ ?_)
  refine ⟨?_, m.sub .n⟩
  have q22 : (zReq : TReq) = chgQ ag := by clear hs m; exact chgQ_t (by assumption)
  have q23 : (false : Bool) = chgB ag := by clear hs m; exact chgB_t (by assumption)
  (rw [q22, q23]; rfl)
 have h20p := ne_of_beq_false h20
 refine wp_skip ?_
 refine n_then ?_
 refine c_reg ?_
 refine s_ hs m (ok_move rfl) ?_
 clear hs a; intro a hs
 obtain ⟨e24, he25⟩ := get_of_lt (l := changesM ag) (i := 0) (by omega)
 refine elO (c := cOp) (e := e24) hs m (x := (.tmp 13)) (ix := (.const (.int .i64 0))) rfl rfl sl35 ty58 r0 (by omega) he25 fun p26 hp27 ok28 => ?_
 refine s_ hs m (ok28 _ _ _ _ _) (b_ m (ok_load_ag (vs := cOp e24) rfl ty58 (el_at hp27 r0 (get_map _ he25)) (by kernel_rfl) (by kernel_rfl)) (b_ m (ok_build (cs := cReq (⟨⟨3, rfl⟩, zCmd, e24, ⟨0, rfl⟩, ⟨0, rfl⟩⟩ : TReq)) st89 ze89 rfl (by kernel_rfl)) ?_))
 clear hs a; intro a hs
 refine st_ (cReq (⟨⟨3, rfl⟩, zCmd, e24, ⟨0, rfl⟩, ⟨0, rfl⟩⟩ : TReq)) (cReq (⟨⟨3, rfl⟩, zCmd, e24, ⟨0, rfl⟩, ⟨0, rfl⟩⟩ : TReq)) hs m ty89 s1 ?_
 clear m w19; intro w29 m
 refine s_ hs m (ok_assign rfl) (bn_ ?_)
 clear hs a; intro a hs
 refine wp_ret ?_
 refine leave hs (vs := [.agg ⟨cReq (⟨⟨3, rfl⟩, zCmd, e24, ⟨0, rfl⟩, ⟨0, rfl⟩⟩ : TReq)⟩, .bool true]) rfl ⟨resv_cell (cs := cReq (⟨⟨3, rfl⟩, zCmd, e24, ⟨0, rfl⟩, ⟨0, rfl⟩⟩ : TReq)) m rfl ty89 r1 rfl, rfl, trivial⟩ ?_
 refine ⟨?_, m.sub .n⟩
 have q30 : ((⟨⟨3, rfl⟩, zCmd, e24, ⟨0, rfl⟩, ⟨0, rfl⟩⟩ : TReq) : TReq) = chgQ ag := by clear hs m; exact chgQ_f (by assumption)
 have q31 : (true : Bool) = chgB ag := by clear hs m; exact chgB_f (by assumption)
 (rw [q30, q31]; rfl)
theorem new1_c (now : Int) (qag pag : Addr) (ag : AgM) (w0 : World) (hqag : CellsAt (hh w0) qag [.pointer (some (padd pag 0))]) (hag : AgR (hh w0) pag ag) : Pure Tryz.prog 71 [.int .i64 now, .pointer (some (padd qag 0))] (.tuple ⟨[.agg ⟨cReq (⟨⟨1, rfl⟩, zCmd, zOp, ⟨0, rfl⟩, ⟨0, rfl⟩⟩ : TReq)⟩, .bool (!ag.read)]⟩) w0 := by
 refine enter (n := 11) Tryz.func71 rfl rfl rfl fun a (hs : St 11 [(0, .int .i64 now), (1, .pointer (some (padd qag 0)))] a) => ?_
 have m := Hp.start w0
 have hag0 := hag
 obtain ⟨x1, x2, x3, x4, x5, x6, x7, hx8, hx9, hx10, hx11, hx12, hx13, hx14, hx15⟩ := hag0
 have lx2 := hx10.bd
 have lx3 := hx11.bd
 have lx4 := hx12.bd
 have lx5 := hx13.bd
 have lx6 := hx14.bd
 have lx7 := hx15.bd
 refine c_reg ?_
 refine r_alloc hs m ze89 rfl ?_
 clear m hs a; intro p16 w17 m a hs
 refine s_ hs m (ok_assign rfl) (bn_ ?_)
 clear hs a; intro a hs
 refine c_drawH (Hp w0 (hh w0) []) m mo ?_; clear m w17; intro w18 m
 refine sh_ (i := 0) rfl hs (m.sub .n) (ok_build (cs := cReq (⟨⟨1, rfl⟩, zCmd, zOp, ⟨0, rfl⟩, ⟨0, rfl⟩⟩ : TReq)) st89 ze89 rfl (by kernel_rfl)) (bh_ (i := 1) rfl (m.sub .n) (ok_load_sc rfl ty63 (fr_at hqag) rfl) (bh_ (i := 2) rfl (m.sub .n) (ok_nilCheck rfl) (bh_ (i := 3) rfl (m.sub .n) (ok_fieldAddr (r := 44) rfl fd135_3 ty4 rfl) (bh_ (i := 4) rfl (m.sub .n) (ok_load_sc rfl ty4 (fr_at hx8) rfl) (bh_ (i := 5) rfl (m.sub .n) (ok_not rfl) ?_)))))
 clear hs a; intro a hs
 refine h_eff (i := 6) (by kernel_rfl) rfl ?_
 refine st_ (cReq (⟨⟨1, rfl⟩, zCmd, zOp, ⟨0, rfl⟩, ⟨0, rfl⟩⟩ : TReq)) (cReq (⟨⟨1, rfl⟩, zCmd, zOp, ⟨0, rfl⟩, ⟨0, rfl⟩⟩ : TReq)) hs m ty89 s0 ?_
 clear m w18; intro w19 m
 refine wpList_nil (n_then ⟨(m.sub .n), ?_⟩)
 refine sh_ (i := 7) rfl hs (m.sub .n) (ok_assign rfl) ?_
 clear hs a; intro a hs
 refine h_done (by kernel_rfl) (n_then ?_)
 refine wp_ret ?_
 refine leave hs (vs := [.agg ⟨cReq (⟨⟨1, rfl⟩, zCmd, zOp, ⟨0, rfl⟩, ⟨0, rfl⟩⟩ : TReq)⟩, .bool (!ag.read)]) rfl ⟨resv_cell (cs := cReq (⟨⟨1, rfl⟩, zCmd, zOp, ⟨0, rfl⟩, ⟨0, rfl⟩⟩ : TReq)) m rfl ty89 r0 rfl, rfl, trivial⟩ ?_
 refine ⟨?_, m.sub .n⟩
 rfl
theorem new2_c (now : Int) (qag pag : Addr) (ag : AgM) (w0 : World) (hqag : CellsAt (hh w0) qag [.pointer (some (padd pag 0))]) (hag : AgR (hh w0) pag ag) : Pure Tryz.prog 72 [.int .i64 now, .pointer (some (padd qag 0))] (.tuple ⟨[.agg ⟨cReq (⟨⟨2, rfl⟩, zCmd, zOp, ⟨0, rfl⟩, ⟨0, rfl⟩⟩ : TReq)⟩, .bool ag.stale]⟩) w0 := by
 refine enter (n := 10) Tryz.func72 rfl rfl rfl fun a (hs : St 10 [(0, .int .i64 now), (1, .pointer (some (padd qag 0)))] a) => ?_
 have m := Hp.start w0
 have hag0 := hag
 obtain ⟨x1, x2, x3, x4, x5, x6, x7, hx8, hx9, hx10, hx11, hx12, hx13, hx14, hx15⟩ := hag0
 have lx2 := hx10.bd
 have lx3 := hx11.bd
 have lx4 := hx12.bd
 have lx5 := hx13.bd
 have lx6 := hx14.bd
 have lx7 := hx15.bd
 refine c_reg ?_
 refine r_alloc hs m ze89 rfl ?_
 clear m hs a; intro p16 w17 m a hs
 refine s_ hs m (ok_assign rfl) (bn_ ?_)
 clear hs a; intro a hs
 refine c_drawH (Hp w0 (hh w0) []) m mo ?_; clear m w17; intro w18 m
 refine sh_ (i := 0) rfl hs (m.sub .n) (ok_build (cs := cReq (⟨⟨2, rfl⟩, zCmd, zOp, ⟨0, rfl⟩, ⟨0, rfl⟩⟩ : TReq)) st89 ze89 rfl (by kernel_rfl)) (bh_ (i := 1) rfl (m.sub .n) (ok_load_sc rfl ty63 (fr_at hqag) rfl) (bh_ (i := 2) rfl (m.sub .n) (ok_nilCheck rfl) (bh_ (i := 3) rfl (m.sub .n) (ok_fieldAddr (r := 50) rfl fd135_7 ty4 rfl) (bh_ (i := 4) rfl (m.sub .n) (ok_load_sc rfl ty4 (fr_at hx8) rfl) ?_))))
 clear hs a; intro a hs
 refine h_eff (i := 5) (by kernel_rfl) rfl ?_
 refine st_ (cReq (⟨⟨2, rfl⟩, zCmd, zOp, ⟨0, rfl⟩, ⟨0, rfl⟩⟩ : TReq)) (cReq (⟨⟨2, rfl⟩, zCmd, zOp, ⟨0, rfl⟩, ⟨0, rfl⟩⟩ : TReq)) hs m ty89 s0 ?_
 clear m w18; intro w19 m
 refine wpList_nil (n_then ⟨(m.sub .n), ?_⟩)
 refine sh_ (i := 6) rfl hs (m.sub .n) (ok_assign rfl) ?_
 clear hs a; intro a hs
 refine h_done (by kernel_rfl) (n_then ?_)
 refine wp_ret ?_
 refine leave hs (vs := [.agg ⟨cReq (⟨⟨2, rfl⟩, zCmd, zOp, ⟨0, rfl⟩, ⟨0, rfl⟩⟩ : TReq)⟩, .bool ag.stale]) rfl ⟨resv_cell (cs := cReq (⟨⟨2, rfl⟩, zCmd, zOp, ⟨0, rfl⟩, ⟨0, rfl⟩⟩ : TReq)) m rfl ty89 r0 rfl, rfl, trivial⟩ ?_
 refine ⟨?_, m.sub .n⟩
 rfl
theorem new3_c (now : Int) (qag pag : Addr) (ag : AgM) (w0 : World) (hqag : CellsAt (hh w0) qag [.pointer (some (padd pag 0))]) (hag : AgR (hh w0) pag ag) : Pure Tryz.prog 76 [.int .i64 now, .pointer (some (padd qag 0))] (.tuple ⟨[.agg ⟨cReq (watchQ ag)⟩, .bool true]⟩) w0 := by
 refine enter (n := 10) Tryz.func76 rfl rfl rfl fun a (hs : St 10 [(0, .int .i64 now), (1, .pointer (some (padd qag 0)))] a) => ?_
 have m := Hp.start w0
 have hag0 := hag
 obtain ⟨x1, x2, x3, x4, x5, x6, x7, hx8, hx9, hx10, hx11, hx12, hx13, hx14, hx15⟩ := hag0
 have lx2 := hx10.bd
 have lx3 := hx11.bd
 have lx4 := hx12.bd
 have lx5 := hx13.bd
 have lx6 := hx14.bd
 have lx7 := hx15.bd
 refine c_reg ?_
 refine r_alloc hs m ze89 rfl ?_
 clear m hs a; intro p16 w17 m a hs
 refine s_ hs m (ok_assign rfl) (bn_ (bc_ (b_ m (ok_load_sc rfl ty63 (fr_at hqag) rfl) (b_ m (ok_nilCheck rfl) (b_ m (ok_fieldAddr (r := 49) rfl fd135_6 ty2 rfl) (b_ m (ok_load_sc rfl ty2 (fr_at hx8) rfl) (b_ m (ok_build (cs := cReq (⟨⟨6, rfl⟩, zCmd, zOp, ag.cursor, ⟨4, rfl⟩⟩ : TReq)) st89 ze89 rfl (by kernel_rfl)) ?_)))))))
 clear hs a; intro a hs
 refine st_ (cReq (⟨⟨6, rfl⟩, zCmd, zOp, ag.cursor, ⟨4, rfl⟩⟩ : TReq)) (cReq (⟨⟨6, rfl⟩, zCmd, zOp, ag.cursor, ⟨4, rfl⟩⟩ : TReq)) hs m ty89 s0 ?_
 clear m w17; intro w18 m
 refine s_ hs m (ok_assign rfl) (bn_ ?_)
 clear hs a; intro a hs
 refine wp_ret ?_
 refine leave hs (vs := [.agg ⟨cReq (⟨⟨6, rfl⟩, zCmd, zOp, ag.cursor, ⟨4, rfl⟩⟩ : TReq)⟩, .bool true]) rfl ⟨resv_cell (cs := cReq (⟨⟨6, rfl⟩, zCmd, zOp, ag.cursor, ⟨4, rfl⟩⟩ : TReq)) m rfl ty89 r0 rfl, rfl, trivial⟩ ?_
 refine ⟨?_, m.sub .n⟩
 have q19 : ((⟨⟨6, rfl⟩, zCmd, zOp, ag.cursor, ⟨4, rfl⟩⟩ : TReq) : TReq) = watchQ ag := by clear hs m; rfl
 (rw [q19]; rfl)
end Go.Proofs.YtnbpodjbemfpbaaGreat.Fw
