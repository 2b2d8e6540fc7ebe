/-
  Walks: printed by wip/tool/agent.py.
-/
import Derived.Test.YtnbpodjbemfpbaaGreatWh
import Derived.KernelRfl
set_option linter.all false
set_option maxHeartbeats 4000000
set_option maxRecDepth 100000
namespace Go.Proofs.YtnbpodjbemfpbaaGreat.Fw
open Go
theorem getRoute_c (vx : SH) (x : List TRoute) (t : TRoute) (w0 : World) (hx : RdS (hh w0) 4 vx.v (x.map cRoute)) : Pure Tryz.prog 112 [vx.v, .agg ⟨cRoute t⟩, .func (.func 45) ⟨[]⟩ ⟨[]⟩] (.tuple ⟨[.agg ⟨cRoute (getM cmpRoute zRoute x t)⟩, .bool (bsHit cmpRoute x t)]⟩) w0 := by
  have lvx := hx.bd
  refine enter (n := 26) Tryz.func112 rfl rfl rfl fun a (hs : St 26 [(0, vx.v), (1, .agg ⟨cRoute t⟩), (2, .func (.func 45) ⟨[]⟩ ⟨[]⟩)] a) => ?_
  have m := Hp.start w0
  refine c_reg ?_
  refine r_box (cs := cRoute t) hs m rfl rfl rfl ?_
  clear m hs a; intro p1 w2 m a hs
  refine r_alloc hs m ze51 rfl ?_
  clear m hs a w2; intro p3 w4 m a hs
  refine r_ok hs m (ok_assign rfl) rfl ?_
  clear hs a; intro a hs
  refine wpList_nil (n_then ?_)
  refine c_reg ?_
  refine r_ok hs m (ok_move rfl) rfl ?_
  clear hs a; intro a hs
  refine r_ok hs m (ok_load_ag (vs := cRoute t) rfl ty51 (bx_at r1) rfl rfl) rfl ?_
  clear hs a; intro a hs
  refine r_ok hs m (ok_move rfl) rfl ?_
  clear hs a; intro a hs
  refine r_callP hs m rfl rfl ca97 rfl (bsRoute_c vx x t _ (m.rd hx) ) rfl ?_
  clear m hs a w4; intro w5 m a hs
  refine r_ok hs m (ok_move rfl) rfl ?_
  clear hs a; intro a hs
  refine r_ok hs m (ok_extract rfl rfl) rfl ?_
  clear hs a; intro a hs
  refine r_ok hs m (ok_extract rfl rfl) rfl ?_
  clear hs a; intro a hs
  refine r_ok hs m (ok_assign rfl) rfl ?_
  clear hs a; intro a hs
  refine r_ok hs m (ok_assign rfl) rfl ?_
  clear hs a; intro a hs
  refine wpList_nil (n_then ?_)
  refine c_seq ?_
  refine c_reg ?_
  refine r_ok hs m (ok_move rfl) rfl ?_
  clear hs a; intro a hs
  refine r_ok hs m (ok_not rfl) rfl ?_
  clear hs a; intro a hs
  refine wpList_nil (n_then ?_)
  refine c_cond hs rfl (fun h6 => ?_) (fun h6 => ?_)
  · have h6p := h6; simp only [Bool.or_eq_true, Bool.or_eq_false_iff, Bool.and_eq_true, Bool.and_eq_false_iff, Bool.not_eq_true', Bool.not_eq_false', decide_eq_true_eq, decide_eq_false_iff_not, beq_iff_eq, bne_iff_ne, beq_eq_false_iff_ne, bne_eq_false_iff_eq, ne_eq, gt_iff_lt, ge_iff_le, Int.not_lt, Int.not_le] at h6p
    refine c_reg ?_
    refine r_alloc hs m ze51 rfl ?_
    clear m hs a w5; intro p7 w8 m a hs
    refine r_ok hs m (ok_nilCheck rfl) rfl ?_
    clear hs a; intro a hs
    refine r_ok hs m (ok_load_ag (vs := cRoute (⟨(⟨⟨0, rfl⟩, ⟨0, rfl⟩⟩ : TPrefix), ⟨0, rfl⟩, false⟩ : TRoute)) rfl ty51 (bx_at r0) rfl rfl) rfl ?_
    clear hs a; intro a hs
    refine r_store (cs' := cRoute (⟨(⟨⟨0, rfl⟩, ⟨0, rfl⟩⟩ : TPrefix), ⟨0, rfl⟩, false⟩ : TRoute)) (vs := cRoute (⟨(⟨⟨0, rfl⟩, ⟨0, rfl⟩⟩ : TPrefix), ⟨0, rfl⟩, false⟩ : TRoute)) hs m rfl rfl ty51 s1 rfl rfl rfl rfl rfl ?_
    clear m w8; intro w9 m
    refine r_ok hs m (ok_assign rfl) rfl ?_
    clear hs a; intro a hs
    refine wpList_nil (n_then ?_)
    refine wp_ret ?_
    refine ret_then (leave hs (vs := [.agg ⟨cRoute (⟨(⟨⟨0, rfl⟩, ⟨0, rfl⟩⟩ : TPrefix), ⟨0, rfl⟩, false⟩ : TRoute)⟩, .bool false]) rfl ⟨resv_cell (cs := cRoute (⟨(⟨⟨0, rfl⟩, ⟨0, rfl⟩⟩ : TPrefix), ⟨0, rfl⟩, false⟩ : TRoute)) m rfl ty51 r1 rfl, rfl, trivial⟩ ?_)
    refine ⟨?_, m.sub .n⟩
    have q10 : ((⟨(⟨⟨0, rfl⟩, ⟨0, rfl⟩⟩ : TPrefix), ⟨0, rfl⟩, false⟩ : TRoute) : TRoute) = getM cmpRoute zRoute x t := by clear hs m; first | (simp [getM, *]; done) | (simp [getM, *]; rfl)
    have q11 : (false : Bool) = bsHit cmpRoute x t := by clear hs m; first | (simp [getM, *]; done) | (simp [getM, *]; rfl)
    first | (rw [q10, q11]; done) | (rw [q10, q11]; rfl) | (rw [q11, q10]; rfl) | (simp only [q10, q11, pack]; done)
  have h6p := h6; simp only [Bool.or_eq_true, Bool.or_eq_false_iff, Bool.and_eq_true, Bool.and_eq_false_iff, Bool.not_eq_true', Bool.not_eq_false', decide_eq_true_eq, decide_eq_false_iff_not, beq_iff_eq, bne_iff_ne, beq_eq_false_iff_ne, bne_eq_false_iff_eq, ne_eq, gt_iff_lt, ge_iff_le, Int.not_lt, Int.not_le] at h6p
  refine wp_skip ?_
  refine n_then ?_
  refine c_reg ?_
  refine r_ok hs m (ok_move rfl) rfl ?_
  clear hs a; intro a hs
  refine r_ok hs m (ok_move rfl) rfl ?_
  clear hs a; intro a hs
  obtain ⟨e12, he13⟩ := get_of_lt (l := x) (i := bsI (fun e => (cmpRoute e t).v) x) (by first | omega | exact bsHit_lt (by assumption))
  refine elF (c := cRoute) (e := e12) hs m (x := (.tmp 22)) (ix := (.tmp 23)) rfl rfl sl25 ty51 hx (by omega) he13 fun p14 hp15 ok16 => ?_
  refine r_ok hs m (ok16 _ _ _ _ _) rfl ?_
  clear hs a; intro a hs
  refine r_ok hs m (ok_load_ag (vs := cRoute e12) rfl ty51 (fr_at hp15) rfl rfl) rfl ?_
  clear hs a; intro a hs
  refine r_store (cs' := cRoute e12) (vs := cRoute e12) hs m rfl rfl ty51 s0 rfl rfl rfl rfl rfl ?_
  clear m w5; intro w17 m
  refine r_ok hs m (ok_assign rfl) rfl ?_
  clear hs a; intro a hs
  refine wpList_nil (n_then ?_)
  refine wp_ret ?_
  refine leave hs (vs := [.agg ⟨cRoute e12⟩, .bool true]) rfl ⟨resv_cell (cs := cRoute e12) m rfl ty51 r0 rfl, rfl, trivial⟩ ?_
  refine ⟨?_, m.sub .n⟩
  have q18 : (e12 : TRoute) = getM cmpRoute zRoute x t := by clear hs m; first | (simp [getM, *]; done) | (simp [getM, *]; rfl)
  have q19 : (true : Bool) = bsHit cmpRoute x t := by clear hs m; first | (simp [getM, *]; done) | (simp [getM, *]; rfl)
  first | (rw [q18, q19]; done) | (rw [q18, q19]; rfl) | (rw [q19, q18]; rfl) | (simp only [q18, q19, pack]; done)
theorem getNeigh_c (vx : SH) (x : List TNeigh) (t : TNeigh) (w0 : World) (hx : RdS (hh w0) 7 vx.v (x.map cNeigh)) : Pure Tryz.prog 114 [vx.v, .agg ⟨cNeigh t⟩, .func (.func 47) ⟨[]⟩ ⟨[]⟩] (.tuple ⟨[.agg ⟨cNeigh (getM cmpNeigh zNeigh x t)⟩, .bool (bsHit cmpNeigh x t)]⟩) w0 := by
  have lvx := hx.bd
  refine enter (n := 26) Tryz.func114 rfl rfl rfl fun a (hs : St 26 [(0, vx.v), (1, .agg ⟨cNeigh t⟩), (2, .func (.func 47) ⟨[]⟩ ⟨[]⟩)] a) => ?_
  have m := Hp.start w0
  refine c_reg ?_
  refine r_box (cs := cNeigh t) hs m rfl rfl rfl ?_
  clear m hs a; intro p1 w2 m a hs
  refine r_alloc hs m ze54 rfl ?_
  clear m hs a w2; intro p3 w4 m a hs
  refine r_ok hs m (ok_assign rfl) rfl ?_
  clear hs a; intro a hs
  refine wpList_nil (n_then ?_)
  refine c_reg ?_
  refine r_ok hs m (ok_move rfl) rfl ?_
  clear hs a; intro a hs
  refine r_ok hs m (ok_load_ag (vs := cNeigh t) rfl ty54 (bx_at r1) rfl rfl) rfl ?_
  clear hs a; intro a hs
  refine r_ok hs m (ok_move rfl) rfl ?_
  clear hs a; intro a hs
  refine r_callP hs m rfl rfl ca100 rfl (bsNeigh_c vx x t _ (m.rd hx) ) rfl ?_
  clear m hs a w4; intro w5 m a hs
  refine r_ok hs m (ok_move rfl) rfl ?_
  clear hs a; intro a hs
  refine r_ok hs m (ok_extract rfl rfl) rfl ?_
  clear hs a; intro a hs
  refine r_ok hs m (ok_extract rfl rfl) rfl ?_
  clear hs a; intro a hs
  refine r_ok hs m (ok_assign rfl) rfl ?_
  clear hs a; intro a hs
  refine r_ok hs m (ok_assign rfl) rfl ?_
  clear hs a; intro a hs
  refine wpList_nil (n_then ?_)
  refine c_seq ?_
  refine c_reg ?_
  refine r_ok hs m (ok_move rfl) rfl ?_
  clear hs a; intro a hs
  refine r_ok hs m (ok_not rfl) rfl ?_
  clear hs a; intro a hs
  refine wpList_nil (n_then ?_)
  refine c_cond hs rfl (fun h6 => ?_) (fun h6 => ?_)
  · have h6p := h6; simp only [Bool.or_eq_true, Bool.or_eq_false_iff, Bool.and_eq_true, Bool.and_eq_false_iff, Bool.not_eq_true', Bool.not_eq_false', decide_eq_true_eq, decide_eq_false_iff_not, beq_iff_eq, bne_iff_ne, beq_eq_false_iff_ne, bne_eq_false_iff_eq, ne_eq, gt_iff_lt, ge_iff_le, Int.not_lt, Int.not_le] at h6p
    refine c_reg ?_
    refine r_alloc hs m ze54 rfl ?_
    clear m hs a w5; intro p7 w8 m a hs
    refine r_ok hs m (ok_nilCheck rfl) rfl ?_
    clear hs a; intro a hs
    refine r_ok hs m (ok_load_ag (vs := cNeigh (⟨⟨0, rfl⟩, (⟨⟨0, rfl⟩, ⟨0, rfl⟩, ⟨0, rfl⟩, ⟨0, rfl⟩, ⟨0, rfl⟩, ⟨0, rfl⟩⟩ : TMAC)⟩ : TNeigh)) rfl ty54 (bx_at r0) rfl rfl) rfl ?_
    clear hs a; intro a hs
    refine r_store (cs' := cNeigh (⟨⟨0, rfl⟩, (⟨⟨0, rfl⟩, ⟨0, rfl⟩, ⟨0, rfl⟩, ⟨0, rfl⟩, ⟨0, rfl⟩, ⟨0, rfl⟩⟩ : TMAC)⟩ : TNeigh)) (vs := cNeigh (⟨⟨0, rfl⟩, (⟨⟨0, rfl⟩, ⟨0, rfl⟩, ⟨0, rfl⟩, ⟨0, rfl⟩, ⟨0, rfl⟩, ⟨0, rfl⟩⟩ : TMAC)⟩ : TNeigh)) hs m rfl rfl ty54 s1 rfl rfl rfl rfl rfl ?_
    clear m w8; intro w9 m
    refine r_ok hs m (ok_assign rfl) rfl ?_
    clear hs a; intro a hs
    refine wpList_nil (n_then ?_)
    refine wp_ret ?_
    refine ret_then (leave hs (vs := [.agg ⟨cNeigh (⟨⟨0, rfl⟩, (⟨⟨0, rfl⟩, ⟨0, rfl⟩, ⟨0, rfl⟩, ⟨0, rfl⟩, ⟨0, rfl⟩, ⟨0, rfl⟩⟩ : TMAC)⟩ : TNeigh)⟩, .bool false]) rfl ⟨resv_cell (cs := cNeigh (⟨⟨0, rfl⟩, (⟨⟨0, rfl⟩, ⟨0, rfl⟩, ⟨0, rfl⟩, ⟨0, rfl⟩, ⟨0, rfl⟩, ⟨0, rfl⟩⟩ : TMAC)⟩ : TNeigh)) m rfl ty54 r1 rfl, rfl, trivial⟩ ?_)
    refine ⟨?_, m.sub .n⟩
    have q10 : ((⟨⟨0, rfl⟩, (⟨⟨0, rfl⟩, ⟨0, rfl⟩, ⟨0, rfl⟩, ⟨0, rfl⟩, ⟨0, rfl⟩, ⟨0, rfl⟩⟩ : TMAC)⟩ : TNeigh) : TNeigh) = getM cmpNeigh zNeigh x t := by clear hs m; first | (simp [getM, *]; done) | (simp [getM, *]; rfl)
    have q11 : (false : Bool) = bsHit cmpNeigh x t := by clear hs m; first | (simp [getM, *]; done) | (simp [getM, *]; rfl)
    first | (rw [q10, q11]; done) | (rw [q10, q11]; rfl) | (rw [q11, q10]; rfl) | (simp only [q10, q11, pack]; done)
  have h6p := h6; simp only [Bool.or_eq_true, Bool.or_eq_false_iff, Bool.and_eq_true, Bool.and_eq_false_iff, Bool.not_eq_true', Bool.not_eq_false', decide_eq_true_eq, decide_eq_false_iff_not, beq_iff_eq, bne_iff_ne, beq_eq_false_iff_ne, bne_eq_false_iff_eq, ne_eq, gt_iff_lt, ge_iff_le, Int.not_lt, Int.not_le] at h6p
  refine wp_skip ?_
  refine n_then ?_
  refine c_reg ?_
  refine r_ok hs m (ok_move rfl) rfl ?_
  clear hs a; intro a hs
  refine r_ok hs m (ok_move rfl) rfl ?_
  clear hs a; intro a hs
  obtain ⟨e12, he13⟩ := get_of_lt (l := x) (i := bsI (fun e => (cmpNeigh e t).v) x) (by first | omega | exact bsHit_lt (by assumption))
  refine elF (c := cNeigh) (e := e12) hs m (x := (.tmp 22)) (ix := (.tmp 23)) rfl rfl sl26 ty54 hx (by omega) he13 fun p14 hp15 ok16 => ?_
  refine r_ok hs m (ok16 _ _ _ _ _) rfl ?_
  clear hs a; intro a hs
  refine r_ok hs m (ok_load_ag (vs := cNeigh e12) rfl ty54 (fr_at hp15) rfl rfl) rfl ?_
  clear hs a; intro a hs
  refine r_store (cs' := cNeigh e12) (vs := cNeigh e12) hs m rfl rfl ty54 s0 rfl rfl rfl rfl rfl ?_
  clear m w5; intro w17 m
  refine r_ok hs m (ok_assign rfl) rfl ?_
  clear hs a; intro a hs
  refine wpList_nil (n_then ?_)
  refine wp_ret ?_
  refine leave hs (vs := [.agg ⟨cNeigh e12⟩, .bool true]) rfl ⟨resv_cell (cs := cNeigh e12) m rfl ty54 r0 rfl, rfl, trivial⟩ ?_
  refine ⟨?_, m.sub .n⟩
  have q18 : (e12 : TNeigh) = getM cmpNeigh zNeigh x t := by clear hs m; first | (simp [getM, *]; done) | (simp [getM, *]; rfl)
  have q19 : (true : Bool) = bsHit cmpNeigh x t := by clear hs m; first | (simp [getM, *]; done) | (simp [getM, *]; rfl)
  first | (rw [q18, q19]; done) | (rw [q18, q19]; rfl) | (rw [q19, q18]; rfl) | (simp only [q18, q19, pack]; done)
theorem getFdb_c (vx : SH) (x : List TFdb) (t : TFdb) (w0 : World) (hx : RdS (hh w0) 7 vx.v (x.map cFdb)) : Pure Tryz.prog 115 [vx.v, .agg ⟨cFdb t⟩, .func (.func 49) ⟨[]⟩ ⟨[]⟩] (.tuple ⟨[.agg ⟨cFdb (getM cmpFdb zFdb x t)⟩, .bool (bsHit cmpFdb x t)]⟩) w0 := by
  have lvx := hx.bd
  refine enter (n := 26) Tryz.func115 rfl rfl rfl fun a (hs : St 26 [(0, vx.v), (1, .agg ⟨cFdb t⟩), (2, .func (.func 49) ⟨[]⟩ ⟨[]⟩)] a) => ?_
  have m := Hp.start w0
  refine c_reg ?_
  refine r_box (cs := cFdb t) hs m rfl rfl rfl ?_
  clear m hs a; intro p1 w2 m a hs
  refine r_alloc hs m ze56 rfl ?_
  clear m hs a w2; intro p3 w4 m a hs
  refine r_ok hs m (ok_assign rfl) rfl ?_
  clear hs a; intro a hs
  refine wpList_nil (n_then ?_)
  refine c_reg ?_
  refine r_ok hs m (ok_move rfl) rfl ?_
  clear hs a; intro a hs
  refine r_ok hs m (ok_load_ag (vs := cFdb t) rfl ty56 (bx_at r1) rfl rfl) rfl ?_
  clear hs a; intro a hs
  refine r_ok hs m (ok_move rfl) rfl ?_
  clear hs a; intro a hs
  refine r_callP hs m rfl rfl ca103 rfl (bsFdb_c vx x t _ (m.rd hx) ) rfl ?_
  clear m hs a w4; intro w5 m a hs
  refine r_ok hs m (ok_move rfl) rfl ?_
  clear hs a; intro a hs
  refine r_ok hs m (ok_extract rfl rfl) rfl ?_
  clear hs a; intro a hs
  refine r_ok hs m (ok_extract rfl rfl) rfl ?_
  clear hs a; intro a hs
  refine r_ok hs m (ok_assign rfl) rfl ?_
  clear hs a; intro a hs
  refine r_ok hs m (ok_assign rfl) rfl ?_
  clear hs a; intro a hs
  refine wpList_nil (n_then ?_)
  refine c_seq ?_
  refine c_reg ?_
  refine r_ok hs m (ok_move rfl) rfl ?_
  clear hs a; intro a hs
  refine r_ok hs m (ok_not rfl) rfl ?_
  clear hs a; intro a hs
  refine wpList_nil (n_then ?_)
  refine c_cond hs rfl (fun h6 => ?_) (fun h6 => ?_)
  · have h6p := h6; simp only [Bool.or_eq_true, Bool.or_eq_false_iff, Bool.and_eq_true, Bool.and_eq_false_iff, Bool.not_eq_true', Bool.not_eq_false', decide_eq_true_eq, decide_eq_false_iff_not, beq_iff_eq, bne_iff_ne, beq_eq_false_iff_ne, bne_eq_false_iff_eq, ne_eq, gt_iff_lt, ge_iff_le, Int.not_lt, Int.not_le] at h6p
    refine c_reg ?_
    refine r_alloc hs m ze56 rfl ?_
    clear m hs a w5; intro p7 w8 m a hs
    refine r_ok hs m (ok_nilCheck rfl) rfl ?_
    clear hs a; intro a hs
    refine r_ok hs m (ok_load_ag (vs := cFdb (⟨(⟨⟨0, rfl⟩, ⟨0, rfl⟩, ⟨0, rfl⟩, ⟨0, rfl⟩, ⟨0, rfl⟩, ⟨0, rfl⟩⟩ : TMAC), ⟨0, rfl⟩⟩ : TFdb)) rfl ty56 (bx_at r0) rfl rfl) rfl ?_
    clear hs a; intro a hs
    refine r_store (cs' := cFdb (⟨(⟨⟨0, rfl⟩, ⟨0, rfl⟩, ⟨0, rfl⟩, ⟨0, rfl⟩, ⟨0, rfl⟩, ⟨0, rfl⟩⟩ : TMAC), ⟨0, rfl⟩⟩ : TFdb)) (vs := cFdb (⟨(⟨⟨0, rfl⟩, ⟨0, rfl⟩, ⟨0, rfl⟩, ⟨0, rfl⟩, ⟨0, rfl⟩, ⟨0, rfl⟩⟩ : TMAC), ⟨0, rfl⟩⟩ : TFdb)) hs m rfl rfl ty56 s1 rfl rfl rfl rfl rfl ?_
    clear m w8; intro w9 m
    refine r_ok hs m (ok_assign rfl) rfl ?_
    clear hs a; intro a hs
    refine wpList_nil (n_then ?_)
    refine wp_ret ?_
    refine ret_then (leave hs (vs := [.agg ⟨cFdb (⟨(⟨⟨0, rfl⟩, ⟨0, rfl⟩, ⟨0, rfl⟩, ⟨0, rfl⟩, ⟨0, rfl⟩, ⟨0, rfl⟩⟩ : TMAC), ⟨0, rfl⟩⟩ : TFdb)⟩, .bool false]) rfl ⟨resv_cell (cs := cFdb (⟨(⟨⟨0, rfl⟩, ⟨0, rfl⟩, ⟨0, rfl⟩, ⟨0, rfl⟩, ⟨0, rfl⟩, ⟨0, rfl⟩⟩ : TMAC), ⟨0, rfl⟩⟩ : TFdb)) m rfl ty56 r1 rfl, rfl, trivial⟩ ?_)
    refine ⟨?_, m.sub .n⟩
    have q10 : ((⟨(⟨⟨0, rfl⟩, ⟨0, rfl⟩, ⟨0, rfl⟩, ⟨0, rfl⟩, ⟨0, rfl⟩, ⟨0, rfl⟩⟩ : TMAC), ⟨0, rfl⟩⟩ : TFdb) : TFdb) = getM cmpFdb zFdb x t := by clear hs m; first | (simp [getM, *]; done) | (simp [getM, *]; rfl)
    have q11 : (false : Bool) = bsHit cmpFdb x t := by clear hs m; first | (simp [getM, *]; done) | (simp [getM, *]; rfl)
    first | (rw [q10, q11]; done) | (rw [q10, q11]; rfl) | (rw [q11, q10]; rfl) | (simp only [q10, q11, pack]; done)
  have h6p := h6; simp only [Bool.or_eq_true, Bool.or_eq_false_iff, Bool.and_eq_true, Bool.and_eq_false_iff, Bool.not_eq_true', Bool.not_eq_false', decide_eq_true_eq, decide_eq_false_iff_not, beq_iff_eq, bne_iff_ne, beq_eq_false_iff_ne, bne_eq_false_iff_eq, ne_eq, gt_iff_lt, ge_iff_le, Int.not_lt, Int.not_le] at h6p
  refine wp_skip ?_
  refine n_then ?_
  refine c_reg ?_
  refine r_ok hs m (ok_move rfl) rfl ?_
  clear hs a; intro a hs
  refine r_ok hs m (ok_move rfl) rfl ?_
  clear hs a; intro a hs
  obtain ⟨e12, he13⟩ := get_of_lt (l := x) (i := bsI (fun e => (cmpFdb e t).v) x) (by first | omega | exact bsHit_lt (by assumption))
  refine elF (c := cFdb) (e := e12) hs m (x := (.tmp 22)) (ix := (.tmp 23)) rfl rfl sl27 ty56 hx (by omega) he13 fun p14 hp15 ok16 => ?_
  refine r_ok hs m (ok16 _ _ _ _ _) rfl ?_
  clear hs a; intro a hs
  refine r_ok hs m (ok_load_ag (vs := cFdb e12) rfl ty56 (fr_at hp15) rfl rfl) rfl ?_
  clear hs a; intro a hs
  refine r_store (cs' := cFdb e12) (vs := cFdb e12) hs m rfl rfl ty56 s0 rfl rfl rfl rfl rfl ?_
  clear m w5; intro w17 m
  refine r_ok hs m (ok_assign rfl) rfl ?_
  clear hs a; intro a hs
  refine wpList_nil (n_then ?_)
  refine wp_ret ?_
  refine leave hs (vs := [.agg ⟨cFdb e12⟩, .bool true]) rfl ⟨resv_cell (cs := cFdb e12) m rfl ty56 r0 rfl, rfl, trivial⟩ ?_
  refine ⟨?_, m.sub .n⟩
  have q18 : (e12 : TFdb) = getM cmpFdb zFdb x t := by clear hs m; first | (simp [getM, *]; done) | (simp [getM, *]; rfl)
  have q19 : (true : Bool) = bsHit cmpFdb x t := by clear hs m; first | (simp [getM, *]; done) | (simp [getM, *]; rfl)
  first | (rw [q18, q19]; done) | (rw [q18, q19]; rfl) | (rw [q19, q18]; rfl) | (simp only [q18, q19, pack]; done)
theorem lacksRoute_c (vx : SH) (x : List TRoute) (t : TRoute) (w0 : World) (hx : RdS (hh w0) 4 vx.v (x.map cRoute)) : Pure Tryz.prog 60 [vx.v, .agg ⟨cRoute t⟩, .func (.func 45) ⟨[]⟩ ⟨[]⟩] (.bool (lacksM cmpRoute zRoute x t)) w0 := by
  have lvx := hx.bd
  refine enter (n := 23) Tryz.func60 rfl rfl rfl fun a (hs : St 23 [(0, vx.v), (1, .agg ⟨cRoute t⟩), (2, .func (.func 45) ⟨[]⟩ ⟨[]⟩)] a) => ?_
  have m := Hp.start w0
  refine c_reg ?_
  refine r_box (cs := cRoute t) hs m rfl rfl rfl ?_
  clear m hs a; intro p1 w2 m a hs
  refine r_ok hs m (ok_assign rfl) rfl ?_
  clear hs a; intro a hs
  refine wpList_nil (n_then ?_)
  refine c_reg ?_
  refine r_ok hs m (ok_move rfl) rfl ?_
  clear hs a; intro a hs
  refine r_ok hs m (ok_load_ag (vs := cRoute t) rfl ty51 (bx_at r0) rfl rfl) rfl ?_
  clear hs a; intro a hs
  refine r_ok hs m (ok_move rfl) rfl ?_
  clear hs a; intro a hs
  refine r_callP hs m rfl rfl ca112 rfl (getRoute_c vx x t _ (m.rd hx) ) rfl ?_
  clear m hs a w2; intro w3 m a hs
  refine r_ok hs m (ok_move rfl) rfl ?_
  clear hs a; intro a hs
  refine r_ok hs m (ok_extract rfl rfl) rfl ?_
  clear hs a; intro a hs
  refine r_ok hs m (ok_extract rfl rfl) rfl ?_
  clear hs a; intro a hs
  refine r_alloc hs m ze51 rfl ?_
  clear m hs a w3; intro p4 w5 m a hs
  refine r_store (cs' := cRoute (getM cmpRoute zRoute x t)) (vs := cRoute (getM cmpRoute zRoute x t)) hs m rfl rfl ty51 s0 rfl rfl rfl rfl rfl ?_
  clear m w5; intro w6 m
  refine r_ok hs m (ok_assign rfl) rfl ?_
  clear hs a; intro a hs
  refine wpList_nil (n_then ?_)
  refine c_reg ?_
  refine r_ok hs m (ok_move rfl) rfl ?_
  clear hs a; intro a hs
  refine r_ok hs m (ok_not rfl) rfl ?_
  clear hs a; intro a hs
  refine r_ok hs m (ok_move rfl) rfl ?_
  clear hs a; intro a hs
  refine l_cut (.c (.c (.c (.c (.n))))) (fun a w => St 23 [(22, .bool ((!(bsHit cmpRoute x t)) || (!(decide (getM cmpRoute zRoute x t = t)))))] a ∧ Hp w0 (hh w0) [Bx p4 51 (cRoute (getM cmpRoute zRoute x t)), Bx p1 51 (cRoute t)] w) ?_ ?_
  · rcases Bool.eq_false_or_eq_true (!(bsHit cmpRoute x t)) with hb7 | hb7
    · have hb7p := hb7; simp only [Bool.or_eq_true, Bool.or_eq_false_iff, Bool.and_eq_true, Bool.and_eq_false_iff, Bool.not_eq_true', Bool.not_eq_false', decide_eq_true_eq, decide_eq_false_iff_not, beq_iff_eq, bne_iff_ne, beq_eq_false_iff_ne, bne_eq_false_iff_eq, ne_eq, gt_iff_lt, ge_iff_le, Int.not_lt, Int.not_le] at hb7p
      refine g_out hs rfl rfl hb7 rfl ?_
      clear hs a; intro a hs
      refine g_out hs rfl rfl hb7 rfl ?_
      clear hs a; intro a hs
      refine g_out hs rfl rfl hb7 rfl ?_
      clear hs a; intro a hs
      refine r_ok hs m (ok_pick (r := .bool ((!(bsHit cmpRoute x t)) || (!(decide (getM cmpRoute zRoute x t = t))))) rfl rfl rfl (by rw [hb7]; rfl)) rfl ?_
      clear hs a; intro a hs
      exact wpList_nil (n_then ⟨hs.to ⟨rfl, trivial⟩, m⟩)
    · have hb7p := hb7; simp only [Bool.or_eq_true, Bool.or_eq_false_iff, Bool.and_eq_true, Bool.and_eq_false_iff, Bool.not_eq_true', Bool.not_eq_false', decide_eq_true_eq, decide_eq_false_iff_not, beq_iff_eq, bne_iff_ne, beq_eq_false_iff_ne, bne_eq_false_iff_eq, ne_eq, gt_iff_lt, ge_iff_le, Int.not_lt, Int.not_le] at hb7p
      refine r_okg hs rfl rfl hb7 m (ok_load_ag (vs := cRoute (getM cmpRoute zRoute x t)) rfl ty51 (bx_at r0) rfl rfl) rfl ?_
      clear hs a; intro a hs
      refine r_okg hs rfl rfl hb7 m (ok_load_ag (vs := cRoute t) rfl ty51 (bx_at r1) rfl rfl) rfl ?_
      clear hs a; intro a hs
      refine r_okg hs rfl rfl hb7 m (ok_nev (b := decide (getM cmpRoute zRoute x t = t)) rfl rfl eqT51 (fRoute _) (fRoute _) (iRoute (getM cmpRoute zRoute x t) t)) rfl ?_
      clear hs a; intro a hs
      refine r_ok hs m (ok_pick (r := .bool ((!(bsHit cmpRoute x t)) || (!(decide (getM cmpRoute zRoute x t = t))))) rfl rfl rfl (by rw [hb7]; rfl)) rfl ?_
      clear hs a; intro a hs
      exact wpList_nil (n_then ⟨hs.to ⟨rfl, trivial⟩, m⟩)
  clear hs m a w6; rintro a w8 ⟨hs, m⟩
  refine r_ok hs m (ok_assign rfl) rfl ?_
  clear hs a; intro a hs
  refine wpList_nil (n_then ?_)
  refine wp_ret ?_
  refine leave hs (vs := [.bool ((!(bsHit cmpRoute x t)) || (!(decide (getM cmpRoute zRoute x t = t))))]) rfl ⟨rfl, trivial⟩ ?_
  refine ⟨?_, m.sub .n⟩
  have q9 : ((!(bsHit cmpRoute x t)) || (!(decide (getM cmpRoute zRoute x t = t))) : Bool) = lacksM cmpRoute zRoute x t := by clear hs m; simp [lacksM, *]
  first | (rw [q9]; done) | (rw [q9]; rfl) | (rw [q9]; rfl) | (simp only [q9, pack]; done)
theorem lacksNeigh_c (vx : SH) (x : List TNeigh) (t : TNeigh) (w0 : World) (hx : RdS (hh w0) 7 vx.v (x.map cNeigh)) : Pure Tryz.prog 58 [vx.v, .agg ⟨cNeigh t⟩, .func (.func 47) ⟨[]⟩ ⟨[]⟩] (.bool (lacksM cmpNeigh zNeigh x t)) w0 := by
  have lvx := hx.bd
  refine enter (n := 23) Tryz.func58 rfl rfl rfl fun a (hs : St 23 [(0, vx.v), (1, .agg ⟨cNeigh t⟩), (2, .func (.func 47) ⟨[]⟩ ⟨[]⟩)] a) => ?_
  have m := Hp.start w0
  refine c_reg ?_
  refine r_box (cs := cNeigh t) hs m rfl rfl rfl ?_
  clear m hs a; intro p1 w2 m a hs
  refine r_ok hs m (ok_assign rfl) rfl ?_
  clear hs a; intro a hs
  refine wpList_nil (n_then ?_)
  refine c_reg ?_
  refine r_ok hs m (ok_move rfl) rfl ?_
  clear hs a; intro a hs
  refine r_ok hs m (ok_load_ag (vs := cNeigh t) rfl ty54 (bx_at r0) rfl rfl) rfl ?_
  clear hs a; intro a hs
  refine r_ok hs m (ok_move rfl) rfl ?_
  clear hs a; intro a hs
  refine r_callP hs m rfl rfl ca114 rfl (getNeigh_c vx x t _ (m.rd hx) ) rfl ?_
  clear m hs a w2; intro w3 m a hs
  refine r_ok hs m (ok_move rfl) rfl ?_
  clear hs a; intro a hs
  refine r_ok hs m (ok_extract rfl rfl) rfl ?_
  clear hs a; intro a hs
  refine r_ok hs m (ok_extract rfl rfl) rfl ?_
  clear hs a; intro a hs
  refine r_alloc hs m ze54 rfl ?_
  clear m hs a w3; intro p4 w5 m a hs
  refine r_store (cs' := cNeigh (getM cmpNeigh zNeigh x t)) (vs := cNeigh (getM cmpNeigh zNeigh x t)) hs m rfl rfl ty54 s0 rfl rfl rfl rfl rfl ?_
  clear m w5; intro w6 m
  refine r_ok hs m (ok_assign rfl) rfl ?_
  clear hs a; intro a hs
  refine wpList_nil (n_then ?_)
  refine c_reg ?_
  refine r_ok hs m (ok_move rfl) rfl ?_
  clear hs a; intro a hs
  refine r_ok hs m (ok_not rfl) rfl ?_
  clear hs a; intro a hs
  refine r_ok hs m (ok_move rfl) rfl ?_
  clear hs a; intro a hs
  refine l_cut (.c (.c (.c (.c (.n))))) (fun a w => St 23 [(22, .bool ((!(bsHit cmpNeigh x t)) || (!(decide (getM cmpNeigh zNeigh x t = t)))))] a ∧ Hp w0 (hh w0) [Bx p4 54 (cNeigh (getM cmpNeigh zNeigh x t)), Bx p1 54 (cNeigh t)] w) ?_ ?_
  · rcases Bool.eq_false_or_eq_true (!(bsHit cmpNeigh x t)) with hb7 | hb7
    · have hb7p := hb7; simp only [Bool.or_eq_true, Bool.or_eq_false_iff, Bool.and_eq_true, Bool.and_eq_false_iff, Bool.not_eq_true', Bool.not_eq_false', decide_eq_true_eq, decide_eq_false_iff_not, beq_iff_eq, bne_iff_ne, beq_eq_false_iff_ne, bne_eq_false_iff_eq, ne_eq, gt_iff_lt, ge_iff_le, Int.not_lt, Int.not_le] at hb7p
      refine g_out hs rfl rfl hb7 rfl ?_
      clear hs a; intro a hs
      refine g_out hs rfl rfl hb7 rfl ?_
      clear hs a; intro a hs
      refine g_out hs rfl rfl hb7 rfl ?_
      clear hs a; intro a hs
      refine r_ok hs m (ok_pick (r := .bool ((!(bsHit cmpNeigh x t)) || (!(decide (getM cmpNeigh zNeigh x t = t))))) rfl rfl rfl (by rw [hb7]; rfl)) rfl ?_
      clear hs a; intro a hs
      exact wpList_nil (n_then ⟨hs.to ⟨rfl, trivial⟩, m⟩)
    · have hb7p := hb7; simp only [Bool.or_eq_true, Bool.or_eq_false_iff, Bool.and_eq_true, Bool.and_eq_false_iff, Bool.not_eq_true', Bool.not_eq_false', decide_eq_true_eq, decide_eq_false_iff_not, beq_iff_eq, bne_iff_ne, beq_eq_false_iff_ne, bne_eq_false_iff_eq, ne_eq, gt_iff_lt, ge_iff_le, Int.not_lt, Int.not_le] at hb7p
      refine r_okg hs rfl rfl hb7 m (ok_load_ag (vs := cNeigh (getM cmpNeigh zNeigh x t)) rfl ty54 (bx_at r0) rfl rfl) rfl ?_
      clear hs a; intro a hs
      refine r_okg hs rfl rfl hb7 m (ok_load_ag (vs := cNeigh t) rfl ty54 (bx_at r1) rfl rfl) rfl ?_
      clear hs a; intro a hs
      refine r_okg hs rfl rfl hb7 m (ok_nev (b := decide (getM cmpNeigh zNeigh x t = t)) rfl rfl eqT54 (fNeigh _) (fNeigh _) (iNeigh (getM cmpNeigh zNeigh x t) t)) rfl ?_
      clear hs a; intro a hs
      refine r_ok hs m (ok_pick (r := .bool ((!(bsHit cmpNeigh x t)) || (!(decide (getM cmpNeigh zNeigh x t = t))))) rfl rfl rfl (by rw [hb7]; rfl)) rfl ?_
      clear hs a; intro a hs
      exact wpList_nil (n_then ⟨hs.to ⟨rfl, trivial⟩, m⟩)
  clear hs m a w6; rintro a w8 ⟨hs, m⟩
  refine r_ok hs m (ok_assign rfl) rfl ?_
  clear hs a; intro a hs
  refine wpList_nil (n_then ?_)
  refine wp_ret ?_
  refine leave hs (vs := [.bool ((!(bsHit cmpNeigh x t)) || (!(decide (getM cmpNeigh zNeigh x t = t))))]) rfl ⟨rfl, trivial⟩ ?_
  refine ⟨?_, m.sub .n⟩
  have q9 : ((!(bsHit cmpNeigh x t)) || (!(decide (getM cmpNeigh zNeigh x t = t))) : Bool) = lacksM cmpNeigh zNeigh x t := by clear hs m; simp [lacksM, *]
  first | (rw [q9]; done) | (rw [q9]; rfl) | (rw [q9]; rfl) | (simp only [q9, pack]; done)
theorem lacksFdb_c (vx : SH) (x : List TFdb) (t : TFdb) (w0 : World) (hx : RdS (hh w0) 7 vx.v (x.map cFdb)) : Pure Tryz.prog 59 [vx.v, .agg ⟨cFdb t⟩, .func (.func 49) ⟨[]⟩ ⟨[]⟩] (.bool (lacksM cmpFdb zFdb x t)) w0 := by
  have lvx := hx.bd
  refine enter (n := 23) Tryz.func59 rfl rfl rfl fun a (hs : St 23 [(0, vx.v), (1, .agg ⟨cFdb t⟩), (2, .func (.func 49) ⟨[]⟩ ⟨[]⟩)] a) => ?_
  have m := Hp.start w0
  refine c_reg ?_
  refine r_box (cs := cFdb t) hs m rfl rfl rfl ?_
  clear m hs a; intro p1 w2 m a hs
  refine r_ok hs m (ok_assign rfl) rfl ?_
  clear hs a; intro a hs
  refine wpList_nil (n_then ?_)
  refine c_reg ?_
  refine r_ok hs m (ok_move rfl) rfl ?_
  clear hs a; intro a hs
  refine r_ok hs m (ok_load_ag (vs := cFdb t) rfl ty56 (bx_at r0) rfl rfl) rfl ?_
  clear hs a; intro a hs
  refine r_ok hs m (ok_move rfl) rfl ?_
  clear hs a; intro a hs
  refine r_callP hs m rfl rfl ca115 rfl (getFdb_c vx x t _ (m.rd hx) ) rfl ?_
  clear m hs a w2; intro w3 m a hs
  refine r_ok hs m (ok_move rfl) rfl ?_
  clear hs a; intro a hs
  refine r_ok hs m (ok_extract rfl rfl) rfl ?_
  clear hs a; intro a hs
  refine r_ok hs m (ok_extract rfl rfl) rfl ?_
  clear hs a; intro a hs
  refine r_alloc hs m ze56 rfl ?_
  clear m hs a w3; intro p4 w5 m a hs
  refine r_store (cs' := cFdb (getM cmpFdb zFdb x t)) (vs := cFdb (getM cmpFdb zFdb x t)) hs m rfl rfl ty56 s0 rfl rfl rfl rfl rfl ?_
  clear m w5; intro w6 m
  refine r_ok hs m (ok_assign rfl) rfl ?_
  clear hs a; intro a hs
  refine wpList_nil (n_then ?_)
  refine c_reg ?_
  refine r_ok hs m (ok_move rfl) rfl ?_
  clear hs a; intro a hs
  refine r_ok hs m (ok_not rfl) rfl ?_
  clear hs a; intro a hs
  refine r_ok hs m (ok_move rfl) rfl ?_
  clear hs a; intro a hs
  refine l_cut (.c (.c (.c (.c (.n))))) (fun a w => St 23 [(22, .bool ((!(bsHit cmpFdb x t)) || (!(decide (getM cmpFdb zFdb x t = t)))))] a ∧ Hp w0 (hh w0) [Bx p4 56 (cFdb (getM cmpFdb zFdb x t)), Bx p1 56 (cFdb t)] w) ?_ ?_
  · rcases Bool.eq_false_or_eq_true (!(bsHit cmpFdb x t)) with hb7 | hb7
    · have hb7p := hb7; simp only [Bool.or_eq_true, Bool.or_eq_false_iff, Bool.and_eq_true, Bool.and_eq_false_iff, Bool.not_eq_true', Bool.not_eq_false', decide_eq_true_eq, decide_eq_false_iff_not, beq_iff_eq, bne_iff_ne, beq_eq_false_iff_ne, bne_eq_false_iff_eq, ne_eq, gt_iff_lt, ge_iff_le, Int.not_lt, Int.not_le] at hb7p
      refine g_out hs rfl rfl hb7 rfl ?_
      clear hs a; intro a hs
      refine g_out hs rfl rfl hb7 rfl ?_
      clear hs a; intro a hs
      refine g_out hs rfl rfl hb7 rfl ?_
      clear hs a; intro a hs
      refine r_ok hs m (ok_pick (r := .bool ((!(bsHit cmpFdb x t)) || (!(decide (getM cmpFdb zFdb x t = t))))) rfl rfl rfl (by rw [hb7]; rfl)) rfl ?_
      clear hs a; intro a hs
      exact wpList_nil (n_then ⟨hs.to ⟨rfl, trivial⟩, m⟩)
    · have hb7p := hb7; simp only [Bool.or_eq_true, Bool.or_eq_false_iff, Bool.and_eq_true, Bool.and_eq_false_iff, Bool.not_eq_true', Bool.not_eq_false', decide_eq_true_eq, decide_eq_false_iff_not, beq_iff_eq, bne_iff_ne, beq_eq_false_iff_ne, bne_eq_false_iff_eq, ne_eq, gt_iff_lt, ge_iff_le, Int.not_lt, Int.not_le] at hb7p
      refine r_okg hs rfl rfl hb7 m (ok_load_ag (vs := cFdb (getM cmpFdb zFdb x t)) rfl ty56 (bx_at r0) rfl rfl) rfl ?_
      clear hs a; intro a hs
      refine r_okg hs rfl rfl hb7 m (ok_load_ag (vs := cFdb t) rfl ty56 (bx_at r1) rfl rfl) rfl ?_
      clear hs a; intro a hs
      refine r_okg hs rfl rfl hb7 m (ok_nev (b := decide (getM cmpFdb zFdb x t = t)) rfl rfl eqT56 (fFdb _) (fFdb _) (iFdb (getM cmpFdb zFdb x t) t)) rfl ?_
      clear hs a; intro a hs
      refine r_ok hs m (ok_pick (r := .bool ((!(bsHit cmpFdb x t)) || (!(decide (getM cmpFdb zFdb x t = t))))) rfl rfl rfl (by rw [hb7]; rfl)) rfl ?_
      clear hs a; intro a hs
      exact wpList_nil (n_then ⟨hs.to ⟨rfl, trivial⟩, m⟩)
  clear hs m a w6; rintro a w8 ⟨hs, m⟩
  refine r_ok hs m (ok_assign rfl) rfl ?_
  clear hs a; intro a hs
  refine wpList_nil (n_then ?_)
  refine wp_ret ?_
  refine leave hs (vs := [.bool ((!(bsHit cmpFdb x t)) || (!(decide (getM cmpFdb zFdb x t = t))))]) rfl ⟨rfl, trivial⟩ ?_
  refine ⟨?_, m.sub .n⟩
  have q9 : ((!(bsHit cmpFdb x t)) || (!(decide (getM cmpFdb zFdb x t = t))) : Bool) = lacksM cmpFdb zFdb x t := by clear hs m; simp [lacksM, *]
  first | (rw [q9]; done) | (rw [q9]; rfl) | (rw [q9]; rfl) | (simp only [q9, pack]; done)
theorem risesRoute_c (vx : SH) (x : List TRoute) (w0 : World) (hx : RdS (hh w0) 4 vx.v (x.map cRoute)) : Pure Tryz.prog 109 [vx.v, .func (.func 45) ⟨[]⟩ ⟨[]⟩] (.bool (risesM cmpRoute x)) w0 := by
  have lvx := hx.bd
  refine enter (n := 28) Tryz.func109 rfl rfl rfl fun a (hs : St 28 [(0, vx.v), (1, .func (.func 45) ⟨[]⟩ ⟨[]⟩)] a) => ?_
  have m := Hp.start w0
  refine c_reg ?_
  refine r_ok hs m (ok_assign rfl) rfl ?_
  clear hs a; intro a hs
  refine wpList_nil (n_then ?_)
  refine c_seq ?_
  refine c_reg ?_
  refine r_ok hs m (ok_move rfl) rfl ?_
  clear hs a; intro a hs
  refine r_ok hs m (ok_len (r := (x.length : Int)) m rfl sl25 (rc_fr hx) (by simp)) rfl ?_
  clear hs a; intro a hs
  refine r_ok hs m (ok_move rfl) rfl ?_
  clear hs a; intro a hs
  refine wpList_nil (n_then ?_)
  refine wp_block ?_
  refine wp_loop_ghost (fun gn a w => ∃ k : Nat, (k ≤ x.length) ∧ (allK (riseAt cmpRoute x) k = true) ∧ gn = x.length - k ∧ St 28 [(0, vx.v), (1, .func (.func 45) ⟨[]⟩ ⟨[]⟩), (7, .int .i64 (x.length : Int)), (8, .int .i64 (k : Int))] a ∧ Hp w0 (hh w0) [] w) (x.length - 0) ⟨0, by omega, by rfl, rfl, hs.to ⟨rfl, rfl, rfl, rfl, trivial⟩, m.sub .n⟩ ?_
  clear hs m a
  rintro gn a w1 ⟨k, hk, ho, rfl, hs, m⟩
  refine c_reg ?_
  refine r_ok hs m (ok_bin rfl rfl rfl) rfl ?_
  clear hs a; intro a hs
  refine wpList_nil (n_then ?_)
  refine c_seq ?_
  refine c_cond hs rfl (fun h2 => ?_) (fun h2 => ?_)
  rotate_left
  · have h2p := of_decide_eq_false h2
    refine wp_exit ?_
    refine ex_then (ex_then (ex_hit (?_)))
    refine n_then ?_
    refine c_reg ?_
    refine r_ok hs m (ok_assign rfl) rfl ?_
    clear hs a; intro a hs
    refine wpList_nil (n_then ?_)
    refine wp_ret ?_
    refine leave hs (vs := [.bool true]) rfl ⟨rfl, trivial⟩ ?_
    refine ⟨?_, m.sub .n⟩
    have q3 : (true : Bool) = risesM cmpRoute x := by clear hs m; first | exact (rises_f (k := k) (by omega) (by assumption)).symm | (unfold risesM; rw [show x.length = k by omega]; exact ho.symm)
    first | (rw [q3]; done) | (rw [q3]; rfl) | (rw [q3]; rfl) | (simp only [q3, pack]; done)
  have h2p := of_decide_eq_true h2
  refine wp_skip ?_
  refine n_then ?_
  refine c_seq ?_
  refine wp_block ?_
  refine c_reg ?_
  refine r_ok hs m (ok_move rfl) rfl ?_
  clear hs a; intro a hs
  refine r_ok hs m (ok_assign rfl) rfl ?_
  clear hs a; intro a hs
  refine wpList_nil (n_then ?_)
  refine c_draw m mo (by kernel_rfl) ?_
  refine q_ok hs (ok_move rfl) rfl ?_
  clear hs a; intro a hs
  refine q_ok hs (ok_bin rfl rfl rfl) rfl ?_
  clear hs a; intro a hs
  refine q_ok hs (ok_move rfl) rfl ?_
  clear hs a; intro a hs
  refine q_cut (.c (.c (.c (.c (.c (.c (.c (.c (.c (.c (.c (.c (.c (.n)))))))))))))) (fun a => St 28 [(0, vx.v), (1, .func (.func 45) ⟨[]⟩ ⟨[]⟩), (7, .int .i64 (x.length : Int)), (8, .int .i64 (k : Int)), (26, .bool ((decide ((k : Int) > 0)) && (decide (((cmpRoute ((x[((k : Int) - 1).toNat]?).getD (⟨(⟨⟨0, rfl⟩, ⟨0, rfl⟩⟩ : TPrefix), ⟨0, rfl⟩, false⟩ : TRoute)) ((x[k]?).getD (⟨(⟨⟨0, rfl⟩, ⟨0, rfl⟩⟩ : TPrefix), ⟨0, rfl⟩, false⟩ : TRoute))).v) ≥ 0))))] a) ?_ ?_
  · rcases Bool.eq_false_or_eq_true (decide ((k : Int) > 0)) with hb4 | hb4
    · have hb4p := of_decide_eq_true hb4
      refine q_okg hs rfl rfl hb4 (ok_move rfl) rfl ?_
      clear hs a; intro a hs
      refine q_okg hs rfl rfl hb4 (ok_move rfl) rfl ?_
      clear hs a; intro a hs
      refine q_okg hs rfl rfl hb4 (ok_move rfl) rfl ?_
      clear hs a; intro a hs
      refine q_okg hs rfl rfl hb4 (ok_sub (r := (k : Int) - 1) rfl rfl (wrap_i64 (by omega) (by omega))) rfl ?_
      clear hs a; intro a hs
      obtain ⟨e5, he6⟩ := get_of_lt (l := x) (i := ((k : Int) - 1).toNat) (by omega)
      refine elF (c := cRoute) (e := e5) hs m (x := (.tmp 15)) (ix := (.tmp 17)) rfl rfl sl25 ty51 hx (by omega) he6 fun p7 hp8 ok9 => ?_
      refine q_okg hs rfl rfl hb4 (ok9 _ _ _ _ _) rfl ?_
      clear hs a; intro a hs
      refine q_okg hs rfl rfl hb4 (ok_load_ag (vs := cRoute e5) rfl ty51 (fr_at hp8) rfl rfl) rfl ?_
      clear hs a; intro a hs
      refine q_okg hs rfl rfl hb4 (ok_move rfl) rfl ?_
      clear hs a; intro a hs
      refine q_okg hs rfl rfl hb4 (ok_move rfl) rfl ?_
      clear hs a; intro a hs
      obtain ⟨e10, he11⟩ := get_of_lt (l := x) (i := k) (by omega)
      refine elF (c := cRoute) (e := e10) hs m (x := (.tmp 20)) (ix := (.tmp 21)) rfl rfl sl25 ty51 hx (by omega) he11 fun p12 hp13 ok14 => ?_
      refine q_okg hs rfl rfl hb4 (ok14 _ _ _ _ _) rfl ?_
      clear hs a; intro a hs
      refine q_okg hs rfl rfl hb4 (ok_load_ag (vs := cRoute e10) rfl ty51 (fr_at hp13) rfl rfl) rfl ?_
      clear hs a; intro a hs
      refine q_callPg hs rfl rfl hb4 rfl rfl ca45 rfl (fun w m => croute_c e5 e10 w  ) rfl ?_
      clear hs a; intro a hs
      refine q_okg hs rfl rfl hb4 (ok_bin rfl rfl rfl) rfl ?_
      clear hs a; intro a hs
      refine q_ok hs (ok_pick (r := .bool ((decide ((k : Int) > 0)) && (decide (((cmpRoute ((x[((k : Int) - 1).toNat]?).getD (⟨(⟨⟨0, rfl⟩, ⟨0, rfl⟩⟩ : TPrefix), ⟨0, rfl⟩, false⟩ : TRoute)) ((x[k]?).getD (⟨(⟨⟨0, rfl⟩, ⟨0, rfl⟩⟩ : TPrefix), ⟨0, rfl⟩, false⟩ : TRoute))).v) ≥ 0)))) rfl rfl rfl (by (try rw [he6]); (try rw [he11]); rw [hb4]; rfl)) rfl ?_
      clear hs a; intro a hs
      exact wpQuiet_nil (hs.to ⟨rfl, rfl, rfl, rfl, rfl, trivial⟩)
    · have hb4p := of_decide_eq_false hb4
      refine q_out hs rfl rfl hb4 rfl ?_
      clear hs a; intro a hs
      refine q_out hs rfl rfl hb4 rfl ?_
      clear hs a; intro a hs
      refine q_out hs rfl rfl hb4 rfl ?_
      clear hs a; intro a hs
      refine q_out hs rfl rfl hb4 rfl ?_
      clear hs a; intro a hs
      refine q_out hs rfl rfl hb4 rfl ?_
      clear hs a; intro a hs
      refine q_out hs rfl rfl hb4 rfl ?_
      clear hs a; intro a hs
      refine q_out hs rfl rfl hb4 rfl ?_
      clear hs a; intro a hs
      refine q_out hs rfl rfl hb4 rfl ?_
      clear hs a; intro a hs
      refine q_out hs rfl rfl hb4 rfl ?_
      clear hs a; intro a hs
      refine q_out hs rfl rfl hb4 rfl ?_
      clear hs a; intro a hs
      refine q_out hs rfl rfl hb4 rfl ?_
      clear hs a; intro a hs
      refine q_out hs rfl rfl hb4 rfl ?_
      clear hs a; intro a hs
      refine q_ok hs (ok_pick (r := .bool ((decide ((k : Int) > 0)) && (decide (((cmpRoute ((x[((k : Int) - 1).toNat]?).getD (⟨(⟨⟨0, rfl⟩, ⟨0, rfl⟩⟩ : TPrefix), ⟨0, rfl⟩, false⟩ : TRoute)) ((x[k]?).getD (⟨(⟨⟨0, rfl⟩, ⟨0, rfl⟩⟩ : TPrefix), ⟨0, rfl⟩, false⟩ : TRoute))).v) ≥ 0)))) rfl rfl rfl (by rw [hb4]; rfl)) rfl ?_
      clear hs a; intro a hs
      exact wpQuiet_nil (hs.to ⟨rfl, rfl, rfl, rfl, rfl, trivial⟩)
  clear hs a; intro a hs
  refine wpQuiet_nil ?_; clear m w1; intro w15 m
  refine c_cond hs rfl (fun h16 => ?_) (fun h16 => ?_)
  · have h16p := h16; simp only [Bool.or_eq_true, Bool.or_eq_false_iff, Bool.and_eq_true, Bool.and_eq_false_iff, Bool.not_eq_true', Bool.not_eq_false', decide_eq_true_eq, decide_eq_false_iff_not, beq_iff_eq, bne_iff_ne, beq_eq_false_iff_ne, bne_eq_false_iff_eq, ne_eq, gt_iff_lt, ge_iff_le, Int.not_lt, Int.not_le] at h16p
    refine c_reg ?_
    refine r_ok hs m (ok_assign rfl) rfl ?_
    clear hs a; intro a hs
    refine wpList_nil (n_then ?_)
    refine wp_ret ?_
    refine ret_block (ret_then (ret_then (ret_block (ret_then (leave hs (vs := [.bool false]) rfl ⟨rfl, trivial⟩ ?_)))))
    refine ⟨?_, m.sub .n⟩
    have q17 : (false : Bool) = risesM cmpRoute x := by clear hs m; first | exact (rises_f (k := k) (by omega) (by assumption)).symm | (unfold risesM; rw [show x.length = k by omega]; exact ho.symm)
    first | (rw [q17]; done) | (rw [q17]; rfl) | (rw [q17]; rfl) | (simp only [q17, pack]; done)
  have h16p := h16; simp only [Bool.or_eq_true, Bool.or_eq_false_iff, Bool.and_eq_true, Bool.and_eq_false_iff, Bool.not_eq_true', Bool.not_eq_false', decide_eq_true_eq, decide_eq_false_iff_not, beq_iff_eq, bne_iff_ne, beq_eq_false_iff_ne, bne_eq_false_iff_eq, ne_eq, gt_iff_lt, ge_iff_le, Int.not_lt, Int.not_le] at h16p
  refine wp_skip ?_
  refine n_block (n_then ?_)
  refine c_last ?_
  refine r_ok hs m (ok_add (r := (k : Int) + 1) rfl rfl (wrap_i64 (by omega) (by omega))) rfl ?_
  clear hs a; intro a hs
  refine r_ok hs m (ok_move rfl) rfl ?_
  clear hs a; intro a hs
  refine wpList_nil (n_then ?_)
  exact ⟨x.length - (k + 1), by omega, k + 1, by omega, by exact allK_succ ho (rise_t (by omega) (by assumption)), rfl, hs.to ⟨rfl, rfl, rfl, rfl, trivial⟩, m.sub .n⟩
theorem risesNeigh_c (vx : SH) (x : List TNeigh) (w0 : World) (hx : RdS (hh w0) 7 vx.v (x.map cNeigh)) : Pure Tryz.prog 110 [vx.v, .func (.func 47) ⟨[]⟩ ⟨[]⟩] (.bool (risesM cmpNeigh x)) w0 := by
  have lvx := hx.bd
  refine enter (n := 28) Tryz.func110 rfl rfl rfl fun a (hs : St 28 [(0, vx.v), (1, .func (.func 47) ⟨[]⟩ ⟨[]⟩)] a) => ?_
  have m := Hp.start w0
  refine c_reg ?_
  refine r_ok hs m (ok_assign rfl) rfl ?_
  clear hs a; intro a hs
  refine wpList_nil (n_then ?_)
  refine c_seq ?_
  refine c_reg ?_
  refine r_ok hs m (ok_move rfl) rfl ?_
  clear hs a; intro a hs
  refine r_ok hs m (ok_len (r := (x.length : Int)) m rfl sl26 (rc_fr hx) (by simp)) rfl ?_
  clear hs a; intro a hs
  refine r_ok hs m (ok_move rfl) rfl ?_
  clear hs a; intro a hs
  refine wpList_nil (n_then ?_)
  refine wp_block ?_
  refine wp_loop_ghost (fun gn a w => ∃ k : Nat, (k ≤ x.length) ∧ (allK (riseAt cmpNeigh x) k = true) ∧ gn = x.length - k ∧ St 28 [(0, vx.v), (1, .func (.func 47) ⟨[]⟩ ⟨[]⟩), (7, .int .i64 (x.length : Int)), (8, .int .i64 (k : Int))] a ∧ Hp w0 (hh w0) [] w) (x.length - 0) ⟨0, by omega, by rfl, rfl, hs.to ⟨rfl, rfl, rfl, rfl, trivial⟩, m.sub .n⟩ ?_
  clear hs m a
  rintro gn a w1 ⟨k, hk, ho, rfl, hs, m⟩
  refine c_reg ?_
  refine r_ok hs m (ok_bin rfl rfl rfl) rfl ?_
  clear hs a; intro a hs
  refine wpList_nil (n_then ?_)
  refine c_seq ?_
  refine c_cond hs rfl (fun h2 => ?_) (fun h2 => ?_)
  rotate_left
  · have h2p := of_decide_eq_false h2
    refine wp_exit ?_
    refine ex_then (ex_then (ex_hit (?_)))
    refine n_then ?_
    refine c_reg ?_
    refine r_ok hs m (ok_assign rfl) rfl ?_
    clear hs a; intro a hs
    refine wpList_nil (n_then ?_)
    refine wp_ret ?_
    refine leave hs (vs := [.bool true]) rfl ⟨rfl, trivial⟩ ?_
    refine ⟨?_, m.sub .n⟩
    have q3 : (true : Bool) = risesM cmpNeigh x := by clear hs m; first | exact (rises_f (k := k) (by omega) (by assumption)).symm | (unfold risesM; rw [show x.length = k by omega]; exact ho.symm)
    first | (rw [q3]; done) | (rw [q3]; rfl) | (rw [q3]; rfl) | (simp only [q3, pack]; done)
  have h2p := of_decide_eq_true h2
  refine wp_skip ?_
  refine n_then ?_
  refine c_seq ?_
  refine wp_block ?_
  refine c_reg ?_
  refine r_ok hs m (ok_move rfl) rfl ?_
  clear hs a; intro a hs
  refine r_ok hs m (ok_assign rfl) rfl ?_
  clear hs a; intro a hs
  refine wpList_nil (n_then ?_)
  refine c_draw m mo (by kernel_rfl) ?_
  refine q_ok hs (ok_move rfl) rfl ?_
  clear hs a; intro a hs
  refine q_ok hs (ok_bin rfl rfl rfl) rfl ?_
  clear hs a; intro a hs
  refine q_ok hs (ok_move rfl) rfl ?_
  clear hs a; intro a hs
  refine q_cut (.c (.c (.c (.c (.c (.c (.c (.c (.c (.c (.c (.c (.c (.n)))))))))))))) (fun a => St 28 [(0, vx.v), (1, .func (.func 47) ⟨[]⟩ ⟨[]⟩), (7, .int .i64 (x.length : Int)), (8, .int .i64 (k : Int)), (26, .bool ((decide ((k : Int) > 0)) && (decide (((cmpNeigh ((x[((k : Int) - 1).toNat]?).getD (⟨⟨0, rfl⟩, (⟨⟨0, rfl⟩, ⟨0, rfl⟩, ⟨0, rfl⟩, ⟨0, rfl⟩, ⟨0, rfl⟩, ⟨0, rfl⟩⟩ : TMAC)⟩ : TNeigh)) ((x[k]?).getD (⟨⟨0, rfl⟩, (⟨⟨0, rfl⟩, ⟨0, rfl⟩, ⟨0, rfl⟩, ⟨0, rfl⟩, ⟨0, rfl⟩, ⟨0, rfl⟩⟩ : TMAC)⟩ : TNeigh))).v) ≥ 0))))] a) ?_ ?_
  · rcases Bool.eq_false_or_eq_true (decide ((k : Int) > 0)) with hb4 | hb4
    · have hb4p := of_decide_eq_true hb4
      refine q_okg hs rfl rfl hb4 (ok_move rfl) rfl ?_
      clear hs a; intro a hs
      refine q_okg hs rfl rfl hb4 (ok_move rfl) rfl ?_
      clear hs a; intro a hs
      refine q_okg hs rfl rfl hb4 (ok_move rfl) rfl ?_
      clear hs a; intro a hs
      refine q_okg hs rfl rfl hb4 (ok_sub (r := (k : Int) - 1) rfl rfl (wrap_i64 (by omega) (by omega))) rfl ?_
      clear hs a; intro a hs
      obtain ⟨e5, he6⟩ := get_of_lt (l := x) (i := ((k : Int) - 1).toNat) (by omega)
      refine elF (c := cNeigh) (e := e5) hs m (x := (.tmp 15)) (ix := (.tmp 17)) rfl rfl sl26 ty54 hx (by omega) he6 fun p7 hp8 ok9 => ?_
      refine q_okg hs rfl rfl hb4 (ok9 _ _ _ _ _) rfl ?_
      clear hs a; intro a hs
      refine q_okg hs rfl rfl hb4 (ok_load_ag (vs := cNeigh e5) rfl ty54 (fr_at hp8) rfl rfl) rfl ?_
      clear hs a; intro a hs
      refine q_okg hs rfl rfl hb4 (ok_move rfl) rfl ?_
      clear hs a; intro a hs
      refine q_okg hs rfl rfl hb4 (ok_move rfl) rfl ?_
      clear hs a; intro a hs
      obtain ⟨e10, he11⟩ := get_of_lt (l := x) (i := k) (by omega)
      refine elF (c := cNeigh) (e := e10) hs m (x := (.tmp 20)) (ix := (.tmp 21)) rfl rfl sl26 ty54 hx (by omega) he11 fun p12 hp13 ok14 => ?_
      refine q_okg hs rfl rfl hb4 (ok14 _ _ _ _ _) rfl ?_
      clear hs a; intro a hs
      refine q_okg hs rfl rfl hb4 (ok_load_ag (vs := cNeigh e10) rfl ty54 (fr_at hp13) rfl rfl) rfl ?_
      clear hs a; intro a hs
      refine q_callPg hs rfl rfl hb4 rfl rfl ca47 rfl (fun w m => cneigh_c e5 e10 w  ) rfl ?_
      clear hs a; intro a hs
      refine q_okg hs rfl rfl hb4 (ok_bin rfl rfl rfl) rfl ?_
      clear hs a; intro a hs
      refine q_ok hs (ok_pick (r := .bool ((decide ((k : Int) > 0)) && (decide (((cmpNeigh ((x[((k : Int) - 1).toNat]?).getD (⟨⟨0, rfl⟩, (⟨⟨0, rfl⟩, ⟨0, rfl⟩, ⟨0, rfl⟩, ⟨0, rfl⟩, ⟨0, rfl⟩, ⟨0, rfl⟩⟩ : TMAC)⟩ : TNeigh)) ((x[k]?).getD (⟨⟨0, rfl⟩, (⟨⟨0, rfl⟩, ⟨0, rfl⟩, ⟨0, rfl⟩, ⟨0, rfl⟩, ⟨0, rfl⟩, ⟨0, rfl⟩⟩ : TMAC)⟩ : TNeigh))).v) ≥ 0)))) rfl rfl rfl (by (try rw [he6]); (try rw [he11]); rw [hb4]; rfl)) rfl ?_
      clear hs a; intro a hs
      exact wpQuiet_nil (hs.to ⟨rfl, rfl, rfl, rfl, rfl, trivial⟩)
    · have hb4p := of_decide_eq_false hb4
      refine q_out hs rfl rfl hb4 rfl ?_
      clear hs a; intro a hs
      refine q_out hs rfl rfl hb4 rfl ?_
      clear hs a; intro a hs
      refine q_out hs rfl rfl hb4 rfl ?_
      clear hs a; intro a hs
      refine q_out hs rfl rfl hb4 rfl ?_
      clear hs a; intro a hs
      refine q_out hs rfl rfl hb4 rfl ?_
      clear hs a; intro a hs
      refine q_out hs rfl rfl hb4 rfl ?_
      clear hs a; intro a hs
      refine q_out hs rfl rfl hb4 rfl ?_
      clear hs a; intro a hs
      refine q_out hs rfl rfl hb4 rfl ?_
      clear hs a; intro a hs
      refine q_out hs rfl rfl hb4 rfl ?_
      clear hs a; intro a hs
      refine q_out hs rfl rfl hb4 rfl ?_
      clear hs a; intro a hs
      refine q_out hs rfl rfl hb4 rfl ?_
      clear hs a; intro a hs
      refine q_out hs rfl rfl hb4 rfl ?_
      clear hs a; intro a hs
      refine q_ok hs (ok_pick (r := .bool ((decide ((k : Int) > 0)) && (decide (((cmpNeigh ((x[((k : Int) - 1).toNat]?).getD (⟨⟨0, rfl⟩, (⟨⟨0, rfl⟩, ⟨0, rfl⟩, ⟨0, rfl⟩, ⟨0, rfl⟩, ⟨0, rfl⟩, ⟨0, rfl⟩⟩ : TMAC)⟩ : TNeigh)) ((x[k]?).getD (⟨⟨0, rfl⟩, (⟨⟨0, rfl⟩, ⟨0, rfl⟩, ⟨0, rfl⟩, ⟨0, rfl⟩, ⟨0, rfl⟩, ⟨0, rfl⟩⟩ : TMAC)⟩ : TNeigh))).v) ≥ 0)))) rfl rfl rfl (by rw [hb4]; rfl)) rfl ?_
      clear hs a; intro a hs
      exact wpQuiet_nil (hs.to ⟨rfl, rfl, rfl, rfl, rfl, trivial⟩)
  clear hs a; intro a hs
  refine wpQuiet_nil ?_; clear m w1; intro w15 m
  refine c_cond hs rfl (fun h16 => ?_) (fun h16 => ?_)
  · have h16p := h16; simp only [Bool.or_eq_true, Bool.or_eq_false_iff, Bool.and_eq_true, Bool.and_eq_false_iff, Bool.not_eq_true', Bool.not_eq_false', decide_eq_true_eq, decide_eq_false_iff_not, beq_iff_eq, bne_iff_ne, beq_eq_false_iff_ne, bne_eq_false_iff_eq, ne_eq, gt_iff_lt, ge_iff_le, Int.not_lt, Int.not_le] at h16p
    refine c_reg ?_
    refine r_ok hs m (ok_assign rfl) rfl ?_
    clear hs a; intro a hs
    refine wpList_nil (n_then ?_)
    refine wp_ret ?_
    refine ret_block (ret_then (ret_then (ret_block (ret_then (leave hs (vs := [.bool false]) rfl ⟨rfl, trivial⟩ ?_)))))
    refine ⟨?_, m.sub .n⟩
    have q17 : (false : Bool) = risesM cmpNeigh x := by clear hs m; first | exact (rises_f (k := k) (by omega) (by assumption)).symm | (unfold risesM; rw [show x.length = k by omega]; exact ho.symm)
    first | (rw [q17]; done) | (rw [q17]; rfl) | (rw [q17]; rfl) | (simp only [q17, pack]; done)
  have h16p := h16; simp only [Bool.or_eq_true, Bool.or_eq_false_iff, Bool.and_eq_true, Bool.and_eq_false_iff, Bool.not_eq_true', Bool.not_eq_false', decide_eq_true_eq, decide_eq_false_iff_not, beq_iff_eq, bne_iff_ne, beq_eq_false_iff_ne, bne_eq_false_iff_eq, ne_eq, gt_iff_lt, ge_iff_le, Int.not_lt, Int.not_le] at h16p
  refine wp_skip ?_
  refine n_block (n_then ?_)
  refine c_last ?_
  refine r_ok hs m (ok_add (r := (k : Int) + 1) rfl rfl (wrap_i64 (by omega) (by omega))) rfl ?_
  clear hs a; intro a hs
  refine r_ok hs m (ok_move rfl) rfl ?_
  clear hs a; intro a hs
  refine wpList_nil (n_then ?_)
  exact ⟨x.length - (k + 1), by omega, k + 1, by omega, by exact allK_succ ho (rise_t (by omega) (by assumption)), rfl, hs.to ⟨rfl, rfl, rfl, rfl, trivial⟩, m.sub .n⟩
theorem risesFdb_c (vx : SH) (x : List TFdb) (w0 : World) (hx : RdS (hh w0) 7 vx.v (x.map cFdb)) : Pure Tryz.prog 111 [vx.v, .func (.func 49) ⟨[]⟩ ⟨[]⟩] (.bool (risesM cmpFdb x)) w0 := by
  have lvx := hx.bd
  refine enter (n := 28) Tryz.func111 rfl rfl rfl fun a (hs : St 28 [(0, vx.v), (1, .func (.func 49) ⟨[]⟩ ⟨[]⟩)] a) => ?_
  have m := Hp.start w0
  refine c_reg ?_
  refine r_ok hs m (ok_assign rfl) rfl ?_
  clear hs a; intro a hs
  refine wpList_nil (n_then ?_)
  refine c_seq ?_
  refine c_reg ?_
  refine r_ok hs m (ok_move rfl) rfl ?_
  clear hs a; intro a hs
  refine r_ok hs m (ok_len (r := (x.length : Int)) m rfl sl27 (rc_fr hx) (by simp)) rfl ?_
  clear hs a; intro a hs
  refine r_ok hs m (ok_move rfl) rfl ?_
  clear hs a; intro a hs
  refine wpList_nil (n_then ?_)
  refine wp_block ?_
  refine wp_loop_ghost (fun gn a w => ∃ k : Nat, (k ≤ x.length) ∧ (allK (riseAt cmpFdb x) k = true) ∧ gn = x.length - k ∧ St 28 [(0, vx.v), (1, .func (.func 49) ⟨[]⟩ ⟨[]⟩), (7, .int .i64 (x.length : Int)), (8, .int .i64 (k : Int))] a ∧ Hp w0 (hh w0) [] w) (x.length - 0) ⟨0, by omega, by rfl, rfl, hs.to ⟨rfl, rfl, rfl, rfl, trivial⟩, m.sub .n⟩ ?_
  clear hs m a
  rintro gn a w1 ⟨k, hk, ho, rfl, hs, m⟩
  refine c_reg ?_
  refine r_ok hs m (ok_bin rfl rfl rfl) rfl ?_
  clear hs a; intro a hs
  refine wpList_nil (n_then ?_)
  refine c_seq ?_
  refine c_cond hs rfl (fun h2 => ?_) (fun h2 => ?_)
  rotate_left
  · have h2p := of_decide_eq_false h2
    refine wp_exit ?_
    refine ex_then (ex_then (ex_hit (?_)))
    refine n_then ?_
    refine c_reg ?_
    refine r_ok hs m (ok_assign rfl) rfl ?_
    clear hs a; intro a hs
    refine wpList_nil (n_then ?_)
    refine wp_ret ?_
    refine leave hs (vs := [.bool true]) rfl ⟨rfl, trivial⟩ ?_
    refine ⟨?_, m.sub .n⟩
    have q3 : (true : Bool) = risesM cmpFdb x := by clear hs m; first | exact (rises_f (k := k) (by omega) (by assumption)).symm | (unfold risesM; rw [show x.length = k by omega]; exact ho.symm)
    first | (rw [q3]; done) | (rw [q3]; rfl) | (rw [q3]; rfl) | (simp only [q3, pack]; done)
  have h2p := of_decide_eq_true h2
  refine wp_skip ?_
  refine n_then ?_
  refine c_seq ?_
  refine wp_block ?_
  refine c_reg ?_
  refine r_ok hs m (ok_move rfl) rfl ?_
  clear hs a; intro a hs
  refine r_ok hs m (ok_assign rfl) rfl ?_
  clear hs a; intro a hs
  refine wpList_nil (n_then ?_)
  refine c_draw m mo (by kernel_rfl) ?_
  refine q_ok hs (ok_move rfl) rfl ?_
  clear hs a; intro a hs
  refine q_ok hs (ok_bin rfl rfl rfl) rfl ?_
  clear hs a; intro a hs
  refine q_ok hs (ok_move rfl) rfl ?_
  clear hs a; intro a hs
  refine q_cut (.c (.c (.c (.c (.c (.c (.c (.c (.c (.c (.c (.c (.c (.n)))))))))))))) (fun a => St 28 [(0, vx.v), (1, .func (.func 49) ⟨[]⟩ ⟨[]⟩), (7, .int .i64 (x.length : Int)), (8, .int .i64 (k : Int)), (26, .bool ((decide ((k : Int) > 0)) && (decide (((cmpFdb ((x[((k : Int) - 1).toNat]?).getD (⟨(⟨⟨0, rfl⟩, ⟨0, rfl⟩, ⟨0, rfl⟩, ⟨0, rfl⟩, ⟨0, rfl⟩, ⟨0, rfl⟩⟩ : TMAC), ⟨0, rfl⟩⟩ : TFdb)) ((x[k]?).getD (⟨(⟨⟨0, rfl⟩, ⟨0, rfl⟩, ⟨0, rfl⟩, ⟨0, rfl⟩, ⟨0, rfl⟩, ⟨0, rfl⟩⟩ : TMAC), ⟨0, rfl⟩⟩ : TFdb))).v) ≥ 0))))] a) ?_ ?_
  · rcases Bool.eq_false_or_eq_true (decide ((k : Int) > 0)) with hb4 | hb4
    · have hb4p := of_decide_eq_true hb4
      refine q_okg hs rfl rfl hb4 (ok_move rfl) rfl ?_
      clear hs a; intro a hs
      refine q_okg hs rfl rfl hb4 (ok_move rfl) rfl ?_
      clear hs a; intro a hs
      refine q_okg hs rfl rfl hb4 (ok_move rfl) rfl ?_
      clear hs a; intro a hs
      refine q_okg hs rfl rfl hb4 (ok_sub (r := (k : Int) - 1) rfl rfl (wrap_i64 (by omega) (by omega))) rfl ?_
      clear hs a; intro a hs
      obtain ⟨e5, he6⟩ := get_of_lt (l := x) (i := ((k : Int) - 1).toNat) (by omega)
      refine elF (c := cFdb) (e := e5) hs m (x := (.tmp 15)) (ix := (.tmp 17)) rfl rfl sl27 ty56 hx (by omega) he6 fun p7 hp8 ok9 => ?_
      refine q_okg hs rfl rfl hb4 (ok9 _ _ _ _ _) rfl ?_
      clear hs a; intro a hs
      refine q_okg hs rfl rfl hb4 (ok_load_ag (vs := cFdb e5) rfl ty56 (fr_at hp8) rfl rfl) rfl ?_
      clear hs a; intro a hs
      refine q_okg hs rfl rfl hb4 (ok_move rfl) rfl ?_
      clear hs a; intro a hs
      refine q_okg hs rfl rfl hb4 (ok_move rfl) rfl ?_
      clear hs a; intro a hs
      obtain ⟨e10, he11⟩ := get_of_lt (l := x) (i := k) (by omega)
      refine elF (c := cFdb) (e := e10) hs m (x := (.tmp 20)) (ix := (.tmp 21)) rfl rfl sl27 ty56 hx (by omega) he11 fun p12 hp13 ok14 => ?_
      refine q_okg hs rfl rfl hb4 (ok14 _ _ _ _ _) rfl ?_
      clear hs a; intro a hs
      refine q_okg hs rfl rfl hb4 (ok_load_ag (vs := cFdb e10) rfl ty56 (fr_at hp13) rfl rfl) rfl ?_
      clear hs a; intro a hs
      refine q_callPg hs rfl rfl hb4 rfl rfl ca49 rfl (fun w m => cfdb_c e5 e10 w  ) rfl ?_
      clear hs a; intro a hs
      refine q_okg hs rfl rfl hb4 (ok_bin rfl rfl rfl) rfl ?_
      clear hs a; intro a hs
      refine q_ok hs (ok_pick (r := .bool ((decide ((k : Int) > 0)) && (decide (((cmpFdb ((x[((k : Int) - 1).toNat]?).getD (⟨(⟨⟨0, rfl⟩, ⟨0, rfl⟩, ⟨0, rfl⟩, ⟨0, rfl⟩, ⟨0, rfl⟩, ⟨0, rfl⟩⟩ : TMAC), ⟨0, rfl⟩⟩ : TFdb)) ((x[k]?).getD (⟨(⟨⟨0, rfl⟩, ⟨0, rfl⟩, ⟨0, rfl⟩, ⟨0, rfl⟩, ⟨0, rfl⟩, ⟨0, rfl⟩⟩ : TMAC), ⟨0, rfl⟩⟩ : TFdb))).v) ≥ 0)))) rfl rfl rfl (by (try rw [he6]); (try rw [he11]); rw [hb4]; rfl)) rfl ?_
      clear hs a; intro a hs
      exact wpQuiet_nil (hs.to ⟨rfl, rfl, rfl, rfl, rfl, trivial⟩)
    · have hb4p := of_decide_eq_false hb4
      refine q_out hs rfl rfl hb4 rfl ?_
      clear hs a; intro a hs
      refine q_out hs rfl rfl hb4 rfl ?_
      clear hs a; intro a hs
      refine q_out hs rfl rfl hb4 rfl ?_
      clear hs a; intro a hs
      refine q_out hs rfl rfl hb4 rfl ?_
      clear hs a; intro a hs
      refine q_out hs rfl rfl hb4 rfl ?_
      clear hs a; intro a hs
      refine q_out hs rfl rfl hb4 rfl ?_
      clear hs a; intro a hs
      refine q_out hs rfl rfl hb4 rfl ?_
      clear hs a; intro a hs
      refine q_out hs rfl rfl hb4 rfl ?_
      clear hs a; intro a hs
      refine q_out hs rfl rfl hb4 rfl ?_
      clear hs a; intro a hs
      refine q_out hs rfl rfl hb4 rfl ?_
      clear hs a; intro a hs
      refine q_out hs rfl rfl hb4 rfl ?_
      clear hs a; intro a hs
      refine q_out hs rfl rfl hb4 rfl ?_
      clear hs a; intro a hs
      refine q_ok hs (ok_pick (r := .bool ((decide ((k : Int) > 0)) && (decide (((cmpFdb ((x[((k : Int) - 1).toNat]?).getD (⟨(⟨⟨0, rfl⟩, ⟨0, rfl⟩, ⟨0, rfl⟩, ⟨0, rfl⟩, ⟨0, rfl⟩, ⟨0, rfl⟩⟩ : TMAC), ⟨0, rfl⟩⟩ : TFdb)) ((x[k]?).getD (⟨(⟨⟨0, rfl⟩, ⟨0, rfl⟩, ⟨0, rfl⟩, ⟨0, rfl⟩, ⟨0, rfl⟩, ⟨0, rfl⟩⟩ : TMAC), ⟨0, rfl⟩⟩ : TFdb))).v) ≥ 0)))) rfl rfl rfl (by rw [hb4]; rfl)) rfl ?_
      clear hs a; intro a hs
      exact wpQuiet_nil (hs.to ⟨rfl, rfl, rfl, rfl, rfl, trivial⟩)
  clear hs a; intro a hs
  refine wpQuiet_nil ?_; clear m w1; intro w15 m
  refine c_cond hs rfl (fun h16 => ?_) (fun h16 => ?_)
  · have h16p := h16; simp only [Bool.or_eq_true, Bool.or_eq_false_iff, Bool.and_eq_true, Bool.and_eq_false_iff, Bool.not_eq_true', Bool.not_eq_false', decide_eq_true_eq, decide_eq_false_iff_not, beq_iff_eq, bne_iff_ne, beq_eq_false_iff_ne, bne_eq_false_iff_eq, ne_eq, gt_iff_lt, ge_iff_le, Int.not_lt, Int.not_le] at h16p
    refine c_reg ?_
    refine r_ok hs m (ok_assign rfl) rfl ?_
    clear hs a; intro a hs
    refine wpList_nil (n_then ?_)
    refine wp_ret ?_
    refine ret_block (ret_then (ret_then (ret_block (ret_then (leave hs (vs := [.bool false]) rfl ⟨rfl, trivial⟩ ?_)))))
    refine ⟨?_, m.sub .n⟩
    have q17 : (false : Bool) = risesM cmpFdb x := by clear hs m; first | exact (rises_f (k := k) (by omega) (by assumption)).symm | (unfold risesM; rw [show x.length = k by omega]; exact ho.symm)
    first | (rw [q17]; done) | (rw [q17]; rfl) | (rw [q17]; rfl) | (simp only [q17, pack]; done)
  have h16p := h16; simp only [Bool.or_eq_true, Bool.or_eq_false_iff, Bool.and_eq_true, Bool.and_eq_false_iff, Bool.not_eq_true', Bool.not_eq_false', decide_eq_true_eq, decide_eq_false_iff_not, beq_iff_eq, bne_iff_ne, beq_eq_false_iff_ne, bne_eq_false_iff_eq, ne_eq, gt_iff_lt, ge_iff_le, Int.not_lt, Int.not_le] at h16p
  refine wp_skip ?_
  refine n_block (n_then ?_)
  refine c_last ?_
  refine r_ok hs m (ok_add (r := (k : Int) + 1) rfl rfl (wrap_i64 (by omega) (by omega))) rfl ?_
  clear hs a; intro a hs
  refine r_ok hs m (ok_move rfl) rfl ?_
  clear hs a; intro a hs
  refine wpList_nil (n_then ?_)
  exact ⟨x.length - (k + 1), by omega, k + 1, by omega, by exact allK_succ ho (rise_t (by omega) (by assumption)), rfl, hs.to ⟨rfl, rfl, rfl, rfl, trivial⟩, m.sub .n⟩
end Go.Proofs.YtnbpodjbemfpbaaGreat.Fw
