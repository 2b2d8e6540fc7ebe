/-
  Own work: walks and laws, joined by wip/tool/compact.py.
-/
import Derived.Test.YtnbpodjbemfpbaaGreatG3
import Derived.KernelRfl
set_option linter.all false
set_option linter.all false
set_option maxHeartbeats 4000000
set_option maxRecDepth 100000
namespace Go.Proofs.YtnbpodjbemfpbaaGreat.Fw
open Go
theorem mayBe_c (pag : Addr) (ag : AgM) (vl : SH) (l : List TEvent) (w0 : World) (hag : AgR (hh w0) pag ag) (hl : RdS (hh w0) 14 vl.v (l.map cEvent)) : Pure Tryz.prog 136 [.pointer (some (padd pag 0)), vl.v] (.bool (mayBeM ag l)) w0 := by
 have hcu := ag.cursor.i64
 have lvl := hl.bd
 refine enter (n := 50) Tryz.func136 rfl rfl rfl fun a (hs : St 50 [(0, .pointer (some (padd pag 0))), (1, vl.v)] a) => ?_
 have m := Hp.start w0
 have hag0 := hag
 obtain ⟨x1, x2, x3, x4, x5, x6, x7, hx8, hx9, hx10, hx11, hx12, hx13, hx14, hx15⟩ := hag0
 have lx2 := hx10.bd
 have lx3 := hx11.bd
 have lx4 := hx12.bd
 have lx5 := hx13.bd
 have lx6 := hx14.bd
 have lx7 := hx15.bd
 refine c_reg ?_
 refine s_ hs m (ok_assign rfl) (bn_ ?_)
 clear hs a; intro a hs
 refine c_seq ?_
 refine c_reg ?_
 refine s_ hs m (ok_move rfl) (b_ m (ok_len (r := (l.length : Int)) m rfl sl75 (rc_fr hl) (by simp)) (b_ m (ok_bin rfl rfl rfl) (bn_ ?_)))
 clear hs a; intro a hs
 refine c_cond hs rfl (fun h16 => ?_) (fun h16 => ?_)
 ·have h16p := of_decide_eq_true h16
  refine c_reg ?_
  refine s_ hs m (ok_assign rfl) (bn_ ?_)
  clear hs a; intro a hs
  refine wp_ret ?_
  refine ret_then (leave hs (vs := [.bool false]) rfl ⟨rfl, trivial⟩ ?_)
  refine ⟨?_, m.sub .n⟩
  have q17 : (false : Bool) = mayBeM ag l := by clear hs m; exact may_n (by omega)
  (rw [q17]; rfl)
 have h16p := of_decide_eq_false h16
 refine wp_skip ?_
 refine n_then ?_
 refine c_reg ?_
 refine s_ hs m (ok_move rfl) (b_ m (ok_nilCheck rfl) (b_ m (ok_fieldAddr (r := 49) rfl fd135_6 ty2 rfl) (b_ m (ok_load_sc rfl ty2 (fr_at hx8) rfl) (b_ m (ok_assign rfl) (bn_ ?_)))))
 clear hs a; intro a hs
 refine c_seq ?_
 refine c_reg ?_
 refine s_ hs m (ok_move rfl) (b_ m (ok_len (r := (l.length : Int)) m rfl sl75 (rc_fr hl) (by simp)) (b_ m (ok_move rfl) (bn_ ?_)))
 clear hs a; intro a hs
 refine wp_block ?_
 refine wp_loop_ghost (fun gn a w => ∃ k : Nat, ∃ at_ : Int, (k ≤ l.length) ∧ (-9223372036854775808 ≤ at_ ∧ at_ ≤ 9223372036854775807) ∧ (mayM ag.cursor.v l = mayM at_ (l.drop k)) ∧ gn = l.length - k ∧ St 50 [(5, .int .i64 at_), (15, vl.v), (16, .int .i64 (l.length : Int)), (17, .int .i64 (k : Int))] a ∧ Hp w0 (hh w0) [] w) (l.length - 0) ⟨0, ag.cursor.v, by omega, by omega, by rfl, rfl, hs.to ⟨rfl, rfl, rfl, rfl, trivial⟩, m.sub .n⟩ ?_
 clear hs m a
 rintro gn a w18 ⟨k, at_, hk, hat, ho, rfl, hs, m⟩
 refine c_reg ?_
 refine s_ hs m (ok_bin rfl rfl rfl) (bn_ ?_)
 clear hs a; intro a hs
 refine c_seq ?_
 refine c_cond hs rfl (fun h19 => ?_) (fun h19 => ?_)
 rotate_left
 ·have h19p := of_decide_eq_false h19
  refine wp_exit ?_
  refine ex_then (ex_then (ex_hit (?_)))
  refine n_then ?_
  refine c_reg ?_
  refine s_ hs m (ok_assign rfl) (bn_ ?_)
  clear hs a; intro a hs
  refine wp_ret ?_
  refine leave hs (vs := [.bool true]) rfl ⟨rfl, trivial⟩ ?_
  refine ⟨?_, m.sub .n⟩
  have q20 : (true : Bool) = mayBeM ag l := by clear hs m; exact may_t (by omega) ho (by omega)
  (rw [q20]; rfl)
 have h19p := of_decide_eq_true h19
 refine wp_skip ?_
 refine n_then ?_
 refine c_seq ?_
 refine wp_block ?_
 refine c_reg ?_
 obtain ⟨e21, he22⟩ := get_of_lt (l := l) (i := k) (by omega)
 refine elF (c := cEvent) (e := e21) hs m (x := (.tmp 15)) (ix := (.tmp 17)) rfl rfl sl75 ty161 hl (by omega) he22 fun p23 hp24 ok25 => ?_
 refine s_ hs m (ok25 _ _ _ _ _) (b_ m (ok_load_ag (vs := cEvent e21) rfl ty161 (fr_at hp24) (by kernel_rfl) (by kernel_rfl)) ?_)
 clear hs a; intro a hs
 refine r_alloc hs m ze161 rfl ?_
 clear m hs a w18; intro p26 w27 m a hs
 refine st_ (cEvent e21) (cEvent e21) hs m ty161 s0 ?_
 clear m w27; intro w28 m
 refine wpList_nil (n_then ?_)
 refine c_seq ?_
 refine c_reg ?_
 refine s_ hs m (ok_move rfl) (b_ m (ok_bin rfl rfl rfl) (b_ m (ok_move rfl) ?_))
 clear hs a; intro a hs
 refine l_cut (.c (.c (.c (.c (.c (.c (.n))))))) (fun a w => St 50 [(5, .int .i64 at_), (7, .pointer (some (padd p26 0))), (15, vl.v), (16, .int .i64 (l.length : Int)), (17, .int .i64 (k : Int)), (29, .bool ((at_ == 9223372036854775807) || (e21.Rev.v != (at_ + 1))))] a ∧ Hp w0 (hh w0) [Bx p26 161 (cEvent e21)] w) ?_ ?_
 ·rcases Bool.eq_false_or_eq_true (at_ == 9223372036854775807) with hb29 | hb29
  ·have hb29p := eq_of_beq hb29
   refine so_ hs hb29 (bo_ hb29 (bo_ hb29 (bo_ hb29 (bo_ hb29 (b_ m (ok_pick (r := .bool ((at_ == 9223372036854775807) || (e21.Rev.v != (at_ + 1)))) rfl rfl rfl (by rw [hb29]; rfl)) ?_)))))
   clear hs a; intro a hs
   exact wpList_nil (n_then ⟨hs.to ⟨rfl, rfl, rfl, rfl, rfl, rfl, trivial⟩, m⟩)
  ·have hb29p := ne_of_beq_false hb29
   refine sg_ hs hb29 m (ok_fieldAddr (r := 0) rfl fd161_0 ty2 rfl) (bg_ hb29 m (ok_load_sc rfl ty2 (bx_at r0) rfl) (bg_ hb29 m (ok_move rfl) (bg_ hb29 m (ok_add (r := at_ + 1) rfl rfl (wrap_i64 (by omega) (by omega))) (bg_ hb29 m (ok_bin rfl rfl rfl) (b_ m (ok_pick (r := .bool ((at_ == 9223372036854775807) || (e21.Rev.v != (at_ + 1)))) rfl rfl rfl (by rw [hb29]; rfl)) ?_)))))
   clear hs a; intro a hs
   exact wpList_nil (n_then ⟨hs.to ⟨rfl, rfl, rfl, rfl, rfl, rfl, trivial⟩, m⟩)
 clear hs m a w28; rintro a w30 ⟨hs, m⟩
 refine s_ hs m (ok_move rfl) ?_
 clear hs a; intro a hs
 refine l_cut (.c (.c (.c (.c (.c (.c (.c (.c (.c (.n)))))))))) (fun a w => St 50 [(5, .int .i64 at_), (7, .pointer (some (padd p26 0))), (15, vl.v), (16, .int .i64 (l.length : Int)), (17, .int .i64 (k : Int)), (39, .bool (((at_ == 9223372036854775807) || (e21.Rev.v != (at_ + 1))) || ((e21.Kind.v != 1) && (e21.Kind.v != 2))))] a ∧ Hp w0 (hh w0) [Bx p26 161 (cEvent e21)] w) ?_ ?_
 ·rcases Bool.eq_false_or_eq_true ((at_ == 9223372036854775807) || (e21.Rev.v != (at_ + 1))) with hb31 | hb31
  ·have hb31p := hb31; simp only [bp_] at hb31p
   refine so_ hs hb31 (bo_ hb31 (bo_ hb31 (bo_ hb31 ?_)))
   clear hs a; intro a hs
   refine g_outU hs rfl rfl rfl ?_
   clear hs a; intro a hs
   refine g_outU hs rfl rfl rfl ?_
   clear hs a; intro a hs
   refine g_outU hs rfl rfl rfl ?_
   clear hs a; intro a hs
   refine so_ hs hb31 (b_ m (ok_pick (r := .bool (((at_ == 9223372036854775807) || (e21.Rev.v != (at_ + 1))) || ((e21.Kind.v != 1) && (e21.Kind.v != 2)))) rfl rfl rfl (by rw [hb31]; rfl)) ?_)
   clear hs a; intro a hs
   exact wpList_nil (n_then ⟨hs.to ⟨rfl, rfl, rfl, rfl, rfl, rfl, trivial⟩, m⟩)
  ·have hb31p := hb31; simp only [bp_] at hb31p
   refine sg_ hs hb31 m (ok_fieldAddr (r := 1) rfl fd161_1 ty3 rfl) (bg_ hb31 m (ok_load_sc rfl ty3 (bx_at r0) rfl) (bg_ hb31 m (ok_bin rfl rfl rfl) (bg_ hb31 m (ok_move rfl) ?_)))
   clear hs a; intro a hs
   refine l_cut (.c (.c (.c (.c (.n))))) (fun a w => St 50 [(5, .int .i64 at_), (7, .pointer (some (padd p26 0))), (15, vl.v), (16, .int .i64 (l.length : Int)), (17, .int .i64 (k : Int)), (30, .bool ((at_ == 9223372036854775807) || (e21.Rev.v != (at_ + 1)))), (31, .pointer (some (padd p26 1))), (32, .int .i64 e21.Kind.v), (33, .bool (e21.Kind.v != 1)), (34, .bool (e21.Kind.v != 1)), (38, .bool ((e21.Kind.v != 1) && (e21.Kind.v != 2)))] a ∧ Hp w0 (hh w0) [Bx p26 161 (cEvent e21)] w) ?_ ?_
   ·rcases Bool.eq_false_or_eq_true (e21.Kind.v != 1) with hb32 | hb32
    ·have hb32p := ne_of_bne hb32
     refine sg_ hs hb32 m (ok_fieldAddr (r := 1) rfl fd161_1 ty3 rfl) (bg_ hb32 m (ok_load_sc rfl ty3 (bx_at r0) rfl) (bg_ hb32 m (ok_bin rfl rfl rfl) (bg_ hb31 m (ok_pick (r := .bool ((e21.Kind.v != 1) && (e21.Kind.v != 2))) rfl rfl rfl (by rw [hb32]; rfl)) ?_)))
     clear hs a; intro a hs
     exact wpList_nil (n_then ⟨hs.to ⟨rfl, rfl, rfl, rfl, rfl, rfl, rfl, rfl, rfl, rfl, rfl, trivial⟩, m⟩)
    ·have hb32p := eq_of_bne_false hb32
     refine so_ hs hb32 (bo_ hb32 (bo_ hb32 (bg_ hb31 m (ok_pick (r := .bool ((e21.Kind.v != 1) && (e21.Kind.v != 2))) rfl rfl rfl (by rw [hb32]; rfl)) ?_)))
     clear hs a; intro a hs
     exact wpList_nil (n_then ⟨hs.to ⟨rfl, rfl, rfl, rfl, rfl, rfl, rfl, rfl, rfl, rfl, rfl, trivial⟩, m⟩)
   clear hs m a w30; rintro a w33 ⟨hs, m⟩
   refine s_ hs m (ok_pick (r := .bool (((at_ == 9223372036854775807) || (e21.Rev.v != (at_ + 1))) || ((e21.Kind.v != 1) && (e21.Kind.v != 2)))) rfl rfl rfl (by rw [hb31]; rfl)) ?_
   clear hs a; intro a hs
   exact wpList_nil (n_then ⟨hs.to ⟨rfl, rfl, rfl, rfl, rfl, rfl, trivial⟩, m⟩)
 clear hs m a w30; rintro a w34 ⟨hs, m⟩
 refine s_ hs m (ok_move rfl) ?_
 clear hs a; intro a hs
 refine l_cut (.c (.c (.c (.c (.c (.c (.n))))))) (fun a w => St 50 [(5, .int .i64 at_), (15, vl.v), (16, .int .i64 (l.length : Int)), (17, .int .i64 (k : Int)), (46, .bool ((((at_ == 9223372036854775807) || (e21.Rev.v != (at_ + 1))) || ((e21.Kind.v != 1) && (e21.Kind.v != 2))) || (!(validM e21.Lease.Subnet))))] a ∧ Hp w0 (hh w0) [Bx p26 161 (cEvent e21)] w) ?_ ?_
 ·rcases Bool.eq_false_or_eq_true (((at_ == 9223372036854775807) || (e21.Rev.v != (at_ + 1))) || ((e21.Kind.v != 1) && (e21.Kind.v != 2))) with hb35 | hb35
  ·have hb35p := hb35; simp only [bp_] at hb35p
   refine so_ hs hb35 (bo_ hb35 (bo_ hb35 (bo_ hb35 (bo_ hb35 (b_ m (ok_pick (r := .bool ((((at_ == 9223372036854775807) || (e21.Rev.v != (at_ + 1))) || ((e21.Kind.v != 1) && (e21.Kind.v != 2))) || (!(validM e21.Lease.Subnet)))) rfl rfl rfl (by rw [hb35]; rfl)) ?_)))))
   clear hs a; intro a hs
   exact wpList_nil (n_then ⟨hs.to ⟨rfl, rfl, rfl, rfl, rfl, trivial⟩, m⟩)
  ·have hb35p := hb35; simp only [bp_] at hb35p
   refine sg_ hs hb35 m (ok_fieldAddr (r := 2) rfl fd161_2 ty48 rfl) (bg_ hb35 m (ok_fieldAddr (r := 3) rfl fd48_1 ty44 rfl) (bg_ hb35 m (ok_load_ag (vs := cPrefix e21.Lease.Subnet) rfl ty44 (bx_at r0) (by kernel_rfl) (by kernel_rfl)) ?_))
   clear hs a; intro a hs
   refine r_callPg hs rfl rfl hb35 m rfl rfl ca43 rfl (valid_c e21.Lease.Subnet _  ) rfl ?_
   clear m hs a w34; intro w36 m a hs
   refine sg_ hs hb35 m (ok_not rfl) (b_ m (ok_pick (r := .bool ((((at_ == 9223372036854775807) || (e21.Rev.v != (at_ + 1))) || ((e21.Kind.v != 1) && (e21.Kind.v != 2))) || (!(validM e21.Lease.Subnet)))) rfl rfl rfl (by rw [hb35]; rfl)) ?_)
   clear hs a; intro a hs
   exact wpList_nil (n_then ⟨hs.to ⟨rfl, rfl, rfl, rfl, rfl, trivial⟩, m⟩)
 clear hs m a w34; rintro a w37 ⟨hs, m⟩
 refine wpList_nil (n_then ?_)
 refine c_cond hs rfl (fun h38 => ?_) (fun h38 => ?_)
 ·have h38p := h38; simp only [bp_] at h38p
  refine c_reg ?_
  refine s_ hs m (ok_assign rfl) (bn_ ?_)
  clear hs a; intro a hs
  refine wp_ret ?_
  refine ret_then (ret_block (ret_then (ret_then (ret_block (ret_then (leave hs (vs := [.bool false]) rfl ⟨rfl, trivial⟩ ?_))))))
  refine ⟨?_, m.sub .n⟩
  have q39 : (false : Bool) = mayBeM ag l := by clear hs m; exact may_f (by assumption) (by assumption) ho (by omega)
  (rw [q39]; rfl)
 have h38p := h38; simp only [bp_] at h38p
 refine wp_skip ?_
 refine n_then ?_
 refine c_last ?_
 refine s_ hs m (ok_move rfl) (b_ m (ok_add (r := at_ + 1) rfl rfl (wrap_i64 (by omega) (by omega))) (b_ m (ok_assign rfl) ?_))
 clear hs a; intro a hs
 refine wpList_nil (n_block (n_then ?_))
 refine c_last ?_
 refine s_ hs m (ok_add (r := (k : Int) + 1) rfl rfl (wrap_i64 (by omega) (by omega))) (b_ m (ok_move rfl) (bn_ ?_))
 clear hs a; intro a hs
 exact ⟨l.length - (k + 1), by omega, k + 1, at_ + 1, by omega, by omega, by exact may_s (by assumption) (by assumption) ho, rfl, hs.to ⟨rfl, rfl, rfl, rfl, trivial⟩, m.sub .n⟩
theorem cloneTables_c (vt_Routes : SH) (t_Routes : List TRoute) (vt_Neighs : SH) (t_Neighs : List TNeigh) (vt_Fdbs : SH) (t_Fdbs : List TFdb) (w0 : World) (ht_Routes : RdS (hh w0) 4 vt_Routes.v (t_Routes.map cRoute)) (ht_Neighs : RdS (hh w0) 7 vt_Neighs.v (t_Neighs.map cNeigh)) (ht_Fdbs : RdS (hh w0) 7 vt_Fdbs.v (t_Fdbs.map cFdb)) (A0 : t_Routes.length ≤ 2600000000000) (A1 : t_Neighs.length ≤ 2600000000000) (A2 : t_Fdbs.length ≤ 2600000000000) : Calls Tryz.prog 83 ⟨[.agg ⟨[vt_Routes.v, vt_Neighs.v, vt_Fdbs.v]⟩]⟩ w0 fun e w' => ∃ v, e = .returned v ∧ (∃ x0 : SH, ∃ x1 : SH, ∃ x2 : SH, v = (.agg ⟨[x0.v, x1.v, x2.v]⟩) ∧ Hp w0 (hh w0) [Sv 4 51 x0.v (t_Routes.map cRoute), Sv 7 54 x1.v (t_Neighs.map cNeigh), Sv 7 56 x2.v (t_Fdbs.map cFdb)] w') := by
 have lvt_Routes := ht_Routes.bd
 have lvt_Neighs := ht_Neighs.bd
 have lvt_Fdbs := ht_Fdbs.bd
 refine enter (n := 13) Tryz.func83 rfl rfl rfl fun a (hs : St 13 [(0, .agg ⟨[vt_Routes.v, vt_Neighs.v, vt_Fdbs.v]⟩)] a) => ?_
 have m := Hp.start w0
 refine c_reg ?_
 refine r_box (cs := [vt_Routes.v, vt_Neighs.v, vt_Fdbs.v]) hs m rfl rfl rfl ?_
 clear m hs a; intro p1 w2 m a hs
 refine r_alloc hs m ze29 rfl ?_
 clear m hs a w2; intro p3 w4 m a hs
 refine wpList_nil (n_then ?_)
 refine c_drawH (Hp w0 (hh w0) [Bx p1 29 [vt_Routes.v, vt_Neighs.v, vt_Fdbs.v]]) m mo ?_; clear m w4; intro w5 m
 refine sh_ (i := 0) rfl hs (m.sub (.c r1 .n)) (ok_fieldAddr (r := 0) rfl fd29_0 ty25 rfl) (bh_ (i := 1) rfl (m.sub (.c r1 .n)) (ok_load_sc rfl ty25 (bx_at r0) rfl) (bh_ (i := 3) rfl (m.sub (.c r1 .n)) (ok_fieldAddr (r := 1) rfl fd29_1 ty26 rfl) (bh_ (i := 4) rfl (m.sub (.c r1 .n)) (ok_load_sc rfl ty26 (bx_at r0) rfl) (bh_ (i := 6) rfl (m.sub (.c r1 .n)) (ok_fieldAddr (r := 2) rfl fd29_2 ty27 rfl) (bh_ (i := 7) rfl (m.sub (.c r1 .n)) (ok_load_sc rfl ty27 (bx_at r0) rfl) ?_)))))
 clear hs a; intro a hs
 refine h_eff (i := 2) (by kernel_rfl) rfl ?_
 refine r_call hs rfl rfl ca126 rfl (cloneRoute_c vt_Routes t_Routes _ (m.rd ht_Routes) (by omega)) rfl ?_
 clear hs a; rintro _ w7 ⟨v6, rfl, hm⟩ a hs
 replace m : Hp w0 (hh w0) [Sv 4 51 v6.v (t_Routes.map cRoute), Bx p3 29 [nilH.v, nilH.v, nilH.v], Bx p1 29 [vt_Routes.v, vt_Neighs.v, vt_Fdbs.v]] w7 := m.after hm
 clear hm w5
 refine wpList_nil (n_then ⟨(m.sub (.c r2 .n)), ?_⟩)
 refine h_eff (i := 5) (by kernel_rfl) rfl ?_
 refine r_call hs rfl rfl ca127 rfl (cloneNeigh_c vt_Neighs t_Neighs _ (m.rd ht_Neighs) (by omega)) rfl ?_
 clear hs a; rintro _ w9 ⟨v8, rfl, hm⟩ a hs
 replace m : Hp w0 (hh w0) [Sv 7 54 v8.v (t_Neighs.map cNeigh), Sv 4 51 v6.v (t_Routes.map cRoute), Bx p3 29 [nilH.v, nilH.v, nilH.v], Bx p1 29 [vt_Routes.v, vt_Neighs.v, vt_Fdbs.v]] w9 := m.after hm
 clear hm w7
 refine wpList_nil (n_then ⟨(m.sub (.c r3 .n)), ?_⟩)
 refine h_eff (i := 8) (by kernel_rfl) rfl ?_
 refine r_call hs rfl rfl ca128 rfl (cloneFdb_c vt_Fdbs t_Fdbs _ (m.rd ht_Fdbs) (by omega)) rfl ?_
 clear hs a; rintro _ w11 ⟨v10, rfl, hm⟩ a hs
 replace m : Hp w0 (hh w0) [Sv 7 56 v10.v (t_Fdbs.map cFdb), Sv 7 54 v8.v (t_Neighs.map cNeigh), Sv 4 51 v6.v (t_Routes.map cRoute), Bx p3 29 [nilH.v, nilH.v, nilH.v], Bx p1 29 [vt_Routes.v, vt_Neighs.v, vt_Fdbs.v]] w11 := m.after hm
 clear hm w9
 refine wpList_nil (n_then ⟨(m.sub (.c r4 .n)), ?_⟩)
 refine sh_ (i := 9) rfl hs (m.sub (.c r4 .n)) (ok_build (cs := [v6.v, v8.v, v10.v]) st29 ze29 rfl rfl) ?_
 clear hs a; intro a hs
 refine h_eff (i := 10) (by kernel_rfl) rfl ?_
 refine st_ ([v6.v, v8.v, v10.v]) ([v6.v, v8.v, v10.v]) hs m ty29 s3 ?_
 clear m w11; intro w12 m
 refine wpList_nil (n_then ⟨(m.sub (.c r4 .n)), ?_⟩)
 refine h_done (by kernel_rfl) (n_then ?_)
 refine wp_ret ?_
 refine leave hs (vs := [.agg ⟨[v6.v, v8.v, v10.v]⟩]) rfl ⟨resv_cell (cs := [v6.v, v8.v, v10.v]) m rfl ty29 r3 rfl, trivial⟩ ?_
 refine ⟨_, rfl, v6, v8, v10, ?_, m.sub (.c r2 (.c r1 (.c r0 .n)))⟩
 rfl
theorem view_c (pag : Addr) (ag : AgM) (w0 : World) (hag : AgR (hh w0) pag ag) (A0 : ag.view.length ≤ 8388608) (A1 : ag.Routes.length ≤ 8388608) (A2 : ag.Neighs.length ≤ 8388608) (A3 : ag.Fdbs.length ≤ 8388608) (A4 : ag.skipped.length ≤ 2600000000000) : Calls Tryz.prog 30 ⟨[.pointer (some (padd pag 0))]⟩ w0 fun e w' => ∃ v, e = .returned v ∧ (∃ x0 : SH, ∃ x1 : SH, ∃ x2 : SH, ∃ x3 : SH, ∃ x4 : SH, v = (.agg ⟨cVw (decide (ownI ag.self.Host.v ag.view ≥ 0)) (vwLease ag) ag.cursor (vwSync ag) ag.degraded x0.v x1.v x2.v x3.v x4.v⟩) ∧ Hp w0 (hh w0) [Sv 12 48 x0.v (ag.view.map cLease), Sv 2 44 x1.v (ag.skipped.map cPrefix), Sv 4 51 x2.v (ag.Routes.map cRoute), Sv 7 54 x3.v (ag.Neighs.map cNeigh), Sv 7 56 x4.v (ag.Fdbs.map cFdb)] w') := by
 have hol := ownI_lt (h := ag.self.Host.v) (l := ag.view)
 refine enter (n := 67) Tryz.func30 rfl rfl rfl fun a (hs : St 67 [(0, .pointer (some (padd pag 0)))] a) => ?_
 have m := Hp.start w0
 have hag0 := hag
 obtain ⟨x1, x2, x3, x4, x5, x6, x7, hx8, hx9, hx10, hx11, hx12, hx13, hx14, hx15⟩ := hag0
 have lx2 := hx10.bd
 have lx3 := hx11.bd
 have lx4 := hx12.bd
 have lx5 := hx13.bd
 have lx6 := hx14.bd
 have lx7 := hx15.bd
 refine c_reg ?_
 refine r_alloc hs m ze84 rfl ?_
 clear m hs a; intro p16 w17 m a hs
 refine wpList_nil (n_then ?_)
 refine c_join (fun a w => ∃ y18 : Addr, ∃ y19 : SH, ∃ y20 : SH, ∃ y21 : SH, ∃ y22 : SH, ∃ y23 : SH, St 67 [(0, .pointer (some (padd pag 0))), (2, .pointer (some (padd p16 0))), (3, .pointer (some (padd y18 0)))] a ∧ Hp w0 (hh w0) [Bx y18 84 (cVw false zLease ag.cursor false ag.degraded y23.v y22.v y19.v y20.v y21.v), Sv 4 51 y19.v (ag.Routes.map cRoute), Sv 7 54 y20.v (ag.Neighs.map cNeigh), Sv 7 56 y21.v (ag.Fdbs.map cFdb), Sv 2 44 y22.v (ag.skipped.map cPrefix), Sv 12 48 y23.v (ag.view.map cLease), Bx p16 84 (cVw false zLease ⟨0, rfl⟩ false false nilH.v nilH.v nilH.v nilH.v nilH.v)] w) ?_ ?_
 ·refine c_drawHLast (Hp w0 (hh w0) [Bx p16 84 (cVw false zLease ⟨0, rfl⟩ false false nilH.v nilH.v nilH.v nilH.v nilH.v)]) m mo ?_; clear m w17; intro w24 m
  refine sh_ (i := 0) rfl hs (m.sub (.c r0 .n)) (ok_move rfl) (bh_ (i := 1) rfl (m.sub (.c r0 .n)) (ok_nilCheck rfl) (bh_ (i := 2) rfl (m.sub (.c r0 .n)) (ok_fieldAddr (r := 49) rfl fd135_6 ty2 rfl) (bh_ (i := 3) rfl (m.sub (.c r0 .n)) (ok_load_sc rfl ty2 (fr_at hx8) rfl) (bh_ (i := 4) rfl (m.sub (.c r0 .n)) (ok_move rfl) (bh_ (i := 5) rfl (m.sub (.c r0 .n)) (ok_nilCheck rfl) (bh_ (i := 6) rfl (m.sub (.c r0 .n)) (ok_fieldAddr (r := 52) rfl fd135_9 ty4 rfl) (bh_ (i := 7) rfl (m.sub (.c r0 .n)) (ok_load_sc rfl ty4 (fr_at hx8) rfl) (bh_ (i := 8) rfl (m.sub (.c r0 .n)) (ok_move rfl) (bh_ (i := 9) rfl (m.sub (.c r0 .n)) (ok_nilCheck rfl) (bh_ (i := 10) rfl (m.sub (.c r0 .n)) (ok_fieldAddr (r := 48) rfl fd135_5 ty22 rfl) (bh_ (i := 11) rfl (m.sub (.c r0 .n)) (ok_load_sc rfl ty22 (fr_at hx8) rfl) ?_)))))))))))
  clear hs a; intro a hs
  refine sh_ (i := 13) rfl hs (m.sub (.c r0 .n)) (ok_move rfl) (bh_ (i := 14) rfl (m.sub (.c r0 .n)) (ok_nilCheck rfl) (bh_ (i := 15) rfl (m.sub (.c r0 .n)) (ok_fieldAddr (r := 51) rfl fd135_8 ty82 rfl) (bh_ (i := 16) rfl (m.sub (.c r0 .n)) (ok_load_sc rfl ty82 (fr_at hx8) rfl) (bh_ (i := 18) rfl (m.sub (.c r0 .n)) (ok_move rfl) (bh_ (i := 19) rfl (m.sub (.c r0 .n)) (ok_nilCheck rfl) (bh_ (i := 20) rfl (m.sub (.c r0 .n)) (ok_fieldAddr (r := 45) rfl fd135_4 ty29 rfl) (bh_ (i := 21) rfl (m.sub (.c r0 .n)) (ok_load_ag (vs := [x3.v, x4.v, x5.v]) rfl ty29 (fr_at hx8) (by kernel_rfl) (by kernel_rfl)) ?_)))))))
  clear hs a; intro a hs
  refine h_eff2 (i := 12) (j := 24) (by kernel_rfl) rfl rfl ?_ ?_
  ·refine r_call hs rfl rfl ca81 rfl (cloneLease_c x6 ag.view _ (m.rd hx14) (by omega)) rfl ?_
   clear hs a; rintro _ w26 ⟨v25, rfl, hm⟩ a hs
   replace m : Hp w0 (hh w0) [Sv 12 48 v25.v (ag.view.map cLease), Bx p16 84 (cVw false zLease ⟨0, rfl⟩ false false nilH.v nilH.v nilH.v nilH.v nilH.v)] w26 := m.after hm
   clear hm w24
   refine wpList_nil (n_then ⟨(m.sub (.c r1 .n)), ?_⟩)
   refine h_eff2 (i := 17) (j := 24) (by kernel_rfl) rfl rfl ?_ ?_
   ·refine r_call hs rfl rfl ca82 rfl (clonePrefix_c x7 ag.skipped _ (m.rd hx15) (by omega)) rfl ?_
    clear hs a; rintro _ w28 ⟨v27, rfl, hm⟩ a hs
    replace m : Hp w0 (hh w0) [Sv 2 44 v27.v (ag.skipped.map cPrefix), Sv 12 48 v25.v (ag.view.map cLease), Bx p16 84 (cVw false zLease ⟨0, rfl⟩ false false nilH.v nilH.v nilH.v nilH.v nilH.v)] w28 := m.after hm
    clear hm w26
    refine wpList_nil (n_then ⟨(m.sub (.c r2 .n)), ?_⟩)
    refine h_eff2 (i := 22) (j := 24) (by kernel_rfl) rfl rfl ?_ ?_
    ·refine r_call hs rfl rfl ca83 rfl (cloneTables_c x3 ag.Routes x4 ag.Neighs x5 ag.Fdbs _ (m.rd hx11) (m.rd hx12) (m.rd hx13) (by omega) (by omega) (by omega)) rfl ?_
     clear hs a; rintro _ w32 ⟨v29, v30, v31, rfl, hm⟩ a hs
     replace m : Hp w0 (hh w0) [Sv 4 51 v29.v (ag.Routes.map cRoute), Sv 7 54 v30.v (ag.Neighs.map cNeigh), Sv 7 56 v31.v (ag.Fdbs.map cFdb), Sv 2 44 v27.v (ag.skipped.map cPrefix), Sv 12 48 v25.v (ag.view.map cLease), Bx p16 84 (cVw false zLease ⟨0, rfl⟩ false false nilH.v nilH.v nilH.v nilH.v nilH.v)] w32 := m.after hm
     clear hm w28
     refine wpList_nil (n_then ⟨(m.sub (.c r5 .n)), ?_⟩)
     refine sh_ (i := 23) rfl hs (m.sub (.c r5 .n)) (ok_build (cs := cVw false zLease ag.cursor false ag.degraded v25.v v27.v v29.v v30.v v31.v) st84 ze84 rfl (by kernel_rfl)) ?_
     clear hs a; intro a hs
     refine h_eff (i := 24) (by kernel_rfl) rfl ?_
     refine r_alloc hs m ze84 rfl ?_
     clear m hs a w32; intro p33 w34 m a hs
     refine wpList_nil (n_then ⟨(m.sub (.c r6 .n)), ?_⟩)
     refine h_eff (i := 25) (by kernel_rfl) rfl ?_
     refine st_ (cVw false zLease ag.cursor false ag.degraded v25.v v27.v v29.v v30.v v31.v) (cVw false zLease ag.cursor false ag.degraded v25.v v27.v v29.v v30.v v31.v) hs m ty84 s0 ?_
     clear m w34; intro w35 m
     refine wpList_nil (n_then ⟨(m.sub (.c r6 .n)), ?_⟩)
     refine h_done (by kernel_rfl) (n_then ?_)
     exact ⟨p33, v29, v30, v31, v27, v25, hs.to ⟨rfl, rfl, rfl, trivial⟩, m.sub (.c r0 (.c r0 (.c r0 (.c r0 (.c r0 (.c r0 (.c r0 .n)))))))⟩
    ·refine r_alloc hs m ze84 rfl ?_
     clear m hs a w28; intro p36 w37 m a hs
     refine wpList_nil (n_then ⟨(m.sub (.c r3 .n)), ?_⟩)
     refine h_eff (i := 22) (by kernel_rfl) rfl ?_
     refine r_call hs rfl rfl ca83 rfl (cloneTables_c x3 ag.Routes x4 ag.Neighs x5 ag.Fdbs _ (m.rd hx11) (m.rd hx12) (m.rd hx13) (by omega) (by omega) (by omega)) rfl ?_
     clear hs a; rintro _ w41 ⟨v38, v39, v40, rfl, hm⟩ a hs
     replace m : Hp w0 (hh w0) [Sv 4 51 v38.v (ag.Routes.map cRoute), Sv 7 54 v39.v (ag.Neighs.map cNeigh), Sv 7 56 v40.v (ag.Fdbs.map cFdb), Bx p36 84 (cVw false zLease ⟨0, rfl⟩ false false nilH.v nilH.v nilH.v nilH.v nilH.v), Sv 2 44 v27.v (ag.skipped.map cPrefix), Sv 12 48 v25.v (ag.view.map cLease), Bx p16 84 (cVw false zLease ⟨0, rfl⟩ false false nilH.v nilH.v nilH.v nilH.v nilH.v)] w41 := m.after hm
     clear hm w37
     refine wpList_nil (n_then ⟨(m.sub (.c r6 .n)), ?_⟩)
     refine sh_ (i := 23) rfl hs (m.sub (.c r6 .n)) (ok_build (cs := cVw false zLease ag.cursor false ag.degraded v25.v v27.v v38.v v39.v v40.v) st84 ze84 rfl (by kernel_rfl)) ?_
     clear hs a; intro a hs
     refine h_eff (i := 25) (by kernel_rfl) rfl ?_
     refine st_ (cVw false zLease ag.cursor false ag.degraded v25.v v27.v v38.v v39.v v40.v) (cVw false zLease ag.cursor false ag.degraded v25.v v27.v v38.v v39.v v40.v) hs m ty84 s3 ?_
     clear m w41; intro w42 m
     refine wpList_nil (n_then ⟨(m.sub (.c r6 .n)), ?_⟩)
     refine h_done (by kernel_rfl) (n_then ?_)
     exact ⟨p36, v38, v39, v40, v27, v25, hs.to ⟨rfl, rfl, rfl, trivial⟩, m.sub (.c r3 (.c r0 (.c r0 (.c r0 (.c r0 (.c r0 (.c r0 .n)))))))⟩
   ·refine r_alloc hs m ze84 rfl ?_
    clear m hs a w26; intro p43 w44 m a hs
    refine wpList_nil (n_then ⟨(m.sub (.c r2 .n)), ?_⟩)
    refine h_eff (i := 17) (by kernel_rfl) rfl ?_
    refine r_call hs rfl rfl ca82 rfl (clonePrefix_c x7 ag.skipped _ (m.rd hx15) (by omega)) rfl ?_
    clear hs a; rintro _ w46 ⟨v45, rfl, hm⟩ a hs
    replace m : Hp w0 (hh w0) [Sv 2 44 v45.v (ag.skipped.map cPrefix), Bx p43 84 (cVw false zLease ⟨0, rfl⟩ false false nilH.v nilH.v nilH.v nilH.v nilH.v), Sv 12 48 v25.v (ag.view.map cLease), Bx p16 84 (cVw false zLease ⟨0, rfl⟩ false false nilH.v nilH.v nilH.v nilH.v nilH.v)] w46 := m.after hm
    clear hm w44
    refine wpList_nil (n_then ⟨(m.sub (.c r3 .n)), ?_⟩)
    refine h_eff (i := 22) (by kernel_rfl) rfl ?_
    refine r_call hs rfl rfl ca83 rfl (cloneTables_c x3 ag.Routes x4 ag.Neighs x5 ag.Fdbs _ (m.rd hx11) (m.rd hx12) (m.rd hx13) (by omega) (by omega) (by omega)) rfl ?_
    clear hs a; rintro _ w50 ⟨v47, v48, v49, rfl, hm⟩ a hs
    replace m : Hp w0 (hh w0) [Sv 4 51 v47.v (ag.Routes.map cRoute), Sv 7 54 v48.v (ag.Neighs.map cNeigh), Sv 7 56 v49.v (ag.Fdbs.map cFdb), Sv 2 44 v45.v (ag.skipped.map cPrefix), Bx p43 84 (cVw false zLease ⟨0, rfl⟩ false false nilH.v nilH.v nilH.v nilH.v nilH.v), Sv 12 48 v25.v (ag.view.map cLease), Bx p16 84 (cVw false zLease ⟨0, rfl⟩ false false nilH.v nilH.v nilH.v nilH.v nilH.v)] w50 := m.after hm
    clear hm w46
    refine wpList_nil (n_then ⟨(m.sub (.c r6 .n)), ?_⟩)
    refine sh_ (i := 23) rfl hs (m.sub (.c r6 .n)) (ok_build (cs := cVw false zLease ag.cursor false ag.degraded v25.v v45.v v47.v v48.v v49.v) st84 ze84 rfl (by kernel_rfl)) ?_
    clear hs a; intro a hs
    refine h_eff (i := 25) (by kernel_rfl) rfl ?_
    refine st_ (cVw false zLease ag.cursor false ag.degraded v25.v v45.v v47.v v48.v v49.v) (cVw false zLease ag.cursor false ag.degraded v25.v v45.v v47.v v48.v v49.v) hs m ty84 s4 ?_
    clear m w50; intro w51 m
    refine wpList_nil (n_then ⟨(m.sub (.c r6 .n)), ?_⟩)
    refine h_done (by kernel_rfl) (n_then ?_)
    exact ⟨p43, v47, v48, v49, v45, v25, hs.to ⟨rfl, rfl, rfl, trivial⟩, m.sub (.c r4 (.c r0 (.c r0 (.c r0 (.c r0 (.c r0 (.c r0 .n)))))))⟩
  ·refine r_alloc hs m ze84 rfl ?_
   clear m hs a w24; intro p52 w53 m a hs
   refine wpList_nil (n_then ⟨(m.sub (.c r1 .n)), ?_⟩)
   refine h_eff (i := 12) (by kernel_rfl) rfl ?_
   refine r_call hs rfl rfl ca81 rfl (cloneLease_c x6 ag.view _ (m.rd hx14) (by omega)) rfl ?_
   clear hs a; rintro _ w55 ⟨v54, rfl, hm⟩ a hs
   replace m : Hp w0 (hh w0) [Sv 12 48 v54.v (ag.view.map cLease), Bx p52 84 (cVw false zLease ⟨0, rfl⟩ false false nilH.v nilH.v nilH.v nilH.v nilH.v), Bx p16 84 (cVw false zLease ⟨0, rfl⟩ false false nilH.v nilH.v nilH.v nilH.v nilH.v)] w55 := m.after hm
   clear hm w53
   refine wpList_nil (n_then ⟨(m.sub (.c r2 .n)), ?_⟩)
   refine h_eff (i := 17) (by kernel_rfl) rfl ?_
   refine r_call hs rfl rfl ca82 rfl (clonePrefix_c x7 ag.skipped _ (m.rd hx15) (by omega)) rfl ?_
   clear hs a; rintro _ w57 ⟨v56, rfl, hm⟩ a hs
   replace m : Hp w0 (hh w0) [Sv 2 44 v56.v (ag.skipped.map cPrefix), Sv 12 48 v54.v (ag.view.map cLease), Bx p52 84 (cVw false zLease ⟨0, rfl⟩ false false nilH.v nilH.v nilH.v nilH.v nilH.v), Bx p16 84 (cVw false zLease ⟨0, rfl⟩ false false nilH.v nilH.v nilH.v nilH.v nilH.v)] w57 := m.after hm
   clear hm w55
   refine wpList_nil (n_then ⟨(m.sub (.c r3 .n)), ?_⟩)
   refine h_eff (i := 22) (by kernel_rfl) rfl ?_
   refine r_call hs rfl rfl ca83 rfl (cloneTables_c x3 ag.Routes x4 ag.Neighs x5 ag.Fdbs _ (m.rd hx11) (m.rd hx12) (m.rd hx13) (by omega) (by omega) (by omega)) rfl ?_
   clear hs a; rintro _ w61 ⟨v58, v59, v60, rfl, hm⟩ a hs
   replace m : Hp w0 (hh w0) [Sv 4 51 v58.v (ag.Routes.map cRoute), Sv 7 54 v59.v (ag.Neighs.map cNeigh), Sv 7 56 v60.v (ag.Fdbs.map cFdb), Sv 2 44 v56.v (ag.skipped.map cPrefix), Sv 12 48 v54.v (ag.view.map cLease), Bx p52 84 (cVw false zLease ⟨0, rfl⟩ false false nilH.v nilH.v nilH.v nilH.v nilH.v), Bx p16 84 (cVw false zLease ⟨0, rfl⟩ false false nilH.v nilH.v nilH.v nilH.v nilH.v)] w61 := m.after hm
   clear hm w57
   refine wpList_nil (n_then ⟨(m.sub (.c r6 .n)), ?_⟩)
   refine sh_ (i := 23) rfl hs (m.sub (.c r6 .n)) (ok_build (cs := cVw false zLease ag.cursor false ag.degraded v54.v v56.v v58.v v59.v v60.v) st84 ze84 rfl (by kernel_rfl)) ?_
   clear hs a; intro a hs
   refine h_eff (i := 25) (by kernel_rfl) rfl ?_
   refine st_ (cVw false zLease ag.cursor false ag.degraded v54.v v56.v v58.v v59.v v60.v) (cVw false zLease ag.cursor false ag.degraded v54.v v56.v v58.v v59.v v60.v) hs m ty84 s5 ?_
   clear m w61; intro w62 m
   refine wpList_nil (n_then ⟨(m.sub (.c r6 .n)), ?_⟩)
   refine h_done (by kernel_rfl) (n_then ?_)
   exact ⟨p52, v58, v59, v60, v56, v54, hs.to ⟨rfl, rfl, rfl, trivial⟩, m.sub (.c r5 (.c r0 (.c r0 (.c r0 (.c r0 (.c r0 (.c r0 .n)))))))⟩
 clear hs m a w17; rintro a w63 ⟨y18, y19, y20, y21, y22, y23, hs, m⟩
 refine c_seq ?_
 refine c_reg ?_
 refine s_ hs m (ok_move rfl) ?_
 clear hs a; intro a hs
 refine r_callP hs m rfl rfl ca84 rfl (own_c pag ag _ (hag.le m.frame) ) rfl ?_
 clear m hs a w63; intro w64 m a hs
 refine s_ hs m (ok_assign rfl) (bn_ (bc_ (b_ m (ok_move rfl) (b_ m (ok_bin rfl rfl rfl) (bn_ ?_)))))
 clear hs a; intro a hs
 refine c_cond hs rfl (fun h65 => ?_) (fun h65 => ?_)
 ·have h65p := of_decide_eq_true h65
  refine c_drawHLast (Hp w0 (hh w0) [Sv 4 51 y19.v (ag.Routes.map cRoute), Sv 7 54 y20.v (ag.Neighs.map cNeigh), Sv 7 56 y21.v (ag.Fdbs.map cFdb), Sv 2 44 y22.v (ag.skipped.map cPrefix), Sv 12 48 y23.v (ag.view.map cLease), Bx p16 84 (cVw false zLease ⟨0, rfl⟩ false false nilH.v nilH.v nilH.v nilH.v nilH.v)]) m mo ?_; clear m w64; intro w66 m
  refine sh_ (i := 0) rfl hs (m.sub (.c r1 (.c r1 (.c r1 (.c r1 (.c r1 (.c r1 .n))))))) (ok_move rfl) (bh_ (i := 1) rfl (m.sub (.c r1 (.c r1 (.c r1 (.c r1 (.c r1 (.c r1 .n))))))) (ok_nilCheck rfl) (bh_ (i := 2) rfl (m.sub (.c r1 (.c r1 (.c r1 (.c r1 (.c r1 (.c r1 .n))))))) (ok_fieldAddr (r := 48) rfl fd135_5 ty22 rfl) (bh_ (i := 3) rfl (m.sub (.c r1 (.c r1 (.c r1 (.c r1 (.c r1 (.c r1 .n))))))) (ok_load_sc rfl ty22 (fr_at hx8) rfl) (bh_ (i := 4) rfl (m.sub (.c r1 (.c r1 (.c r1 (.c r1 (.c r1 (.c r1 .n))))))) (ok_move rfl) ?_))))
  clear hs a; intro a hs
  obtain ⟨e67, he68⟩ := get_of_lt (l := ag.view) (i := (ownI ag.self.Host.v ag.view).toNat) (by omega)
  refine elF (c := cLease) (e := e67) hs (m.sub (.c r1 (.c r1 (.c r1 (.c r1 (.c r1 (.c r1 .n))))))) (x := (.tmp 36)) (ix := (.tmp 37)) rfl rfl sl22 ty48 hx14 (by omega) he68 fun p69 hp70 ok71 => ?_
  refine sh_ (i := 5) rfl hs (m.sub (.c r1 (.c r1 (.c r1 (.c r1 (.c r1 (.c r1 .n))))))) (ok71 _ _ _ _ _) (bh_ (i := 6) rfl (m.sub (.c r1 (.c r1 (.c r1 (.c r1 (.c r1 (.c r1 .n))))))) (ok_load_ag (vs := cLease e67) rfl ty48 (fr_at hp70) (by kernel_rfl) (by kernel_rfl)) (bh_ (i := 7) rfl (m.sub (.c r1 (.c r1 (.c r1 (.c r1 (.c r1 (.c r1 .n))))))) (ok_fieldAddr (r := 0) rfl fd84_0 ty4 rfl) ?_))
  clear hs a; intro a hs
  refine h_eff (i := 8) (by kernel_rfl) rfl ?_
  refine st_ (cVw true zLease ag.cursor false ag.degraded y23.v y22.v y19.v y20.v y21.v) [.bool true] hs m ty4 s0 ?_
  clear m w66; intro w72 m
  refine wpList_nil (n_then ⟨(m.sub (.c r1 (.c r1 (.c r1 (.c r1 (.c r1 (.c r1 .n))))))), ?_⟩)
  refine sh_ (i := 9) rfl hs (m.sub (.c r1 (.c r1 (.c r1 (.c r1 (.c r1 (.c r1 .n))))))) (ok_fieldAddr (r := 1) rfl fd84_1 ty48 rfl) ?_
  clear hs a; intro a hs
  refine h_eff (i := 10) (by kernel_rfl) rfl ?_
  refine st_ (cVw true e67 ag.cursor false ag.degraded y23.v y22.v y19.v y20.v y21.v) (cLease e67) hs m ty48 s0 ?_
  clear m w72; intro w73 m
  refine wpList_nil (n_then ⟨(m.sub (.c r1 (.c r1 (.c r1 (.c r1 (.c r1 (.c r1 .n))))))), ?_⟩)
  refine h_done (by kernel_rfl) (n_then ?_)
  refine c_reg ?_
  refine s_ hs m (ok_move rfl) (b_ m (ok_nilCheck rfl) (b_ m (ok_fieldAddr (r := 44) rfl fd135_3 ty4 rfl) (b_ m (ok_load_sc rfl ty4 (fr_at hx8) rfl) (b_ m (ok_move rfl) ?_))))
  clear hs a; intro a hs
  refine l_cut (.c (.c (.c (.c (.c (.c (.n))))))) (fun a w => St 67 [(0, .pointer (some (padd pag 0))), (2, .pointer (some (padd p16 0))), (3, .pointer (some (padd y18 0))), (52, .bool (ag.read && (!ag.stale)))] a ∧ Hp w0 (hh w0) [Bx y18 84 (cVw true e67 ag.cursor false ag.degraded y23.v y22.v y19.v y20.v y21.v), Sv 4 51 y19.v (ag.Routes.map cRoute), Sv 7 54 y20.v (ag.Neighs.map cNeigh), Sv 7 56 y21.v (ag.Fdbs.map cFdb), Sv 2 44 y22.v (ag.skipped.map cPrefix), Sv 12 48 y23.v (ag.view.map cLease), Bx p16 84 (cVw false zLease ⟨0, rfl⟩ false false nilH.v nilH.v nilH.v nilH.v nilH.v)] w) ?_ ?_
  ·rcases Bool.eq_false_or_eq_true ag.read with hb74 | hb74
   ·refine sg_ hs hb74 m (ok_move rfl) (bg_ hb74 m (ok_nilCheck rfl) (bg_ hb74 m (ok_fieldAddr (r := 50) rfl fd135_7 ty4 rfl) (bg_ hb74 m (ok_load_sc rfl ty4 (fr_at hx8) rfl) (bg_ hb74 m (ok_not rfl) (b_ m (ok_pick (r := .bool (ag.read && (!ag.stale))) rfl rfl rfl (by rw [hb74]; rfl)) ?_)))))
    clear hs a; intro a hs
    exact wpList_nil (n_then ⟨hs.to ⟨rfl, rfl, rfl, rfl, trivial⟩, m⟩)
   ·refine so_ hs hb74 (bo_ hb74 (bo_ hb74 (bo_ hb74 (bo_ hb74 (b_ m (ok_pick (r := .bool (ag.read && (!ag.stale))) rfl rfl rfl (by rw [hb74]; rfl)) ?_)))))
    clear hs a; intro a hs
    exact wpList_nil (n_then ⟨hs.to ⟨rfl, rfl, rfl, rfl, trivial⟩, m⟩)
  clear hs m a w73; rintro a w75 ⟨hs, m⟩
  refine s_ hs m (ok_move rfl) ?_
  clear hs a; intro a hs
  refine l_cut (.c (.c (.c (.c (.c (.n)))))) (fun a w => St 67 [(0, .pointer (some (padd pag 0))), (2, .pointer (some (padd p16 0))), (3, .pointer (some (padd y18 0))), (58, .bool ((ag.read && (!ag.stale)) && ag.quiet))] a ∧ Hp w0 (hh w0) [Bx y18 84 (cVw true e67 ag.cursor false ag.degraded y23.v y22.v y19.v y20.v y21.v), Sv 4 51 y19.v (ag.Routes.map cRoute), Sv 7 54 y20.v (ag.Neighs.map cNeigh), Sv 7 56 y21.v (ag.Fdbs.map cFdb), Sv 2 44 y22.v (ag.skipped.map cPrefix), Sv 12 48 y23.v (ag.view.map cLease), Bx p16 84 (cVw false zLease ⟨0, rfl⟩ false false nilH.v nilH.v nilH.v nilH.v nilH.v)] w) ?_ ?_
  ·rcases Bool.eq_false_or_eq_true (ag.read && (!ag.stale)) with hb76 | hb76
   ·have hb76p := hb76; simp only [bp_] at hb76p
    refine sg_ hs hb76 m (ok_move rfl) (bg_ hb76 m (ok_nilCheck rfl) (bg_ hb76 m (ok_fieldAddr (r := 58) rfl fd135_14 ty4 rfl) (bg_ hb76 m (ok_load_sc rfl ty4 (fr_at hx8) rfl) (b_ m (ok_pick (r := .bool ((ag.read && (!ag.stale)) && ag.quiet)) rfl rfl rfl (by rw [hb76]; rfl)) ?_))))
    clear hs a; intro a hs
    exact wpList_nil (n_then ⟨hs.to ⟨rfl, rfl, rfl, rfl, trivial⟩, m⟩)
   ·have hb76p := hb76; simp only [bp_] at hb76p
    refine so_ hs hb76 (bo_ hb76 (bo_ hb76 (bo_ hb76 (b_ m (ok_pick (r := .bool ((ag.read && (!ag.stale)) && ag.quiet)) rfl rfl rfl (by rw [hb76]; rfl)) ?_))))
    clear hs a; intro a hs
    exact wpList_nil (n_then ⟨hs.to ⟨rfl, rfl, rfl, rfl, trivial⟩, m⟩)
  clear hs m a w75; rintro a w77 ⟨hs, m⟩
  refine s_ hs m (ok_move rfl) ?_
  clear hs a; intro a hs
  refine l_cut (.c (.c (.c (.c (.c (.n)))))) (fun a w => St 67 [(2, .pointer (some (padd p16 0))), (3, .pointer (some (padd y18 0))), (64, .bool (((ag.read && (!ag.stale)) && ag.quiet) && (((changesM ag).length : Int) == 0)))] a ∧ Hp w0 (hh w0) [Bx y18 84 (cVw true e67 ag.cursor false ag.degraded y23.v y22.v y19.v y20.v y21.v), Sv 4 51 y19.v (ag.Routes.map cRoute), Sv 7 54 y20.v (ag.Neighs.map cNeigh), Sv 7 56 y21.v (ag.Fdbs.map cFdb), Sv 2 44 y22.v (ag.skipped.map cPrefix), Sv 12 48 y23.v (ag.view.map cLease), Bx p16 84 (cVw false zLease ⟨0, rfl⟩ false false nilH.v nilH.v nilH.v nilH.v nilH.v)] w) ?_ ?_
  ·rcases Bool.eq_false_or_eq_true ((ag.read && (!ag.stale)) && ag.quiet) with hb78 | hb78
   ·have hb78p := hb78; simp only [bp_] at hb78p
    refine sg_ hs hb78 m (ok_move rfl) ?_
    clear hs a; intro a hs
    refine g_strip hs rfl rfl hb78 ?_
    refine r_call hs rfl rfl ca85 rfl (changes_c pag ag _ (hag.le m.frame) (by omega) (by omega) (by omega) (by omega)) rfl ?_
    clear hs a; rintro _ w80 ⟨v79, rfl, hm⟩ a hs
    replace m : Hp w0 (hh w0) [Sv 19 58 v79.v ((changesM ag).map cOp), Bx y18 84 (cVw true e67 ag.cursor false ag.degraded y23.v y22.v y19.v y20.v y21.v), Sv 4 51 y19.v (ag.Routes.map cRoute), Sv 7 54 y20.v (ag.Neighs.map cNeigh), Sv 7 56 y21.v (ag.Fdbs.map cFdb), Sv 2 44 y22.v (ag.skipped.map cPrefix), Sv 12 48 y23.v (ag.view.map cLease), Bx p16 84 (cVw false zLease ⟨0, rfl⟩ false false nilH.v nilH.v nilH.v nilH.v nilH.v)] w80 := m.after hm
    clear hm w77
    refine sg_ hs hb78 m (ok_len (r := ((changesM ag).length : Int)) m rfl sl35 (rc_own r0) (by simp)) (bg_ hb78 m (ok_bin rfl rfl rfl) (b_ m (ok_pick (r := .bool (((ag.read && (!ag.stale)) && ag.quiet) && (((changesM ag).length : Int) == 0))) rfl rfl rfl (by rw [hb78]; rfl)) ?_))
    clear hs a; intro a hs
    exact wpList_nil (n_then ⟨hs.to ⟨rfl, rfl, rfl, trivial⟩, m.sub (.c r1 (.c r1 (.c r1 (.c r1 (.c r1 (.c r1 (.c r1 .n)))))))⟩)
   ·have hb78p := hb78; simp only [bp_] at hb78p
    refine so_ hs hb78 (bo_ hb78 (bo_ hb78 (bo_ hb78 (b_ m (ok_pick (r := .bool (((ag.read && (!ag.stale)) && ag.quiet) && (((changesM ag).length : Int) == 0))) rfl rfl rfl (by rw [hb78]; rfl)) ?_))))
    clear hs a; intro a hs
    exact wpList_nil (n_then ⟨hs.to ⟨rfl, rfl, rfl, trivial⟩, m⟩)
  clear hs m a w77; rintro a w81 ⟨hs, m⟩
  refine s_ hs m (ok_fieldAddr (r := 14) rfl fd84_3 ty4 rfl) ?_
  clear hs a; intro a hs
  refine st_ (cVw true e67 ag.cursor (((ag.read && (!ag.stale)) && ag.quiet) && (((changesM ag).length : Int) == 0)) ag.degraded y23.v y22.v y19.v y20.v y21.v) [.bool (((ag.read && (!ag.stale)) && ag.quiet) && (((changesM ag).length : Int) == 0))] hs m ty4 s0 ?_
  clear m w81; intro w82 m
  refine wpList_nil (n_then ?_)
  refine c_reg ?_
  refine s_ hs m (ok_load_ag (vs := cVw true e67 ag.cursor (((ag.read && (!ag.stale)) && ag.quiet) && (((changesM ag).length : Int) == 0)) ag.degraded y23.v y22.v y19.v y20.v y21.v) rfl ty84 (bx_at r0) (by kernel_rfl) (by kernel_rfl)) ?_
  clear hs a; intro a hs
  refine st_ (cVw true e67 ag.cursor (((ag.read && (!ag.stale)) && ag.quiet) && (((changesM ag).length : Int) == 0)) ag.degraded y23.v y22.v y19.v y20.v y21.v) (cVw true e67 ag.cursor (((ag.read && (!ag.stale)) && ag.quiet) && (((changesM ag).length : Int) == 0)) ag.degraded y23.v y22.v y19.v y20.v y21.v) hs m ty84 s6 ?_
  clear m w82; intro w83 m
  refine wpList_nil (n_then ?_)
  refine wp_ret ?_
  refine leave hs (vs := [.agg ⟨cVw true e67 ag.cursor (((ag.read && (!ag.stale)) && ag.quiet) && (((changesM ag).length : Int) == 0)) ag.degraded y23.v y22.v y19.v y20.v y21.v⟩]) rfl ⟨resv_cell (cs := cVw true e67 ag.cursor (((ag.read && (!ag.stale)) && ag.quiet) && (((changesM ag).length : Int) == 0)) ag.degraded y23.v y22.v y19.v y20.v y21.v) m rfl ty84 r6 rfl, trivial⟩ ?_
  refine ⟨_, rfl, y23, y22, y19, y20, y21, ?_, m.sub (.c r5 (.c r4 (.c r1 (.c r1 (.c r1 .n)))))⟩
  have q84 : (true : Bool) = decide (ownI ag.self.Host.v ag.view ≥ 0) := by clear hs m; exact (decide_eq_true (by omega)).symm
  have q85 : (e67 : TLease) = vwLease ag := by clear hs m; exact vw_t (by omega) (by assumption)
  have q86 : (((ag.read && (!ag.stale)) && ag.quiet) && (((changesM ag).length : Int) == 0) : Bool) = vwSync ag := by clear hs m; rfl
  (rw [q84, q85, q86]; rfl)
 have h65p := of_decide_eq_false h65
 refine wp_skip ?_
 refine n_then ?_
 refine c_reg ?_
 refine s_ hs m (ok_move rfl) (b_ m (ok_nilCheck rfl) (b_ m (ok_fieldAddr (r := 44) rfl fd135_3 ty4 rfl) (b_ m (ok_load_sc rfl ty4 (fr_at hx8) rfl) (b_ m (ok_move rfl) ?_))))
 clear hs a; intro a hs
 refine l_cut (.c (.c (.c (.c (.c (.c (.n))))))) (fun a w => St 67 [(0, .pointer (some (padd pag 0))), (2, .pointer (some (padd p16 0))), (3, .pointer (some (padd y18 0))), (52, .bool (ag.read && (!ag.stale)))] a ∧ Hp w0 (hh w0) [Bx y18 84 (cVw false zLease ag.cursor false ag.degraded y23.v y22.v y19.v y20.v y21.v), Sv 4 51 y19.v (ag.Routes.map cRoute), Sv 7 54 y20.v (ag.Neighs.map cNeigh), Sv 7 56 y21.v (ag.Fdbs.map cFdb), Sv 2 44 y22.v (ag.skipped.map cPrefix), Sv 12 48 y23.v (ag.view.map cLease), Bx p16 84 (cVw false zLease ⟨0, rfl⟩ false false nilH.v nilH.v nilH.v nilH.v nilH.v)] w) ?_ ?_
 ·rcases Bool.eq_false_or_eq_true ag.read with hb87 | hb87
  ·refine sg_ hs hb87 m (ok_move rfl) (bg_ hb87 m (ok_nilCheck rfl) (bg_ hb87 m (ok_fieldAddr (r := 50) rfl fd135_7 ty4 rfl) (bg_ hb87 m (ok_load_sc rfl ty4 (fr_at hx8) rfl) (bg_ hb87 m (ok_not rfl) (b_ m (ok_pick (r := .bool (ag.read && (!ag.stale))) rfl rfl rfl (by rw [hb87]; rfl)) ?_)))))
   clear hs a; intro a hs
   exact wpList_nil (n_then ⟨hs.to ⟨rfl, rfl, rfl, rfl, trivial⟩, m⟩)
  ·refine so_ hs hb87 (bo_ hb87 (bo_ hb87 (bo_ hb87 (bo_ hb87 (b_ m (ok_pick (r := .bool (ag.read && (!ag.stale))) rfl rfl rfl (by rw [hb87]; rfl)) ?_)))))
   clear hs a; intro a hs
   exact wpList_nil (n_then ⟨hs.to ⟨rfl, rfl, rfl, rfl, trivial⟩, m⟩)
 clear hs m a w64; rintro a w88 ⟨hs, m⟩
 refine s_ hs m (ok_move rfl) ?_
 clear hs a; intro a hs
 refine l_cut (.c (.c (.c (.c (.c (.n)))))) (fun a w => St 67 [(0, .pointer (some (padd pag 0))), (2, .pointer (some (padd p16 0))), (3, .pointer (some (padd y18 0))), (58, .bool ((ag.read && (!ag.stale)) && ag.quiet))] a ∧ Hp w0 (hh w0) [Bx y18 84 (cVw false zLease ag.cursor false ag.degraded y23.v y22.v y19.v y20.v y21.v), Sv 4 51 y19.v (ag.Routes.map cRoute), Sv 7 54 y20.v (ag.Neighs.map cNeigh), Sv 7 56 y21.v (ag.Fdbs.map cFdb), Sv 2 44 y22.v (ag.skipped.map cPrefix), Sv 12 48 y23.v (ag.view.map cLease), Bx p16 84 (cVw false zLease ⟨0, rfl⟩ false false nilH.v nilH.v nilH.v nilH.v nilH.v)] w) ?_ ?_
 ·rcases Bool.eq_false_or_eq_true (ag.read && (!ag.stale)) with hb89 | hb89
  ·have hb89p := hb89; simp only [bp_] at hb89p
   refine sg_ hs hb89 m (ok_move rfl) (bg_ hb89 m (ok_nilCheck rfl) (bg_ hb89 m (ok_fieldAddr (r := 58) rfl fd135_14 ty4 rfl) (bg_ hb89 m (ok_load_sc rfl ty4 (fr_at hx8) rfl) (b_ m (ok_pick (r := .bool ((ag.read && (!ag.stale)) && ag.quiet)) rfl rfl rfl (by rw [hb89]; rfl)) ?_))))
   clear hs a; intro a hs
   exact wpList_nil (n_then ⟨hs.to ⟨rfl, rfl, rfl, rfl, trivial⟩, m⟩)
  ·have hb89p := hb89; simp only [bp_] at hb89p
   refine so_ hs hb89 (bo_ hb89 (bo_ hb89 (bo_ hb89 (b_ m (ok_pick (r := .bool ((ag.read && (!ag.stale)) && ag.quiet)) rfl rfl rfl (by rw [hb89]; rfl)) ?_))))
   clear hs a; intro a hs
   exact wpList_nil (n_then ⟨hs.to ⟨rfl, rfl, rfl, rfl, trivial⟩, m⟩)
 clear hs m a w88; rintro a w90 ⟨hs, m⟩
 refine s_ hs m (ok_move rfl) ?_
 clear hs a; intro a hs
 refine l_cut (.c (.c (.c (.c (.c (.n)))))) (fun a w => St 67 [(2, .pointer (some (padd p16 0))), (3, .pointer (some (padd y18 0))), (64, .bool (((ag.read && (!ag.stale)) && ag.quiet) && (((changesM ag).length : Int) == 0)))] a ∧ Hp w0 (hh w0) [Bx y18 84 (cVw false zLease ag.cursor false ag.degraded y23.v y22.v y19.v y20.v y21.v), Sv 4 51 y19.v (ag.Routes.map cRoute), Sv 7 54 y20.v (ag.Neighs.map cNeigh), Sv 7 56 y21.v (ag.Fdbs.map cFdb), Sv 2 44 y22.v (ag.skipped.map cPrefix), Sv 12 48 y23.v (ag.view.map cLease), Bx p16 84 (cVw false zLease ⟨0, rfl⟩ false false nilH.v nilH.v nilH.v nilH.v nilH.v)] w) ?_ ?_
 ·rcases Bool.eq_false_or_eq_true ((ag.read && (!ag.stale)) && ag.quiet) with hb91 | hb91
  ·have hb91p := hb91; simp only [bp_] at hb91p
   refine sg_ hs hb91 m (ok_move rfl) ?_
   clear hs a; intro a hs
   refine g_strip hs rfl rfl hb91 ?_
   refine r_call hs rfl rfl ca85 rfl (changes_c pag ag _ (hag.le m.frame) (by omega) (by omega) (by omega) (by omega)) rfl ?_
   clear hs a; rintro _ w93 ⟨v92, rfl, hm⟩ a hs
   replace m : Hp w0 (hh w0) [Sv 19 58 v92.v ((changesM ag).map cOp), Bx y18 84 (cVw false zLease ag.cursor false ag.degraded y23.v y22.v y19.v y20.v y21.v), Sv 4 51 y19.v (ag.Routes.map cRoute), Sv 7 54 y20.v (ag.Neighs.map cNeigh), Sv 7 56 y21.v (ag.Fdbs.map cFdb), Sv 2 44 y22.v (ag.skipped.map cPrefix), Sv 12 48 y23.v (ag.view.map cLease), Bx p16 84 (cVw false zLease ⟨0, rfl⟩ false false nilH.v nilH.v nilH.v nilH.v nilH.v)] w93 := m.after hm
   clear hm w90
   refine sg_ hs hb91 m (ok_len (r := ((changesM ag).length : Int)) m rfl sl35 (rc_own r0) (by simp)) (bg_ hb91 m (ok_bin rfl rfl rfl) (b_ m (ok_pick (r := .bool (((ag.read && (!ag.stale)) && ag.quiet) && (((changesM ag).length : Int) == 0))) rfl rfl rfl (by rw [hb91]; rfl)) ?_))
   clear hs a; intro a hs
   exact wpList_nil (n_then ⟨hs.to ⟨rfl, rfl, rfl, trivial⟩, m.sub (.c r1 (.c r1 (.c r1 (.c r1 (.c r1 (.c r1 (.c r1 .n)))))))⟩)
  ·have hb91p := hb91; simp only [bp_] at hb91p
   refine so_ hs hb91 (bo_ hb91 (bo_ hb91 (bo_ hb91 (b_ m (ok_pick (r := .bool (((ag.read && (!ag.stale)) && ag.quiet) && (((changesM ag).length : Int) == 0))) rfl rfl rfl (by rw [hb91]; rfl)) ?_))))
   clear hs a; intro a hs
   exact wpList_nil (n_then ⟨hs.to ⟨rfl, rfl, rfl, trivial⟩, m⟩)
 clear hs m a w90; rintro a w94 ⟨hs, m⟩
 refine s_ hs m (ok_fieldAddr (r := 14) rfl fd84_3 ty4 rfl) ?_
 clear hs a; intro a hs
 refine st_ (cVw false zLease ag.cursor (((ag.read && (!ag.stale)) && ag.quiet) && (((changesM ag).length : Int) == 0)) ag.degraded y23.v y22.v y19.v y20.v y21.v) [.bool (((ag.read && (!ag.stale)) && ag.quiet) && (((changesM ag).length : Int) == 0))] hs m ty4 s0 ?_
 clear m w94; intro w95 m
 refine wpList_nil (n_then ?_)
 refine c_reg ?_
 refine s_ hs m (ok_load_ag (vs := cVw false zLease ag.cursor (((ag.read && (!ag.stale)) && ag.quiet) && (((changesM ag).length : Int) == 0)) ag.degraded y23.v y22.v y19.v y20.v y21.v) rfl ty84 (bx_at r0) (by kernel_rfl) (by kernel_rfl)) ?_
 clear hs a; intro a hs
 refine st_ (cVw false zLease ag.cursor (((ag.read && (!ag.stale)) && ag.quiet) && (((changesM ag).length : Int) == 0)) ag.degraded y23.v y22.v y19.v y20.v y21.v) (cVw false zLease ag.cursor (((ag.read && (!ag.stale)) && ag.quiet) && (((changesM ag).length : Int) == 0)) ag.degraded y23.v y22.v y19.v y20.v y21.v) hs m ty84 s6 ?_
 clear m w95; intro w96 m
 refine wpList_nil (n_then ?_)
 refine wp_ret ?_
 refine leave hs (vs := [.agg ⟨cVw false zLease ag.cursor (((ag.read && (!ag.stale)) && ag.quiet) && (((changesM ag).length : Int) == 0)) ag.degraded y23.v y22.v y19.v y20.v y21.v⟩]) rfl ⟨resv_cell (cs := cVw false zLease ag.cursor (((ag.read && (!ag.stale)) && ag.quiet) && (((changesM ag).length : Int) == 0)) ag.degraded y23.v y22.v y19.v y20.v y21.v) m rfl ty84 r6 rfl, trivial⟩ ?_
 refine ⟨_, rfl, y23, y22, y19, y20, y21, ?_, m.sub (.c r5 (.c r4 (.c r1 (.c r1 (.c r1 .n)))))⟩
 have q97 : (false : Bool) = decide (ownI ag.self.Host.v ag.view ≥ 0) := by clear hs m; exact (decide_eq_false (by omega)).symm
 have q98 : (zLease : TLease) = vwLease ag := by clear hs m; exact vw_f (by omega)
 have q99 : (((ag.read && (!ag.stale)) && ag.quiet) && (((changesM ag).length : Int) == 0) : Bool) = vwSync ag := by clear hs m; rfl
 (rw [q97, q98, q99]; rfl)
end Go.Proofs.YtnbpodjbemfpbaaGreat.Fw
set_option linter.all false
set_option maxHeartbeats 4000000
set_option maxRecDepth 100000
namespace Go.Proofs.YtnbpodjbemfpbaaGreat.Fw
open Go
theorem carry_c (pag : Addr) (ag : AgM) (o : TOp) (w0 : World) (R : Hh) (B0 : ag.view.length ≤ 2000000000) (B1 : ag.Routes.length ≤ 2000000000) (B2 : ag.Neighs.length ≤ 2000000000) (B3 : ag.Fdbs.length ≤ 2000000000) (B4 : ag.skipped.length ≤ 2000000000000) (m : Hp w0 R [AgP pag ag] w0) : Calls Tryz.prog 134 ⟨[.pointer (some (padd pag 45)), .agg ⟨cOp o⟩]⟩ w0 fun e w' => ∃ v, e = .returned v ∧ (v = (.tuple ⟨[]⟩) ∧ Hp w0 R [AgP pag (carryA ag o)] w') := by
 refine enter (n := 78) Tryz.func134 rfl rfl rfl fun a (hs : St 78 [(0, .pointer (some (padd pag 45))), (1, .agg ⟨cOp o⟩)] a) => ?_
 have mo := m.openAg r0
 clear m; obtain ⟨x1, x2, x3, x4, x5, x6, x7, m⟩ := mo
 refine c_reg ?_
 refine r_box (cs := cOp o) hs m rfl (by kernel_rfl) rfl ?_
 clear m hs a; intro p8 w9 m a hs
 refine wpList_nil (n_then ?_)
 refine c_reg ?_
 refine s_ hs m (ok_fieldAddr (r := 0) rfl fd58_0 ty3 rfl) (b_ m (ok_load_sc rfl ty3 (bx_at r0) rfl) (bn_ ?_))
 clear hs a; intro a hs
 refine wp_block ?_
 refine c_reg ?_
 refine s_ hs m (ok_bin rfl rfl rfl) (b_ m (ok_assign rfl) (bn_ ?_))
 clear hs a; intro a hs
 refine c_cond hs rfl (fun h10 => ?_) (fun h10 => ?_)
 ·have h10p := eq_of_beq h10
  refine c_drawHLast (Hp w0 R [Bx p8 58 (cOp o), Bx x1 63 [.pointer (some (padd pag 0))], Sv 2 138 x2.v ((rulesOf pag x1 : List (List Value)).map id), Sv 7 54 x4.v (ag.Neighs.map cNeigh), Sv 7 56 x5.v (ag.Fdbs.map cFdb), Sv 12 48 x6.v (ag.view.map cLease), Sv 2 44 x7.v (ag.skipped.map cPrefix)]) m mo ?_; clear m w9; intro w11 m
  refine sh_ (i := 0) rfl hs (m.sub (.c r0 (.c r1 (.c r1 (.c r2 (.c r2 (.c r2 (.c r2 .n)))))))) (ok_move rfl) (bh_ (i := 1) rfl (m.sub (.c r0 (.c r1 (.c r1 (.c r2 (.c r2 (.c r2 (.c r2 .n)))))))) (ok_move rfl) (bh_ (i := 2) rfl (m.sub (.c r0 (.c r1 (.c r1 (.c r2 (.c r2 (.c r2 (.c r2 .n)))))))) (ok_nilCheck rfl) (bh_ (i := 3) rfl (m.sub (.c r0 (.c r1 (.c r1 (.c r2 (.c r2 (.c r2 (.c r2 .n)))))))) (ok_fieldAddr (r := 45) rfl fd29_0 ty25 rfl) (bh_ (i := 5) rfl (m.sub (.c r0 (.c r1 (.c r1 (.c r2 (.c r2 (.c r2 (.c r2 .n)))))))) (ok_fieldAddr (r := 1) rfl fd58_1 ty51 rfl) (bh_ (i := 6) rfl (m.sub (.c r0 (.c r1 (.c r1 (.c r2 (.c r2 (.c r2 (.c r2 .n)))))))) (ok_load_ag (vs := cRoute o.Route) rfl ty51 (bx_at r0) (by kernel_rfl) (by kernel_rfl)) ?_)))))
  clear hs a; intro a hs
  refine h_eff (i := 4) (by kernel_rfl) rfl ?_
  refine s_ hs m (ok_load_sc rfl ty25 (bx_at r1) rfl) ?_
  clear hs a; intro a hs
  refine wpList_nil (n_then ⟨(m.sub (.c r0 (.c r1 (.c r1 (.c r2 (.c r2 (.c r2 (.c r2 .n)))))))), ?_⟩)
  refine h_eff (i := 7) (by kernel_rfl) rfl ?_
  obtain ⟨R1, hR, hR2, ⟨y1, sy, ly⟩, mc, back⟩ := Hp.split (Pc := [Sv 4 51 x3.v (ag.Routes.map cRoute)]) (Ps := [Bx p8 58 (cOp o), Bx pag 135 (cAg ag.self x2.v ag.opn ag.read x3.v x4.v x5.v x6.v ag.cursor ag.stale x7.v ag.degraded ag.granted ag.waiting ag.wish ag.renewed ag.quiet), Bx x1 63 [.pointer (some (padd pag 0))], Sv 2 138 x2.v ((rulesOf pag x1 : List (List Value)).map id), Sv 7 54 x4.v (ag.Neighs.map cNeigh), Sv 7 56 x5.v (ag.Fdbs.map cFdb), Sv 12 48 x6.v (ag.view.map cLease), Sv 2 44 x7.v (ag.skipped.map cPrefix)]) (m.sub (.c r4 (.c r0 (.c r0 (.c r0 (.c r0 (.c r0 (.c r0 (.c r0 (.c r0 .n))))))))))
  refine r_call hs rfl rfl ca44 rfl (setRoute_c x3 ag.Routes o.Route _ R1  (by omega) mc) rfl ?_
  clear hs a; rintro _ w13 ⟨v12, rfl, hm⟩ a hs
  replace m : Hp w0 R [Sv 4 51 v12.v ((setM cmpRoute ag.Routes o.Route).map cRoute), Bx p8 58 (cOp o), Bx pag 135 (cAg ag.self x2.v ag.opn ag.read x3.v x4.v x5.v x6.v ag.cursor ag.stale x7.v ag.degraded ag.granted ag.waiting ag.wish ag.renewed ag.quiet), Bx x1 63 [.pointer (some (padd pag 0))], Sv 2 138 x2.v ((rulesOf pag x1 : List (List Value)).map id), Sv 7 54 x4.v (ag.Neighs.map cNeigh), Sv 7 56 x5.v (ag.Fdbs.map cFdb), Sv 12 48 x6.v (ag.view.map cLease), Sv 2 44 x7.v (ag.skipped.map cPrefix)] w13 := back _ _ hm
  clear hm back mc sy ly hR2 hR y1 R1 w11
  refine wpList_nil (n_then ⟨(m.sub (.c r1 (.c r2 (.c r2 (.c r2 (.c r2 (.c r2 (.c r2 .n)))))))), ?_⟩)
  refine sh_ (i := 8) rfl hs (m.sub (.c r1 (.c r2 (.c r2 (.c r2 (.c r2 (.c r2 (.c r2 .n)))))))) (ok_nilCheck rfl) (bh_ (i := 9) rfl (m.sub (.c r1 (.c r2 (.c r2 (.c r2 (.c r2 (.c r2 (.c r2 .n)))))))) (ok_fieldAddr (r := 45) rfl fd29_0 ty25 rfl) ?_)
  clear hs a; intro a hs
  refine h_eff (i := 10) (by kernel_rfl) rfl ?_
  refine st_ (cAg ag.self x2.v ag.opn ag.read v12.v x4.v x5.v x6.v ag.cursor ag.stale x7.v ag.degraded ag.granted ag.waiting ag.wish ag.renewed ag.quiet) [v12.v] hs m ty25 s2 ?_
  clear m w13; intro w14 m
  refine wpList_nil (n_then ⟨(m.sub (.c r1 (.c r2 (.c r2 (.c r2 (.c r2 (.c r2 (.c r2 .n)))))))), ?_⟩)
  refine h_done (by kernel_rfl) (n_block (leaveN hs (vs := []) rfl trivial ?_))
  replace m := (m.sub (.c r2 (.c r2 (.c r2 (.c r0 (.c r1 (.c r1 (.c r1 (.c r1 (.c r0 .n)))))))))).closeAg (p := pag) (A := ({ ag with Routes := (setM cmpRoute ag.Routes o.Route) } : AgM))
  have q15 : ({ ag with Routes := (setM cmpRoute ag.Routes o.Route) } : AgM) = carryA ag o := by clear hs m; simp [carryA, *]
  rw [q15] at m
  refine ⟨_, rfl, ?_, m.sub (.c r0 .n)⟩
  rfl
 have h10p := ne_of_beq_false h10
 refine c_reg ?_
 refine s_ hs m (ok_bin rfl rfl rfl) (b_ m (ok_assign rfl) (bn_ ?_))
 clear hs a; intro a hs
 refine c_cond hs rfl (fun h16 => ?_) (fun h16 => ?_)
 ·have h16p := eq_of_beq h16
  refine c_drawHLast (Hp w0 R [Bx p8 58 (cOp o), Bx x1 63 [.pointer (some (padd pag 0))], Sv 2 138 x2.v ((rulesOf pag x1 : List (List Value)).map id), Sv 7 54 x4.v (ag.Neighs.map cNeigh), Sv 7 56 x5.v (ag.Fdbs.map cFdb), Sv 12 48 x6.v (ag.view.map cLease), Sv 2 44 x7.v (ag.skipped.map cPrefix)]) m mo ?_; clear m w9; intro w17 m
  refine sh_ (i := 0) rfl hs (m.sub (.c r0 (.c r1 (.c r1 (.c r2 (.c r2 (.c r2 (.c r2 .n)))))))) (ok_move rfl) (bh_ (i := 1) rfl (m.sub (.c r0 (.c r1 (.c r1 (.c r2 (.c r2 (.c r2 (.c r2 .n)))))))) (ok_move rfl) (bh_ (i := 2) rfl (m.sub (.c r0 (.c r1 (.c r1 (.c r2 (.c r2 (.c r2 (.c r2 .n)))))))) (ok_nilCheck rfl) (bh_ (i := 3) rfl (m.sub (.c r0 (.c r1 (.c r1 (.c r2 (.c r2 (.c r2 (.c r2 .n)))))))) (ok_fieldAddr (r := 45) rfl fd29_0 ty25 rfl) (bh_ (i := 5) rfl (m.sub (.c r0 (.c r1 (.c r1 (.c r2 (.c r2 (.c r2 (.c r2 .n)))))))) (ok_fieldAddr (r := 1) rfl fd58_1 ty51 rfl) (bh_ (i := 6) rfl (m.sub (.c r0 (.c r1 (.c r1 (.c r2 (.c r2 (.c r2 (.c r2 .n)))))))) (ok_load_ag (vs := cRoute o.Route) rfl ty51 (bx_at r0) (by kernel_rfl) (by kernel_rfl)) ?_)))))
  clear hs a; intro a hs
  refine h_eff (i := 4) (by kernel_rfl) rfl ?_
  refine s_ hs m (ok_load_sc rfl ty25 (bx_at r1) rfl) ?_
  clear hs a; intro a hs
  refine wpList_nil (n_then ⟨(m.sub (.c r0 (.c r1 (.c r1 (.c r2 (.c r2 (.c r2 (.c r2 .n)))))))), ?_⟩)
  refine h_eff (i := 7) (by kernel_rfl) rfl ?_
  obtain ⟨R1, hR, hR2, ⟨y1, sy, ly⟩, mc, back⟩ := Hp.split (Pc := [Sv 4 51 x3.v (ag.Routes.map cRoute)]) (Ps := [Bx p8 58 (cOp o), Bx pag 135 (cAg ag.self x2.v ag.opn ag.read x3.v x4.v x5.v x6.v ag.cursor ag.stale x7.v ag.degraded ag.granted ag.waiting ag.wish ag.renewed ag.quiet), Bx x1 63 [.pointer (some (padd pag 0))], Sv 2 138 x2.v ((rulesOf pag x1 : List (List Value)).map id), Sv 7 54 x4.v (ag.Neighs.map cNeigh), Sv 7 56 x5.v (ag.Fdbs.map cFdb), Sv 12 48 x6.v (ag.view.map cLease), Sv 2 44 x7.v (ag.skipped.map cPrefix)]) (m.sub (.c r4 (.c r0 (.c r0 (.c r0 (.c r0 (.c r0 (.c r0 (.c r0 (.c r0 .n))))))))))
  refine r_call hs rfl rfl ca163 rfl (unsetRoute_c x3 ag.Routes o.Route _ R1   mc) rfl ?_
  clear hs a; rintro _ w19 ⟨v18, rfl, hm⟩ a hs
  replace m : Hp w0 R [Sv 4 51 v18.v ((unsetM cmpRoute ag.Routes o.Route).map cRoute), Bx p8 58 (cOp o), Bx pag 135 (cAg ag.self x2.v ag.opn ag.read x3.v x4.v x5.v x6.v ag.cursor ag.stale x7.v ag.degraded ag.granted ag.waiting ag.wish ag.renewed ag.quiet), Bx x1 63 [.pointer (some (padd pag 0))], Sv 2 138 x2.v ((rulesOf pag x1 : List (List Value)).map id), Sv 7 54 x4.v (ag.Neighs.map cNeigh), Sv 7 56 x5.v (ag.Fdbs.map cFdb), Sv 12 48 x6.v (ag.view.map cLease), Sv 2 44 x7.v (ag.skipped.map cPrefix)] w19 := back _ _ hm
  clear hm back mc sy ly hR2 hR y1 R1 w17
  refine wpList_nil (n_then ⟨(m.sub (.c r1 (.c r2 (.c r2 (.c r2 (.c r2 (.c r2 (.c r2 .n)))))))), ?_⟩)
  refine sh_ (i := 8) rfl hs (m.sub (.c r1 (.c r2 (.c r2 (.c r2 (.c r2 (.c r2 (.c r2 .n)))))))) (ok_nilCheck rfl) (bh_ (i := 9) rfl (m.sub (.c r1 (.c r2 (.c r2 (.c r2 (.c r2 (.c r2 (.c r2 .n)))))))) (ok_fieldAddr (r := 45) rfl fd29_0 ty25 rfl) ?_)
  clear hs a; intro a hs
  refine h_eff (i := 10) (by kernel_rfl) rfl ?_
  refine st_ (cAg ag.self x2.v ag.opn ag.read v18.v x4.v x5.v x6.v ag.cursor ag.stale x7.v ag.degraded ag.granted ag.waiting ag.wish ag.renewed ag.quiet) [v18.v] hs m ty25 s2 ?_
  clear m w19; intro w20 m
  refine wpList_nil (n_then ⟨(m.sub (.c r1 (.c r2 (.c r2 (.c r2 (.c r2 (.c r2 (.c r2 .n)))))))), ?_⟩)
  refine h_done (by kernel_rfl) (n_block (leaveN hs (vs := []) rfl trivial ?_))
  replace m := (m.sub (.c r2 (.c r2 (.c r2 (.c r0 (.c r1 (.c r1 (.c r1 (.c r1 (.c r0 .n)))))))))).closeAg (p := pag) (A := ({ ag with Routes := (unsetM cmpRoute ag.Routes o.Route) } : AgM))
  have q21 : ({ ag with Routes := (unsetM cmpRoute ag.Routes o.Route) } : AgM) = carryA ag o := by clear hs m; simp [carryA, *]
  rw [q21] at m
  refine ⟨_, rfl, ?_, m.sub (.c r0 .n)⟩
  rfl
 have h16p := ne_of_beq_false h16
 refine c_reg ?_
 refine s_ hs m (ok_bin rfl rfl rfl) (b_ m (ok_assign rfl) (bn_ ?_))
 clear hs a; intro a hs
 refine c_cond hs rfl (fun h22 => ?_) (fun h22 => ?_)
 ·have h22p := eq_of_beq h22
  refine c_drawHLast (Hp w0 R [Bx p8 58 (cOp o), Bx x1 63 [.pointer (some (padd pag 0))], Sv 2 138 x2.v ((rulesOf pag x1 : List (List Value)).map id), Sv 4 51 x3.v (ag.Routes.map cRoute), Sv 7 56 x5.v (ag.Fdbs.map cFdb), Sv 12 48 x6.v (ag.view.map cLease), Sv 2 44 x7.v (ag.skipped.map cPrefix)]) m mo ?_; clear m w9; intro w23 m
  refine sh_ (i := 0) rfl hs (m.sub (.c r0 (.c r1 (.c r1 (.c r1 (.c r2 (.c r2 (.c r2 .n)))))))) (ok_move rfl) (bh_ (i := 1) rfl (m.sub (.c r0 (.c r1 (.c r1 (.c r1 (.c r2 (.c r2 (.c r2 .n)))))))) (ok_move rfl) (bh_ (i := 2) rfl (m.sub (.c r0 (.c r1 (.c r1 (.c r1 (.c r2 (.c r2 (.c r2 .n)))))))) (ok_nilCheck rfl) (bh_ (i := 3) rfl (m.sub (.c r0 (.c r1 (.c r1 (.c r1 (.c r2 (.c r2 (.c r2 .n)))))))) (ok_fieldAddr (r := 46) rfl fd29_1 ty26 rfl) (bh_ (i := 5) rfl (m.sub (.c r0 (.c r1 (.c r1 (.c r1 (.c r2 (.c r2 (.c r2 .n)))))))) (ok_fieldAddr (r := 5) rfl fd58_2 ty54 rfl) (bh_ (i := 6) rfl (m.sub (.c r0 (.c r1 (.c r1 (.c r1 (.c r2 (.c r2 (.c r2 .n)))))))) (ok_load_ag (vs := cNeigh o.Neigh) rfl ty54 (bx_at r0) (by kernel_rfl) (by kernel_rfl)) ?_)))))
  clear hs a; intro a hs
  refine h_eff (i := 4) (by kernel_rfl) rfl ?_
  refine s_ hs m (ok_load_sc rfl ty26 (bx_at r1) rfl) ?_
  clear hs a; intro a hs
  refine wpList_nil (n_then ⟨(m.sub (.c r0 (.c r1 (.c r1 (.c r1 (.c r2 (.c r2 (.c r2 .n)))))))), ?_⟩)
  refine h_eff (i := 7) (by kernel_rfl) rfl ?_
  obtain ⟨R1, hR, hR2, ⟨y1, sy, ly⟩, mc, back⟩ := Hp.split (Pc := [Sv 7 54 x4.v (ag.Neighs.map cNeigh)]) (Ps := [Bx p8 58 (cOp o), Bx pag 135 (cAg ag.self x2.v ag.opn ag.read x3.v x4.v x5.v x6.v ag.cursor ag.stale x7.v ag.degraded ag.granted ag.waiting ag.wish ag.renewed ag.quiet), Bx x1 63 [.pointer (some (padd pag 0))], Sv 2 138 x2.v ((rulesOf pag x1 : List (List Value)).map id), Sv 4 51 x3.v (ag.Routes.map cRoute), Sv 7 56 x5.v (ag.Fdbs.map cFdb), Sv 12 48 x6.v (ag.view.map cLease), Sv 2 44 x7.v (ag.skipped.map cPrefix)]) (m.sub (.c r5 (.c r0 (.c r0 (.c r0 (.c r0 (.c r0 (.c r0 (.c r0 (.c r0 .n))))))))))
  refine r_call hs rfl rfl ca46 rfl (setNeigh_c x4 ag.Neighs o.Neigh _ R1  (by omega) mc) rfl ?_
  clear hs a; rintro _ w25 ⟨v24, rfl, hm⟩ a hs
  replace m : Hp w0 R [Sv 7 54 v24.v ((setM cmpNeigh ag.Neighs o.Neigh).map cNeigh), Bx p8 58 (cOp o), Bx pag 135 (cAg ag.self x2.v ag.opn ag.read x3.v x4.v x5.v x6.v ag.cursor ag.stale x7.v ag.degraded ag.granted ag.waiting ag.wish ag.renewed ag.quiet), Bx x1 63 [.pointer (some (padd pag 0))], Sv 2 138 x2.v ((rulesOf pag x1 : List (List Value)).map id), Sv 4 51 x3.v (ag.Routes.map cRoute), Sv 7 56 x5.v (ag.Fdbs.map cFdb), Sv 12 48 x6.v (ag.view.map cLease), Sv 2 44 x7.v (ag.skipped.map cPrefix)] w25 := back _ _ hm
  clear hm back mc sy ly hR2 hR y1 R1 w23
  refine wpList_nil (n_then ⟨(m.sub (.c r1 (.c r2 (.c r2 (.c r2 (.c r2 (.c r2 (.c r2 .n)))))))), ?_⟩)
  refine sh_ (i := 8) rfl hs (m.sub (.c r1 (.c r2 (.c r2 (.c r2 (.c r2 (.c r2 (.c r2 .n)))))))) (ok_nilCheck rfl) (bh_ (i := 9) rfl (m.sub (.c r1 (.c r2 (.c r2 (.c r2 (.c r2 (.c r2 (.c r2 .n)))))))) (ok_fieldAddr (r := 46) rfl fd29_1 ty26 rfl) ?_)
  clear hs a; intro a hs
  refine h_eff (i := 10) (by kernel_rfl) rfl ?_
  refine st_ (cAg ag.self x2.v ag.opn ag.read x3.v v24.v x5.v x6.v ag.cursor ag.stale x7.v ag.degraded ag.granted ag.waiting ag.wish ag.renewed ag.quiet) [v24.v] hs m ty26 s2 ?_
  clear m w25; intro w26 m
  refine wpList_nil (n_then ⟨(m.sub (.c r1 (.c r2 (.c r2 (.c r2 (.c r2 (.c r2 (.c r2 .n)))))))), ?_⟩)
  refine h_done (by kernel_rfl) (n_block (leaveN hs (vs := []) rfl trivial ?_))
  replace m := (m.sub (.c r2 (.c r2 (.c r2 (.c r2 (.c r0 (.c r1 (.c r1 (.c r1 (.c r0 .n)))))))))).closeAg (p := pag) (A := ({ ag with Neighs := (setM cmpNeigh ag.Neighs o.Neigh) } : AgM))
  have q27 : ({ ag with Neighs := (setM cmpNeigh ag.Neighs o.Neigh) } : AgM) = carryA ag o := by clear hs m; simp [carryA, *]
  rw [q27] at m
  refine ⟨_, rfl, ?_, m.sub (.c r0 .n)⟩
  rfl
 have h22p := ne_of_beq_false h22
 refine c_reg ?_
 refine s_ hs m (ok_bin rfl rfl rfl) (b_ m (ok_assign rfl) (bn_ ?_))
 clear hs a; intro a hs
 refine c_cond hs rfl (fun h28 => ?_) (fun h28 => ?_)
 ·have h28p := eq_of_beq h28
  refine c_drawHLast (Hp w0 R [Bx p8 58 (cOp o), Bx x1 63 [.pointer (some (padd pag 0))], Sv 2 138 x2.v ((rulesOf pag x1 : List (List Value)).map id), Sv 4 51 x3.v (ag.Routes.map cRoute), Sv 7 56 x5.v (ag.Fdbs.map cFdb), Sv 12 48 x6.v (ag.view.map cLease), Sv 2 44 x7.v (ag.skipped.map cPrefix)]) m mo ?_; clear m w9; intro w29 m
  refine sh_ (i := 0) rfl hs (m.sub (.c r0 (.c r1 (.c r1 (.c r1 (.c r2 (.c r2 (.c r2 .n)))))))) (ok_move rfl) (bh_ (i := 1) rfl (m.sub (.c r0 (.c r1 (.c r1 (.c r1 (.c r2 (.c r2 (.c r2 .n)))))))) (ok_move rfl) (bh_ (i := 2) rfl (m.sub (.c r0 (.c r1 (.c r1 (.c r1 (.c r2 (.c r2 (.c r2 .n)))))))) (ok_nilCheck rfl) (bh_ (i := 3) rfl (m.sub (.c r0 (.c r1 (.c r1 (.c r1 (.c r2 (.c r2 (.c r2 .n)))))))) (ok_fieldAddr (r := 46) rfl fd29_1 ty26 rfl) (bh_ (i := 5) rfl (m.sub (.c r0 (.c r1 (.c r1 (.c r1 (.c r2 (.c r2 (.c r2 .n)))))))) (ok_fieldAddr (r := 5) rfl fd58_2 ty54 rfl) (bh_ (i := 6) rfl (m.sub (.c r0 (.c r1 (.c r1 (.c r1 (.c r2 (.c r2 (.c r2 .n)))))))) (ok_load_ag (vs := cNeigh o.Neigh) rfl ty54 (bx_at r0) (by kernel_rfl) (by kernel_rfl)) ?_)))))
  clear hs a; intro a hs
  refine h_eff (i := 4) (by kernel_rfl) rfl ?_
  refine s_ hs m (ok_load_sc rfl ty26 (bx_at r1) rfl) ?_
  clear hs a; intro a hs
  refine wpList_nil (n_then ⟨(m.sub (.c r0 (.c r1 (.c r1 (.c r1 (.c r2 (.c r2 (.c r2 .n)))))))), ?_⟩)
  refine h_eff (i := 7) (by kernel_rfl) rfl ?_
  obtain ⟨R1, hR, hR2, ⟨y1, sy, ly⟩, mc, back⟩ := Hp.split (Pc := [Sv 7 54 x4.v (ag.Neighs.map cNeigh)]) (Ps := [Bx p8 58 (cOp o), Bx pag 135 (cAg ag.self x2.v ag.opn ag.read x3.v x4.v x5.v x6.v ag.cursor ag.stale x7.v ag.degraded ag.granted ag.waiting ag.wish ag.renewed ag.quiet), Bx x1 63 [.pointer (some (padd pag 0))], Sv 2 138 x2.v ((rulesOf pag x1 : List (List Value)).map id), Sv 4 51 x3.v (ag.Routes.map cRoute), Sv 7 56 x5.v (ag.Fdbs.map cFdb), Sv 12 48 x6.v (ag.view.map cLease), Sv 2 44 x7.v (ag.skipped.map cPrefix)]) (m.sub (.c r5 (.c r0 (.c r0 (.c r0 (.c r0 (.c r0 (.c r0 (.c r0 (.c r0 .n))))))))))
  refine r_call hs rfl rfl ca164 rfl (unsetNeigh_c x4 ag.Neighs o.Neigh _ R1   mc) rfl ?_
  clear hs a; rintro _ w31 ⟨v30, rfl, hm⟩ a hs
  replace m : Hp w0 R [Sv 7 54 v30.v ((unsetM cmpNeigh ag.Neighs o.Neigh).map cNeigh), Bx p8 58 (cOp o), Bx pag 135 (cAg ag.self x2.v ag.opn ag.read x3.v x4.v x5.v x6.v ag.cursor ag.stale x7.v ag.degraded ag.granted ag.waiting ag.wish ag.renewed ag.quiet), Bx x1 63 [.pointer (some (padd pag 0))], Sv 2 138 x2.v ((rulesOf pag x1 : List (List Value)).map id), Sv 4 51 x3.v (ag.Routes.map cRoute), Sv 7 56 x5.v (ag.Fdbs.map cFdb), Sv 12 48 x6.v (ag.view.map cLease), Sv 2 44 x7.v (ag.skipped.map cPrefix)] w31 := back _ _ hm
  clear hm back mc sy ly hR2 hR y1 R1 w29
  refine wpList_nil (n_then ⟨(m.sub (.c r1 (.c r2 (.c r2 (.c r2 (.c r2 (.c r2 (.c r2 .n)))))))), ?_⟩)
  refine sh_ (i := 8) rfl hs (m.sub (.c r1 (.c r2 (.c r2 (.c r2 (.c r2 (.c r2 (.c r2 .n)))))))) (ok_nilCheck rfl) (bh_ (i := 9) rfl (m.sub (.c r1 (.c r2 (.c r2 (.c r2 (.c r2 (.c r2 (.c r2 .n)))))))) (ok_fieldAddr (r := 46) rfl fd29_1 ty26 rfl) ?_)
  clear hs a; intro a hs
  refine h_eff (i := 10) (by kernel_rfl) rfl ?_
  refine st_ (cAg ag.self x2.v ag.opn ag.read x3.v v30.v x5.v x6.v ag.cursor ag.stale x7.v ag.degraded ag.granted ag.waiting ag.wish ag.renewed ag.quiet) [v30.v] hs m ty26 s2 ?_
  clear m w31; intro w32 m
  refine wpList_nil (n_then ⟨(m.sub (.c r1 (.c r2 (.c r2 (.c r2 (.c r2 (.c r2 (.c r2 .n)))))))), ?_⟩)
  refine h_done (by kernel_rfl) (n_block (leaveN hs (vs := []) rfl trivial ?_))
  replace m := (m.sub (.c r2 (.c r2 (.c r2 (.c r2 (.c r0 (.c r1 (.c r1 (.c r1 (.c r0 .n)))))))))).closeAg (p := pag) (A := ({ ag with Neighs := (unsetM cmpNeigh ag.Neighs o.Neigh) } : AgM))
  have q33 : ({ ag with Neighs := (unsetM cmpNeigh ag.Neighs o.Neigh) } : AgM) = carryA ag o := by clear hs m; simp [carryA, *]
  rw [q33] at m
  refine ⟨_, rfl, ?_, m.sub (.c r0 .n)⟩
  rfl
 have h28p := ne_of_beq_false h28
 refine c_reg ?_
 refine s_ hs m (ok_bin rfl rfl rfl) (b_ m (ok_assign rfl) (bn_ ?_))
 clear hs a; intro a hs
 refine c_cond hs rfl (fun h34 => ?_) (fun h34 => ?_)
 ·have h34p := eq_of_beq h34
  refine c_drawHLast (Hp w0 R [Bx p8 58 (cOp o), Bx x1 63 [.pointer (some (padd pag 0))], Sv 2 138 x2.v ((rulesOf pag x1 : List (List Value)).map id), Sv 4 51 x3.v (ag.Routes.map cRoute), Sv 7 54 x4.v (ag.Neighs.map cNeigh), Sv 12 48 x6.v (ag.view.map cLease), Sv 2 44 x7.v (ag.skipped.map cPrefix)]) m mo ?_; clear m w9; intro w35 m
  refine sh_ (i := 0) rfl hs (m.sub (.c r0 (.c r1 (.c r1 (.c r1 (.c r1 (.c r2 (.c r2 .n)))))))) (ok_move rfl) (bh_ (i := 1) rfl (m.sub (.c r0 (.c r1 (.c r1 (.c r1 (.c r1 (.c r2 (.c r2 .n)))))))) (ok_move rfl) (bh_ (i := 2) rfl (m.sub (.c r0 (.c r1 (.c r1 (.c r1 (.c r1 (.c r2 (.c r2 .n)))))))) (ok_nilCheck rfl) (bh_ (i := 3) rfl (m.sub (.c r0 (.c r1 (.c r1 (.c r1 (.c r1 (.c r2 (.c r2 .n)))))))) (ok_fieldAddr (r := 47) rfl fd29_2 ty27 rfl) (bh_ (i := 5) rfl (m.sub (.c r0 (.c r1 (.c r1 (.c r1 (.c r1 (.c r2 (.c r2 .n)))))))) (ok_fieldAddr (r := 12) rfl fd58_3 ty56 rfl) (bh_ (i := 6) rfl (m.sub (.c r0 (.c r1 (.c r1 (.c r1 (.c r1 (.c r2 (.c r2 .n)))))))) (ok_load_ag (vs := cFdb o.Fdb) rfl ty56 (bx_at r0) (by kernel_rfl) (by kernel_rfl)) ?_)))))
  clear hs a; intro a hs
  refine h_eff (i := 4) (by kernel_rfl) rfl ?_
  refine s_ hs m (ok_load_sc rfl ty27 (bx_at r1) rfl) ?_
  clear hs a; intro a hs
  refine wpList_nil (n_then ⟨(m.sub (.c r0 (.c r1 (.c r1 (.c r1 (.c r1 (.c r2 (.c r2 .n)))))))), ?_⟩)
  refine h_eff (i := 7) (by kernel_rfl) rfl ?_
  obtain ⟨R1, hR, hR2, ⟨y1, sy, ly⟩, mc, back⟩ := Hp.split (Pc := [Sv 7 56 x5.v (ag.Fdbs.map cFdb)]) (Ps := [Bx p8 58 (cOp o), Bx pag 135 (cAg ag.self x2.v ag.opn ag.read x3.v x4.v x5.v x6.v ag.cursor ag.stale x7.v ag.degraded ag.granted ag.waiting ag.wish ag.renewed ag.quiet), Bx x1 63 [.pointer (some (padd pag 0))], Sv 2 138 x2.v ((rulesOf pag x1 : List (List Value)).map id), Sv 4 51 x3.v (ag.Routes.map cRoute), Sv 7 54 x4.v (ag.Neighs.map cNeigh), Sv 12 48 x6.v (ag.view.map cLease), Sv 2 44 x7.v (ag.skipped.map cPrefix)]) (m.sub (.c r6 (.c r0 (.c r0 (.c r0 (.c r0 (.c r0 (.c r0 (.c r0 (.c r0 .n))))))))))
  refine r_call hs rfl rfl ca48 rfl (setFdb_c x5 ag.Fdbs o.Fdb _ R1  (by omega) mc) rfl ?_
  clear hs a; rintro _ w37 ⟨v36, rfl, hm⟩ a hs
  replace m : Hp w0 R [Sv 7 56 v36.v ((setM cmpFdb ag.Fdbs o.Fdb).map cFdb), Bx p8 58 (cOp o), Bx pag 135 (cAg ag.self x2.v ag.opn ag.read x3.v x4.v x5.v x6.v ag.cursor ag.stale x7.v ag.degraded ag.granted ag.waiting ag.wish ag.renewed ag.quiet), Bx x1 63 [.pointer (some (padd pag 0))], Sv 2 138 x2.v ((rulesOf pag x1 : List (List Value)).map id), Sv 4 51 x3.v (ag.Routes.map cRoute), Sv 7 54 x4.v (ag.Neighs.map cNeigh), Sv 12 48 x6.v (ag.view.map cLease), Sv 2 44 x7.v (ag.skipped.map cPrefix)] w37 := back _ _ hm
  clear hm back mc sy ly hR2 hR y1 R1 w35
  refine wpList_nil (n_then ⟨(m.sub (.c r1 (.c r2 (.c r2 (.c r2 (.c r2 (.c r2 (.c r2 .n)))))))), ?_⟩)
  refine sh_ (i := 8) rfl hs (m.sub (.c r1 (.c r2 (.c r2 (.c r2 (.c r2 (.c r2 (.c r2 .n)))))))) (ok_nilCheck rfl) (bh_ (i := 9) rfl (m.sub (.c r1 (.c r2 (.c r2 (.c r2 (.c r2 (.c r2 (.c r2 .n)))))))) (ok_fieldAddr (r := 47) rfl fd29_2 ty27 rfl) ?_)
  clear hs a; intro a hs
  refine h_eff (i := 10) (by kernel_rfl) rfl ?_
  refine st_ (cAg ag.self x2.v ag.opn ag.read x3.v x4.v v36.v x6.v ag.cursor ag.stale x7.v ag.degraded ag.granted ag.waiting ag.wish ag.renewed ag.quiet) [v36.v] hs m ty27 s2 ?_
  clear m w37; intro w38 m
  refine wpList_nil (n_then ⟨(m.sub (.c r1 (.c r2 (.c r2 (.c r2 (.c r2 (.c r2 (.c r2 .n)))))))), ?_⟩)
  refine h_done (by kernel_rfl) (n_block (leaveN hs (vs := []) rfl trivial ?_))
  replace m := (m.sub (.c r2 (.c r2 (.c r2 (.c r2 (.c r2 (.c r0 (.c r1 (.c r1 (.c r0 .n)))))))))).closeAg (p := pag) (A := ({ ag with Fdbs := (setM cmpFdb ag.Fdbs o.Fdb) } : AgM))
  have q39 : ({ ag with Fdbs := (setM cmpFdb ag.Fdbs o.Fdb) } : AgM) = carryA ag o := by clear hs m; simp [carryA, *]
  rw [q39] at m
  refine ⟨_, rfl, ?_, m.sub (.c r0 .n)⟩
  rfl
 have h34p := ne_of_beq_false h34
 refine c_reg ?_
 refine s_ hs m (ok_bin rfl rfl rfl) (b_ m (ok_assign rfl) (bn_ ?_))
 clear hs a; intro a hs
 refine c_cond hs rfl (fun h40 => ?_) (fun h40 => ?_)
 ·have h40p := eq_of_beq h40
  refine c_drawHLast (Hp w0 R [Bx p8 58 (cOp o), Bx x1 63 [.pointer (some (padd pag 0))], Sv 2 138 x2.v ((rulesOf pag x1 : List (List Value)).map id), Sv 4 51 x3.v (ag.Routes.map cRoute), Sv 7 54 x4.v (ag.Neighs.map cNeigh), Sv 12 48 x6.v (ag.view.map cLease), Sv 2 44 x7.v (ag.skipped.map cPrefix)]) m mo ?_; clear m w9; intro w41 m
  refine sh_ (i := 0) rfl hs (m.sub (.c r0 (.c r1 (.c r1 (.c r1 (.c r1 (.c r2 (.c r2 .n)))))))) (ok_move rfl) (bh_ (i := 1) rfl (m.sub (.c r0 (.c r1 (.c r1 (.c r1 (.c r1 (.c r2 (.c r2 .n)))))))) (ok_move rfl) (bh_ (i := 2) rfl (m.sub (.c r0 (.c r1 (.c r1 (.c r1 (.c r1 (.c r2 (.c r2 .n)))))))) (ok_nilCheck rfl) (bh_ (i := 3) rfl (m.sub (.c r0 (.c r1 (.c r1 (.c r1 (.c r1 (.c r2 (.c r2 .n)))))))) (ok_fieldAddr (r := 47) rfl fd29_2 ty27 rfl) (bh_ (i := 5) rfl (m.sub (.c r0 (.c r1 (.c r1 (.c r1 (.c r1 (.c r2 (.c r2 .n)))))))) (ok_fieldAddr (r := 12) rfl fd58_3 ty56 rfl) (bh_ (i := 6) rfl (m.sub (.c r0 (.c r1 (.c r1 (.c r1 (.c r1 (.c r2 (.c r2 .n)))))))) (ok_load_ag (vs := cFdb o.Fdb) rfl ty56 (bx_at r0) (by kernel_rfl) (by kernel_rfl)) ?_)))))
  clear hs a; intro a hs
  refine h_eff (i := 4) (by kernel_rfl) rfl ?_
  refine s_ hs m (ok_load_sc rfl ty27 (bx_at r1) rfl) ?_
  clear hs a; intro a hs
  refine wpList_nil (n_then ⟨(m.sub (.c r0 (.c r1 (.c r1 (.c r1 (.c r1 (.c r2 (.c r2 .n)))))))), ?_⟩)
  refine h_eff (i := 7) (by kernel_rfl) rfl ?_
  obtain ⟨R1, hR, hR2, ⟨y1, sy, ly⟩, mc, back⟩ := Hp.split (Pc := [Sv 7 56 x5.v (ag.Fdbs.map cFdb)]) (Ps := [Bx p8 58 (cOp o), Bx pag 135 (cAg ag.self x2.v ag.opn ag.read x3.v x4.v x5.v x6.v ag.cursor ag.stale x7.v ag.degraded ag.granted ag.waiting ag.wish ag.renewed ag.quiet), Bx x1 63 [.pointer (some (padd pag 0))], Sv 2 138 x2.v ((rulesOf pag x1 : List (List Value)).map id), Sv 4 51 x3.v (ag.Routes.map cRoute), Sv 7 54 x4.v (ag.Neighs.map cNeigh), Sv 12 48 x6.v (ag.view.map cLease), Sv 2 44 x7.v (ag.skipped.map cPrefix)]) (m.sub (.c r6 (.c r0 (.c r0 (.c r0 (.c r0 (.c r0 (.c r0 (.c r0 (.c r0 .n))))))))))
  refine r_call hs rfl rfl ca165 rfl (unsetFdb_c x5 ag.Fdbs o.Fdb _ R1   mc) rfl ?_
  clear hs a; rintro _ w43 ⟨v42, rfl, hm⟩ a hs
  replace m : Hp w0 R [Sv 7 56 v42.v ((unsetM cmpFdb ag.Fdbs o.Fdb).map cFdb), Bx p8 58 (cOp o), Bx pag 135 (cAg ag.self x2.v ag.opn ag.read x3.v x4.v x5.v x6.v ag.cursor ag.stale x7.v ag.degraded ag.granted ag.waiting ag.wish ag.renewed ag.quiet), Bx x1 63 [.pointer (some (padd pag 0))], Sv 2 138 x2.v ((rulesOf pag x1 : List (List Value)).map id), Sv 4 51 x3.v (ag.Routes.map cRoute), Sv 7 54 x4.v (ag.Neighs.map cNeigh), Sv 12 48 x6.v (ag.view.map cLease), Sv 2 44 x7.v (ag.skipped.map cPrefix)] w43 := back _ _ hm
  clear hm back mc sy ly hR2 hR y1 R1 w41
  refine wpList_nil (n_then ⟨(m.sub (.c r1 (.c r2 (.c r2 (.c r2 (.c r2 (.c r2 (.c r2 .n)))))))), ?_⟩)
  refine sh_ (i := 8) rfl hs (m.sub (.c r1 (.c r2 (.c r2 (.c r2 (.c r2 (.c r2 (.c r2 .n)))))))) (ok_nilCheck rfl) (bh_ (i := 9) rfl (m.sub (.c r1 (.c r2 (.c r2 (.c r2 (.c r2 (.c r2 (.c r2 .n)))))))) (ok_fieldAddr (r := 47) rfl fd29_2 ty27 rfl) ?_)
  clear hs a; intro a hs
  refine h_eff (i := 10) (by kernel_rfl) rfl ?_
  refine st_ (cAg ag.self x2.v ag.opn ag.read x3.v x4.v v42.v x6.v ag.cursor ag.stale x7.v ag.degraded ag.granted ag.waiting ag.wish ag.renewed ag.quiet) [v42.v] hs m ty27 s2 ?_
  clear m w43; intro w44 m
  refine wpList_nil (n_then ⟨(m.sub (.c r1 (.c r2 (.c r2 (.c r2 (.c r2 (.c r2 (.c r2 .n)))))))), ?_⟩)
  refine h_done (by kernel_rfl) (n_block (leaveN hs (vs := []) rfl trivial ?_))
  replace m := (m.sub (.c r2 (.c r2 (.c r2 (.c r2 (.c r2 (.c r0 (.c r1 (.c r1 (.c r0 .n)))))))))).closeAg (p := pag) (A := ({ ag with Fdbs := (unsetM cmpFdb ag.Fdbs o.Fdb) } : AgM))
  have q45 : ({ ag with Fdbs := (unsetM cmpFdb ag.Fdbs o.Fdb) } : AgM) = carryA ag o := by clear hs m; simp [carryA, *]
  rw [q45] at m
  refine ⟨_, rfl, ?_, m.sub (.c r0 .n)⟩
  rfl
 have h40p := ne_of_beq_false h40
 refine wp_skip ?_
 refine n_block (leaveN hs (vs := []) rfl trivial ?_)
 replace m := (m.sub (.c r1 (.c r1 (.c r1 (.c r1 (.c r1 (.c r1 (.c r1 (.c r1 (.c r0 .n)))))))))).closeAg (p := pag) (A := ag)
 have q46 : ag = carryA ag o := by clear hs m; simp [carryA, *]
 rw [q46] at m
 refine ⟨_, rfl, ?_, m.sub (.c r0 .n)⟩
 rfl
theorem dumped_c (pag : Addr) (ag : AgM) (r_Err : Fx .i64) (r_Answer : TAnswer) (r_Snap_Rev : Fx .i64) (r_Snap_Now : Fx .i64) (vr_Snap_Leases : SH) (r_Snap_Leases : List TLease) (vr_Events : SH) (r_Events : List TEvent) (vr_Tables_Routes : SH) (r_Tables_Routes : List TRoute) (vr_Tables_Neighs : SH) (r_Tables_Neighs : List TNeigh) (vr_Tables_Fdbs : SH) (r_Tables_Fdbs : List TFdb) (w0 : World) (R : Hh) (hr_Snap_Leases : RdS R 12 vr_Snap_Leases.v (r_Snap_Leases.map cLease)) (hr_Events : RdS R 14 vr_Events.v (r_Events.map cEvent)) (hr_Tables_Routes : RdS R 4 vr_Tables_Routes.v (r_Tables_Routes.map cRoute)) (hr_Tables_Neighs : RdS R 7 vr_Tables_Neighs.v (r_Tables_Neighs.map cNeigh)) (hr_Tables_Fdbs : RdS R 7 vr_Tables_Fdbs.v (r_Tables_Fdbs.map cFdb)) (B0 : r_Tables_Routes.length ≤ 2000000000) (B1 : r_Tables_Neighs.length ≤ 2000000000) (B2 : r_Tables_Fdbs.length ≤ 2000000000) (m : Hp w0 R [AgP pag ag] w0) : Calls Tryz.prog 86 ⟨[.pointer (some (padd pag 0)), .agg ⟨cRe r_Err r_Answer r_Snap_Rev r_Snap_Now vr_Snap_Leases.v vr_Events.v vr_Tables_Routes.v vr_Tables_Neighs.v vr_Tables_Fdbs.v⟩]⟩ w0 fun e w' => ∃ v, e = .returned v ∧ (v = (.int .i64 (dumpE r_Err.v r_Tables_Routes r_Tables_Neighs r_Tables_Fdbs)) ∧ Hp w0 R [AgP pag (dumpA ag r_Err.v r_Tables_Routes r_Tables_Neighs r_Tables_Fdbs)] w') := by
 have lvr_Snap_Leases := hr_Snap_Leases.bd
 have lvr_Events := hr_Events.bd
 have lvr_Tables_Routes := hr_Tables_Routes.bd
 have lvr_Tables_Neighs := hr_Tables_Neighs.bd
 have lvr_Tables_Fdbs := hr_Tables_Fdbs.bd
 refine enter (n := 41) Tryz.func86 rfl rfl rfl fun a (hs : St 41 [(0, .pointer (some (padd pag 0))), (1, .agg ⟨cRe r_Err r_Answer r_Snap_Rev r_Snap_Now vr_Snap_Leases.v vr_Events.v vr_Tables_Routes.v vr_Tables_Neighs.v vr_Tables_Fdbs.v⟩)] a) => ?_
 have mo := m.openAg r0
 clear m; obtain ⟨x1, x2, x3, x4, x5, x6, x7, m⟩ := mo
 refine c_reg ?_
 refine r_box (cs := cRe r_Err r_Answer r_Snap_Rev r_Snap_Now vr_Snap_Leases.v vr_Events.v vr_Tables_Routes.v vr_Tables_Neighs.v vr_Tables_Fdbs.v) hs m rfl (by kernel_rfl) rfl ?_
 clear m hs a; intro p8 w9 m a hs
 refine s_ hs m (ok_assign rfl) (bn_ ?_)
 clear hs a; intro a hs
 refine c_seq ?_
 refine c_reg ?_
 refine s_ hs m (ok_fieldAddr (r := 0) rfl fd77_0 ty36 rfl) (b_ m (ok_load_sc rfl ty36 (bx_at r0) rfl) (b_ m (ok_bin rfl rfl rfl) (bn_ ?_)))
 clear hs a; intro a hs
 refine c_cond hs rfl (fun h10 => ?_) (fun h10 => ?_)
 ·have h10p := ne_of_bne h10
  refine c_reg ?_
  refine s_ hs m (ok_assign rfl) (bn_ ?_)
  clear hs a; intro a hs
  refine wp_ret ?_
  refine ret_then (leave hs (vs := [.int .i64 0]) rfl ⟨rfl, trivial⟩ ?_)
  replace m := (m.sub (.c r1 (.c r1 (.c r1 (.c r1 (.c r1 (.c r1 (.c r1 (.c r1 (.c r0 .n)))))))))).closeAg (p := pag) (A := ag)
  have q11 : ag = dumpA ag r_Err.v r_Tables_Routes r_Tables_Neighs r_Tables_Fdbs := by clear hs m; simp [dumpA, *]
  rw [q11] at m
  refine ⟨_, rfl, ?_, m.sub (.c r0 .n)⟩
  have q12 : (0 : Int) = dumpE r_Err.v r_Tables_Routes r_Tables_Neighs r_Tables_Fdbs := by clear hs m; simp [dumpE, *]
  (rw [q12]; rfl)
 have h10p := eq_of_bne_false h10
 refine wp_skip ?_
 refine n_then ?_
 refine c_seq ?_
 refine c_reg ?_
 refine s_ hs m (ok_fieldAddr (r := 20) rfl fd77_4 ty29 rfl) (b_ m (ok_load_ag (vs := [vr_Tables_Routes.v, vr_Tables_Neighs.v, vr_Tables_Fdbs.v]) rfl ty29 (bx_at r0) (by kernel_rfl) (by kernel_rfl)) ?_)
 clear hs a; intro a hs
 refine r_callP hs m rfl rfl ca56 rfl (inOrder_c vr_Tables_Routes r_Tables_Routes vr_Tables_Neighs r_Tables_Neighs vr_Tables_Fdbs r_Tables_Fdbs _ (m.rd hr_Tables_Routes) (m.rd hr_Tables_Neighs) (m.rd hr_Tables_Fdbs) ) rfl ?_
 clear m hs a w9; intro w13 m a hs
 refine s_ hs m (ok_not rfl) (bn_ ?_)
 clear hs a; intro a hs
 refine c_cond hs rfl (fun h14 => ?_) (fun h14 => ?_)
 ·have h14p := h14; simp only [bp_] at h14p
  refine c_reg ?_
  refine s_ hs m (ok_assign rfl) (bn_ ?_)
  clear hs a; intro a hs
  refine wp_ret ?_
  refine ret_then (leave hs (vs := [.int .i64 161]) rfl ⟨rfl, trivial⟩ ?_)
  replace m := (m.sub (.c r1 (.c r1 (.c r1 (.c r1 (.c r1 (.c r1 (.c r1 (.c r1 (.c r0 .n)))))))))).closeAg (p := pag) (A := ag)
  have q15 : ag = dumpA ag r_Err.v r_Tables_Routes r_Tables_Neighs r_Tables_Fdbs := by clear hs m; simp [dumpA, *]
  rw [q15] at m
  refine ⟨_, rfl, ?_, m.sub (.c r0 .n)⟩
  have q16 : (161 : Int) = dumpE r_Err.v r_Tables_Routes r_Tables_Neighs r_Tables_Fdbs := by clear hs m; simp [dumpE, *]
  (rw [q16]; rfl)
 have h14p := h14; simp only [bp_] at h14p
 refine wp_skip ?_
 refine n_then ?_
 refine c_reg ?_
 refine s_ hs m (ok_move rfl) (b_ m (ok_move rfl) (b_ m (ok_fieldAddr (r := 20) rfl fd77_4 ty29 rfl) (b_ m (ok_load_ag (vs := [vr_Tables_Routes.v, vr_Tables_Neighs.v, vr_Tables_Fdbs.v]) rfl ty29 (bx_at r0) (by kernel_rfl) (by kernel_rfl)) ?_)))
 clear hs a; intro a hs
 refine r_call hs rfl rfl ca83 rfl (cloneTables_c vr_Tables_Routes r_Tables_Routes vr_Tables_Neighs r_Tables_Neighs vr_Tables_Fdbs r_Tables_Fdbs _ (m.rd hr_Tables_Routes) (m.rd hr_Tables_Neighs) (m.rd hr_Tables_Fdbs) (by omega) (by omega) (by omega)) rfl ?_
 clear hs a; rintro _ w20 ⟨v17, v18, v19, rfl, hm⟩ a hs
 replace m : Hp w0 R [Sv 4 51 v17.v (r_Tables_Routes.map cRoute), Sv 7 54 v18.v (r_Tables_Neighs.map cNeigh), Sv 7 56 v19.v (r_Tables_Fdbs.map cFdb), Bx p8 77 (cRe r_Err r_Answer r_Snap_Rev r_Snap_Now vr_Snap_Leases.v vr_Events.v vr_Tables_Routes.v vr_Tables_Neighs.v vr_Tables_Fdbs.v), Bx pag 135 (cAg ag.self x2.v ag.opn ag.read x3.v x4.v x5.v x6.v ag.cursor ag.stale x7.v ag.degraded ag.granted ag.waiting ag.wish ag.renewed ag.quiet), Bx x1 63 [.pointer (some (padd pag 0))], Sv 2 138 x2.v ((rulesOf pag x1 : List (List Value)).map id), Sv 4 51 x3.v (ag.Routes.map cRoute), Sv 7 54 x4.v (ag.Neighs.map cNeigh), Sv 7 56 x5.v (ag.Fdbs.map cFdb), Sv 12 48 x6.v (ag.view.map cLease), Sv 2 44 x7.v (ag.skipped.map cPrefix)] w20 := m.after hm
 clear hm w13
 refine s_ hs m (ok_nilCheck rfl) (b_ m (ok_fieldAddr (r := 45) rfl fd135_4 ty29 rfl) ?_)
 clear hs a; intro a hs
 refine st_ (cAg ag.self x2.v ag.opn ag.read v17.v v18.v v19.v x6.v ag.cursor ag.stale x7.v ag.degraded ag.granted ag.waiting ag.wish ag.renewed ag.quiet) [v17.v, v18.v, v19.v] hs m ty29 s4 ?_
 clear m w20; intro w21 m
 refine s_ hs m (ok_nilCheck rfl) (b_ m (ok_fieldAddr (r := 44) rfl fd135_3 ty4 rfl) ?_)
 clear hs a; intro a hs
 refine st_ (cAg ag.self x2.v ag.opn true v17.v v18.v v19.v x6.v ag.cursor ag.stale x7.v ag.degraded ag.granted ag.waiting ag.wish ag.renewed ag.quiet) [.bool true] hs m ty4 s4 ?_
 clear m w21; intro w22 m
 refine wpList_nil (n_then ?_)
 refine c_seq ?_
 refine c_reg ?_
 refine s_ hs m (ok_move rfl) (b_ m (ok_nilCheck rfl) (b_ m (ok_fieldAddr (r := 45) rfl fd135_4 ty29 rfl) (b_ m (ok_fieldAddr (r := 45) rfl fd29_0 ty25 rfl) (b_ m (ok_load_sc rfl ty25 (bx_at r4) rfl) (b_ m (ok_len (r := (r_Tables_Routes.length : Int)) m rfl sl25 (rc_own r0) (by simp)) (b_ m (ok_move rfl) (bn_ ?_)))))))
 clear hs a; intro a hs
 refine wp_block ?_
 refine wp_loop_ghost (fun gn a w => ∃ k : Nat, (k ≤ r_Tables_Routes.length) ∧ (∀ i, i < k → ∀ x, r_Tables_Routes[i]? = some x → x.Local = false) ∧ gn = r_Tables_Routes.length - k ∧ St 41 [(0, .pointer (some (padd pag 0))), (27, v17.v), (28, .int .i64 (r_Tables_Routes.length : Int)), (29, .int .i64 (k : Int))] a ∧ Hp w0 R [Bx pag 135 (cAg ag.self x2.v ag.opn true v17.v v18.v v19.v x6.v ag.cursor ag.stale x7.v ag.degraded ag.granted ag.waiting ag.wish ag.renewed ag.quiet), Sv 4 51 v17.v (r_Tables_Routes.map cRoute), Sv 2 138 x2.v ((rulesOf pag x1 : List (List Value)).map id), Sv 7 54 v18.v (r_Tables_Neighs.map cNeigh), Sv 7 56 v19.v (r_Tables_Fdbs.map cFdb), Sv 12 48 x6.v (ag.view.map cLease), Sv 2 44 x7.v (ag.skipped.map cPrefix), Bx x1 63 [.pointer (some (padd pag 0))]] w) (r_Tables_Routes.length - 0) ⟨0, by omega, by (intro i hi; omega), rfl, hs.to ⟨rfl, rfl, rfl, rfl, trivial⟩, m.sub (.c r4 (.c r0 (.c r4 (.c r0 (.c r0 (.c r5 (.c r5 (.c r1 .n))))))))⟩ ?_
 clear hs m a w22
 rintro gn a w23 ⟨k, hk, hn, rfl, hs, m⟩
 refine c_reg ?_
 refine s_ hs m (ok_bin rfl rfl rfl) (bn_ ?_)
 clear hs a; intro a hs
 refine c_seq ?_
 refine c_cond hs rfl (fun h24 => ?_) (fun h24 => ?_)
 rotate_left
 ·have h24p := of_decide_eq_false h24
  refine wp_exit ?_
  refine ex_then (ex_then (ex_hit (?_)))
  refine n_then ?_
  refine c_reg ?_
  refine s_ hs m (ok_assign rfl) (bn_ ?_)
  clear hs a; intro a hs
  refine wp_ret ?_
  refine leave hs (vs := [.int .i64 0]) rfl ⟨rfl, trivial⟩ ?_
  replace m := (m.sub (.c r0 (.c r6 (.c r1 (.c r0 (.c r0 (.c r0 (.c r0 (.c r0 .n))))))))).closeAg (p := pag) (A := ({ ag with read := true, Routes := r_Tables_Routes, Neighs := r_Tables_Neighs, Fdbs := r_Tables_Fdbs } : AgM))
  have q25 : ({ ag with read := true, Routes := r_Tables_Routes, Neighs := r_Tables_Neighs, Fdbs := r_Tables_Fdbs } : AgM) = dumpA ag r_Err.v r_Tables_Routes r_Tables_Neighs r_Tables_Fdbs := by clear hs m; (simp only [dumpA, *, ← wish_miss hn (by omega)]; simp)
  rw [q25] at m
  refine ⟨_, rfl, ?_, m.sub (.c r0 .n)⟩
  have q26 : (0 : Int) = dumpE r_Err.v r_Tables_Routes r_Tables_Neighs r_Tables_Fdbs := by clear hs m; simp [dumpE, *]
  (rw [q26]; rfl)
 have h24p := of_decide_eq_true h24
 refine wp_skip ?_
 refine n_then ?_
 refine c_seq ?_
 refine wp_block ?_
 refine c_reg ?_
 obtain ⟨e27, he28⟩ := get_of_lt (l := r_Tables_Routes) (i := k) (by omega)
 refine elO (c := cRoute) (e := e27) hs m (x := (.tmp 27)) (ix := (.tmp 29)) rfl rfl sl25 ty51 r1 (by omega) he28 fun p29 hp30 ok31 => ?_
 refine s_ hs m (ok31 _ _ _ _ _) (b_ m (ok_load_ag (vs := cRoute e27) rfl ty51 (el_at hp30 r1 (get_map _ he28)) rfl rfl) ?_)
 clear hs a; intro a hs
 refine r_alloc hs m ze51 rfl ?_
 clear m hs a w23; intro p32 w33 m a hs
 refine st_ (cRoute e27) (cRoute e27) hs m ty51 s0 ?_
 clear m w33; intro w34 m
 refine wpList_nil (n_then ?_)
 refine c_reg ?_
 refine s_ hs m (ok_fieldAddr (r := 3) rfl fd51_2 ty4 rfl) (b_ m (ok_load_sc rfl ty4 (bx_at r0) rfl) (bn_ ?_))
 clear hs a; intro a hs
 refine c_cond hs rfl (fun h35 => ?_) (fun h35 => ?_)
 ·refine c_reg ?_
  refine s_ hs m (ok_move rfl) (b_ m (ok_fieldAddr (r := 0) rfl fd51_0 ty44 rfl) (b_ m (ok_load_ag (vs := cPrefix e27.Dst) rfl ty44 (bx_at r0) rfl rfl) (b_ m (ok_nilCheck rfl) (b_ m (ok_fieldAddr (r := 55) rfl fd135_12 ty44 rfl) ?_))))
  clear hs a; intro a hs
  refine st_ (cAg ag.self x2.v ag.opn true v17.v v18.v v19.v x6.v ag.cursor ag.stale x7.v ag.degraded ag.granted ag.waiting e27.Dst ag.renewed ag.quiet) (cPrefix e27.Dst) hs m ty44 s1 ?_
  clear m w34; intro w36 m
  refine wpList_nil (n_then ?_)
  refine wp_exit ?_
  refine ex_miss rfl (ex_then (ex_then (ex_hit (?_))))
  refine n_then ?_
  refine c_reg ?_
  refine s_ hs m (ok_assign rfl) (bn_ ?_)
  clear hs a; intro a hs
  refine wp_ret ?_
  refine leave hs (vs := [.int .i64 0]) rfl ⟨rfl, trivial⟩ ?_
  replace m := (m.sub (.c r1 (.c r7 (.c r2 (.c r1 (.c r1 (.c r1 (.c r1 (.c r1 (.c r0 .n)))))))))).closeAg (p := pag) (A := ({ ag with read := true, Routes := r_Tables_Routes, Neighs := r_Tables_Neighs, Fdbs := r_Tables_Fdbs, wish := e27.Dst } : AgM))
  have q37 : ({ ag with read := true, Routes := r_Tables_Routes, Neighs := r_Tables_Neighs, Fdbs := r_Tables_Fdbs, wish := e27.Dst } : AgM) = dumpA ag r_Err.v r_Tables_Routes r_Tables_Neighs r_Tables_Fdbs := by clear hs m; (simp only [dumpA, *, ← wish_hit hn (by assumption) (by assumption)]; simp)
  rw [q37] at m
  refine ⟨_, rfl, ?_, m.sub (.c r0 .n)⟩
  have q38 : (0 : Int) = dumpE r_Err.v r_Tables_Routes r_Tables_Neighs r_Tables_Fdbs := by clear hs m; simp [dumpE, *]
  (rw [q38]; rfl)
 refine wp_skip ?_
 refine n_block (n_then ?_)
 refine c_last ?_
 refine s_ hs m (ok_add (r := (k : Int) + 1) rfl rfl (wrap_i64 (by omega) (by omega))) (b_ m (ok_move rfl) (bn_ ?_))
 clear hs a; intro a hs
 exact ⟨r_Tables_Routes.length - (k + 1), by omega, k + 1, by omega, by exact wish_next hn (by assumption) (by assumption), rfl, hs.to ⟨rfl, rfl, rfl, rfl, trivial⟩, m.sub (.c r1 (.c r1 (.c r1 (.c r1 (.c r1 (.c r1 (.c r1 (.c r1 .n))))))))⟩
theorem snapped_c (pag : Addr) (ag : AgM) (r_Err : Fx .i64) (r_Answer : TAnswer) (r_Snap_Rev : Fx .i64) (r_Snap_Now : Fx .i64) (vr_Snap_Leases : SH) (r_Snap_Leases : List TLease) (vr_Events : SH) (r_Events : List TEvent) (vr_Tables_Routes : SH) (r_Tables_Routes : List TRoute) (vr_Tables_Neighs : SH) (r_Tables_Neighs : List TNeigh) (vr_Tables_Fdbs : SH) (r_Tables_Fdbs : List TFdb) (w0 : World) (R : Hh) (hr_Snap_Leases : RdS R 12 vr_Snap_Leases.v (r_Snap_Leases.map cLease)) (hr_Events : RdS R 14 vr_Events.v (r_Events.map cEvent)) (hr_Tables_Routes : RdS R 4 vr_Tables_Routes.v (r_Tables_Routes.map cRoute)) (hr_Tables_Neighs : RdS R 7 vr_Tables_Neighs.v (r_Tables_Neighs.map cNeigh)) (hr_Tables_Fdbs : RdS R 7 vr_Tables_Fdbs.v (r_Tables_Fdbs.map cFdb)) (B0 : r_Snap_Leases.length ≤ 2000000000) (m : Hp w0 R [AgP pag ag] w0) : Calls Tryz.prog 87 ⟨[.pointer (some (padd pag 0)), .agg ⟨cRe r_Err r_Answer r_Snap_Rev r_Snap_Now vr_Snap_Leases.v vr_Events.v vr_Tables_Routes.v vr_Tables_Neighs.v vr_Tables_Fdbs.v⟩]⟩ w0 fun e w' => ∃ v, e = .returned v ∧ (v = (.int .i64 (snapE r_Err.v r_Snap_Rev.v r_Snap_Leases)) ∧ Hp w0 R [AgP pag (snapA ag r_Err.v r_Snap_Rev r_Snap_Leases)] w') := by
 have hol2 := ownI_lt (h := ag.self.Host.v) (l := r_Snap_Leases)
 have lvr_Snap_Leases := hr_Snap_Leases.bd
 have lvr_Events := hr_Events.bd
 have lvr_Tables_Routes := hr_Tables_Routes.bd
 have lvr_Tables_Neighs := hr_Tables_Neighs.bd
 have lvr_Tables_Fdbs := hr_Tables_Fdbs.bd
 refine enter (n := 75) Tryz.func87 rfl rfl rfl fun a (hs : St 75 [(0, .pointer (some (padd pag 0))), (1, .agg ⟨cRe r_Err r_Answer r_Snap_Rev r_Snap_Now vr_Snap_Leases.v vr_Events.v vr_Tables_Routes.v vr_Tables_Neighs.v vr_Tables_Fdbs.v⟩)] a) => ?_
 have mo := m.openAg r0
 clear m; obtain ⟨x1, x2, x3, x4, x5, x6, x7, m⟩ := mo
 refine c_reg ?_
 refine r_box (cs := cRe r_Err r_Answer r_Snap_Rev r_Snap_Now vr_Snap_Leases.v vr_Events.v vr_Tables_Routes.v vr_Tables_Neighs.v vr_Tables_Fdbs.v) hs m rfl (by kernel_rfl) rfl ?_
 clear m hs a; intro p8 w9 m a hs
 refine s_ hs m (ok_assign rfl) (bn_ ?_)
 clear hs a; intro a hs
 refine c_seq ?_
 refine c_reg ?_
 refine s_ hs m (ok_fieldAddr (r := 0) rfl fd77_0 ty36 rfl) (b_ m (ok_load_sc rfl ty36 (bx_at r0) rfl) (b_ m (ok_bin rfl rfl rfl) (bn_ ?_)))
 clear hs a; intro a hs
 refine c_cond hs rfl (fun h10 => ?_) (fun h10 => ?_)
 ·have h10p := ne_of_bne h10
  refine c_reg ?_
  refine s_ hs m (ok_assign rfl) (bn_ ?_)
  clear hs a; intro a hs
  refine wp_ret ?_
  refine ret_then (leave hs (vs := [.int .i64 0]) rfl ⟨rfl, trivial⟩ ?_)
  replace m := (m.sub (.c r1 (.c r1 (.c r1 (.c r1 (.c r1 (.c r1 (.c r1 (.c r1 (.c r0 .n)))))))))).closeAg (p := pag) (A := ag)
  have q11 : ag = snapA ag r_Err.v r_Snap_Rev r_Snap_Leases := by clear hs m; exact (snap_n (by assumption)).2
  rw [q11] at m
  refine ⟨_, rfl, ?_, m.sub (.c r0 .n)⟩
  have q12 : (0 : Int) = snapE r_Err.v r_Snap_Rev.v r_Snap_Leases := by clear hs m; exact (snap_n (g := ag) (l := r_Snap_Leases) (by assumption)).1
  (rw [q12]; rfl)
 have h10p := eq_of_bne_false h10
 refine wp_skip ?_
 refine n_then ?_
 refine c_seq ?_
 refine c_reg ?_
 refine s_ hs m (ok_fieldAddr (r := 16) rfl fd77_2 ty74 rfl) (b_ m (ok_fieldAddr (r := 16) rfl fd74_0 ty2 rfl) (b_ m (ok_load_sc rfl ty2 (bx_at r0) rfl) (b_ m (ok_bin rfl rfl rfl) (b_ m (ok_move rfl) ?_))))
 clear hs a; intro a hs
 refine l_cut (.c (.c (.c (.c (.c (.c (.n))))))) (fun a w => St 75 [(0, .pointer (some (padd pag 0))), (3, .pointer (some (padd p8 0))), (21, .bool ((decide (r_Snap_Rev.v < 0)) || (!(risesM cmpLease r_Snap_Leases))))] a ∧ Hp w0 R [Bx p8 77 (cRe r_Err r_Answer r_Snap_Rev r_Snap_Now vr_Snap_Leases.v vr_Events.v vr_Tables_Routes.v vr_Tables_Neighs.v vr_Tables_Fdbs.v), Bx pag 135 (cAg ag.self x2.v ag.opn ag.read x3.v x4.v x5.v x6.v ag.cursor ag.stale x7.v ag.degraded ag.granted ag.waiting ag.wish ag.renewed ag.quiet), Bx x1 63 [.pointer (some (padd pag 0))], Sv 2 138 x2.v ((rulesOf pag x1 : List (List Value)).map id), Sv 4 51 x3.v (ag.Routes.map cRoute), Sv 7 54 x4.v (ag.Neighs.map cNeigh), Sv 7 56 x5.v (ag.Fdbs.map cFdb), Sv 12 48 x6.v (ag.view.map cLease), Sv 2 44 x7.v (ag.skipped.map cPrefix)] w) ?_ ?_
 ·rcases Bool.eq_false_or_eq_true (decide (r_Snap_Rev.v < 0)) with hb13 | hb13
  ·have hb13p := of_decide_eq_true hb13
   refine so_ hs hb13 (bo_ hb13 (bo_ hb13 (bo_ hb13 (bo_ hb13 (b_ m (ok_pick (r := .bool ((decide (r_Snap_Rev.v < 0)) || (!(risesM cmpLease r_Snap_Leases)))) rfl rfl rfl (by rw [hb13]; rfl)) ?_)))))
   clear hs a; intro a hs
   exact wpList_nil (n_then ⟨hs.to ⟨rfl, rfl, rfl, trivial⟩, m⟩)
  ·have hb13p := of_decide_eq_false hb13
   refine sg_ hs hb13 m (ok_fieldAddr (r := 16) rfl fd77_2 ty74 rfl) (bg_ hb13 m (ok_fieldAddr (r := 18) rfl fd74_2 ty22 rfl) (bg_ hb13 m (ok_load_sc rfl ty22 (bx_at r0) rfl) ?_))
   clear hs a; intro a hs
   refine r_callPg hs rfl rfl hb13 m rfl rfl ca132 rfl (risesLease_c vr_Snap_Leases r_Snap_Leases _ (m.rd hr_Snap_Leases) ) rfl ?_
   clear m hs a w9; intro w14 m a hs
   refine sg_ hs hb13 m (ok_not rfl) (b_ m (ok_pick (r := .bool ((decide (r_Snap_Rev.v < 0)) || (!(risesM cmpLease r_Snap_Leases)))) rfl rfl rfl (by rw [hb13]; rfl)) ?_)
   clear hs a; intro a hs
   exact wpList_nil (n_then ⟨hs.to ⟨rfl, rfl, rfl, trivial⟩, m⟩)
 clear hs m a w9; rintro a w15 ⟨hs, m⟩
 refine wpList_nil (n_then ?_)
 refine c_cond hs rfl (fun h16 => ?_) (fun h16 => ?_)
 ·have h16p := h16; simp only [bp_] at h16p
  refine c_reg ?_
  refine s_ hs m (ok_assign rfl) (bn_ ?_)
  clear hs a; intro a hs
  refine wp_ret ?_
  refine ret_then (leave hs (vs := [.int .i64 162]) rfl ⟨rfl, trivial⟩ ?_)
  replace m := (m.sub (.c r1 (.c r1 (.c r1 (.c r1 (.c r1 (.c r1 (.c r1 (.c r1 (.c r0 .n)))))))))).closeAg (p := pag) (A := ag)
  have q17 : ag = snapA ag r_Err.v r_Snap_Rev r_Snap_Leases := by clear hs m; exact (snap_bad (by omega) (by assumption)).2
  rw [q17] at m
  refine ⟨_, rfl, ?_, m.sub (.c r0 .n)⟩
  have q18 : (162 : Int) = snapE r_Err.v r_Snap_Rev.v r_Snap_Leases := by clear hs m; exact (snap_bad (g := ag) (by omega) (by assumption)).1
  (rw [q18]; rfl)
 have h16p := h16; simp only [bp_] at h16p
 refine wp_skip ?_
 refine n_then ?_
 refine c_seq ?_
 refine c_reg ?_
 refine s_ hs m (ok_fieldAddr (r := 16) rfl fd77_2 ty74 rfl) (b_ m (ok_fieldAddr (r := 18) rfl fd74_2 ty22 rfl) (b_ m (ok_load_sc rfl ty22 (bx_at r0) rfl) (b_ m (ok_len (r := (r_Snap_Leases.length : Int)) m rfl sl22 (rc_fr hr_Snap_Leases) (by simp)) (b_ m (ok_move rfl) (bn_ ?_)))))
 clear hs a; intro a hs
 refine wp_block ?_
 refine wp_loop_ghost (fun gn a w => ∃ k : Nat, (k ≤ r_Snap_Leases.length) ∧ ((r_Snap_Leases.take k).all (fun e => validM e.Subnet) = true) ∧ gn = r_Snap_Leases.length - k ∧ St 75 [(0, .pointer (some (padd pag 0))), (3, .pointer (some (padd p8 0))), (24, vr_Snap_Leases.v), (25, .int .i64 (r_Snap_Leases.length : Int)), (26, .int .i64 (k : Int))] a ∧ Hp w0 R [Bx pag 135 (cAg ag.self x2.v ag.opn ag.read x3.v x4.v x5.v x6.v ag.cursor ag.stale x7.v ag.degraded ag.granted ag.waiting ag.wish ag.renewed ag.quiet), Bx p8 77 (cRe r_Err r_Answer r_Snap_Rev r_Snap_Now vr_Snap_Leases.v vr_Events.v vr_Tables_Routes.v vr_Tables_Neighs.v vr_Tables_Fdbs.v), Sv 2 138 x2.v ((rulesOf pag x1 : List (List Value)).map id), Sv 4 51 x3.v (ag.Routes.map cRoute), Sv 7 54 x4.v (ag.Neighs.map cNeigh), Sv 7 56 x5.v (ag.Fdbs.map cFdb), Sv 12 48 x6.v (ag.view.map cLease), Sv 2 44 x7.v (ag.skipped.map cPrefix), Bx x1 63 [.pointer (some (padd pag 0))]] w) (r_Snap_Leases.length - 0) ⟨0, by omega, by simp, rfl, hs.to ⟨rfl, rfl, rfl, rfl, rfl, trivial⟩, m.sub (.c r1 (.c r0 (.c r1 (.c r1 (.c r1 (.c r1 (.c r1 (.c r1 (.c r0 .n)))))))))⟩ ?_
 clear hs m a w15
 rintro gn a w19 ⟨k, hk, hv, rfl, hs, m⟩
 refine c_reg ?_
 refine s_ hs m (ok_bin rfl rfl rfl) (bn_ ?_)
 clear hs a; intro a hs
 refine c_seq ?_
 refine c_cond hs rfl (fun h20 => ?_) (fun h20 => ?_)
 rotate_left
 ·have h20p := of_decide_eq_false h20
  refine wp_exit ?_
  refine ex_then (ex_then (ex_hit (?_)))
  refine n_then ?_
  refine c_drawH (Hp w0 R [Bx p8 77 (cRe r_Err r_Answer r_Snap_Rev r_Snap_Now vr_Snap_Leases.v vr_Events.v vr_Tables_Routes.v vr_Tables_Neighs.v vr_Tables_Fdbs.v), Sv 2 138 x2.v ((rulesOf pag x1 : List (List Value)).map id), Sv 4 51 x3.v (ag.Routes.map cRoute), Sv 7 54 x4.v (ag.Neighs.map cNeigh), Sv 7 56 x5.v (ag.Fdbs.map cFdb), Sv 12 48 x6.v (ag.view.map cLease), Sv 2 44 x7.v (ag.skipped.map cPrefix), Bx x1 63 [.pointer (some (padd pag 0))]]) m mo ?_; clear m w19; intro w21 m
  refine sh_ (i := 0) rfl hs (m.sub (.c r1 (.c r1 (.c r1 (.c r1 (.c r1 (.c r1 (.c r1 (.c r1 .n))))))))) (ok_move rfl) (bh_ (i := 1) rfl (m.sub (.c r1 (.c r1 (.c r1 (.c r1 (.c r1 (.c r1 (.c r1 (.c r1 .n))))))))) (ok_move rfl) (bh_ (i := 2) rfl (m.sub (.c r1 (.c r1 (.c r1 (.c r1 (.c r1 (.c r1 (.c r1 (.c r1 .n))))))))) (ok_fieldAddr (r := 16) rfl fd77_2 ty74 rfl) (bh_ (i := 3) rfl (m.sub (.c r1 (.c r1 (.c r1 (.c r1 (.c r1 (.c r1 (.c r1 (.c r1 .n))))))))) (ok_fieldAddr (r := 18) rfl fd74_2 ty22 rfl) (bh_ (i := 4) rfl (m.sub (.c r1 (.c r1 (.c r1 (.c r1 (.c r1 (.c r1 (.c r1 (.c r1 .n))))))))) (ok_load_sc rfl ty22 (bx_at r0) rfl) (bh_ (i := 6) rfl (m.sub (.c r1 (.c r1 (.c r1 (.c r1 (.c r1 (.c r1 (.c r1 (.c r1 .n))))))))) (ok_fieldAddr (r := 16) rfl fd77_2 ty74 rfl) (bh_ (i := 7) rfl (m.sub (.c r1 (.c r1 (.c r1 (.c r1 (.c r1 (.c r1 (.c r1 (.c r1 .n))))))))) (ok_fieldAddr (r := 16) rfl fd74_0 ty2 rfl) (bh_ (i := 8) rfl (m.sub (.c r1 (.c r1 (.c r1 (.c r1 (.c r1 (.c r1 (.c r1 (.c r1 .n))))))))) (ok_load_sc rfl ty2 (bx_at r0) rfl) ?_)))))))
  clear hs a; intro a hs
  refine h_eff (i := 5) (by kernel_rfl) rfl ?_
  refine r_call hs rfl rfl ca81 rfl (cloneLease_c vr_Snap_Leases r_Snap_Leases _ (m.rd hr_Snap_Leases) (by omega)) rfl ?_
  clear hs a; rintro _ w23 ⟨v22, rfl, hm⟩ a hs
  replace m : Hp w0 R [Sv 12 48 v22.v (r_Snap_Leases.map cLease), Bx pag 135 (cAg ag.self x2.v ag.opn ag.read x3.v x4.v x5.v x6.v ag.cursor ag.stale x7.v ag.degraded ag.granted ag.waiting ag.wish ag.renewed ag.quiet), Bx p8 77 (cRe r_Err r_Answer r_Snap_Rev r_Snap_Now vr_Snap_Leases.v vr_Events.v vr_Tables_Routes.v vr_Tables_Neighs.v vr_Tables_Fdbs.v), Sv 2 138 x2.v ((rulesOf pag x1 : List (List Value)).map id), Sv 4 51 x3.v (ag.Routes.map cRoute), Sv 7 54 x4.v (ag.Neighs.map cNeigh), Sv 7 56 x5.v (ag.Fdbs.map cFdb), Sv 12 48 x6.v (ag.view.map cLease), Sv 2 44 x7.v (ag.skipped.map cPrefix), Bx x1 63 [.pointer (some (padd pag 0))]] w23 := m.after hm
  clear hm w21
  refine wpList_nil (n_then ⟨(m.sub (.c r2 (.c r2 (.c r2 (.c r2 (.c r2 (.c r2 (.c r2 (.c r2 .n))))))))), ?_⟩)
  refine sh_ (i := 9) rfl hs (m.sub (.c r2 (.c r2 (.c r2 (.c r2 (.c r2 (.c r2 (.c r2 (.c r2 .n))))))))) (ok_nilCheck rfl) (bh_ (i := 10) rfl (m.sub (.c r2 (.c r2 (.c r2 (.c r2 (.c r2 (.c r2 (.c r2 (.c r2 .n))))))))) (ok_fieldAddr (r := 48) rfl fd135_5 ty22 rfl) ?_)
  clear hs a; intro a hs
  refine h_eff (i := 11) (by kernel_rfl) rfl ?_
  refine st_ (cAg ag.self x2.v ag.opn ag.read x3.v x4.v x5.v v22.v ag.cursor ag.stale x7.v ag.degraded ag.granted ag.waiting ag.wish ag.renewed ag.quiet) [v22.v] hs m ty22 s1 ?_
  clear m w23; intro w24 m
  refine wpList_nil (n_then ⟨(m.sub (.c r2 (.c r2 (.c r2 (.c r2 (.c r2 (.c r2 (.c r2 (.c r2 .n))))))))), ?_⟩)
  refine sh_ (i := 12) rfl hs (m.sub (.c r2 (.c r2 (.c r2 (.c r2 (.c r2 (.c r2 (.c r2 (.c r2 .n))))))))) (ok_nilCheck rfl) (bh_ (i := 13) rfl (m.sub (.c r2 (.c r2 (.c r2 (.c r2 (.c r2 (.c r2 (.c r2 (.c r2 .n))))))))) (ok_fieldAddr (r := 49) rfl fd135_6 ty2 rfl) ?_)
  clear hs a; intro a hs
  refine h_eff (i := 14) (by kernel_rfl) rfl ?_
  refine st_ (cAg ag.self x2.v ag.opn ag.read x3.v x4.v x5.v v22.v r_Snap_Rev ag.stale x7.v ag.degraded ag.granted ag.waiting ag.wish ag.renewed ag.quiet) [.int .i64 r_Snap_Rev.v] hs m ty2 s1 ?_
  clear m w24; intro w25 m
  refine wpList_nil (n_then ⟨(m.sub (.c r2 (.c r2 (.c r2 (.c r2 (.c r2 (.c r2 (.c r2 (.c r2 .n))))))))), ?_⟩)
  refine h_done (by kernel_rfl) (n_then ?_)
  refine c_reg ?_
  refine s_ hs m (ok_move rfl) (b_ m (ok_move rfl) (b_ m (ok_move rfl) (b_ m (ok_move rfl) (b_ m (ok_nilCheck rfl) (b_ m (ok_fieldAddr (r := 50) rfl fd135_7 ty4 rfl) ?_)))))
  clear hs a; intro a hs
  refine st_ (cAg ag.self x2.v ag.opn ag.read x3.v x4.v x5.v v22.v r_Snap_Rev false x7.v ag.degraded ag.granted ag.waiting ag.wish ag.renewed ag.quiet) [.bool false] hs m ty4 s1 ?_
  clear m w25; intro w26 m
  refine s_ hs m (ok_nilCheck rfl) (b_ m (ok_fieldAddr (r := 54) rfl fd135_11 ty4 rfl) ?_)
  clear hs a; intro a hs
  refine st_ (cAg ag.self x2.v ag.opn ag.read x3.v x4.v x5.v v22.v r_Snap_Rev false x7.v ag.degraded ag.granted false ag.wish ag.renewed ag.quiet) [.bool false] hs m ty4 s1 ?_
  clear m w26; intro w27 m
  refine s_ hs m (ok_nilCheck rfl) (b_ m (ok_fieldAddr (r := 51) rfl fd135_8 ty82 rfl) ?_)
  clear hs a; intro a hs
  refine st_ (cAg ag.self x2.v ag.opn ag.read x3.v x4.v x5.v v22.v r_Snap_Rev false nilH.v ag.degraded ag.granted false ag.wish ag.renewed ag.quiet) [nilH.v] hs m ty82 s1 ?_
  clear m w27; intro w28 m
  refine s_ hs m (ok_nilCheck rfl) (b_ m (ok_fieldAddr (r := 53) rfl fd135_10 ty2 rfl) ?_)
  clear hs a; intro a hs
  refine st_ (cAg ag.self x2.v ag.opn ag.read x3.v x4.v x5.v v22.v r_Snap_Rev false nilH.v ag.degraded ⟨0, rfl⟩ false ag.wish ag.renewed ag.quiet) [.int .i64 0] hs m ty2 s1 ?_
  clear m w28; intro w29 m
  refine wpList_nil (n_then ?_)
  refine c_seq ?_
  refine c_reg ?_
  refine s_ hs m (ok_move rfl) ?_
  clear hs a; intro a hs
  refine r_callP (v := .int .i64 (ownI ag.self.Host.v r_Snap_Leases)) hs m rfl rfl ca84 rfl (own_c pag ({ ag with view := r_Snap_Leases, cursor := r_Snap_Rev, stale := false, skipped := ([] : List TPrefix), granted := ⟨0, rfl⟩, waiting := false } : AgM) _ ⟨x1, x2, x3, x4, x5, v22, nilH, (bx_at r1 _ m), (bx_at r9 _ m), (m.rdv r3), (m.rdv r4), (m.rdv r5), (m.rdv r6), (m.rdv r0), (RdS.nil _ _)⟩ ) rfl ?_
  clear m hs a w29; intro w30 m a hs
  refine s_ hs m (ok_assign rfl) (bn_ (bc_ (b_ m (ok_move rfl) (b_ m (ok_bin rfl rfl rfl) (bn_ ?_)))))
  clear hs a; intro a hs
  refine c_cond hs rfl (fun h31 => ?_) (fun h31 => ?_)
  ·have h31p := of_decide_eq_true h31
   refine c_last ?_
   refine s_ hs m (ok_move rfl) (b_ m (ok_move rfl) (b_ m (ok_nilCheck rfl) (b_ m (ok_fieldAddr (r := 48) rfl fd135_5 ty22 rfl) (b_ m (ok_load_sc rfl ty22 (bx_at r1) rfl) (b_ m (ok_move rfl) ?_)))))
   clear hs a; intro a hs
   obtain ⟨e32, he33⟩ := get_of_lt (l := r_Snap_Leases) (i := (ownI ag.self.Host.v r_Snap_Leases).toNat) (by omega)
   refine elO (c := cLease) (e := e32) hs m (x := (.tmp 68)) (ix := (.tmp 69)) rfl rfl sl22 ty48 r0 (by omega) he33 fun p34 hp35 ok36 => ?_
   refine s_ hs m (ok36 _ _ _ _ _) (b_ m (ok_fieldAddr (r := 1) rfl fd48_1 ty44 rfl) (b_ m (ok_load_ag (vs := cPrefix e32.Subnet) rfl ty44 (el_at hp35 r0 (get_map _ he33)) (by kernel_rfl) (by kernel_rfl)) (b_ m (ok_nilCheck rfl) (b_ m (ok_fieldAddr (r := 55) rfl fd135_12 ty44 rfl) ?_))))
   clear hs a; intro a hs
   refine st_ (cAg ag.self x2.v ag.opn ag.read x3.v x4.v x5.v v22.v r_Snap_Rev false nilH.v ag.degraded ⟨0, rfl⟩ false e32.Subnet ag.renewed ag.quiet) (cPrefix e32.Subnet) hs m ty44 s1 ?_
   clear m w30; intro w37 m
   refine wpList_nil (n_then ?_)
   refine c_reg ?_
   refine s_ hs m (ok_assign rfl) (bn_ ?_)
   clear hs a; intro a hs
   refine wp_ret ?_
   refine leave hs (vs := [.int .i64 0]) rfl ⟨rfl, trivial⟩ ?_
   replace m := m.nilSvM cPrefix 2 44
   replace m := (m.sub (.c r2 (.c r9 (.c r3 (.c r3 (.c r3 (.c r3 (.c r1 (.c r0 (.c r0 (.c r0 (.c r0 .n)))))))))))).closeAg (p := pag) (A := ({ ag with view := r_Snap_Leases, cursor := r_Snap_Rev, stale := false, skipped := ([] : List TPrefix), granted := ⟨0, rfl⟩, waiting := false, wish := e32.Subnet } : AgM))
   have q39 : ({ ag with view := r_Snap_Leases, cursor := r_Snap_Rev, stale := false, skipped := ([] : List TPrefix), granted := ⟨0, rfl⟩, waiting := false, wish := e32.Subnet } : AgM) = snapA ag r_Err.v r_Snap_Rev r_Snap_Leases := by clear hs m; exact (snap_t (by omega) (snap_ok (by omega) (by assumption) (by omega) hv) (by omega) (by assumption)).2
   rw [q39] at m
   refine ⟨_, rfl, ?_, m.sub (.c r0 .n)⟩
   have q40 : (0 : Int) = snapE r_Err.v r_Snap_Rev.v r_Snap_Leases := by clear hs m; exact (snap_t (g := ag) (by omega) (snap_ok (by omega) (by assumption) (by omega) hv) (by omega) (by assumption)).1
   (rw [q40]; rfl)
  have h31p := of_decide_eq_false h31
  refine wp_skip ?_
  refine n_then ?_
  refine c_reg ?_
  refine s_ hs m (ok_assign rfl) (bn_ ?_)
  clear hs a; intro a hs
  refine wp_ret ?_
  refine leave hs (vs := [.int .i64 0]) rfl ⟨rfl, trivial⟩ ?_
  replace m := m.nilSvM cPrefix 2 44
  replace m := (m.sub (.c r2 (.c r9 (.c r3 (.c r3 (.c r3 (.c r3 (.c r1 (.c r0 (.c r0 (.c r0 (.c r0 .n)))))))))))).closeAg (p := pag) (A := ({ ag with view := r_Snap_Leases, cursor := r_Snap_Rev, stale := false, skipped := ([] : List TPrefix), granted := ⟨0, rfl⟩, waiting := false } : AgM))
  have q42 : ({ ag with view := r_Snap_Leases, cursor := r_Snap_Rev, stale := false, skipped := ([] : List TPrefix), granted := ⟨0, rfl⟩, waiting := false } : AgM) = snapA ag r_Err.v r_Snap_Rev r_Snap_Leases := by clear hs m; exact (snap_f (by omega) (snap_ok (by omega) (by assumption) (by omega) hv) (by omega)).2
  rw [q42] at m
  refine ⟨_, rfl, ?_, m.sub (.c r0 .n)⟩
  have q43 : (0 : Int) = snapE r_Err.v r_Snap_Rev.v r_Snap_Leases := by clear hs m; exact (snap_f (g := ag) (by omega) (snap_ok (by omega) (by assumption) (by omega) hv) (by omega)).1
  (rw [q43]; rfl)
 have h20p := of_decide_eq_true h20
 refine wp_skip ?_
 refine n_then ?_
 refine c_seq ?_
 refine wp_block ?_
 refine c_reg ?_
 obtain ⟨e44, he45⟩ := get_of_lt (l := r_Snap_Leases) (i := k) (by omega)
 refine elF (c := cLease) (e := e44) hs m (x := (.tmp 24)) (ix := (.tmp 26)) rfl rfl sl22 ty48 hr_Snap_Leases (by omega) he45 fun p46 hp47 ok48 => ?_
 refine s_ hs m (ok48 _ _ _ _ _) (b_ m (ok_load_ag (vs := cLease e44) rfl ty48 (fr_at hp47) (by kernel_rfl) (by kernel_rfl)) ?_)
 clear hs a; intro a hs
 refine r_alloc hs m ze48 rfl ?_
 clear m hs a w19; intro p49 w50 m a hs
 refine st_ (cLease e44) (cLease e44) hs m ty48 s0 ?_
 clear m w50; intro w51 m
 refine wpList_nil (n_then ?_)
 refine c_reg ?_
 refine s_ hs m (ok_fieldAddr (r := 1) rfl fd48_1 ty44 rfl) (b_ m (ok_load_ag (vs := cPrefix e44.Subnet) rfl ty44 (bx_at r0) (by kernel_rfl) (by kernel_rfl)) ?_)
 clear hs a; intro a hs
 refine r_callP hs m rfl rfl ca43 rfl (valid_c e44.Subnet _  ) rfl ?_
 clear m hs a w51; intro w52 m a hs
 refine s_ hs m (ok_not rfl) (bn_ ?_)
 clear hs a; intro a hs
 refine c_cond hs rfl (fun h53 => ?_) (fun h53 => ?_)
 ·have h53p := h53; simp only [bp_] at h53p
  refine c_reg ?_
  refine s_ hs m (ok_assign rfl) (bn_ ?_)
  clear hs a; intro a hs
  refine wp_ret ?_
  refine ret_block (ret_then (ret_then (ret_block (ret_then (leave hs (vs := [.int .i64 162]) rfl ⟨rfl, trivial⟩ ?_)))))
  replace m := (m.sub (.c r1 (.c r8 (.c r2 (.c r2 (.c r2 (.c r2 (.c r2 (.c r2 (.c r0 (.c r0 .n))))))))))).closeAg (p := pag) (A := ag)
  have q54 : ag = snapA ag r_Err.v r_Snap_Rev r_Snap_Leases := by clear hs m; exact (snap_inv (by omega) (by assumption) (by assumption)).2
  rw [q54] at m
  refine ⟨_, rfl, ?_, m.sub (.c r0 .n)⟩
  have q55 : (162 : Int) = snapE r_Err.v r_Snap_Rev.v r_Snap_Leases := by clear hs m; exact (snap_inv (g := ag) (by omega) (by assumption) (by assumption)).1
  (rw [q55]; rfl)
 have h53p := h53; simp only [bp_] at h53p
 refine wp_skip ?_
 refine n_block (n_then ?_)
 refine c_last ?_
 refine s_ hs m (ok_add (r := (k : Int) + 1) rfl rfl (wrap_i64 (by omega) (by omega))) (b_ m (ok_move rfl) (bn_ ?_))
 clear hs a; intro a hs
 exact ⟨r_Snap_Leases.length - (k + 1), by omega, k + 1, by omega, by (rw [all_take_succ (by assumption), hv]; simp_all), rfl, hs.to ⟨rfl, rfl, rfl, rfl, rfl, trivial⟩, m.sub (.c r1 (.c r1 (.c r1 (.c r1 (.c r1 (.c r1 (.c r1 (.c r1 (.c r1 .n)))))))))⟩
end Go.Proofs.YtnbpodjbemfpbaaGreat.Fw
set_option linter.all false
set_option maxHeartbeats 4000000
set_option maxRecDepth 100000
namespace Go.Proofs.YtnbpodjbemfpbaaGreat.Fw
open Go
theorem changed_c (pag : Addr) (ag : AgM) (er : Int) (w0 : World) (R : Hh) (B0 : ag.view.length ≤ 2000000000) (B1 : ag.Routes.length ≤ 2000000000) (B2 : ag.Neighs.length ≤ 2000000000) (B3 : ag.Fdbs.length ≤ 2000000000) (B4 : ag.skipped.length ≤ 2000000000000) (m : Hp w0 R [AgP pag ag] w0) : Calls Tryz.prog 88 ⟨[.pointer (some (padd pag 0)), .int .i64 er]⟩ w0 fun e w' => ∃ v, e = .returned v ∧ (v = (.tuple ⟨[]⟩) ∧ Hp w0 R [AgP pag (changedA ag er)] w') := by
 refine enter (n := 116) Tryz.func88 rfl rfl rfl fun a (hs : St 116 [(0, .pointer (some (padd pag 0))), (1, .int .i64 er)] a) => ?_
 have mo := m.openAg r0
 clear m; obtain ⟨x1, x2, x3, x4, x5, x6, x7, m⟩ := mo
 refine c_reg ?_
 refine s_ hs m (ok_move rfl) (b_ m (ok_nilCheck rfl) (b_ m (ok_fieldAddr (r := 10) rfl fd135_2 ty89 rfl) (b_ m (ok_fieldAddr (r := 23) rfl fd89_2 ty58 rfl) (b_ m (ok_load_ag (vs := cOp ag.opn.Op) rfl ty58 (bx_at r0) (by kernel_rfl) (by kernel_rfl)) ?_))))
 clear hs a; intro a hs
 refine r_alloc hs m ze58 rfl ?_
 clear m hs a; intro p8 w9 m a hs
 refine st_ (cOp ag.opn.Op) (cOp ag.opn.Op) hs m ty58 s0 ?_
 clear m w9; intro w10 m
 refine wpList_nil (n_then ?_)
 refine c_reg ?_
 refine s_ hs m (ok_fieldAddr (r := 0) rfl fd58_0 ty3 rfl) (b_ m (ok_load_sc rfl ty3 (bx_at r0) rfl) (b_ m (ok_bin rfl rfl rfl) (b_ m (ok_move rfl) ?_)))
 clear hs a; intro a hs
 refine l_cut (.c (.c (.c (.c (.n))))) (fun a w => St 116 [(0, .pointer (some (padd pag 0))), (1, .int .i64 er), (4, .pointer (some (padd p8 0))), (21, .bool ((ag.opn.Op.Kind.v == 1) || (ag.opn.Op.Kind.v == 3)))] a ∧ Hp w0 R [Bx p8 58 (cOp ag.opn.Op), Bx pag 135 (cAg ag.self x2.v ag.opn ag.read x3.v x4.v x5.v x6.v ag.cursor ag.stale x7.v ag.degraded ag.granted ag.waiting ag.wish ag.renewed ag.quiet), Bx x1 63 [.pointer (some (padd pag 0))], Sv 2 138 x2.v ((rulesOf pag x1 : List (List Value)).map id), Sv 4 51 x3.v (ag.Routes.map cRoute), Sv 7 54 x4.v (ag.Neighs.map cNeigh), Sv 7 56 x5.v (ag.Fdbs.map cFdb), Sv 12 48 x6.v (ag.view.map cLease), Sv 2 44 x7.v (ag.skipped.map cPrefix)] w) ?_ ?_
 ·rcases Bool.eq_false_or_eq_true (ag.opn.Op.Kind.v == 1) with hb11 | hb11
  ·have hb11p := eq_of_beq hb11
   refine so_ hs hb11 (bo_ hb11 (bo_ hb11 (b_ m (ok_pick (r := .bool ((ag.opn.Op.Kind.v == 1) || (ag.opn.Op.Kind.v == 3))) rfl rfl rfl (by rw [hb11]; rfl)) ?_)))
   clear hs a; intro a hs
   exact wpList_nil (n_then ⟨hs.to ⟨rfl, rfl, rfl, rfl, trivial⟩, m⟩)
  ·have hb11p := ne_of_beq_false hb11
   refine sg_ hs hb11 m (ok_fieldAddr (r := 0) rfl fd58_0 ty3 rfl) (bg_ hb11 m (ok_load_sc rfl ty3 (bx_at r0) rfl) (bg_ hb11 m (ok_bin rfl rfl rfl) (b_ m (ok_pick (r := .bool ((ag.opn.Op.Kind.v == 1) || (ag.opn.Op.Kind.v == 3))) rfl rfl rfl (by rw [hb11]; rfl)) ?_)))
   clear hs a; intro a hs
   exact wpList_nil (n_then ⟨hs.to ⟨rfl, rfl, rfl, rfl, trivial⟩, m⟩)
 clear hs m a w10; rintro a w12 ⟨hs, m⟩
 refine s_ hs m (ok_move rfl) ?_
 clear hs a; intro a hs
 refine l_cut (.c (.c (.c (.c (.n))))) (fun a w => St 116 [(0, .pointer (some (padd pag 0))), (1, .int .i64 er), (4, .pointer (some (padd p8 0))), (26, .bool (((ag.opn.Op.Kind.v == 1) || (ag.opn.Op.Kind.v == 3)) || (ag.opn.Op.Kind.v == 5)))] a ∧ Hp w0 R [Bx p8 58 (cOp ag.opn.Op), Bx pag 135 (cAg ag.self x2.v ag.opn ag.read x3.v x4.v x5.v x6.v ag.cursor ag.stale x7.v ag.degraded ag.granted ag.waiting ag.wish ag.renewed ag.quiet), Bx x1 63 [.pointer (some (padd pag 0))], Sv 2 138 x2.v ((rulesOf pag x1 : List (List Value)).map id), Sv 4 51 x3.v (ag.Routes.map cRoute), Sv 7 54 x4.v (ag.Neighs.map cNeigh), Sv 7 56 x5.v (ag.Fdbs.map cFdb), Sv 12 48 x6.v (ag.view.map cLease), Sv 2 44 x7.v (ag.skipped.map cPrefix)] w) ?_ ?_
 ·rcases Bool.eq_false_or_eq_true ((ag.opn.Op.Kind.v == 1) || (ag.opn.Op.Kind.v == 3)) with hb13 | hb13
  ·have hb13p := hb13; simp only [bp_] at hb13p
   refine so_ hs hb13 (bo_ hb13 (bo_ hb13 (b_ m (ok_pick (r := .bool (((ag.opn.Op.Kind.v == 1) || (ag.opn.Op.Kind.v == 3)) || (ag.opn.Op.Kind.v == 5))) rfl rfl rfl (by rw [hb13]; rfl)) ?_)))
   clear hs a; intro a hs
   exact wpList_nil (n_then ⟨hs.to ⟨rfl, rfl, rfl, rfl, trivial⟩, m⟩)
  ·have hb13p := hb13; simp only [bp_] at hb13p
   refine sg_ hs hb13 m (ok_fieldAddr (r := 0) rfl fd58_0 ty3 rfl) (bg_ hb13 m (ok_load_sc rfl ty3 (bx_at r0) rfl) (bg_ hb13 m (ok_bin rfl rfl rfl) (b_ m (ok_pick (r := .bool (((ag.opn.Op.Kind.v == 1) || (ag.opn.Op.Kind.v == 3)) || (ag.opn.Op.Kind.v == 5))) rfl rfl rfl (by rw [hb13]; rfl)) ?_)))
   clear hs a; intro a hs
   exact wpList_nil (n_then ⟨hs.to ⟨rfl, rfl, rfl, rfl, trivial⟩, m⟩)
 clear hs m a w12; rintro a w14 ⟨hs, m⟩
 refine s_ hs m (ok_assign rfl) (bn_ ?_)
 clear hs a; intro a hs
 refine wp_block ?_
 refine c_reg ?_
 refine s_ hs m (ok_move rfl) (b_ m (ok_bin rfl rfl rfl) (b_ m (ok_assign rfl) (bn_ ?_)))
 clear hs a; intro a hs
 refine c_cond hs rfl (fun h15 => ?_) (fun h15 => ?_)
 ·have h15p := eq_of_beq h15
  refine c_drawHLast (Hp w0 R [Bx p8 58 (cOp ag.opn.Op)]) m mo ?_; clear m w14; intro w16 m
  refine sh_ (i := 0) rfl hs (m.sub (.c r0 .n)) (ok_move rfl) (bh_ (i := 1) rfl (m.sub (.c r0 .n)) (ok_nilCheck rfl) (bh_ (i := 2) rfl (m.sub (.c r0 .n)) (ok_fieldAddr (r := 45) rfl fd135_4 ty29 rfl) (bh_ (i := 3) rfl (m.sub (.c r0 .n)) (ok_load_ag (vs := cOp ag.opn.Op) rfl ty58 (bx_at r0) (by kernel_rfl) (by kernel_rfl)) ?_)))
  clear hs a; intro a hs
  replace m := (m.sub (.c r1 (.c r1 (.c r1 (.c r1 (.c r1 (.c r1 (.c r1 (.c r1 (.c r0 .n)))))))))).closeAg (p := pag) (A := ag)
  refine h_eff (i := 4) (by kernel_rfl) rfl ?_
  obtain ⟨R1, hR, hR2, ⟨y1, sy, ly⟩, mc, back⟩ := Hp.split (Pc := [AgP pag ag]) (Ps := [Bx p8 58 (cOp ag.opn.Op)]) (m.sub (.c r0 (.c r0 .n)))
  refine r_call hs rfl rfl ca134 rfl (carry_c pag ag ag.opn.Op _ R1  (by omega) (by omega) (by omega) (by omega) (by omega) mc) rfl ?_
  clear hs a; rintro _ w17 ⟨rfl, hm⟩ a hs
  replace m : Hp w0 R [AgP pag (carryA ag ag.opn.Op), Bx p8 58 (cOp ag.opn.Op)] w17 := back _ _ hm
  clear hm back mc sy ly hR2 hR y1 R1 w16
  have mo := m.openAg r0
  clear m; obtain ⟨x18, x19, x20, x21, x22, x23, x24, m⟩ := mo
  refine wpList_nil (n_then ⟨(m.sub (.c r8 .n)), ?_⟩)
  refine h_done (by kernel_rfl) (n_block (leaveN hs (vs := []) rfl trivial ?_))
  replace m := (m.sub (.c r0 (.c r0 (.c r0 (.c r0 (.c r0 (.c r0 (.c r0 (.c r0 (.c r0 .n)))))))))).closeAg (p := pag) (A := (carryA ag ag.opn.Op))
  have q25 : (carryA ag ag.opn.Op) = changedA ag er := by clear hs m; exact changed_y (by assumption)
  rw [q25] at m
  refine ⟨_, rfl, ?_, m.sub (.c r0 .n)⟩
  rfl
 have h15p := ne_of_beq_false h15
 refine c_reg ?_
 refine s_ hs m (ok_move rfl) (b_ m (ok_bin rfl rfl rfl) (b_ m (ok_move rfl) ?_))
 clear hs a; intro a hs
 refine l_cut (.c (.c (.n))) (fun a w => St 116 [(0, .pointer (some (padd pag 0))), (4, .pointer (some (padd p8 0))), (40, .bool ((er == 4) && (((ag.opn.Op.Kind.v == 1) || (ag.opn.Op.Kind.v == 3)) || (ag.opn.Op.Kind.v == 5))))] a ∧ Hp w0 R [Bx p8 58 (cOp ag.opn.Op), Bx pag 135 (cAg ag.self x2.v ag.opn ag.read x3.v x4.v x5.v x6.v ag.cursor ag.stale x7.v ag.degraded ag.granted ag.waiting ag.wish ag.renewed ag.quiet), Bx x1 63 [.pointer (some (padd pag 0))], Sv 2 138 x2.v ((rulesOf pag x1 : List (List Value)).map id), Sv 4 51 x3.v (ag.Routes.map cRoute), Sv 7 54 x4.v (ag.Neighs.map cNeigh), Sv 7 56 x5.v (ag.Fdbs.map cFdb), Sv 12 48 x6.v (ag.view.map cLease), Sv 2 44 x7.v (ag.skipped.map cPrefix)] w) ?_ ?_
 ·rcases Bool.eq_false_or_eq_true (er == 4) with hb26 | hb26
  ·have hb26p := eq_of_beq hb26
   refine sg_ hs hb26 m (ok_move rfl) (b_ m (ok_pick (r := .bool ((er == 4) && (((ag.opn.Op.Kind.v == 1) || (ag.opn.Op.Kind.v == 3)) || (ag.opn.Op.Kind.v == 5)))) rfl rfl rfl (by rw [hb26]; rfl)) ?_)
   clear hs a; intro a hs
   exact wpList_nil (n_then ⟨hs.to ⟨rfl, rfl, rfl, trivial⟩, m⟩)
  ·have hb26p := ne_of_beq_false hb26
   refine so_ hs hb26 (b_ m (ok_pick (r := .bool ((er == 4) && (((ag.opn.Op.Kind.v == 1) || (ag.opn.Op.Kind.v == 3)) || (ag.opn.Op.Kind.v == 5)))) rfl rfl rfl (by rw [hb26]; rfl)) ?_)
   clear hs a; intro a hs
   exact wpList_nil (n_then ⟨hs.to ⟨rfl, rfl, rfl, trivial⟩, m⟩)
 clear hs m a w14; rintro a w27 ⟨hs, m⟩
 refine s_ hs m (ok_assign rfl) (bn_ ?_)
 clear hs a; intro a hs
 refine c_cond hs rfl (fun h28 => ?_) (fun h28 => ?_)
 ·have h28p := h28; simp only [bp_] at h28p
  refine c_reg ?_
  refine s_ hs m (ok_move rfl) (b_ m (ok_nilCheck rfl) (b_ m (ok_fieldAddr (r := 52) rfl fd135_9 ty4 rfl) ?_))
  clear hs a; intro a hs
  refine st_ (cAg ag.self x2.v ag.opn ag.read x3.v x4.v x5.v x6.v ag.cursor ag.stale x7.v true ag.granted ag.waiting ag.wish ag.renewed ag.quiet) [.bool true] hs m ty4 s1 ?_
  clear m w27; intro w29 m
  refine wpList_nil (n_then ?_)
  refine c_reg ?_
  refine s_ hs m (ok_move rfl) (b_ m (ok_nilCheck rfl) (b_ m (ok_fieldAddr (r := 48) rfl fd135_5 ty22 rfl) (b_ m (ok_load_sc rfl ty22 (bx_at r1) rfl) (b_ m (ok_len (r := (ag.view.length : Int)) m rfl sl22 (rc_own r7) (by simp)) (b_ m (ok_move rfl) (bn_ ?_))))))
  clear hs a; intro a hs
  refine wp_block ?_
  have q31 : ag.skipped = skipK ag 0 := by exact skipK_0
  rw [q31] at m
  refine wp_loop_ghost (fun gn a w => ∃ k : Nat, ∃ v30 : SH, (k ≤ ag.view.length) ∧ gn = ag.view.length - k ∧ St 116 [(0, .pointer (some (padd pag 0))), (4, .pointer (some (padd p8 0))), (47, x6.v), (48, .int .i64 (ag.view.length : Int)), (49, .int .i64 (k : Int))] a ∧ Hp w0 R [Bx pag 135 (cAg ag.self x2.v ag.opn ag.read x3.v x4.v x5.v x6.v ag.cursor ag.stale v30.v true ag.granted ag.waiting ag.wish ag.renewed ag.quiet), Bx p8 58 (cOp ag.opn.Op), Sv 12 48 x6.v (ag.view.map cLease), Sv 2 138 x2.v ((rulesOf pag x1 : List (List Value)).map id), Sv 4 51 x3.v (ag.Routes.map cRoute), Sv 7 54 x4.v (ag.Neighs.map cNeigh), Sv 7 56 x5.v (ag.Fdbs.map cFdb), Sv 2 44 v30.v ((skipK ag k).map cPrefix), Bx x1 63 [.pointer (some (padd pag 0))]] w) (ag.view.length - 0) ⟨0, x7, by omega, rfl, hs.to ⟨rfl, rfl, rfl, rfl, rfl, trivial⟩, m.sub (.c r1 (.c r0 (.c r5 (.c r1 (.c r1 (.c r1 (.c r1 (.c r1 (.c r0 .n)))))))))⟩ ?_
  clear hs m a w29
  rintro gn a w32 ⟨k, v30, hk, rfl, hs, m⟩
  have hsk := skipK_len (g := ag) (k := k)
  refine c_reg ?_
  refine s_ hs m (ok_bin rfl rfl rfl) (bn_ ?_)
  clear hs a; intro a hs
  refine c_seq ?_
  refine c_cond hs rfl (fun h33 => ?_) (fun h33 => ?_)
  rotate_left
  ·have h33p := of_decide_eq_false h33
   refine wp_exit ?_
   refine ex_then (ex_then (ex_hit (?_)))
   refine n_block (leaveN hs (vs := []) rfl trivial ?_)
   replace m := (m.sub (.c r0 (.c r7 (.c r2 (.c r2 (.c r2 (.c r2 (.c r1 (.c r1 (.c r0 .n)))))))))).closeAg (p := pag) (A := ({ ag with skipped := (skipK ag k), degraded := true } : AgM))
   have q34 : ({ ag with skipped := (skipK ag k), degraded := true } : AgM) = changedA ag er := by clear hs m; exact changed_p (by assumption) (by assumption) (by omega)
   rw [q34] at m
   refine ⟨_, rfl, ?_, m.sub (.c r0 .n)⟩
   rfl
  have h33p := of_decide_eq_true h33
  refine wp_skip ?_
  refine n_then ?_
  refine c_seq ?_
  refine wp_block ?_
  refine c_reg ?_
  obtain ⟨e35, he36⟩ := get_of_lt (l := ag.view) (i := k) (by omega)
  refine elO (c := cLease) (e := e35) hs m (x := (.tmp 47)) (ix := (.tmp 49)) rfl rfl sl22 ty48 r2 (by omega) he36 fun p37 hp38 ok39 => ?_
  refine s_ hs m (ok39 _ _ _ _ _) (b_ m (ok_load_ag (vs := cLease e35) rfl ty48 (el_at hp38 r2 (get_map _ he36)) (by kernel_rfl) (by kernel_rfl)) ?_)
  clear hs a; intro a hs
  refine r_alloc hs m ze48 rfl ?_
  clear m hs a w32; intro p40 w41 m a hs
  refine st_ (cLease e35) (cLease e35) hs m ty48 s0 ?_
  clear m w41; intro w42 m
  refine wpList_nil (n_then ?_)
  refine c_draw m mo (by kernel_rfl) ?_
  refine sq_ hs (ok_fieldAddr (r := 0) rfl fd48_0 ty3 rfl) (bq_ (ok_load_sc rfl ty3 (bx_at r0) rfl) (bq_ (ok_move rfl) (bq_ (ok_nilCheck rfl) (bq_ (ok_fieldAddr (r := 0) rfl fd135_0 ty61 rfl) (bq_ (ok_fieldAddr (r := 0) rfl fd61_0 ty3 rfl) (bq_ (ok_load_sc rfl ty3 (bx_at r1) rfl) (bq_ (ok_bin rfl rfl rfl) (bq_ (ok_assign rfl) ?_))))))))
  clear hs a; intro a hs
  refine wpQuiet_nil ?_; clear m w42; intro w43 m
  refine c_reg ?_
  refine s_ hs m (ok_fieldAddr (r := 0) rfl fd58_0 ty3 rfl) (b_ m (ok_load_sc rfl ty3 (bx_at r2) rfl) (b_ m (ok_bin rfl rfl rfl) (b_ m (ok_move rfl) ?_)))
  clear hs a; intro a hs
  refine l_cut (.c (.c (.c (.c (.c (.c (.c (.n)))))))) (fun a w => St 116 [(0, .pointer (some (padd pag 0))), (4, .pointer (some (padd p8 0))), (7, .pointer (some (padd p40 0))), (8, .bool (e35.Host.v != ag.self.Host.v)), (47, x6.v), (48, .int .i64 (ag.view.length : Int)), (49, .int .i64 (k : Int)), (71, .bool ((ag.opn.Op.Kind.v == 1) && (decide (e35.Subnet = ag.opn.Op.Route.Dst))))] a ∧ Hp w0 R [Bx p40 48 (cLease e35), Bx pag 135 (cAg ag.self x2.v ag.opn ag.read x3.v x4.v x5.v x6.v ag.cursor ag.stale v30.v true ag.granted ag.waiting ag.wish ag.renewed ag.quiet), Bx p8 58 (cOp ag.opn.Op), Sv 12 48 x6.v (ag.view.map cLease), Sv 2 138 x2.v ((rulesOf pag x1 : List (List Value)).map id), Sv 4 51 x3.v (ag.Routes.map cRoute), Sv 7 54 x4.v (ag.Neighs.map cNeigh), Sv 7 56 x5.v (ag.Fdbs.map cFdb), Sv 2 44 v30.v ((skipK ag k).map cPrefix), Bx x1 63 [.pointer (some (padd pag 0))]] w) ?_ ?_
  ·rcases Bool.eq_false_or_eq_true (ag.opn.Op.Kind.v == 1) with hb44 | hb44
   ·have hb44p := eq_of_beq hb44
    refine sg_ hs hb44 m (ok_fieldAddr (r := 1) rfl fd48_1 ty44 rfl) (bg_ hb44 m (ok_load_ag (vs := cPrefix e35.Subnet) rfl ty44 (bx_at r0) (by kernel_rfl) (by kernel_rfl)) (bg_ hb44 m (ok_fieldAddr (r := 1) rfl fd58_1 ty51 rfl) (bg_ hb44 m (ok_fieldAddr (r := 1) rfl fd51_0 ty44 rfl) (bg_ hb44 m (ok_load_ag (vs := cPrefix ag.opn.Op.Route.Dst) rfl ty44 (bx_at r2) (by kernel_rfl) (by kernel_rfl)) (bg_ hb44 m (ok_eqv (b := decide (e35.Subnet = ag.opn.Op.Route.Dst)) rfl rfl eqT44 (fPrefix _) (fPrefix _) (iPrefix e35.Subnet ag.opn.Op.Route.Dst)) (b_ m (ok_pick (r := .bool ((ag.opn.Op.Kind.v == 1) && (decide (e35.Subnet = ag.opn.Op.Route.Dst)))) rfl rfl rfl (by rw [hb44]; rfl)) ?_))))))
    clear hs a; intro a hs
    exact wpList_nil (n_then ⟨hs.to ⟨rfl, rfl, rfl, rfl, rfl, rfl, rfl, rfl, trivial⟩, m⟩)
   ·have hb44p := ne_of_beq_false hb44
    refine so_ hs hb44 (bo_ hb44 (bo_ hb44 (bo_ hb44 (bo_ hb44 (bo_ hb44 (b_ m (ok_pick (r := .bool ((ag.opn.Op.Kind.v == 1) && (decide (e35.Subnet = ag.opn.Op.Route.Dst)))) rfl rfl rfl (by rw [hb44]; rfl)) ?_))))))
    clear hs a; intro a hs
    exact wpList_nil (n_then ⟨hs.to ⟨rfl, rfl, rfl, rfl, rfl, rfl, rfl, rfl, trivial⟩, m⟩)
  clear hs m a w43; rintro a w45 ⟨hs, m⟩
  refine s_ hs m (ok_move rfl) ?_
  clear hs a; intro a hs
  refine l_cut (.c (.c (.c (.c (.c (.c (.c (.c (.c (.c (.c (.c (.c (.c (.c (.c (.n))))))))))))))))) (fun a w => St 116 [(0, .pointer (some (padd pag 0))), (4, .pointer (some (padd p8 0))), (7, .pointer (some (padd p40 0))), (8, .bool (e35.Host.v != ag.self.Host.v)), (47, x6.v), (48, .int .i64 (ag.view.length : Int)), (49, .int .i64 (k : Int)), (88, .bool (((ag.opn.Op.Kind.v == 1) && (decide (e35.Subnet = ag.opn.Op.Route.Dst))) || (((ag.opn.Op.Kind.v == 3) && (e35.Host.v != ag.self.Host.v)) && (e35.Subnet.Addr.v == ag.opn.Op.Neigh.IP.v))))] a ∧ Hp w0 R [Bx p40 48 (cLease e35), Bx pag 135 (cAg ag.self x2.v ag.opn ag.read x3.v x4.v x5.v x6.v ag.cursor ag.stale v30.v true ag.granted ag.waiting ag.wish ag.renewed ag.quiet), Bx p8 58 (cOp ag.opn.Op), Sv 12 48 x6.v (ag.view.map cLease), Sv 2 138 x2.v ((rulesOf pag x1 : List (List Value)).map id), Sv 4 51 x3.v (ag.Routes.map cRoute), Sv 7 54 x4.v (ag.Neighs.map cNeigh), Sv 7 56 x5.v (ag.Fdbs.map cFdb), Sv 2 44 v30.v ((skipK ag k).map cPrefix), Bx x1 63 [.pointer (some (padd pag 0))]] w) ?_ ?_
  ·rcases Bool.eq_false_or_eq_true ((ag.opn.Op.Kind.v == 1) && (decide (e35.Subnet = ag.opn.Op.Route.Dst))) with hb46 | hb46
   ·have hb46p := hb46; simp only [bp_] at hb46p
    refine so_ hs hb46 (bo_ hb46 (bo_ hb46 (bo_ hb46 ?_)))
    clear hs a; intro a hs
    refine g_outU hs rfl rfl rfl ?_
    clear hs a; intro a hs
    refine so_ hs hb46 (bo_ hb46 ?_)
    clear hs a; intro a hs
    refine g_outU hs rfl rfl rfl ?_
    clear hs a; intro a hs
    refine g_outU hs rfl rfl rfl ?_
    clear hs a; intro a hs
    refine g_outU hs rfl rfl rfl ?_
    clear hs a; intro a hs
    refine g_outU hs rfl rfl rfl ?_
    clear hs a; intro a hs
    refine g_outU hs rfl rfl rfl ?_
    clear hs a; intro a hs
    refine g_outU hs rfl rfl rfl ?_
    clear hs a; intro a hs
    refine g_outU hs rfl rfl rfl ?_
    clear hs a; intro a hs
    refine so_ hs hb46 (b_ m (ok_pick (r := .bool (((ag.opn.Op.Kind.v == 1) && (decide (e35.Subnet = ag.opn.Op.Route.Dst))) || (((ag.opn.Op.Kind.v == 3) && (e35.Host.v != ag.self.Host.v)) && (e35.Subnet.Addr.v == ag.opn.Op.Neigh.IP.v)))) rfl rfl rfl (by rw [hb46]; rfl)) ?_)
    clear hs a; intro a hs
    exact wpList_nil (n_then ⟨hs.to ⟨rfl, rfl, rfl, rfl, rfl, rfl, rfl, rfl, trivial⟩, m⟩)
   ·have hb46p := hb46; simp only [bp_] at hb46p
    refine sg_ hs hb46 m (ok_fieldAddr (r := 0) rfl fd58_0 ty3 rfl) (bg_ hb46 m (ok_load_sc rfl ty3 (bx_at r2) rfl) (bg_ hb46 m (ok_bin rfl rfl rfl) (bg_ hb46 m (ok_move rfl) ?_)))
    clear hs a; intro a hs
    refine l_cut (.c (.c (.n))) (fun a w => St 116 [(0, .pointer (some (padd pag 0))), (4, .pointer (some (padd p8 0))), (7, .pointer (some (padd p40 0))), (8, .bool (e35.Host.v != ag.self.Host.v)), (47, x6.v), (48, .int .i64 (ag.view.length : Int)), (49, .int .i64 (k : Int)), (72, .bool ((ag.opn.Op.Kind.v == 1) && (decide (e35.Subnet = ag.opn.Op.Route.Dst)))), (73, .pointer (some (padd p8 0))), (74, .int .i64 ag.opn.Op.Kind.v), (75, .bool (ag.opn.Op.Kind.v == 3)), (76, .bool (ag.opn.Op.Kind.v == 3)), (78, .bool ((ag.opn.Op.Kind.v == 3) && (e35.Host.v != ag.self.Host.v)))] a ∧ Hp w0 R [Bx p40 48 (cLease e35), Bx pag 135 (cAg ag.self x2.v ag.opn ag.read x3.v x4.v x5.v x6.v ag.cursor ag.stale v30.v true ag.granted ag.waiting ag.wish ag.renewed ag.quiet), Bx p8 58 (cOp ag.opn.Op), Sv 12 48 x6.v (ag.view.map cLease), Sv 2 138 x2.v ((rulesOf pag x1 : List (List Value)).map id), Sv 4 51 x3.v (ag.Routes.map cRoute), Sv 7 54 x4.v (ag.Neighs.map cNeigh), Sv 7 56 x5.v (ag.Fdbs.map cFdb), Sv 2 44 v30.v ((skipK ag k).map cPrefix), Bx x1 63 [.pointer (some (padd pag 0))]] w) ?_ ?_
    ·rcases Bool.eq_false_or_eq_true (ag.opn.Op.Kind.v == 3) with hb47 | hb47
     ·have hb47p := eq_of_beq hb47
      refine sg_ hs hb47 m (ok_move rfl) (bg_ hb46 m (ok_pick (r := .bool ((ag.opn.Op.Kind.v == 3) && (e35.Host.v != ag.self.Host.v))) rfl rfl rfl (by rw [hb47]; rfl)) ?_)
      clear hs a; intro a hs
      exact wpList_nil (n_then ⟨hs.to ⟨rfl, rfl, rfl, rfl, rfl, rfl, rfl, rfl, rfl, rfl, rfl, rfl, rfl, trivial⟩, m⟩)
     ·have hb47p := ne_of_beq_false hb47
      refine so_ hs hb47 (bg_ hb46 m (ok_pick (r := .bool ((ag.opn.Op.Kind.v == 3) && (e35.Host.v != ag.self.Host.v))) rfl rfl rfl (by rw [hb47]; rfl)) ?_)
      clear hs a; intro a hs
      exact wpList_nil (n_then ⟨hs.to ⟨rfl, rfl, rfl, rfl, rfl, rfl, rfl, rfl, rfl, rfl, rfl, rfl, rfl, trivial⟩, m⟩)
    clear hs m a w45; rintro a w48 ⟨hs, m⟩
    refine sg_ hs hb46 m (ok_move rfl) ?_
    clear hs a; intro a hs
    refine l_cut (.c (.c (.c (.c (.c (.c (.c (.c (.n))))))))) (fun a w => St 116 [(0, .pointer (some (padd pag 0))), (4, .pointer (some (padd p8 0))), (7, .pointer (some (padd p40 0))), (8, .bool (e35.Host.v != ag.self.Host.v)), (47, x6.v), (48, .int .i64 (ag.view.length : Int)), (49, .int .i64 (k : Int)), (72, .bool ((ag.opn.Op.Kind.v == 1) && (decide (e35.Subnet = ag.opn.Op.Route.Dst)))), (73, .pointer (some (padd p8 0))), (74, .int .i64 ag.opn.Op.Kind.v), (75, .bool (ag.opn.Op.Kind.v == 3)), (76, .bool (ag.opn.Op.Kind.v == 3)), (78, .bool ((ag.opn.Op.Kind.v == 3) && (e35.Host.v != ag.self.Host.v))), (79, .bool ((ag.opn.Op.Kind.v == 3) && (e35.Host.v != ag.self.Host.v))), (87, .bool (((ag.opn.Op.Kind.v == 3) && (e35.Host.v != ag.self.Host.v)) && (e35.Subnet.Addr.v == ag.opn.Op.Neigh.IP.v)))] a ∧ Hp w0 R [Bx p40 48 (cLease e35), Bx pag 135 (cAg ag.self x2.v ag.opn ag.read x3.v x4.v x5.v x6.v ag.cursor ag.stale v30.v true ag.granted ag.waiting ag.wish ag.renewed ag.quiet), Bx p8 58 (cOp ag.opn.Op), Sv 12 48 x6.v (ag.view.map cLease), Sv 2 138 x2.v ((rulesOf pag x1 : List (List Value)).map id), Sv 4 51 x3.v (ag.Routes.map cRoute), Sv 7 54 x4.v (ag.Neighs.map cNeigh), Sv 7 56 x5.v (ag.Fdbs.map cFdb), Sv 2 44 v30.v ((skipK ag k).map cPrefix), Bx x1 63 [.pointer (some (padd pag 0))]] w) ?_ ?_
    ·rcases Bool.eq_false_or_eq_true ((ag.opn.Op.Kind.v == 3) && (e35.Host.v != ag.self.Host.v)) with hb49 | hb49
     ·have hb49p := hb49; simp only [bp_] at hb49p
      refine sg_ hs hb49 m (ok_fieldAddr (r := 1) rfl fd48_1 ty44 rfl) (bg_ hb49 m (ok_fieldAddr (r := 1) rfl fd44_0 ty42 rfl) (bg_ hb49 m (ok_load_sc rfl ty42 (bx_at r0) rfl) (bg_ hb49 m (ok_fieldAddr (r := 5) rfl fd58_2 ty54 rfl) (bg_ hb49 m (ok_fieldAddr (r := 5) rfl fd54_0 ty42 rfl) (bg_ hb49 m (ok_load_sc rfl ty42 (bx_at r2) rfl) (bg_ hb49 m (ok_bin rfl rfl rfl) (bg_ hb46 m (ok_pick (r := .bool (((ag.opn.Op.Kind.v == 3) && (e35.Host.v != ag.self.Host.v)) && (e35.Subnet.Addr.v == ag.opn.Op.Neigh.IP.v))) rfl rfl rfl (by rw [hb49]; rfl)) ?_)))))))
      clear hs a; intro a hs
      exact wpList_nil (n_then ⟨hs.to ⟨rfl, rfl, rfl, rfl, rfl, rfl, rfl, rfl, rfl, rfl, rfl, rfl, rfl, rfl, rfl, trivial⟩, m⟩)
     ·have hb49p := hb49; simp only [bp_] at hb49p
      refine so_ hs hb49 (bo_ hb49 (bo_ hb49 (bo_ hb49 (bo_ hb49 (bo_ hb49 (bo_ hb49 (bg_ hb46 m (ok_pick (r := .bool (((ag.opn.Op.Kind.v == 3) && (e35.Host.v != ag.self.Host.v)) && (e35.Subnet.Addr.v == ag.opn.Op.Neigh.IP.v))) rfl rfl rfl (by rw [hb49]; rfl)) ?_)))))))
      clear hs a; intro a hs
      exact wpList_nil (n_then ⟨hs.to ⟨rfl, rfl, rfl, rfl, rfl, rfl, rfl, rfl, rfl, rfl, rfl, rfl, rfl, rfl, rfl, trivial⟩, m⟩)
    clear hs m a w48; rintro a w50 ⟨hs, m⟩
    refine s_ hs m (ok_pick (r := .bool (((ag.opn.Op.Kind.v == 1) && (decide (e35.Subnet = ag.opn.Op.Route.Dst))) || (((ag.opn.Op.Kind.v == 3) && (e35.Host.v != ag.self.Host.v)) && (e35.Subnet.Addr.v == ag.opn.Op.Neigh.IP.v)))) rfl rfl rfl (by rw [hb46]; rfl)) ?_
    clear hs a; intro a hs
    exact wpList_nil (n_then ⟨hs.to ⟨rfl, rfl, rfl, rfl, rfl, rfl, rfl, rfl, trivial⟩, m⟩)
  clear hs m a w45; rintro a w51 ⟨hs, m⟩
  refine s_ hs m (ok_move rfl) ?_
  clear hs a; intro a hs
  refine l_cut (.c (.c (.c (.c (.c (.c (.c (.c (.c (.c (.c (.c (.c (.c (.c (.n)))))))))))))))) (fun a w => St 116 [(0, .pointer (some (padd pag 0))), (4, .pointer (some (padd p8 0))), (7, .pointer (some (padd p40 0))), (47, x6.v), (48, .int .i64 (ag.view.length : Int)), (49, .int .i64 (k : Int)), (104, .bool ((((ag.opn.Op.Kind.v == 1) && (decide (e35.Subnet = ag.opn.Op.Route.Dst))) || (((ag.opn.Op.Kind.v == 3) && (e35.Host.v != ag.self.Host.v)) && (e35.Subnet.Addr.v == ag.opn.Op.Neigh.IP.v))) || (((ag.opn.Op.Kind.v == 5) && (e35.Host.v != ag.self.Host.v)) && (decide (e35.MAC = ag.opn.Op.Fdb.MAC)))))] a ∧ Hp w0 R [Bx p40 48 (cLease e35), Bx pag 135 (cAg ag.self x2.v ag.opn ag.read x3.v x4.v x5.v x6.v ag.cursor ag.stale v30.v true ag.granted ag.waiting ag.wish ag.renewed ag.quiet), Bx p8 58 (cOp ag.opn.Op), Sv 12 48 x6.v (ag.view.map cLease), Sv 2 138 x2.v ((rulesOf pag x1 : List (List Value)).map id), Sv 4 51 x3.v (ag.Routes.map cRoute), Sv 7 54 x4.v (ag.Neighs.map cNeigh), Sv 7 56 x5.v (ag.Fdbs.map cFdb), Sv 2 44 v30.v ((skipK ag k).map cPrefix), Bx x1 63 [.pointer (some (padd pag 0))]] w) ?_ ?_
  ·rcases Bool.eq_false_or_eq_true (((ag.opn.Op.Kind.v == 1) && (decide (e35.Subnet = ag.opn.Op.Route.Dst))) || (((ag.opn.Op.Kind.v == 3) && (e35.Host.v != ag.self.Host.v)) && (e35.Subnet.Addr.v == ag.opn.Op.Neigh.IP.v))) with hb52 | hb52
   ·have hb52p := hb52; simp only [bp_] at hb52p
    refine so_ hs hb52 (bo_ hb52 (bo_ hb52 (bo_ hb52 ?_)))
    clear hs a; intro a hs
    refine g_outU hs rfl rfl rfl ?_
    clear hs a; intro a hs
    refine so_ hs hb52 (bo_ hb52 ?_)
    clear hs a; intro a hs
    refine g_outU hs rfl rfl rfl ?_
    clear hs a; intro a hs
    refine g_outU hs rfl rfl rfl ?_
    clear hs a; intro a hs
    refine g_outU hs rfl rfl rfl ?_
    clear hs a; intro a hs
    refine g_outU hs rfl rfl rfl ?_
    clear hs a; intro a hs
    refine g_outU hs rfl rfl rfl ?_
    clear hs a; intro a hs
    refine g_outU hs rfl rfl rfl ?_
    clear hs a; intro a hs
    refine so_ hs hb52 (b_ m (ok_pick (r := .bool ((((ag.opn.Op.Kind.v == 1) && (decide (e35.Subnet = ag.opn.Op.Route.Dst))) || (((ag.opn.Op.Kind.v == 3) && (e35.Host.v != ag.self.Host.v)) && (e35.Subnet.Addr.v == ag.opn.Op.Neigh.IP.v))) || (((ag.opn.Op.Kind.v == 5) && (e35.Host.v != ag.self.Host.v)) && (decide (e35.MAC = ag.opn.Op.Fdb.MAC))))) rfl rfl rfl (by rw [hb52]; rfl)) ?_)
    clear hs a; intro a hs
    exact wpList_nil (n_then ⟨hs.to ⟨rfl, rfl, rfl, rfl, rfl, rfl, rfl, trivial⟩, m⟩)
   ·have hb52p := hb52; simp only [bp_] at hb52p
    refine sg_ hs hb52 m (ok_fieldAddr (r := 0) rfl fd58_0 ty3 rfl) (bg_ hb52 m (ok_load_sc rfl ty3 (bx_at r2) rfl) (bg_ hb52 m (ok_bin rfl rfl rfl) (bg_ hb52 m (ok_move rfl) ?_)))
    clear hs a; intro a hs
    refine l_cut (.c (.c (.n))) (fun a w => St 116 [(0, .pointer (some (padd pag 0))), (4, .pointer (some (padd p8 0))), (7, .pointer (some (padd p40 0))), (47, x6.v), (48, .int .i64 (ag.view.length : Int)), (49, .int .i64 (k : Int)), (89, .bool (((ag.opn.Op.Kind.v == 1) && (decide (e35.Subnet = ag.opn.Op.Route.Dst))) || (((ag.opn.Op.Kind.v == 3) && (e35.Host.v != ag.self.Host.v)) && (e35.Subnet.Addr.v == ag.opn.Op.Neigh.IP.v)))), (90, .pointer (some (padd p8 0))), (91, .int .i64 ag.opn.Op.Kind.v), (92, .bool (ag.opn.Op.Kind.v == 5)), (93, .bool (ag.opn.Op.Kind.v == 5)), (95, .bool ((ag.opn.Op.Kind.v == 5) && (e35.Host.v != ag.self.Host.v)))] a ∧ Hp w0 R [Bx p40 48 (cLease e35), Bx pag 135 (cAg ag.self x2.v ag.opn ag.read x3.v x4.v x5.v x6.v ag.cursor ag.stale v30.v true ag.granted ag.waiting ag.wish ag.renewed ag.quiet), Bx p8 58 (cOp ag.opn.Op), Sv 12 48 x6.v (ag.view.map cLease), Sv 2 138 x2.v ((rulesOf pag x1 : List (List Value)).map id), Sv 4 51 x3.v (ag.Routes.map cRoute), Sv 7 54 x4.v (ag.Neighs.map cNeigh), Sv 7 56 x5.v (ag.Fdbs.map cFdb), Sv 2 44 v30.v ((skipK ag k).map cPrefix), Bx x1 63 [.pointer (some (padd pag 0))]] w) ?_ ?_
    ·rcases Bool.eq_false_or_eq_true (ag.opn.Op.Kind.v == 5) with hb53 | hb53
     ·have hb53p := eq_of_beq hb53
      refine sg_ hs hb53 m (ok_move rfl) (bg_ hb52 m (ok_pick (r := .bool ((ag.opn.Op.Kind.v == 5) && (e35.Host.v != ag.self.Host.v))) rfl rfl rfl (by rw [hb53]; rfl)) ?_)
      clear hs a; intro a hs
      exact wpList_nil (n_then ⟨hs.to ⟨rfl, rfl, rfl, rfl, rfl, rfl, rfl, rfl, rfl, rfl, rfl, rfl, trivial⟩, m⟩)
     ·have hb53p := ne_of_beq_false hb53
      refine so_ hs hb53 (bg_ hb52 m (ok_pick (r := .bool ((ag.opn.Op.Kind.v == 5) && (e35.Host.v != ag.self.Host.v))) rfl rfl rfl (by rw [hb53]; rfl)) ?_)
      clear hs a; intro a hs
      exact wpList_nil (n_then ⟨hs.to ⟨rfl, rfl, rfl, rfl, rfl, rfl, rfl, rfl, rfl, rfl, rfl, rfl, trivial⟩, m⟩)
    clear hs m a w51; rintro a w54 ⟨hs, m⟩
    refine sg_ hs hb52 m (ok_move rfl) ?_
    clear hs a; intro a hs
    refine l_cut (.c (.c (.c (.c (.c (.c (.c (.n)))))))) (fun a w => St 116 [(0, .pointer (some (padd pag 0))), (4, .pointer (some (padd p8 0))), (7, .pointer (some (padd p40 0))), (47, x6.v), (48, .int .i64 (ag.view.length : Int)), (49, .int .i64 (k : Int)), (89, .bool (((ag.opn.Op.Kind.v == 1) && (decide (e35.Subnet = ag.opn.Op.Route.Dst))) || (((ag.opn.Op.Kind.v == 3) && (e35.Host.v != ag.self.Host.v)) && (e35.Subnet.Addr.v == ag.opn.Op.Neigh.IP.v)))), (90, .pointer (some (padd p8 0))), (91, .int .i64 ag.opn.Op.Kind.v), (92, .bool (ag.opn.Op.Kind.v == 5)), (93, .bool (ag.opn.Op.Kind.v == 5)), (95, .bool ((ag.opn.Op.Kind.v == 5) && (e35.Host.v != ag.self.Host.v))), (96, .bool ((ag.opn.Op.Kind.v == 5) && (e35.Host.v != ag.self.Host.v))), (103, .bool (((ag.opn.Op.Kind.v == 5) && (e35.Host.v != ag.self.Host.v)) && (decide (e35.MAC = ag.opn.Op.Fdb.MAC))))] a ∧ Hp w0 R [Bx p40 48 (cLease e35), Bx pag 135 (cAg ag.self x2.v ag.opn ag.read x3.v x4.v x5.v x6.v ag.cursor ag.stale v30.v true ag.granted ag.waiting ag.wish ag.renewed ag.quiet), Bx p8 58 (cOp ag.opn.Op), Sv 12 48 x6.v (ag.view.map cLease), Sv 2 138 x2.v ((rulesOf pag x1 : List (List Value)).map id), Sv 4 51 x3.v (ag.Routes.map cRoute), Sv 7 54 x4.v (ag.Neighs.map cNeigh), Sv 7 56 x5.v (ag.Fdbs.map cFdb), Sv 2 44 v30.v ((skipK ag k).map cPrefix), Bx x1 63 [.pointer (some (padd pag 0))]] w) ?_ ?_
    ·rcases Bool.eq_false_or_eq_true ((ag.opn.Op.Kind.v == 5) && (e35.Host.v != ag.self.Host.v)) with hb55 | hb55
     ·have hb55p := hb55; simp only [bp_] at hb55p
      refine sg_ hs hb55 m (ok_fieldAddr (r := 4) rfl fd48_3 ty46 rfl) (bg_ hb55 m (ok_load_ag (vs := cMAC e35.MAC) rfl ty46 (bx_at r0) (by kernel_rfl) (by kernel_rfl)) (bg_ hb55 m (ok_fieldAddr (r := 12) rfl fd58_3 ty56 rfl) (bg_ hb55 m (ok_fieldAddr (r := 12) rfl fd56_0 ty46 rfl) (bg_ hb55 m (ok_load_ag (vs := cMAC ag.opn.Op.Fdb.MAC) rfl ty46 (bx_at r2) (by kernel_rfl) (by kernel_rfl)) (bg_ hb55 m (ok_eqv (b := decide (e35.MAC = ag.opn.Op.Fdb.MAC)) rfl rfl eqT46 (fMAC _) (fMAC _) (iMAC e35.MAC ag.opn.Op.Fdb.MAC)) (bg_ hb52 m (ok_pick (r := .bool (((ag.opn.Op.Kind.v == 5) && (e35.Host.v != ag.self.Host.v)) && (decide (e35.MAC = ag.opn.Op.Fdb.MAC)))) rfl rfl rfl (by rw [hb55]; rfl)) ?_))))))
      clear hs a; intro a hs
      exact wpList_nil (n_then ⟨hs.to ⟨rfl, rfl, rfl, rfl, rfl, rfl, rfl, rfl, rfl, rfl, rfl, rfl, rfl, rfl, trivial⟩, m⟩)
     ·have hb55p := hb55; simp only [bp_] at hb55p
      refine so_ hs hb55 (bo_ hb55 (bo_ hb55 (bo_ hb55 (bo_ hb55 (bo_ hb55 (bg_ hb52 m (ok_pick (r := .bool (((ag.opn.Op.Kind.v == 5) && (e35.Host.v != ag.self.Host.v)) && (decide (e35.MAC = ag.opn.Op.Fdb.MAC)))) rfl rfl rfl (by rw [hb55]; rfl)) ?_))))))
      clear hs a; intro a hs
      exact wpList_nil (n_then ⟨hs.to ⟨rfl, rfl, rfl, rfl, rfl, rfl, rfl, rfl, rfl, rfl, rfl, rfl, rfl, rfl, trivial⟩, m⟩)
    clear hs m a w54; rintro a w56 ⟨hs, m⟩
    refine s_ hs m (ok_pick (r := .bool ((((ag.opn.Op.Kind.v == 1) && (decide (e35.Subnet = ag.opn.Op.Route.Dst))) || (((ag.opn.Op.Kind.v == 3) && (e35.Host.v != ag.self.Host.v)) && (e35.Subnet.Addr.v == ag.opn.Op.Neigh.IP.v))) || (((ag.opn.Op.Kind.v == 5) && (e35.Host.v != ag.self.Host.v)) && (decide (e35.MAC = ag.opn.Op.Fdb.MAC))))) rfl rfl rfl (by rw [hb52]; rfl)) ?_
    clear hs a; intro a hs
    exact wpList_nil (n_then ⟨hs.to ⟨rfl, rfl, rfl, rfl, rfl, rfl, rfl, trivial⟩, m⟩)
  clear hs m a w51; rintro a w57 ⟨hs, m⟩
  refine wpList_nil (n_then ?_)
  refine c_cond hs rfl (fun h58 => ?_) (fun h58 => ?_)
  ·have h58p := h58; simp only [bp_] at h58p
   refine c_drawHLast (Hp w0 R [Bx p40 48 (cLease e35), Bx p8 58 (cOp ag.opn.Op), Sv 12 48 x6.v (ag.view.map cLease), Sv 2 138 x2.v ((rulesOf pag x1 : List (List Value)).map id), Sv 4 51 x3.v (ag.Routes.map cRoute), Sv 7 54 x4.v (ag.Neighs.map cNeigh), Sv 7 56 x5.v (ag.Fdbs.map cFdb), Bx x1 63 [.pointer (some (padd pag 0))]]) m mo ?_; clear m w57; intro w59 m
   refine sh_ (i := 0) rfl hs (m.sub (.c r0 (.c r1 (.c r1 (.c r1 (.c r1 (.c r1 (.c r1 (.c r2 .n))))))))) (ok_move rfl) (bh_ (i := 1) rfl (m.sub (.c r0 (.c r1 (.c r1 (.c r1 (.c r1 (.c r1 (.c r1 (.c r2 .n))))))))) (ok_move rfl) (bh_ (i := 2) rfl (m.sub (.c r0 (.c r1 (.c r1 (.c r1 (.c r1 (.c r1 (.c r1 (.c r2 .n))))))))) (ok_nilCheck rfl) (bh_ (i := 3) rfl (m.sub (.c r0 (.c r1 (.c r1 (.c r1 (.c r1 (.c r1 (.c r1 (.c r2 .n))))))))) (ok_fieldAddr (r := 51) rfl fd135_8 ty82 rfl) (bh_ (i := 5) rfl (m.sub (.c r0 (.c r1 (.c r1 (.c r1 (.c r1 (.c r1 (.c r1 (.c r2 .n))))))))) (ok_fieldAddr (r := 1) rfl fd48_1 ty44 rfl) (bh_ (i := 6) rfl (m.sub (.c r0 (.c r1 (.c r1 (.c r1 (.c r1 (.c r1 (.c r1 (.c r2 .n))))))))) (ok_load_ag (vs := cPrefix e35.Subnet) rfl ty44 (bx_at r0) (by kernel_rfl) (by kernel_rfl)) ?_)))))
   clear hs a; intro a hs
   refine h_eff (i := 4) (by kernel_rfl) rfl ?_
   refine s_ hs m (ok_load_sc rfl ty82 (bx_at r1) rfl) ?_
   clear hs a; intro a hs
   refine wpList_nil (n_then ⟨(m.sub (.c r0 (.c r1 (.c r1 (.c r1 (.c r1 (.c r1 (.c r1 (.c r2 .n))))))))), ?_⟩)
   refine h_eff (i := 7) (by kernel_rfl) rfl ?_
   obtain ⟨R1, hR, hR2, ⟨y1, sy, ly⟩, mc, back⟩ := Hp.split (Pc := [Sv 2 44 v30.v ((skipK ag k).map cPrefix)]) (Ps := [Bx p40 48 (cLease e35), Bx pag 135 (cAg ag.self x2.v ag.opn ag.read x3.v x4.v x5.v x6.v ag.cursor ag.stale v30.v true ag.granted ag.waiting ag.wish ag.renewed ag.quiet), Bx p8 58 (cOp ag.opn.Op), Sv 12 48 x6.v (ag.view.map cLease), Sv 2 138 x2.v ((rulesOf pag x1 : List (List Value)).map id), Sv 4 51 x3.v (ag.Routes.map cRoute), Sv 7 54 x4.v (ag.Neighs.map cNeigh), Sv 7 56 x5.v (ag.Fdbs.map cFdb), Bx x1 63 [.pointer (some (padd pag 0))]]) (m.sub (.c r8 (.c r0 (.c r0 (.c r0 (.c r0 (.c r0 (.c r0 (.c r0 (.c r0 (.c r0 .n)))))))))))
   refine r_call hs rfl rfl ca135 rfl (setPrefix_c v30 (skipK ag k) e35.Subnet _ R1  (by omega) mc) rfl ?_
   clear hs a; rintro _ w61 ⟨v60, rfl, hm⟩ a hs
   replace m : Hp w0 R [Sv 2 44 v60.v ((setM cmpPrefix (skipK ag k) e35.Subnet).map cPrefix), Bx p40 48 (cLease e35), Bx pag 135 (cAg ag.self x2.v ag.opn ag.read x3.v x4.v x5.v x6.v ag.cursor ag.stale v30.v true ag.granted ag.waiting ag.wish ag.renewed ag.quiet), Bx p8 58 (cOp ag.opn.Op), Sv 12 48 x6.v (ag.view.map cLease), Sv 2 138 x2.v ((rulesOf pag x1 : List (List Value)).map id), Sv 4 51 x3.v (ag.Routes.map cRoute), Sv 7 54 x4.v (ag.Neighs.map cNeigh), Sv 7 56 x5.v (ag.Fdbs.map cFdb), Bx x1 63 [.pointer (some (padd pag 0))]] w61 := back _ _ hm
   clear hm back mc sy ly hR2 hR y1 R1 w59
   refine wpList_nil (n_then ⟨(m.sub (.c r1 (.c r2 (.c r2 (.c r2 (.c r2 (.c r2 (.c r2 (.c r2 .n))))))))), ?_⟩)
   refine sh_ (i := 8) rfl hs (m.sub (.c r1 (.c r2 (.c r2 (.c r2 (.c r2 (.c r2 (.c r2 (.c r2 .n))))))))) (ok_nilCheck rfl) (bh_ (i := 9) rfl (m.sub (.c r1 (.c r2 (.c r2 (.c r2 (.c r2 (.c r2 (.c r2 (.c r2 .n))))))))) (ok_fieldAddr (r := 51) rfl fd135_8 ty82 rfl) ?_)
   clear hs a; intro a hs
   refine h_eff (i := 10) (by kernel_rfl) rfl ?_
   refine st_ (cAg ag.self x2.v ag.opn ag.read x3.v x4.v x5.v x6.v ag.cursor ag.stale v60.v true ag.granted ag.waiting ag.wish ag.renewed ag.quiet) [v60.v] hs m ty82 s2 ?_
   clear m w61; intro w62 m
   refine wpList_nil (n_then ⟨(m.sub (.c r1 (.c r2 (.c r2 (.c r2 (.c r2 (.c r2 (.c r2 (.c r2 .n))))))))), ?_⟩)
   refine h_done (by kernel_rfl) (n_block (n_then ?_))
   refine c_last ?_
   refine s_ hs m (ok_add (r := (k : Int) + 1) rfl rfl (wrap_i64 (by omega) (by omega))) (b_ m (ok_move rfl) (bn_ ?_))
   clear hs a; intro a hs
   have q63 : setM cmpPrefix (skipK ag k) e35.Subnet = skipK ag (k + 1) := by exact skipK_t (by assumption) (by assumption)
   rw [q63] at m
   exact ⟨ag.view.length - (k + 1), by omega, k + 1, v60, by omega, rfl, hs.to ⟨rfl, rfl, rfl, rfl, rfl, trivial⟩, m.sub (.c r2 (.c r2 (.c r2 (.c r2 (.c r2 (.c r2 (.c r2 (.c r0 (.c r1 .n)))))))))⟩
  have h58p := h58; simp only [bp_] at h58p
  refine wp_skip ?_
  refine n_block (n_then ?_)
  refine c_last ?_
  refine s_ hs m (ok_add (r := (k : Int) + 1) rfl rfl (wrap_i64 (by omega) (by omega))) (b_ m (ok_move rfl) (bn_ ?_))
  clear hs a; intro a hs
  have q64 : skipK ag k = skipK ag (k + 1) := by exact skipK_f (by assumption) (by assumption)
  rw [q64] at m
  exact ⟨ag.view.length - (k + 1), by omega, k + 1, v30, by omega, rfl, hs.to ⟨rfl, rfl, rfl, rfl, rfl, trivial⟩, m.sub (.c r1 (.c r1 (.c r1 (.c r1 (.c r1 (.c r1 (.c r1 (.c r1 (.c r1 .n)))))))))⟩
 have h28p := h28; simp only [bp_] at h28p
 refine wp_skip ?_
 refine n_block (leaveN hs (vs := []) rfl trivial ?_)
 replace m := (m.sub (.c r1 (.c r1 (.c r1 (.c r1 (.c r1 (.c r1 (.c r1 (.c r1 (.c r0 .n)))))))))).closeAg (p := pag) (A := ag)
 have q65 : ag = changedA ag er := by clear hs m; exact changed_n (by assumption) (by assumption)
 rw [q65] at m
 refine ⟨_, rfl, ?_, m.sub (.c r0 .n)⟩
 rfl
theorem leased_c (pag : Addr) (ag : AgM) (r_Err : Fx .i64) (r_Answer : TAnswer) (r_Snap_Rev : Fx .i64) (r_Snap_Now : Fx .i64) (vr_Snap_Leases : SH) (r_Snap_Leases : List TLease) (vr_Events : SH) (r_Events : List TEvent) (vr_Tables_Routes : SH) (r_Tables_Routes : List TRoute) (vr_Tables_Neighs : SH) (r_Tables_Neighs : List TNeigh) (vr_Tables_Fdbs : SH) (r_Tables_Fdbs : List TFdb) (w0 : World) (R : Hh) (hr_Snap_Leases : RdS R 12 vr_Snap_Leases.v (r_Snap_Leases.map cLease)) (hr_Events : RdS R 14 vr_Events.v (r_Events.map cEvent)) (hr_Tables_Routes : RdS R 4 vr_Tables_Routes.v (r_Tables_Routes.map cRoute)) (hr_Tables_Neighs : RdS R 7 vr_Tables_Neighs.v (r_Tables_Neighs.map cNeigh)) (hr_Tables_Fdbs : RdS R 7 vr_Tables_Fdbs.v (r_Tables_Fdbs.map cFdb)) (m : Hp w0 R [AgP pag ag] w0) : Calls Tryz.prog 89 ⟨[.pointer (some (padd pag 0)), .agg ⟨cRe r_Err r_Answer r_Snap_Rev r_Snap_Now vr_Snap_Leases.v vr_Events.v vr_Tables_Routes.v vr_Tables_Neighs.v vr_Tables_Fdbs.v⟩]⟩ w0 fun e w' => ∃ v, e = .returned v ∧ (v = (.int .i64 (leasedE ag r_Err.v r_Answer.Lease)) ∧ Hp w0 R [AgP pag (leasedA ag r_Err.v r_Answer.Lease)] w') := by
 have hol := ownI_lt (h := ag.self.Host.v) (l := ag.view)
 have lvr_Snap_Leases := hr_Snap_Leases.bd
 have lvr_Events := hr_Events.bd
 have lvr_Tables_Routes := hr_Tables_Routes.bd
 have lvr_Tables_Neighs := hr_Tables_Neighs.bd
 have lvr_Tables_Fdbs := hr_Tables_Fdbs.bd
 refine enter (n := 94) Tryz.func89 rfl rfl rfl fun a (hs : St 94 [(0, .pointer (some (padd pag 0))), (1, .agg ⟨cRe r_Err r_Answer r_Snap_Rev r_Snap_Now vr_Snap_Leases.v vr_Events.v vr_Tables_Routes.v vr_Tables_Neighs.v vr_Tables_Fdbs.v⟩)] a) => ?_
 have mo := m.openAg r0
 clear m; obtain ⟨x1, x2, x3, x4, x5, x6, x7, m⟩ := mo
 refine c_reg ?_
 refine r_box (cs := cRe r_Err r_Answer r_Snap_Rev r_Snap_Now vr_Snap_Leases.v vr_Events.v vr_Tables_Routes.v vr_Tables_Neighs.v vr_Tables_Fdbs.v) hs m rfl (by kernel_rfl) rfl ?_
 clear m hs a; intro p8 w9 m a hs
 refine s_ hs m (ok_assign rfl) (bn_ (bc_ (b_ m (ok_move rfl) (b_ m (ok_nilCheck rfl) (b_ m (ok_fieldAddr (r := 10) rfl fd135_2 ty89 rfl) (b_ m (ok_fieldAddr (r := 10) rfl fd89_0 ty3 rfl) (b_ m (ok_load_sc rfl ty3 (bx_at r1) rfl) (b_ m (ok_bin rfl rfl rfl) (b_ m (ok_assign rfl) (bn_ (bc_ ?_)))))))))))
 clear hs a; intro a hs
 refine s_ hs m (ok_fieldAddr (r := 1) rfl fd77_1 ty72 rfl) (b_ m (ok_fieldAddr (r := 2) rfl fd72_1 ty48 rfl) (b_ m (ok_load_ag (vs := cLease r_Answer.Lease) rfl ty48 (bx_at r0) (by kernel_rfl) (by kernel_rfl)) ?_))
 clear hs a; intro a hs
 refine r_alloc hs m ze48 rfl ?_
 clear m hs a w9; intro p10 w11 m a hs
 refine st_ (cLease r_Answer.Lease) (cLease r_Answer.Lease) hs m ty48 s0 ?_
 clear m w11; intro w12 m
 refine wpList_nil (n_then ?_)
 refine c_seq ?_
 refine wp_block ?_
 refine c_reg ?_
 refine s_ hs m (ok_fieldAddr (r := 0) rfl fd77_0 ty36 rfl) (b_ m (ok_load_sc rfl ty36 (bx_at r1) rfl) (b_ m (ok_bin rfl rfl rfl) (b_ m (ok_move rfl) ?_)))
 clear hs a; intro a hs
 refine l_cut (.c (.c (.n))) (fun a w => St 94 [(0, .pointer (some (padd pag 0))), (3, .pointer (some (padd p8 0))), (5, .bool (ag.opn.Kind.v == 4)), (6, .pointer (some (padd p10 0))), (60, .bool ((r_Err.v == 4) && (ag.opn.Kind.v == 4)))] a ∧ Hp w0 R [Bx p10 48 (cLease r_Answer.Lease), Bx p8 77 (cRe r_Err r_Answer r_Snap_Rev r_Snap_Now vr_Snap_Leases.v vr_Events.v vr_Tables_Routes.v vr_Tables_Neighs.v vr_Tables_Fdbs.v), Bx pag 135 (cAg ag.self x2.v ag.opn ag.read x3.v x4.v x5.v x6.v ag.cursor ag.stale x7.v ag.degraded ag.granted ag.waiting ag.wish ag.renewed ag.quiet), Bx x1 63 [.pointer (some (padd pag 0))], Sv 2 138 x2.v ((rulesOf pag x1 : List (List Value)).map id), Sv 4 51 x3.v (ag.Routes.map cRoute), Sv 7 54 x4.v (ag.Neighs.map cNeigh), Sv 7 56 x5.v (ag.Fdbs.map cFdb), Sv 12 48 x6.v (ag.view.map cLease), Sv 2 44 x7.v (ag.skipped.map cPrefix)] w) ?_ ?_
 ·rcases Bool.eq_false_or_eq_true (r_Err.v == 4) with hb13 | hb13
  ·have hb13p := eq_of_beq hb13
   refine sg_ hs hb13 m (ok_move rfl) (b_ m (ok_pick (r := .bool ((r_Err.v == 4) && (ag.opn.Kind.v == 4))) rfl rfl rfl (by rw [hb13]; rfl)) ?_)
   clear hs a; intro a hs
   exact wpList_nil (n_then ⟨hs.to ⟨rfl, rfl, rfl, rfl, rfl, trivial⟩, m⟩)
  ·have hb13p := ne_of_beq_false hb13
   refine so_ hs hb13 (b_ m (ok_pick (r := .bool ((r_Err.v == 4) && (ag.opn.Kind.v == 4))) rfl rfl rfl (by rw [hb13]; rfl)) ?_)
   clear hs a; intro a hs
   exact wpList_nil (n_then ⟨hs.to ⟨rfl, rfl, rfl, rfl, rfl, trivial⟩, m⟩)
 clear hs m a w12; rintro a w14 ⟨hs, m⟩
 refine s_ hs m (ok_assign rfl) (bn_ ?_)
 clear hs a; intro a hs
 refine c_cond hs rfl (fun h15 => ?_) (fun h15 => ?_)
 ·have h15p := h15; simp only [bp_] at h15p
  refine c_last ?_
  refine s_ hs m (ok_move rfl) (b_ m (ok_nilCheck rfl) (b_ m (ok_fieldAddr (r := 54) rfl fd135_11 ty4 rfl) ?_))
  clear hs a; intro a hs
  refine st_ (cAg ag.self x2.v ag.opn ag.read x3.v x4.v x5.v x6.v ag.cursor ag.stale x7.v ag.degraded ag.granted true ag.wish ag.renewed ag.quiet) [.bool true] hs m ty4 s2 ?_
  clear m w14; intro w16 m
  refine wpList_nil (n_block (n_then ?_))
  refine c_reg ?_
  refine s_ hs m (ok_assign rfl) (bn_ ?_)
  clear hs a; intro a hs
  refine wp_ret ?_
  refine leave hs (vs := [.int .i64 0]) rfl ⟨rfl, trivial⟩ ?_
  replace m := (m.sub (.c r2 (.c r2 (.c r2 (.c r2 (.c r2 (.c r2 (.c r2 (.c r2 (.c r0 (.c r0 .n))))))))))).closeAg (p := pag) (A := ({ ag with waiting := true } : AgM))
  have q17 : ({ ag with waiting := true } : AgM) = leasedA ag r_Err.v r_Answer.Lease := by clear hs m; exact (leased_1 (by assumption)).2
  rw [q17] at m
  refine ⟨_, rfl, ?_, m.sub (.c r0 .n)⟩
  have q18 : (0 : Int) = leasedE ag r_Err.v r_Answer.Lease := by clear hs m; exact (leased_1 (by assumption)).1
  (rw [q18]; rfl)
 have h15p := h15; simp only [bp_] at h15p
 refine c_reg ?_
 refine s_ hs m (ok_fieldAddr (r := 0) rfl fd77_0 ty36 rfl) (b_ m (ok_load_sc rfl ty36 (bx_at r1) rfl) (b_ m (ok_bin rfl rfl rfl) (b_ m (ok_move rfl) ?_)))
 clear hs a; intro a hs
 refine l_cut (.c (.c (.c (.n)))) (fun a w => St 94 [(0, .pointer (some (padd pag 0))), (3, .pointer (some (padd p8 0))), (5, .bool (ag.opn.Kind.v == 4)), (6, .pointer (some (padd p10 0))), (71, .bool ((r_Err.v == 111) && (!(ag.opn.Kind.v == 4))))] a ∧ Hp w0 R [Bx p10 48 (cLease r_Answer.Lease), Bx p8 77 (cRe r_Err r_Answer r_Snap_Rev r_Snap_Now vr_Snap_Leases.v vr_Events.v vr_Tables_Routes.v vr_Tables_Neighs.v vr_Tables_Fdbs.v), Bx pag 135 (cAg ag.self x2.v ag.opn ag.read x3.v x4.v x5.v x6.v ag.cursor ag.stale x7.v ag.degraded ag.granted ag.waiting ag.wish ag.renewed ag.quiet), Bx x1 63 [.pointer (some (padd pag 0))], Sv 2 138 x2.v ((rulesOf pag x1 : List (List Value)).map id), Sv 4 51 x3.v (ag.Routes.map cRoute), Sv 7 54 x4.v (ag.Neighs.map cNeigh), Sv 7 56 x5.v (ag.Fdbs.map cFdb), Sv 12 48 x6.v (ag.view.map cLease), Sv 2 44 x7.v (ag.skipped.map cPrefix)] w) ?_ ?_
 ·rcases Bool.eq_false_or_eq_true (r_Err.v == 111) with hb19 | hb19
  ·have hb19p := eq_of_beq hb19
   refine sg_ hs hb19 m (ok_move rfl) (bg_ hb19 m (ok_not rfl) (b_ m (ok_pick (r := .bool ((r_Err.v == 111) && (!(ag.opn.Kind.v == 4)))) rfl rfl rfl (by rw [hb19]; rfl)) ?_))
   clear hs a; intro a hs
   exact wpList_nil (n_then ⟨hs.to ⟨rfl, rfl, rfl, rfl, rfl, trivial⟩, m⟩)
  ·have hb19p := ne_of_beq_false hb19
   refine so_ hs hb19 (bo_ hb19 (b_ m (ok_pick (r := .bool ((r_Err.v == 111) && (!(ag.opn.Kind.v == 4)))) rfl rfl rfl (by rw [hb19]; rfl)) ?_))
   clear hs a; intro a hs
   exact wpList_nil (n_then ⟨hs.to ⟨rfl, rfl, rfl, rfl, rfl, trivial⟩, m⟩)
 clear hs m a w14; rintro a w20 ⟨hs, m⟩
 refine s_ hs m (ok_assign rfl) (bn_ ?_)
 clear hs a; intro a hs
 refine c_cond hs rfl (fun h21 => ?_) (fun h21 => ?_)
 ·have h21p := h21; simp only [bp_] at h21p
  refine c_last ?_
  refine s_ hs m (ok_move rfl) (b_ m (ok_nilCheck rfl) (b_ m (ok_fieldAddr (r := 50) rfl fd135_7 ty4 rfl) ?_))
  clear hs a; intro a hs
  refine st_ (cAg ag.self x2.v ag.opn ag.read x3.v x4.v x5.v x6.v ag.cursor true x7.v ag.degraded ag.granted ag.waiting ag.wish ag.renewed ag.quiet) [.bool true] hs m ty4 s2 ?_
  clear m w20; intro w22 m
  refine wpList_nil (n_block (n_then ?_))
  refine c_reg ?_
  refine s_ hs m (ok_assign rfl) (bn_ ?_)
  clear hs a; intro a hs
  refine wp_ret ?_
  refine leave hs (vs := [.int .i64 0]) rfl ⟨rfl, trivial⟩ ?_
  replace m := (m.sub (.c r2 (.c r2 (.c r2 (.c r2 (.c r2 (.c r2 (.c r2 (.c r2 (.c r0 (.c r0 .n))))))))))).closeAg (p := pag) (A := ({ ag with stale := true } : AgM))
  have q23 : ({ ag with stale := true } : AgM) = leasedA ag r_Err.v r_Answer.Lease := by clear hs m; exact (leased_2 (by assumption) (by assumption)).2
  rw [q23] at m
  refine ⟨_, rfl, ?_, m.sub (.c r0 .n)⟩
  have q24 : (0 : Int) = leasedE ag r_Err.v r_Answer.Lease := by clear hs m; exact (leased_2 (by assumption) (by assumption)).1
  (rw [q24]; rfl)
 have h21p := h21; simp only [bp_] at h21p
 refine c_reg ?_
 refine s_ hs m (ok_fieldAddr (r := 0) rfl fd77_0 ty36 rfl) (b_ m (ok_load_sc rfl ty36 (bx_at r1) rfl) (b_ m (ok_bin rfl rfl rfl) (b_ m (ok_assign rfl) (bn_ ?_))))
 clear hs a; intro a hs
 refine c_cond hs rfl (fun h25 => ?_) (fun h25 => ?_)
 ·have h25p := ne_of_bne h25
  refine wp_skip ?_
  refine n_block (n_then ?_)
  refine c_reg ?_
  refine s_ hs m (ok_assign rfl) (bn_ ?_)
  clear hs a; intro a hs
  refine wp_ret ?_
  refine leave hs (vs := [.int .i64 0]) rfl ⟨rfl, trivial⟩ ?_
  replace m := (m.sub (.c r2 (.c r2 (.c r2 (.c r2 (.c r2 (.c r2 (.c r2 (.c r2 (.c r0 (.c r0 .n))))))))))).closeAg (p := pag) (A := ag)
  have q26 : ag = leasedA ag r_Err.v r_Answer.Lease := by clear hs m; exact (leased_3 (by assumption) (by assumption) (by assumption)).2
  rw [q26] at m
  refine ⟨_, rfl, ?_, m.sub (.c r0 .n)⟩
  have q27 : (0 : Int) = leasedE ag r_Err.v r_Answer.Lease := by clear hs m; exact (leased_3 (by assumption) (by assumption) (by assumption)).1
  (rw [q27]; rfl)
 have h25p := eq_of_bne_false h25
 refine c_draw m mo (by kernel_rfl) ?_
 refine sq_ hs (ok_fieldAddr (r := 0) rfl fd48_0 ty3 rfl) (bq_ (ok_load_sc rfl ty3 (bx_at r0) rfl) (bq_ (ok_move rfl) (bq_ (ok_nilCheck rfl) (bq_ (ok_fieldAddr (r := 0) rfl fd135_0 ty61 rfl) (bq_ (ok_fieldAddr (r := 0) rfl fd61_0 ty3 rfl) (bq_ (ok_load_sc rfl ty3 (bx_at r2) rfl) (bq_ (ok_bin rfl rfl rfl) (bq_ (ok_move rfl) ?_))))))))
 clear hs a; intro a hs
 refine q_cut (.c (.c (.c (.c (.c (.n)))))) (fun a => St 94 [(0, .pointer (some (padd pag 0))), (5, .bool (ag.opn.Kind.v == 4)), (6, .pointer (some (padd p10 0))), (93, .bool ((r_Answer.Lease.Host.v != ag.self.Host.v) || (!(validM r_Answer.Lease.Subnet))))] a) ?_ ?_
 ·rcases Bool.eq_false_or_eq_true (r_Answer.Lease.Host.v != ag.self.Host.v) with hb28 | hb28
  ·have hb28p := ne_of_bne hb28
   refine q_out hs rfl rfl hb28 rfl ?_
   clear hs a; intro a hs
   refine q_out hs rfl rfl hb28 rfl ?_
   clear hs a; intro a hs
   refine q_out hs rfl rfl hb28 rfl ?_
   clear hs a; intro a hs
   refine q_out hs rfl rfl hb28 rfl ?_
   clear hs a; intro a hs
   refine sq_ hs (ok_pick (r := .bool ((r_Answer.Lease.Host.v != ag.self.Host.v) || (!(validM r_Answer.Lease.Subnet)))) rfl rfl rfl (by rw [hb28]; rfl)) ?_
   clear hs a; intro a hs
   exact wpQuiet_nil (hs.to ⟨rfl, rfl, rfl, rfl, trivial⟩)
  ·have hb28p := eq_of_bne_false hb28
   refine q_okg hs rfl rfl hb28 (ok_fieldAddr (r := 1) rfl fd48_1 ty44 rfl) rfl ?_
   clear hs a; intro a hs
   refine q_okg hs rfl rfl hb28 (ok_load_ag (vs := cPrefix r_Answer.Lease.Subnet) rfl ty44 (bx_at r0) (by kernel_rfl) (by kernel_rfl)) rfl ?_
   clear hs a; intro a hs
   refine q_callPg hs rfl rfl hb28 rfl rfl ca43 rfl (fun w m => valid_c r_Answer.Lease.Subnet w  ) rfl ?_
   clear hs a; intro a hs
   refine q_okg hs rfl rfl hb28 (ok_not rfl) rfl ?_
   clear hs a; intro a hs
   refine sq_ hs (ok_pick (r := .bool ((r_Answer.Lease.Host.v != ag.self.Host.v) || (!(validM r_Answer.Lease.Subnet)))) rfl rfl rfl (by rw [hb28]; rfl)) ?_
   clear hs a; intro a hs
   exact wpQuiet_nil (hs.to ⟨rfl, rfl, rfl, rfl, trivial⟩)
 clear hs a; intro a hs
 refine sq_ hs (ok_assign rfl) ?_
 clear hs a; intro a hs
 refine wpQuiet_nil ?_; clear m w20; intro w29 m
 refine c_cond hs rfl (fun h30 => ?_) (fun h30 => ?_)
 ·have h30p := h30; simp only [bp_] at h30p
  refine c_reg ?_
  refine s_ hs m (ok_assign rfl) (bn_ ?_)
  clear hs a; intro a hs
  refine wp_ret ?_
  refine ret_block (ret_then (leave hs (vs := [.int .i64 162]) rfl ⟨rfl, trivial⟩ ?_))
  replace m := (m.sub (.c r2 (.c r2 (.c r2 (.c r2 (.c r2 (.c r2 (.c r2 (.c r2 (.c r0 (.c r0 .n))))))))))).closeAg (p := pag) (A := ag)
  have q31 : ag = leasedA ag r_Err.v r_Answer.Lease := by clear hs m; exact (leased_4 (by assumption) (by assumption) (by omega) (by assumption)).2
  rw [q31] at m
  refine ⟨_, rfl, ?_, m.sub (.c r0 .n)⟩
  have q32 : (162 : Int) = leasedE ag r_Err.v r_Answer.Lease := by clear hs m; exact (leased_4 (by assumption) (by assumption) (by omega) (by assumption)).1
  (rw [q32]; rfl)
 have h30p := h30; simp only [bp_] at h30p
 refine c_seq ?_
 refine c_reg ?_
 refine s_ hs m (ok_move rfl) ?_
 clear hs a; intro a hs
 refine r_callP hs m rfl rfl ca84 rfl (own_c pag ag _ ⟨x1, x2, x3, x4, x5, x6, x7, (bx_at r2 _ m), (bx_at r3 _ m), (m.rdv r4), (m.rdv r5), (m.rdv r6), (m.rdv r7), (m.rdv r8), (m.rdv r9)⟩ ) rfl ?_
 clear m hs a w29; intro w33 m a hs
 refine s_ hs m (ok_assign rfl) (bn_ ?_)
 clear hs a; intro a hs
 refine c_draw m mo (by kernel_rfl) ?_
 refine sq_ hs (ok_move rfl) (bq_ (ok_bin rfl rfl rfl) (bq_ (ok_move rfl) ?_))
 clear hs a; intro a hs
 rcases Bool.eq_false_or_eq_true (decide ((ownI ag.self.Host.v ag.view) ≥ 0)) with hb34 | hb34
 ·have hb34p := of_decide_eq_true hb34
  refine q_okg hs rfl rfl hb34 (ok_move rfl) rfl ?_
  clear hs a; intro a hs
  refine q_okg hs rfl rfl hb34 (ok_nilCheck rfl) rfl ?_
  clear hs a; intro a hs
  refine q_okg hs rfl rfl hb34 (ok_fieldAddr (r := 48) rfl fd135_5 ty22 rfl) rfl ?_
  clear hs a; intro a hs
  refine q_okg hs rfl rfl hb34 (ok_load_sc rfl ty22 (bx_at r2) rfl) rfl ?_
  clear hs a; intro a hs
  refine q_okg hs rfl rfl hb34 (ok_move rfl) rfl ?_
  clear hs a; intro a hs
  obtain ⟨e35, he36⟩ := get_of_lt (l := ag.view) (i := (ownI ag.self.Host.v ag.view).toNat) (by omega)
  refine elO (c := cLease) (e := e35) hs m (x := (.tmp 25)) (ix := (.tmp 26)) rfl rfl sl22 ty48 r8 (by omega) he36 fun p37 hp38 ok39 => ?_
  refine q_okg hs rfl rfl hb34 (ok39 _ _ _ _ _) rfl ?_
  clear hs a; intro a hs
  refine q_okg hs rfl rfl hb34 (ok_fieldAddr (r := 1) rfl fd48_1 ty44 rfl) rfl ?_
  clear hs a; intro a hs
  refine q_okg hs rfl rfl hb34 (ok_load_ag (vs := cPrefix e35.Subnet) rfl ty44 (el_at hp38 r8 (get_map _ he36)) (by kernel_rfl) (by kernel_rfl)) rfl ?_
  clear hs a; intro a hs
  refine q_okg hs rfl rfl hb34 (ok_fieldAddr (r := 1) rfl fd48_1 ty44 rfl) rfl ?_
  clear hs a; intro a hs
  refine q_okg hs rfl rfl hb34 (ok_load_ag (vs := cPrefix r_Answer.Lease.Subnet) rfl ty44 (bx_at r0) (by kernel_rfl) (by kernel_rfl)) rfl ?_
  clear hs a; intro a hs
  refine q_okg hs rfl rfl hb34 (ok_eqv (b := decide (e35.Subnet = r_Answer.Lease.Subnet)) rfl rfl eqT44 (fPrefix _) (fPrefix _) (iPrefix e35.Subnet r_Answer.Lease.Subnet)) rfl ?_
  clear hs a; intro a hs
  refine sq_ hs (ok_pick (r := .bool (decide (e35.Subnet = r_Answer.Lease.Subnet))) rfl rfl rfl (by rw [hb34]; rfl)) ?_
  clear hs a; intro a hs
  refine wpQuiet_nil ?_; clear m w33; intro w40 m
  refine c_cond hs rfl (fun h41 => ?_) (fun h41 => ?_)
  ·have h41p := of_decide_eq_true h41
   refine c_drawHLast (Hp w0 R [Bx p10 48 (cLease r_Answer.Lease), Bx p8 77 (cRe r_Err r_Answer r_Snap_Rev r_Snap_Now vr_Snap_Leases.v vr_Events.v vr_Tables_Routes.v vr_Tables_Neighs.v vr_Tables_Fdbs.v), Bx pag 135 (cAg ag.self x2.v ag.opn ag.read x3.v x4.v x5.v x6.v ag.cursor ag.stale x7.v ag.degraded ag.granted ag.waiting ag.wish ag.renewed ag.quiet), Bx x1 63 [.pointer (some (padd pag 0))], Sv 2 138 x2.v ((rulesOf pag x1 : List (List Value)).map id), Sv 4 51 x3.v (ag.Routes.map cRoute), Sv 7 54 x4.v (ag.Neighs.map cNeigh), Sv 7 56 x5.v (ag.Fdbs.map cFdb), Sv 2 44 x7.v (ag.skipped.map cPrefix)]) m mo ?_; clear m w40; intro w42 m
   refine sh_ (i := 0) rfl hs (m.sub (.c r0 (.c r0 (.c r0 (.c r0 (.c r0 (.c r0 (.c r0 (.c r0 (.c r1 .n)))))))))) (ok_move rfl) (bh_ (i := 1) rfl (m.sub (.c r0 (.c r0 (.c r0 (.c r0 (.c r0 (.c r0 (.c r0 (.c r0 (.c r1 .n)))))))))) (ok_nilCheck rfl) (bh_ (i := 2) rfl (m.sub (.c r0 (.c r0 (.c r0 (.c r0 (.c r0 (.c r0 (.c r0 (.c r0 (.c r1 .n)))))))))) (ok_fieldAddr (r := 48) rfl fd135_5 ty22 rfl) (bh_ (i := 3) rfl (m.sub (.c r0 (.c r0 (.c r0 (.c r0 (.c r0 (.c r0 (.c r0 (.c r0 (.c r1 .n)))))))))) (ok_load_sc rfl ty22 (bx_at r2) rfl) (bh_ (i := 4) rfl (m.sub (.c r0 (.c r0 (.c r0 (.c r0 (.c r0 (.c r0 (.c r0 (.c r0 (.c r1 .n)))))))))) (ok_move rfl) (bh_ (i := 5) rfl (m.sub (.c r0 (.c r0 (.c r0 (.c r0 (.c r0 (.c r0 (.c r0 (.c r0 (.c r1 .n)))))))))) (ok_fieldAddr (r := 10) rfl fd48_4 ty2 rfl) (bh_ (i := 6) rfl (m.sub (.c r0 (.c r0 (.c r0 (.c r0 (.c r0 (.c r0 (.c r0 (.c r0 (.c r1 .n)))))))))) (ok_load_sc rfl ty2 (bx_at r0) rfl) ?_))))))
   clear hs a; intro a hs
   refine h_eff (i := 7) (by kernel_rfl) rfl ?_
   refine elO (c := cLease) (e := e35) hs m (x := (.tmp 37)) (ix := (.tmp 38)) rfl rfl sl22 ty48 r8 (by omega) he36 fun p43 hp44 ok45 => ?_
   refine s_ hs m (ok45 _ _ _ _ _) ?_
   clear hs a; intro a hs
   refine wpList_nil (n_then ⟨(m.sub (.c r0 (.c r0 (.c r0 (.c r0 (.c r0 (.c r0 (.c r0 (.c r0 (.c r1 .n)))))))))), ?_⟩)
   refine sh_ (i := 8) rfl hs (m.sub (.c r0 (.c r0 (.c r0 (.c r0 (.c r0 (.c r0 (.c r0 (.c r0 (.c r1 .n)))))))))) (ok_fieldAddr (r := 10) rfl fd48_4 ty2 rfl) ?_
   clear hs a; intro a hs
   refine h_eff (i := 9) (by kernel_rfl) rfl ?_
   refine r_storeEl (c := cLease) (e' := (⟨e35.Host, e35.Subnet, e35.Pub, e35.MAC, r_Answer.Lease.Until, e35.Rev⟩ : TLease)) (vs := [.int .i64 r_Answer.Lease.Until.v]) hs m rfl rfl r8 hp44 he36 ty2 rfl rfl rfl rfl rfl ?_
   clear m w42; intro w46 m
   replace m : Hp w0 R [Sv 12 48 x6.v ((ag.view.set ((ownI ag.self.Host.v ag.view).toNat) (⟨e35.Host, e35.Subnet, e35.Pub, e35.MAC, r_Answer.Lease.Until, e35.Rev⟩ : TLease)).map cLease), Bx p10 48 (cLease r_Answer.Lease), Bx p8 77 (cRe r_Err r_Answer r_Snap_Rev r_Snap_Now vr_Snap_Leases.v vr_Events.v vr_Tables_Routes.v vr_Tables_Neighs.v vr_Tables_Fdbs.v), Bx pag 135 (cAg ag.self x2.v ag.opn ag.read x3.v x4.v x5.v x6.v ag.cursor ag.stale x7.v ag.degraded ag.granted ag.waiting ag.wish ag.renewed ag.quiet), Bx x1 63 [.pointer (some (padd pag 0))], Sv 2 138 x2.v ((rulesOf pag x1 : List (List Value)).map id), Sv 4 51 x3.v (ag.Routes.map cRoute), Sv 7 54 x4.v (ag.Neighs.map cNeigh), Sv 7 56 x5.v (ag.Fdbs.map cFdb), Sv 2 44 x7.v (ag.skipped.map cPrefix)] w46 := m
   refine wpList_nil (n_then ⟨(m.sub (.c r1 (.c r1 (.c r1 (.c r1 (.c r1 (.c r1 (.c r1 (.c r1 (.c r1 .n)))))))))), ?_⟩)
   refine h_done (by kernel_rfl) (n_then ?_)
   refine c_reg ?_
   refine s_ hs m (ok_move rfl) (bn_ ?_)
   clear hs a; intro a hs
   refine c_cond hs rfl (fun h47 => ?_) (fun h47 => ?_)
   ·have h47p := eq_of_beq h47
    refine c_drawHLast (Hp w0 R [Sv 12 48 x6.v ((ag.view.set ((ownI ag.self.Host.v ag.view).toNat) (⟨e35.Host, e35.Subnet, e35.Pub, e35.MAC, r_Answer.Lease.Until, e35.Rev⟩ : TLease)).map cLease), Bx p10 48 (cLease r_Answer.Lease), Bx p8 77 (cRe r_Err r_Answer r_Snap_Rev r_Snap_Now vr_Snap_Leases.v vr_Events.v vr_Tables_Routes.v vr_Tables_Neighs.v vr_Tables_Fdbs.v), Bx x1 63 [.pointer (some (padd pag 0))], Sv 2 138 x2.v ((rulesOf pag x1 : List (List Value)).map id), Sv 4 51 x3.v (ag.Routes.map cRoute), Sv 7 54 x4.v (ag.Neighs.map cNeigh), Sv 7 56 x5.v (ag.Fdbs.map cFdb), Sv 2 44 x7.v (ag.skipped.map cPrefix)]) m mo ?_; clear m w46; intro w48 m
    refine sh_ (i := 0) rfl hs (m.sub (.c r0 (.c r0 (.c r0 (.c r1 (.c r1 (.c r1 (.c r1 (.c r1 (.c r1 .n)))))))))) (ok_move rfl) (bh_ (i := 1) rfl (m.sub (.c r0 (.c r0 (.c r0 (.c r1 (.c r1 (.c r1 (.c r1 (.c r1 (.c r1 .n)))))))))) (ok_move rfl) (bh_ (i := 2) rfl (m.sub (.c r0 (.c r0 (.c r0 (.c r1 (.c r1 (.c r1 (.c r1 (.c r1 (.c r1 .n)))))))))) (ok_fieldAddr (r := 11) rfl fd48_5 ty2 rfl) (bh_ (i := 3) rfl (m.sub (.c r0 (.c r0 (.c r0 (.c r1 (.c r1 (.c r1 (.c r1 (.c r1 (.c r1 .n)))))))))) (ok_load_sc rfl ty2 (bx_at r1) rfl) (bh_ (i := 4) rfl (m.sub (.c r0 (.c r0 (.c r0 (.c r1 (.c r1 (.c r1 (.c r1 (.c r1 (.c r1 .n)))))))))) (ok_fieldAddr (r := 1) rfl fd48_1 ty44 rfl) (bh_ (i := 5) rfl (m.sub (.c r0 (.c r0 (.c r0 (.c r1 (.c r1 (.c r1 (.c r1 (.c r1 (.c r1 .n)))))))))) (ok_load_ag (vs := cPrefix r_Answer.Lease.Subnet) rfl ty44 (bx_at r1) (by kernel_rfl) (by kernel_rfl)) (bh_ (i := 6) rfl (m.sub (.c r0 (.c r0 (.c r0 (.c r1 (.c r1 (.c r1 (.c r1 (.c r1 (.c r1 .n)))))))))) (ok_nilCheck rfl) (bh_ (i := 7) rfl (m.sub (.c r0 (.c r0 (.c r0 (.c r1 (.c r1 (.c r1 (.c r1 (.c r1 (.c r1 .n)))))))))) (ok_fieldAddr (r := 53) rfl fd135_10 ty2 rfl) ?_)))))))
    clear hs a; intro a hs
    refine h_eff (i := 8) (by kernel_rfl) rfl ?_
    refine st_ (cAg ag.self x2.v ag.opn ag.read x3.v x4.v x5.v x6.v ag.cursor ag.stale x7.v ag.degraded r_Answer.Lease.Rev ag.waiting ag.wish ag.renewed ag.quiet) [.int .i64 r_Answer.Lease.Rev.v] hs m ty2 s3 ?_
    clear m w48; intro w49 m
    refine wpList_nil (n_then ⟨(m.sub (.c r0 (.c r0 (.c r0 (.c r1 (.c r1 (.c r1 (.c r1 (.c r1 (.c r1 .n)))))))))), ?_⟩)
    refine sh_ (i := 9) rfl hs (m.sub (.c r0 (.c r0 (.c r0 (.c r1 (.c r1 (.c r1 (.c r1 (.c r1 (.c r1 .n)))))))))) (ok_nilCheck rfl) (bh_ (i := 10) rfl (m.sub (.c r0 (.c r0 (.c r0 (.c r1 (.c r1 (.c r1 (.c r1 (.c r1 (.c r1 .n)))))))))) (ok_fieldAddr (r := 55) rfl fd135_12 ty44 rfl) ?_)
    clear hs a; intro a hs
    refine h_eff (i := 11) (by kernel_rfl) rfl ?_
    refine st_ (cAg ag.self x2.v ag.opn ag.read x3.v x4.v x5.v x6.v ag.cursor ag.stale x7.v ag.degraded r_Answer.Lease.Rev ag.waiting r_Answer.Lease.Subnet ag.renewed ag.quiet) (cPrefix r_Answer.Lease.Subnet) hs m ty44 s3 ?_
    clear m w49; intro w50 m
    refine wpList_nil (n_then ⟨(m.sub (.c r0 (.c r0 (.c r0 (.c r1 (.c r1 (.c r1 (.c r1 (.c r1 (.c r1 .n)))))))))), ?_⟩)
    refine h_done (by kernel_rfl) (n_block (n_then ?_))
    refine c_reg ?_
    refine s_ hs m (ok_assign rfl) (bn_ ?_)
    clear hs a; intro a hs
    refine wp_ret ?_
    refine leave hs (vs := [.int .i64 0]) rfl ⟨rfl, trivial⟩ ?_
    replace m := (m.sub (.c r3 (.c r3 (.c r3 (.c r3 (.c r3 (.c r3 (.c r0 (.c r2 (.c r0 (.c r0 .n))))))))))).closeAg (p := pag) (A := ({ ag with view := (ag.view.set ((ownI ag.self.Host.v ag.view).toNat) (⟨e35.Host, e35.Subnet, e35.Pub, e35.MAC, r_Answer.Lease.Until, e35.Rev⟩ : TLease)), granted := r_Answer.Lease.Rev, wish := r_Answer.Lease.Subnet } : AgM))
    have q51 : ({ ag with view := (ag.view.set ((ownI ag.self.Host.v ag.view).toNat) (⟨e35.Host, e35.Subnet, e35.Pub, e35.MAC, r_Answer.Lease.Until, e35.Rev⟩ : TLease)), granted := r_Answer.Lease.Rev, wish := r_Answer.Lease.Subnet } : AgM) = leasedA ag r_Err.v r_Answer.Lease := by clear hs m; exact (leased_5 (by assumption) (by assumption) (by omega) (by assumption) (lv_t (by omega) (by assumption) (by assumption)) (by assumption)).2
    rw [q51] at m
    refine ⟨_, rfl, ?_, m.sub (.c r0 .n)⟩
    have q52 : (0 : Int) = leasedE ag r_Err.v r_Answer.Lease := by clear hs m; exact (leased_5 (by assumption) (by assumption) (by omega) (by assumption) (lv_t (by omega) (by assumption) (by assumption)) (by assumption)).1
    (rw [q52]; rfl)
   have h47p := ne_of_beq_false h47
   refine wp_skip ?_
   refine n_block (n_then ?_)
   refine c_reg ?_
   refine s_ hs m (ok_assign rfl) (bn_ ?_)
   clear hs a; intro a hs
   refine wp_ret ?_
   refine leave hs (vs := [.int .i64 0]) rfl ⟨rfl, trivial⟩ ?_
   replace m := (m.sub (.c r3 (.c r3 (.c r3 (.c r3 (.c r3 (.c r3 (.c r0 (.c r2 (.c r0 (.c r0 .n))))))))))).closeAg (p := pag) (A := ({ ag with view := (ag.view.set ((ownI ag.self.Host.v ag.view).toNat) (⟨e35.Host, e35.Subnet, e35.Pub, e35.MAC, r_Answer.Lease.Until, e35.Rev⟩ : TLease)) } : AgM))
   have q53 : ({ ag with view := (ag.view.set ((ownI ag.self.Host.v ag.view).toNat) (⟨e35.Host, e35.Subnet, e35.Pub, e35.MAC, r_Answer.Lease.Until, e35.Rev⟩ : TLease)) } : AgM) = leasedA ag r_Err.v r_Answer.Lease := by clear hs m; exact (leased_6 (by assumption) (by assumption) (by omega) (by assumption) (lv_t (by omega) (by assumption) (by assumption)) (by assumption)).2
   rw [q53] at m
   refine ⟨_, rfl, ?_, m.sub (.c r0 .n)⟩
   have q54 : (0 : Int) = leasedE ag r_Err.v r_Answer.Lease := by clear hs m; exact (leased_6 (by assumption) (by assumption) (by omega) (by assumption) (lv_t (by omega) (by assumption) (by assumption)) (by assumption)).1
   (rw [q54]; rfl)
  have h41p := of_decide_eq_false h41
  refine wp_skip ?_
  refine n_then ?_
  refine c_reg ?_
  refine s_ hs m (ok_move rfl) (bn_ ?_)
  clear hs a; intro a hs
  refine c_cond hs rfl (fun h55 => ?_) (fun h55 => ?_)
  ·have h55p := eq_of_beq h55
   refine c_drawHLast (Hp w0 R [Bx p10 48 (cLease r_Answer.Lease), Bx p8 77 (cRe r_Err r_Answer r_Snap_Rev r_Snap_Now vr_Snap_Leases.v vr_Events.v vr_Tables_Routes.v vr_Tables_Neighs.v vr_Tables_Fdbs.v), Bx x1 63 [.pointer (some (padd pag 0))], Sv 2 138 x2.v ((rulesOf pag x1 : List (List Value)).map id), Sv 4 51 x3.v (ag.Routes.map cRoute), Sv 7 54 x4.v (ag.Neighs.map cNeigh), Sv 7 56 x5.v (ag.Fdbs.map cFdb), Sv 12 48 x6.v (ag.view.map cLease), Sv 2 44 x7.v (ag.skipped.map cPrefix)]) m mo ?_; clear m w40; intro w56 m
   refine sh_ (i := 0) rfl hs (m.sub (.c r0 (.c r0 (.c r1 (.c r1 (.c r1 (.c r1 (.c r1 (.c r1 (.c r1 .n)))))))))) (ok_move rfl) (bh_ (i := 1) rfl (m.sub (.c r0 (.c r0 (.c r1 (.c r1 (.c r1 (.c r1 (.c r1 (.c r1 (.c r1 .n)))))))))) (ok_move rfl) (bh_ (i := 2) rfl (m.sub (.c r0 (.c r0 (.c r1 (.c r1 (.c r1 (.c r1 (.c r1 (.c r1 (.c r1 .n)))))))))) (ok_fieldAddr (r := 11) rfl fd48_5 ty2 rfl) (bh_ (i := 3) rfl (m.sub (.c r0 (.c r0 (.c r1 (.c r1 (.c r1 (.c r1 (.c r1 (.c r1 (.c r1 .n)))))))))) (ok_load_sc rfl ty2 (bx_at r0) rfl) (bh_ (i := 4) rfl (m.sub (.c r0 (.c r0 (.c r1 (.c r1 (.c r1 (.c r1 (.c r1 (.c r1 (.c r1 .n)))))))))) (ok_fieldAddr (r := 1) rfl fd48_1 ty44 rfl) (bh_ (i := 5) rfl (m.sub (.c r0 (.c r0 (.c r1 (.c r1 (.c r1 (.c r1 (.c r1 (.c r1 (.c r1 .n)))))))))) (ok_load_ag (vs := cPrefix r_Answer.Lease.Subnet) rfl ty44 (bx_at r0) (by kernel_rfl) (by kernel_rfl)) (bh_ (i := 6) rfl (m.sub (.c r0 (.c r0 (.c r1 (.c r1 (.c r1 (.c r1 (.c r1 (.c r1 (.c r1 .n)))))))))) (ok_nilCheck rfl) (bh_ (i := 7) rfl (m.sub (.c r0 (.c r0 (.c r1 (.c r1 (.c r1 (.c r1 (.c r1 (.c r1 (.c r1 .n)))))))))) (ok_fieldAddr (r := 53) rfl fd135_10 ty2 rfl) ?_)))))))
   clear hs a; intro a hs
   refine h_eff (i := 8) (by kernel_rfl) rfl ?_
   refine st_ (cAg ag.self x2.v ag.opn ag.read x3.v x4.v x5.v x6.v ag.cursor ag.stale x7.v ag.degraded r_Answer.Lease.Rev ag.waiting ag.wish ag.renewed ag.quiet) [.int .i64 r_Answer.Lease.Rev.v] hs m ty2 s2 ?_
   clear m w56; intro w57 m
   refine wpList_nil (n_then ⟨(m.sub (.c r0 (.c r0 (.c r1 (.c r1 (.c r1 (.c r1 (.c r1 (.c r1 (.c r1 .n)))))))))), ?_⟩)
   refine sh_ (i := 9) rfl hs (m.sub (.c r0 (.c r0 (.c r1 (.c r1 (.c r1 (.c r1 (.c r1 (.c r1 (.c r1 .n)))))))))) (ok_nilCheck rfl) (bh_ (i := 10) rfl (m.sub (.c r0 (.c r0 (.c r1 (.c r1 (.c r1 (.c r1 (.c r1 (.c r1 (.c r1 .n)))))))))) (ok_fieldAddr (r := 55) rfl fd135_12 ty44 rfl) ?_)
   clear hs a; intro a hs
   refine h_eff (i := 11) (by kernel_rfl) rfl ?_
   refine st_ (cAg ag.self x2.v ag.opn ag.read x3.v x4.v x5.v x6.v ag.cursor ag.stale x7.v ag.degraded r_Answer.Lease.Rev ag.waiting r_Answer.Lease.Subnet ag.renewed ag.quiet) (cPrefix r_Answer.Lease.Subnet) hs m ty44 s2 ?_
   clear m w57; intro w58 m
   refine wpList_nil (n_then ⟨(m.sub (.c r0 (.c r0 (.c r1 (.c r1 (.c r1 (.c r1 (.c r1 (.c r1 (.c r1 .n)))))))))), ?_⟩)
   refine h_done (by kernel_rfl) (n_block (n_then ?_))
   refine c_reg ?_
   refine s_ hs m (ok_assign rfl) (bn_ ?_)
   clear hs a; intro a hs
   refine wp_ret ?_
   refine leave hs (vs := [.int .i64 0]) rfl ⟨rfl, trivial⟩ ?_
   replace m := (m.sub (.c r2 (.c r2 (.c r2 (.c r2 (.c r2 (.c r2 (.c r2 (.c r2 (.c r0 (.c r0 .n))))))))))).closeAg (p := pag) (A := ({ ag with granted := r_Answer.Lease.Rev, wish := r_Answer.Lease.Subnet } : AgM))
   have q59 : ({ ag with granted := r_Answer.Lease.Rev, wish := r_Answer.Lease.Subnet } : AgM) = leasedA ag r_Err.v r_Answer.Lease := by clear hs m; exact (leased_5 (by assumption) (by assumption) (by omega) (by assumption) (lv_f1 (by assumption) (by assumption)) (by assumption)).2
   rw [q59] at m
   refine ⟨_, rfl, ?_, m.sub (.c r0 .n)⟩
   have q60 : (0 : Int) = leasedE ag r_Err.v r_Answer.Lease := by clear hs m; exact (leased_5 (by assumption) (by assumption) (by omega) (by assumption) (lv_f1 (by assumption) (by assumption)) (by assumption)).1
   (rw [q60]; rfl)
  have h55p := ne_of_beq_false h55
  refine wp_skip ?_
  refine n_block (n_then ?_)
  refine c_reg ?_
  refine s_ hs m (ok_assign rfl) (bn_ ?_)
  clear hs a; intro a hs
  refine wp_ret ?_
  refine leave hs (vs := [.int .i64 0]) rfl ⟨rfl, trivial⟩ ?_
  replace m := (m.sub (.c r2 (.c r2 (.c r2 (.c r2 (.c r2 (.c r2 (.c r2 (.c r2 (.c r0 (.c r0 .n))))))))))).closeAg (p := pag) (A := ag)
  have q61 : ag = leasedA ag r_Err.v r_Answer.Lease := by clear hs m; exact (leased_6 (by assumption) (by assumption) (by omega) (by assumption) (lv_f1 (by assumption) (by assumption)) (by assumption)).2
  rw [q61] at m
  refine ⟨_, rfl, ?_, m.sub (.c r0 .n)⟩
  have q62 : (0 : Int) = leasedE ag r_Err.v r_Answer.Lease := by clear hs m; exact (leased_6 (by assumption) (by assumption) (by omega) (by assumption) (lv_f1 (by assumption) (by assumption)) (by assumption)).1
  (rw [q62]; rfl)
 ·have hb34p := of_decide_eq_false hb34
  refine q_out hs rfl rfl hb34 rfl ?_
  clear hs a; intro a hs
  refine q_out hs rfl rfl hb34 rfl ?_
  clear hs a; intro a hs
  refine q_out hs rfl rfl hb34 rfl ?_
  clear hs a; intro a hs
  refine q_out hs rfl rfl hb34 rfl ?_
  clear hs a; intro a hs
  refine q_out hs rfl rfl hb34 rfl ?_
  clear hs a; intro a hs
  refine q_out hs rfl rfl hb34 rfl ?_
  clear hs a; intro a hs
  refine q_out hs rfl rfl hb34 rfl ?_
  clear hs a; intro a hs
  refine q_out hs rfl rfl hb34 rfl ?_
  clear hs a; intro a hs
  refine q_out hs rfl rfl hb34 rfl ?_
  clear hs a; intro a hs
  refine q_out hs rfl rfl hb34 rfl ?_
  clear hs a; intro a hs
  refine q_out hs rfl rfl hb34 rfl ?_
  clear hs a; intro a hs
  refine sq_ hs (ok_pick (r := .bool false) rfl rfl rfl (by rw [hb34]; rfl)) ?_
  clear hs a; intro a hs
  refine wpQuiet_nil ?_; clear m w33; intro w63 m
  refine c_false hs rfl rfl ?_
  refine wp_skip ?_
  refine n_then ?_
  refine c_reg ?_
  refine s_ hs m (ok_move rfl) (bn_ ?_)
  clear hs a; intro a hs
  refine c_cond hs rfl (fun h65 => ?_) (fun h65 => ?_)
  ·have h65p := eq_of_beq h65
   refine c_drawHLast (Hp w0 R [Bx p10 48 (cLease r_Answer.Lease), Bx p8 77 (cRe r_Err r_Answer r_Snap_Rev r_Snap_Now vr_Snap_Leases.v vr_Events.v vr_Tables_Routes.v vr_Tables_Neighs.v vr_Tables_Fdbs.v), Bx x1 63 [.pointer (some (padd pag 0))], Sv 2 138 x2.v ((rulesOf pag x1 : List (List Value)).map id), Sv 4 51 x3.v (ag.Routes.map cRoute), Sv 7 54 x4.v (ag.Neighs.map cNeigh), Sv 7 56 x5.v (ag.Fdbs.map cFdb), Sv 12 48 x6.v (ag.view.map cLease), Sv 2 44 x7.v (ag.skipped.map cPrefix)]) m mo ?_; clear m w63; intro w66 m
   refine sh_ (i := 0) rfl hs (m.sub (.c r0 (.c r0 (.c r1 (.c r1 (.c r1 (.c r1 (.c r1 (.c r1 (.c r1 .n)))))))))) (ok_move rfl) (bh_ (i := 1) rfl (m.sub (.c r0 (.c r0 (.c r1 (.c r1 (.c r1 (.c r1 (.c r1 (.c r1 (.c r1 .n)))))))))) (ok_move rfl) (bh_ (i := 2) rfl (m.sub (.c r0 (.c r0 (.c r1 (.c r1 (.c r1 (.c r1 (.c r1 (.c r1 (.c r1 .n)))))))))) (ok_fieldAddr (r := 11) rfl fd48_5 ty2 rfl) (bh_ (i := 3) rfl (m.sub (.c r0 (.c r0 (.c r1 (.c r1 (.c r1 (.c r1 (.c r1 (.c r1 (.c r1 .n)))))))))) (ok_load_sc rfl ty2 (bx_at r0) rfl) (bh_ (i := 4) rfl (m.sub (.c r0 (.c r0 (.c r1 (.c r1 (.c r1 (.c r1 (.c r1 (.c r1 (.c r1 .n)))))))))) (ok_fieldAddr (r := 1) rfl fd48_1 ty44 rfl) (bh_ (i := 5) rfl (m.sub (.c r0 (.c r0 (.c r1 (.c r1 (.c r1 (.c r1 (.c r1 (.c r1 (.c r1 .n)))))))))) (ok_load_ag (vs := cPrefix r_Answer.Lease.Subnet) rfl ty44 (bx_at r0) (by kernel_rfl) (by kernel_rfl)) (bh_ (i := 6) rfl (m.sub (.c r0 (.c r0 (.c r1 (.c r1 (.c r1 (.c r1 (.c r1 (.c r1 (.c r1 .n)))))))))) (ok_nilCheck rfl) (bh_ (i := 7) rfl (m.sub (.c r0 (.c r0 (.c r1 (.c r1 (.c r1 (.c r1 (.c r1 (.c r1 (.c r1 .n)))))))))) (ok_fieldAddr (r := 53) rfl fd135_10 ty2 rfl) ?_)))))))
   clear hs a; intro a hs
   refine h_eff (i := 8) (by kernel_rfl) rfl ?_
   refine st_ (cAg ag.self x2.v ag.opn ag.read x3.v x4.v x5.v x6.v ag.cursor ag.stale x7.v ag.degraded r_Answer.Lease.Rev ag.waiting ag.wish ag.renewed ag.quiet) [.int .i64 r_Answer.Lease.Rev.v] hs m ty2 s2 ?_
   clear m w66; intro w67 m
   refine wpList_nil (n_then ⟨(m.sub (.c r0 (.c r0 (.c r1 (.c r1 (.c r1 (.c r1 (.c r1 (.c r1 (.c r1 .n)))))))))), ?_⟩)
   refine sh_ (i := 9) rfl hs (m.sub (.c r0 (.c r0 (.c r1 (.c r1 (.c r1 (.c r1 (.c r1 (.c r1 (.c r1 .n)))))))))) (ok_nilCheck rfl) (bh_ (i := 10) rfl (m.sub (.c r0 (.c r0 (.c r1 (.c r1 (.c r1 (.c r1 (.c r1 (.c r1 (.c r1 .n)))))))))) (ok_fieldAddr (r := 55) rfl fd135_12 ty44 rfl) ?_)
   clear hs a; intro a hs
   refine h_eff (i := 11) (by kernel_rfl) rfl ?_
   refine st_ (cAg ag.self x2.v ag.opn ag.read x3.v x4.v x5.v x6.v ag.cursor ag.stale x7.v ag.degraded r_Answer.Lease.Rev ag.waiting r_Answer.Lease.Subnet ag.renewed ag.quiet) (cPrefix r_Answer.Lease.Subnet) hs m ty44 s2 ?_
   clear m w67; intro w68 m
   refine wpList_nil (n_then ⟨(m.sub (.c r0 (.c r0 (.c r1 (.c r1 (.c r1 (.c r1 (.c r1 (.c r1 (.c r1 .n)))))))))), ?_⟩)
   refine h_done (by kernel_rfl) (n_block (n_then ?_))
   refine c_reg ?_
   refine s_ hs m (ok_assign rfl) (bn_ ?_)
   clear hs a; intro a hs
   refine wp_ret ?_
   refine leave hs (vs := [.int .i64 0]) rfl ⟨rfl, trivial⟩ ?_
   replace m := (m.sub (.c r2 (.c r2 (.c r2 (.c r2 (.c r2 (.c r2 (.c r2 (.c r2 (.c r0 (.c r0 .n))))))))))).closeAg (p := pag) (A := ({ ag with granted := r_Answer.Lease.Rev, wish := r_Answer.Lease.Subnet } : AgM))
   have q69 : ({ ag with granted := r_Answer.Lease.Rev, wish := r_Answer.Lease.Subnet } : AgM) = leasedA ag r_Err.v r_Answer.Lease := by clear hs m; exact (leased_5 (by assumption) (by assumption) (by omega) (by assumption) (lv_f0 (by omega)) (by assumption)).2
   rw [q69] at m
   refine ⟨_, rfl, ?_, m.sub (.c r0 .n)⟩
   have q70 : (0 : Int) = leasedE ag r_Err.v r_Answer.Lease := by clear hs m; exact (leased_5 (by assumption) (by assumption) (by omega) (by assumption) (lv_f0 (by omega)) (by assumption)).1
   (rw [q70]; rfl)
  have h65p := ne_of_beq_false h65
  refine wp_skip ?_
  refine n_block (n_then ?_)
  refine c_reg ?_
  refine s_ hs m (ok_assign rfl) (bn_ ?_)
  clear hs a; intro a hs
  refine wp_ret ?_
  refine leave hs (vs := [.int .i64 0]) rfl ⟨rfl, trivial⟩ ?_
  replace m := (m.sub (.c r2 (.c r2 (.c r2 (.c r2 (.c r2 (.c r2 (.c r2 (.c r2 (.c r0 (.c r0 .n))))))))))).closeAg (p := pag) (A := ag)
  have q71 : ag = leasedA ag r_Err.v r_Answer.Lease := by clear hs m; exact (leased_6 (by assumption) (by assumption) (by omega) (by assumption) (lv_f0 (by omega)) (by assumption)).2
  rw [q71] at m
  refine ⟨_, rfl, ?_, m.sub (.c r0 .n)⟩
  have q72 : (0 : Int) = leasedE ag r_Err.v r_Answer.Lease := by clear hs m; exact (leased_6 (by assumption) (by assumption) (by omega) (by assumption) (lv_f0 (by omega)) (by assumption)).1
  (rw [q72]; rfl)
theorem watched_c (pag : Addr) (ag : AgM) (r_Err : Fx .i64) (r_Answer : TAnswer) (r_Snap_Rev : Fx .i64) (r_Snap_Now : Fx .i64) (vr_Snap_Leases : SH) (r_Snap_Leases : List TLease) (vr_Events : SH) (r_Events : List TEvent) (vr_Tables_Routes : SH) (r_Tables_Routes : List TRoute) (vr_Tables_Neighs : SH) (r_Tables_Neighs : List TNeigh) (vr_Tables_Fdbs : SH) (r_Tables_Fdbs : List TFdb) (w0 : World) (R : Hh) (hr_Snap_Leases : RdS R 12 vr_Snap_Leases.v (r_Snap_Leases.map cLease)) (hr_Events : RdS R 14 vr_Events.v (r_Events.map cEvent)) (hr_Tables_Routes : RdS R 4 vr_Tables_Routes.v (r_Tables_Routes.map cRoute)) (hr_Tables_Neighs : RdS R 7 vr_Tables_Neighs.v (r_Tables_Neighs.map cNeigh)) (hr_Tables_Fdbs : RdS R 7 vr_Tables_Fdbs.v (r_Tables_Fdbs.map cFdb)) (B0 : ag.view.length ≤ 2000000000) (B1 : ag.Routes.length ≤ 2000000000) (B2 : ag.Neighs.length ≤ 2000000000) (B3 : ag.Fdbs.length ≤ 2000000000) (B4 : ag.skipped.length ≤ 2000000000000) (B5 : r_Events.length ≤ 2000000000) (m : Hp w0 R [AgP pag ag] w0) : Calls Tryz.prog 90 ⟨[.pointer (some (padd pag 0)), .agg ⟨cRe r_Err r_Answer r_Snap_Rev r_Snap_Now vr_Snap_Leases.v vr_Events.v vr_Tables_Routes.v vr_Tables_Neighs.v vr_Tables_Fdbs.v⟩]⟩ w0 fun e w' => ∃ v, e = .returned v ∧ (v = (.int .i64 (watchedE ag r_Err.v r_Events)) ∧ Hp w0 R [AgP pag (watchedA ag r_Err.v r_Events)] w') := by
 have lvr_Snap_Leases := hr_Snap_Leases.bd
 have lvr_Events := hr_Events.bd
 have lvr_Tables_Routes := hr_Tables_Routes.bd
 have lvr_Tables_Neighs := hr_Tables_Neighs.bd
 have lvr_Tables_Fdbs := hr_Tables_Fdbs.bd
 refine enter (n := 90) Tryz.func90 rfl rfl rfl fun a (hs : St 90 [(0, .pointer (some (padd pag 0))), (1, .agg ⟨cRe r_Err r_Answer r_Snap_Rev r_Snap_Now vr_Snap_Leases.v vr_Events.v vr_Tables_Routes.v vr_Tables_Neighs.v vr_Tables_Fdbs.v⟩)] a) => ?_
 have mo := m.openAg r0
 clear m; obtain ⟨x1, x2, x3, x4, x5, x6, x7, m⟩ := mo
 refine c_reg ?_
 refine r_box (cs := cRe r_Err r_Answer r_Snap_Rev r_Snap_Now vr_Snap_Leases.v vr_Events.v vr_Tables_Routes.v vr_Tables_Neighs.v vr_Tables_Fdbs.v) hs m rfl (by kernel_rfl) rfl ?_
 clear m hs a; intro p8 w9 m a hs
 refine s_ hs m (ok_assign rfl) (bn_ ?_)
 clear hs a; intro a hs
 refine c_seq ?_
 refine c_reg ?_
 refine s_ hs m (ok_fieldAddr (r := 0) rfl fd77_0 ty36 rfl) (b_ m (ok_load_sc rfl ty36 (bx_at r0) rfl) (bn_ ?_))
 clear hs a; intro a hs
 refine wp_block ?_
 refine c_reg ?_
 refine s_ hs m (ok_bin rfl rfl rfl) (b_ m (ok_assign rfl) (bn_ ?_))
 clear hs a; intro a hs
 refine c_cond hs rfl (fun h10 => ?_) (fun h10 => ?_)
 rotate_left
 ·have h10p := ne_of_beq_false h10
  refine c_seq ?_
  refine c_reg ?_
  refine s_ hs m (ok_bin rfl rfl rfl) (b_ m (ok_assign rfl) (bn_ ?_))
  clear hs a; intro a hs
  refine c_cond hs rfl (fun h11 => ?_) (fun h11 => ?_)
  ·have h11p := eq_of_beq h11
   refine wp_skip ?_
   refine n_then ?_
   refine c_true hs rfl h11 ?_
   refine c_reg ?_
   refine s_ hs m (ok_move rfl) (b_ m (ok_nilCheck rfl) (b_ m (ok_fieldAddr (r := 50) rfl fd135_7 ty4 rfl) ?_))
   clear hs a; intro a hs
   refine st_ (cAg ag.self x2.v ag.opn ag.read x3.v x4.v x5.v x6.v ag.cursor true x7.v ag.degraded ag.granted ag.waiting ag.wish ag.renewed ag.quiet) [.bool true] hs m ty4 s1 ?_
   clear m w9; intro w13 m
   refine wpList_nil (n_then ?_)
   refine c_reg ?_
   refine s_ hs m (ok_assign rfl) (bn_ ?_)
   clear hs a; intro a hs
   refine wp_ret ?_
   refine ret_block (ret_then (leave hs (vs := [.int .i64 0]) rfl ⟨rfl, trivial⟩ ?_))
   replace m := (m.sub (.c r1 (.c r1 (.c r1 (.c r1 (.c r1 (.c r1 (.c r1 (.c r1 (.c r0 .n)))))))))).closeAg (p := pag) (A := ({ ag with stale := true } : AgM))
   have q14 : ({ ag with stale := true } : AgM) = watchedA ag r_Err.v r_Events := by clear hs m; exact (watched_2 (g := ag) (by omega)).2
   rw [q14] at m
   refine ⟨_, rfl, ?_, m.sub (.c r0 .n)⟩
   have q15 : (0 : Int) = watchedE ag r_Err.v r_Events := by clear hs m; exact (watched_2 (g := ag) (by omega)).1
   (rw [q15]; rfl)
  have h11p := ne_of_beq_false h11
  refine c_reg ?_
  refine s_ hs m (ok_bin rfl rfl rfl) (b_ m (ok_assign rfl) (bn_ ?_))
  clear hs a; intro a hs
  refine c_cond hs rfl (fun h16 => ?_) (fun h16 => ?_)
  ·have h16p := eq_of_beq h16
   refine wp_skip ?_
   refine n_then ?_
   refine c_true hs rfl h16 ?_
   refine c_reg ?_
   refine s_ hs m (ok_move rfl) (b_ m (ok_nilCheck rfl) (b_ m (ok_fieldAddr (r := 50) rfl fd135_7 ty4 rfl) ?_))
   clear hs a; intro a hs
   refine st_ (cAg ag.self x2.v ag.opn ag.read x3.v x4.v x5.v x6.v ag.cursor true x7.v ag.degraded ag.granted ag.waiting ag.wish ag.renewed ag.quiet) [.bool true] hs m ty4 s1 ?_
   clear m w9; intro w18 m
   refine wpList_nil (n_then ?_)
   refine c_reg ?_
   refine s_ hs m (ok_assign rfl) (bn_ ?_)
   clear hs a; intro a hs
   refine wp_ret ?_
   refine ret_block (ret_then (leave hs (vs := [.int .i64 0]) rfl ⟨rfl, trivial⟩ ?_))
   replace m := (m.sub (.c r1 (.c r1 (.c r1 (.c r1 (.c r1 (.c r1 (.c r1 (.c r1 (.c r0 .n)))))))))).closeAg (p := pag) (A := ({ ag with stale := true } : AgM))
   have q19 : ({ ag with stale := true } : AgM) = watchedA ag r_Err.v r_Events := by clear hs m; exact (watched_2 (g := ag) (by omega)).2
   rw [q19] at m
   refine ⟨_, rfl, ?_, m.sub (.c r0 .n)⟩
   have q20 : (0 : Int) = watchedE ag r_Err.v r_Events := by clear hs m; exact (watched_2 (g := ag) (by omega)).1
   (rw [q20]; rfl)
  have h16p := ne_of_beq_false h16
  refine c_reg ?_
  refine s_ hs m (ok_bin rfl rfl rfl) (b_ m (ok_assign rfl) (bn_ ?_))
  clear hs a; intro a hs
  refine c_cond hs rfl (fun h21 => ?_) (fun h21 => ?_)
  ·have h21p := eq_of_beq h21
   refine wp_skip ?_
   refine n_then ?_
   refine c_true hs rfl h21 ?_
   refine c_reg ?_
   refine s_ hs m (ok_move rfl) (b_ m (ok_nilCheck rfl) (b_ m (ok_fieldAddr (r := 50) rfl fd135_7 ty4 rfl) ?_))
   clear hs a; intro a hs
   refine st_ (cAg ag.self x2.v ag.opn ag.read x3.v x4.v x5.v x6.v ag.cursor true x7.v ag.degraded ag.granted ag.waiting ag.wish ag.renewed ag.quiet) [.bool true] hs m ty4 s1 ?_
   clear m w9; intro w23 m
   refine wpList_nil (n_then ?_)
   refine c_reg ?_
   refine s_ hs m (ok_assign rfl) (bn_ ?_)
   clear hs a; intro a hs
   refine wp_ret ?_
   refine ret_block (ret_then (leave hs (vs := [.int .i64 0]) rfl ⟨rfl, trivial⟩ ?_))
   replace m := (m.sub (.c r1 (.c r1 (.c r1 (.c r1 (.c r1 (.c r1 (.c r1 (.c r1 (.c r0 .n)))))))))).closeAg (p := pag) (A := ({ ag with stale := true } : AgM))
   have q24 : ({ ag with stale := true } : AgM) = watchedA ag r_Err.v r_Events := by clear hs m; exact (watched_2 (g := ag) (by omega)).2
   rw [q24] at m
   refine ⟨_, rfl, ?_, m.sub (.c r0 .n)⟩
   have q25 : (0 : Int) = watchedE ag r_Err.v r_Events := by clear hs m; exact (watched_2 (g := ag) (by omega)).1
   (rw [q25]; rfl)
  have h21p := ne_of_beq_false h21
  refine c_reg ?_
  refine s_ hs m (ok_bin rfl rfl rfl) (b_ m (ok_assign rfl) (bn_ ?_))
  clear hs a; intro a hs
  refine c_cond hs rfl (fun h26 => ?_) (fun h26 => ?_)
  ·have h26p := eq_of_beq h26
   refine wp_skip ?_
   refine n_then ?_
   refine c_true hs rfl h26 ?_
   refine c_reg ?_
   refine s_ hs m (ok_move rfl) (b_ m (ok_nilCheck rfl) (b_ m (ok_fieldAddr (r := 50) rfl fd135_7 ty4 rfl) ?_))
   clear hs a; intro a hs
   refine st_ (cAg ag.self x2.v ag.opn ag.read x3.v x4.v x5.v x6.v ag.cursor true x7.v ag.degraded ag.granted ag.waiting ag.wish ag.renewed ag.quiet) [.bool true] hs m ty4 s1 ?_
   clear m w9; intro w28 m
   refine wpList_nil (n_then ?_)
   refine c_reg ?_
   refine s_ hs m (ok_assign rfl) (bn_ ?_)
   clear hs a; intro a hs
   refine wp_ret ?_
   refine ret_block (ret_then (leave hs (vs := [.int .i64 0]) rfl ⟨rfl, trivial⟩ ?_))
   replace m := (m.sub (.c r1 (.c r1 (.c r1 (.c r1 (.c r1 (.c r1 (.c r1 (.c r1 (.c r0 .n)))))))))).closeAg (p := pag) (A := ({ ag with stale := true } : AgM))
   have q29 : ({ ag with stale := true } : AgM) = watchedA ag r_Err.v r_Events := by clear hs m; exact (watched_2 (g := ag) (by omega)).2
   rw [q29] at m
   refine ⟨_, rfl, ?_, m.sub (.c r0 .n)⟩
   have q30 : (0 : Int) = watchedE ag r_Err.v r_Events := by clear hs m; exact (watched_2 (g := ag) (by omega)).1
   (rw [q30]; rfl)
  have h26p := ne_of_beq_false h26
  refine c_last ?_
  refine s_ hs m (ok_bin rfl rfl rfl) (b_ m (ok_assign rfl) (bn_ ?_))
  clear hs a; intro a hs
  refine c_cond hs rfl (fun h31 => ?_) (fun h31 => ?_)
  ·have h31p := eq_of_beq h31
   refine c_reg ?_
   refine s_ hs m (ok_move rfl) (b_ m (ok_nilCheck rfl) (b_ m (ok_fieldAddr (r := 50) rfl fd135_7 ty4 rfl) ?_))
   clear hs a; intro a hs
   refine st_ (cAg ag.self x2.v ag.opn ag.read x3.v x4.v x5.v x6.v ag.cursor true x7.v ag.degraded ag.granted ag.waiting ag.wish ag.renewed ag.quiet) [.bool true] hs m ty4 s1 ?_
   clear m w9; intro w32 m
   refine wpList_nil (n_then ?_)
   refine c_reg ?_
   refine s_ hs m (ok_assign rfl) (bn_ ?_)
   clear hs a; intro a hs
   refine wp_ret ?_
   refine ret_block (ret_then (leave hs (vs := [.int .i64 0]) rfl ⟨rfl, trivial⟩ ?_))
   replace m := (m.sub (.c r1 (.c r1 (.c r1 (.c r1 (.c r1 (.c r1 (.c r1 (.c r1 (.c r0 .n)))))))))).closeAg (p := pag) (A := ({ ag with stale := true } : AgM))
   have q33 : ({ ag with stale := true } : AgM) = watchedA ag r_Err.v r_Events := by clear hs m; exact (watched_2 (g := ag) (by omega)).2
   rw [q33] at m
   refine ⟨_, rfl, ?_, m.sub (.c r0 .n)⟩
   have q34 : (0 : Int) = watchedE ag r_Err.v r_Events := by clear hs m; exact (watched_2 (g := ag) (by omega)).1
   (rw [q34]; rfl)
  have h31p := ne_of_beq_false h31
  refine c_reg ?_
  refine s_ hs m (ok_assign rfl) (bn_ ?_)
  clear hs a; intro a hs
  refine wp_ret ?_
  refine ret_block (ret_then (leave hs (vs := [.int .i64 0]) rfl ⟨rfl, trivial⟩ ?_))
  replace m := (m.sub (.c r1 (.c r1 (.c r1 (.c r1 (.c r1 (.c r1 (.c r1 (.c r1 (.c r0 .n)))))))))).closeAg (p := pag) (A := ag)
  have q35 : ag = watchedA ag r_Err.v r_Events := by clear hs m; exact (watched_3 (g := ag) (by omega) (by omega)).2
  rw [q35] at m
  refine ⟨_, rfl, ?_, m.sub (.c r0 .n)⟩
  have q36 : (0 : Int) = watchedE ag r_Err.v r_Events := by clear hs m; exact (watched_3 (g := ag) (by omega) (by omega)).1
  (rw [q36]; rfl)
 have h10p := eq_of_beq h10
 refine wp_skip ?_
 refine n_block (n_then ?_)
 refine c_seq ?_
 refine c_reg ?_
 refine s_ hs m (ok_move rfl) (b_ m (ok_fieldAddr (r := 19) rfl fd77_3 ty75 rfl) (b_ m (ok_load_sc rfl ty75 (bx_at r0) rfl) ?_))
 clear hs a; intro a hs
 refine r_callP hs m rfl rfl ca136 rfl (mayBe_c pag ag vr_Events r_Events _ ⟨x1, x2, x3, x4, x5, x6, x7, (bx_at r1 _ m), (bx_at r2 _ m), (m.rdv r3), (m.rdv r4), (m.rdv r5), (m.rdv r6), (m.rdv r7), (m.rdv r8)⟩ (m.rd hr_Events) ) rfl ?_
 clear m hs a w9; intro w37 m a hs
 refine s_ hs m (ok_not rfl) (bn_ ?_)
 clear hs a; intro a hs
 refine c_cond hs rfl (fun h38 => ?_) (fun h38 => ?_)
 ·have h38p := h38; simp only [bp_] at h38p
  refine c_reg ?_
  refine s_ hs m (ok_assign rfl) (bn_ ?_)
  clear hs a; intro a hs
  refine wp_ret ?_
  refine ret_then (leave hs (vs := [.int .i64 162]) rfl ⟨rfl, trivial⟩ ?_)
  replace m := (m.sub (.c r1 (.c r1 (.c r1 (.c r1 (.c r1 (.c r1 (.c r1 (.c r1 (.c r0 .n)))))))))).closeAg (p := pag) (A := ag)
  have q39 : ag = watchedA ag r_Err.v r_Events := by clear hs m; exact (watched_0 (g := ag) (by omega) (by assumption)).2
  rw [q39] at m
  refine ⟨_, rfl, ?_, m.sub (.c r0 .n)⟩
  have q40 : (162 : Int) = watchedE ag r_Err.v r_Events := by clear hs m; exact (watched_0 (g := ag) (by omega) (by assumption)).1
  (rw [q40]; rfl)
 have h38p := h38; simp only [bp_] at h38p
 refine wp_skip ?_
 refine n_then ?_
 refine c_seq ?_
 refine c_reg ?_
 refine s_ hs m (ok_fieldAddr (r := 19) rfl fd77_3 ty75 rfl) (b_ m (ok_load_sc rfl ty75 (bx_at r0) rfl) (b_ m (ok_len (r := (r_Events.length : Int)) m rfl sl75 (rc_fr hr_Events) (by simp)) (b_ m (ok_move rfl) (bn_ ?_))))
 clear hs a; intro a hs
 refine wp_block ?_
 replace m := (m.sub (.c r1 (.c r1 (.c r1 (.c r1 (.c r1 (.c r1 (.c r1 (.c r1 (.c r0 .n)))))))))).closeAg (p := pag) (A := ag)
 have q41 : ag = (evK ag r_Events 0) := by clear hs m; exact evK_0
 replace m := m.swp (q := AgP pag (evK ag r_Events 0)) s0 (fun _ e => by rw [← q41]; exact e)
 refine wp_loop_ghost (fun gn a w => ∃ k : Nat, (k ≤ r_Events.length) ∧ gn = r_Events.length - k ∧ St 90 [(0, .pointer (some (padd pag 0))), (26, vr_Events.v), (27, .int .i64 (r_Events.length : Int)), (28, .int .i64 (k : Int))] a ∧ Hp w0 R [AgP pag (evK ag r_Events k)] w) (r_Events.length - 0) ⟨0, by omega, rfl, hs.to ⟨rfl, rfl, rfl, rfl, trivial⟩, m.sub (.c r0 .n)⟩ ?_
 clear hs m a w37
 rintro gn a w42 ⟨k, hk, rfl, hs, m⟩
 have hel := evK_len (g := ag) (l := r_Events) (k := k)
 have mo := m.openAg r0
 clear m; obtain ⟨x43, x44, x45, x46, x47, x48, x49, m⟩ := mo
 refine c_reg ?_
 refine s_ hs m (ok_bin rfl rfl rfl) (bn_ ?_)
 clear hs a; intro a hs
 refine c_seq ?_
 refine c_cond hs rfl (fun h50 => ?_) (fun h50 => ?_)
 rotate_left
 ·have h50p := of_decide_eq_false h50
  refine wp_exit ?_
  refine ex_then (ex_then (ex_hit (?_)))
  refine n_then ?_
  refine c_reg ?_
  refine s_ hs m (ok_assign rfl) (bn_ ?_)
  clear hs a; intro a hs
  refine wp_ret ?_
  refine leave hs (vs := [.int .i64 0]) rfl ⟨rfl, trivial⟩ ?_
  replace m := (m.sub (.c r0 (.c r0 (.c r0 (.c r0 (.c r0 (.c r0 (.c r0 (.c r0 .n))))))))).closeAg (p := pag) (A := (evK ag r_Events k))
  have q51 : (evK ag r_Events k) = watchedA ag r_Err.v r_Events := by clear hs m; exact (watched_1 (g := ag) (k := k) (by omega) (by assumption) (by omega)).2
  rw [q51] at m
  refine ⟨_, rfl, ?_, m.sub (.c r0 .n)⟩
  have q52 : (0 : Int) = watchedE ag r_Err.v r_Events := by clear hs m; exact (watched_1 (g := ag) (k := k) (by omega) (by assumption) (by omega)).1
  (rw [q52]; rfl)
 have h50p := of_decide_eq_true h50
 refine wp_skip ?_
 refine n_then ?_
 refine c_seq ?_
 refine wp_block ?_
 refine c_reg ?_
 obtain ⟨e53, he54⟩ := get_of_lt (l := r_Events) (i := k) (by omega)
 refine elF (c := cEvent) (e := e53) hs m (x := (.tmp 26)) (ix := (.tmp 28)) rfl rfl sl75 ty161 hr_Events (by omega) he54 fun p55 hp56 ok57 => ?_
 refine s_ hs m (ok57 _ _ _ _ _) (b_ m (ok_load_ag (vs := cEvent e53) rfl ty161 (fr_at hp56) (by kernel_rfl) (by kernel_rfl)) ?_)
 clear hs a; intro a hs
 refine r_alloc hs m ze161 rfl ?_
 clear m hs a w42; intro p58 w59 m a hs
 refine st_ (cEvent e53) (cEvent e53) hs m ty161 s0 ?_
 clear m w59; intro w60 m
 refine wpList_nil (n_then ?_)
 refine c_reg ?_
 refine s_ hs m (ok_move rfl) (b_ m (ok_fieldAddr (r := 0) rfl fd161_0 ty2 rfl) (b_ m (ok_load_sc rfl ty2 (bx_at r0) rfl) (b_ m (ok_nilCheck rfl) (b_ m (ok_fieldAddr (r := 49) rfl fd135_6 ty2 rfl) ?_))))
 clear hs a; intro a hs
 refine st_ (cAg ((evK ag r_Events k).self) x44.v ((evK ag r_Events k).opn) ((evK ag r_Events k).read) x45.v x46.v x47.v x48.v e53.Rev ((evK ag r_Events k).stale) x49.v ((evK ag r_Events k).degraded) ((evK ag r_Events k).granted) ((evK ag r_Events k).waiting) ((evK ag r_Events k).wish) ((evK ag r_Events k).renewed) ((evK ag r_Events k).quiet)) [.int .i64 e53.Rev.v] hs m ty2 s1 ?_
 clear m w60; intro w61 m
 refine wpList_nil (n_then ?_)
 refine c_seq ?_
 refine c_reg ?_
 refine s_ hs m (ok_fieldAddr (r := 1) rfl fd161_1 ty3 rfl) (b_ m (ok_load_sc rfl ty3 (bx_at r0) rfl) (b_ m (ok_bin rfl rfl rfl) (bn_ ?_)))
 clear hs a; intro a hs
 refine c_cond hs rfl (fun h62 => ?_) (fun h62 => ?_)
 ·have h62p := eq_of_beq h62
  refine c_drawH (Hp w0 R [Bx p58 161 (cEvent e53), Bx x43 63 [.pointer (some (padd pag 0))], Sv 2 138 x44.v ((rulesOf pag x43 : List (List Value)).map id), Sv 4 51 x45.v (((evK ag r_Events k).Routes).map cRoute), Sv 7 54 x46.v (((evK ag r_Events k).Neighs).map cNeigh), Sv 7 56 x47.v (((evK ag r_Events k).Fdbs).map cFdb), Sv 2 44 x49.v (((evK ag r_Events k).skipped).map cPrefix)]) m mo ?_; clear m w61; intro w63 m
  refine sh_ (i := 0) rfl hs (m.sub (.c r0 (.c r1 (.c r1 (.c r1 (.c r1 (.c r1 (.c r2 .n)))))))) (ok_move rfl) (bh_ (i := 1) rfl (m.sub (.c r0 (.c r1 (.c r1 (.c r1 (.c r1 (.c r1 (.c r2 .n)))))))) (ok_move rfl) (bh_ (i := 2) rfl (m.sub (.c r0 (.c r1 (.c r1 (.c r1 (.c r1 (.c r1 (.c r2 .n)))))))) (ok_nilCheck rfl) (bh_ (i := 3) rfl (m.sub (.c r0 (.c r1 (.c r1 (.c r1 (.c r1 (.c r1 (.c r2 .n)))))))) (ok_fieldAddr (r := 48) rfl fd135_5 ty22 rfl) (bh_ (i := 5) rfl (m.sub (.c r0 (.c r1 (.c r1 (.c r1 (.c r1 (.c r1 (.c r2 .n)))))))) (ok_fieldAddr (r := 2) rfl fd161_2 ty48 rfl) (bh_ (i := 6) rfl (m.sub (.c r0 (.c r1 (.c r1 (.c r1 (.c r1 (.c r1 (.c r2 .n)))))))) (ok_load_ag (vs := cLease e53.Lease) rfl ty48 (bx_at r0) (by kernel_rfl) (by kernel_rfl)) ?_)))))
  clear hs a; intro a hs
  refine h_eff (i := 4) (by kernel_rfl) rfl ?_
  refine s_ hs m (ok_load_sc rfl ty22 (bx_at r1) rfl) ?_
  clear hs a; intro a hs
  refine wpList_nil (n_then ⟨(m.sub (.c r0 (.c r1 (.c r1 (.c r1 (.c r1 (.c r1 (.c r2 .n)))))))), ?_⟩)
  refine h_eff (i := 7) (by kernel_rfl) rfl ?_
  obtain ⟨R1, hR, hR2, ⟨y1, sy, ly⟩, mc, back⟩ := Hp.split (Pc := [Sv 12 48 x48.v (((evK ag r_Events k).view).map cLease)]) (Ps := [Bx p58 161 (cEvent e53), Bx pag 135 (cAg ((evK ag r_Events k).self) x44.v ((evK ag r_Events k).opn) ((evK ag r_Events k).read) x45.v x46.v x47.v x48.v e53.Rev ((evK ag r_Events k).stale) x49.v ((evK ag r_Events k).degraded) ((evK ag r_Events k).granted) ((evK ag r_Events k).waiting) ((evK ag r_Events k).wish) ((evK ag r_Events k).renewed) ((evK ag r_Events k).quiet)), Bx x43 63 [.pointer (some (padd pag 0))], Sv 2 138 x44.v ((rulesOf pag x43 : List (List Value)).map id), Sv 4 51 x45.v (((evK ag r_Events k).Routes).map cRoute), Sv 7 54 x46.v (((evK ag r_Events k).Neighs).map cNeigh), Sv 7 56 x47.v (((evK ag r_Events k).Fdbs).map cFdb), Sv 2 44 x49.v (((evK ag r_Events k).skipped).map cPrefix)]) (m.sub (.c r7 (.c r0 (.c r0 (.c r0 (.c r0 (.c r0 (.c r0 (.c r0 (.c r0 .n))))))))))
  refine r_call hs rfl rfl ca137 rfl (setLease_c x48 ((evK ag r_Events k).view) e53.Lease _ R1  (by omega) mc) rfl ?_
  clear hs a; rintro _ w65 ⟨v64, rfl, hm⟩ a hs
  replace m : Hp w0 R [Sv 12 48 v64.v ((setM cmpLease ((evK ag r_Events k).view) e53.Lease).map cLease), Bx p58 161 (cEvent e53), Bx pag 135 (cAg ((evK ag r_Events k).self) x44.v ((evK ag r_Events k).opn) ((evK ag r_Events k).read) x45.v x46.v x47.v x48.v e53.Rev ((evK ag r_Events k).stale) x49.v ((evK ag r_Events k).degraded) ((evK ag r_Events k).granted) ((evK ag r_Events k).waiting) ((evK ag r_Events k).wish) ((evK ag r_Events k).renewed) ((evK ag r_Events k).quiet)), Bx x43 63 [.pointer (some (padd pag 0))], Sv 2 138 x44.v ((rulesOf pag x43 : List (List Value)).map id), Sv 4 51 x45.v (((evK ag r_Events k).Routes).map cRoute), Sv 7 54 x46.v (((evK ag r_Events k).Neighs).map cNeigh), Sv 7 56 x47.v (((evK ag r_Events k).Fdbs).map cFdb), Sv 2 44 x49.v (((evK ag r_Events k).skipped).map cPrefix)] w65 := back _ _ hm
  clear hm back mc sy ly hR2 hR y1 R1 w63
  refine wpList_nil (n_then ⟨(m.sub (.c r1 (.c r2 (.c r2 (.c r2 (.c r2 (.c r2 (.c r2 .n)))))))), ?_⟩)
  refine sh_ (i := 8) rfl hs (m.sub (.c r1 (.c r2 (.c r2 (.c r2 (.c r2 (.c r2 (.c r2 .n)))))))) (ok_nilCheck rfl) (bh_ (i := 9) rfl (m.sub (.c r1 (.c r2 (.c r2 (.c r2 (.c r2 (.c r2 (.c r2 .n)))))))) (ok_fieldAddr (r := 48) rfl fd135_5 ty22 rfl) ?_)
  clear hs a; intro a hs
  refine h_eff (i := 10) (by kernel_rfl) rfl ?_
  refine st_ (cAg ((evK ag r_Events k).self) x44.v ((evK ag r_Events k).opn) ((evK ag r_Events k).read) x45.v x46.v x47.v v64.v e53.Rev ((evK ag r_Events k).stale) x49.v ((evK ag r_Events k).degraded) ((evK ag r_Events k).granted) ((evK ag r_Events k).waiting) ((evK ag r_Events k).wish) ((evK ag r_Events k).renewed) ((evK ag r_Events k).quiet)) [v64.v] hs m ty22 s2 ?_
  clear m w65; intro w66 m
  refine wpList_nil (n_then ⟨(m.sub (.c r1 (.c r2 (.c r2 (.c r2 (.c r2 (.c r2 (.c r2 .n)))))))), ?_⟩)
  refine h_done (by kernel_rfl) (n_then ?_)
  refine c_seq ?_
  refine c_draw m mo (by kernel_rfl) ?_
  refine sq_ hs (ok_fieldAddr (r := 2) rfl fd161_2 ty48 rfl) (bq_ (ok_fieldAddr (r := 2) rfl fd48_0 ty3 rfl) (bq_ (ok_load_sc rfl ty3 (bx_at r1) rfl) (bq_ (ok_move rfl) (bq_ (ok_nilCheck rfl) (bq_ (ok_fieldAddr (r := 0) rfl fd135_0 ty61 rfl) (bq_ (ok_fieldAddr (r := 0) rfl fd61_0 ty3 rfl) (bq_ (ok_load_sc rfl ty3 (bx_at r2) rfl) (bq_ (ok_bin rfl rfl rfl) ?_))))))))
  clear hs a; intro a hs
  refine wpQuiet_nil ?_; clear m w66; intro w67 m
  refine c_cond hs rfl (fun h68 => ?_) (fun h68 => ?_)
  ·have h68p := eq_of_beq h68
   refine c_last ?_
   refine s_ hs m (ok_move rfl) (b_ m (ok_fieldAddr (r := 2) rfl fd161_2 ty48 rfl) (b_ m (ok_fieldAddr (r := 3) rfl fd48_1 ty44 rfl) (b_ m (ok_load_ag (vs := cPrefix e53.Lease.Subnet) rfl ty44 (bx_at r1) (by kernel_rfl) (by kernel_rfl)) (b_ m (ok_nilCheck rfl) (b_ m (ok_fieldAddr (r := 55) rfl fd135_12 ty44 rfl) ?_)))))
   clear hs a; intro a hs
   refine st_ (cAg ((evK ag r_Events k).self) x44.v ((evK ag r_Events k).opn) ((evK ag r_Events k).read) x45.v x46.v x47.v v64.v e53.Rev ((evK ag r_Events k).stale) x49.v ((evK ag r_Events k).degraded) ((evK ag r_Events k).granted) ((evK ag r_Events k).waiting) e53.Lease.Subnet ((evK ag r_Events k).renewed) ((evK ag r_Events k).quiet)) (cPrefix e53.Lease.Subnet) hs m ty44 s2 ?_
   clear m w67; intro w69 m
   refine wpList_nil (n_then ?_)
   refine wp_exit ?_
   refine ex_then (ex_hit (?_))
   refine n_then ?_
   refine c_last ?_
   refine s_ hs m (ok_add (r := (k : Int) + 1) rfl rfl (wrap_i64 (by omega) (by omega))) (b_ m (ok_move rfl) (bn_ ?_))
   clear hs a; intro a hs
   replace m := (m.sub (.c r2 (.c r2 (.c r2 (.c r2 (.c r2 (.c r2 (.c r0 (.c r1 (.c r0 .n)))))))))).closeAg (p := pag) (A := ({ (evK ag r_Events k) with view := (setM cmpLease ((evK ag r_Events k).view) e53.Lease), cursor := e53.Rev, wish := e53.Lease.Subnet } : AgM))
   have q70 : ({ (evK ag r_Events k) with view := (setM cmpLease ((evK ag r_Events k).view) e53.Lease), cursor := e53.Rev, wish := e53.Lease.Subnet } : AgM) = (evK ag r_Events (k + 1)) := by clear hs m; exact ev_1 (by assumption) (by omega) (by assumption)
   replace m := m.swp (q := AgP pag (evK ag r_Events (k + 1))) s0 (fun _ e => by rw [← q70]; exact e)
   exact ⟨r_Events.length - (k + 1), by omega, k + 1, by omega, rfl, hs.to ⟨rfl, rfl, rfl, rfl, trivial⟩, m.sub (.c r0 .n)⟩
  have h68p := ne_of_beq_false h68
  refine wp_skip ?_
  refine n_then ?_
  refine wp_exit ?_
  refine ex_then (ex_hit (?_))
  refine n_then ?_
  refine c_last ?_
  refine s_ hs m (ok_add (r := (k : Int) + 1) rfl rfl (wrap_i64 (by omega) (by omega))) (b_ m (ok_move rfl) (bn_ ?_))
  clear hs a; intro a hs
  replace m := (m.sub (.c r2 (.c r2 (.c r2 (.c r2 (.c r2 (.c r2 (.c r0 (.c r1 (.c r0 .n)))))))))).closeAg (p := pag) (A := ({ (evK ag r_Events k) with view := (setM cmpLease ((evK ag r_Events k).view) e53.Lease), cursor := e53.Rev } : AgM))
  have q71 : ({ (evK ag r_Events k) with view := (setM cmpLease ((evK ag r_Events k).view) e53.Lease), cursor := e53.Rev } : AgM) = (evK ag r_Events (k + 1)) := by clear hs m; exact ev_2 (by assumption) (by omega) (by assumption)
  replace m := m.swp (q := AgP pag (evK ag r_Events (k + 1))) s0 (fun _ e => by rw [← q71]; exact e)
  exact ⟨r_Events.length - (k + 1), by omega, k + 1, by omega, rfl, hs.to ⟨rfl, rfl, rfl, rfl, trivial⟩, m.sub (.c r0 .n)⟩
 have h62p := ne_of_beq_false h62
 refine wp_skip ?_
 refine n_then ?_
 refine c_drawH (Hp w0 R [Bx p58 161 (cEvent e53), Bx x43 63 [.pointer (some (padd pag 0))], Sv 2 138 x44.v ((rulesOf pag x43 : List (List Value)).map id), Sv 4 51 x45.v (((evK ag r_Events k).Routes).map cRoute), Sv 7 54 x46.v (((evK ag r_Events k).Neighs).map cNeigh), Sv 7 56 x47.v (((evK ag r_Events k).Fdbs).map cFdb), Sv 2 44 x49.v (((evK ag r_Events k).skipped).map cPrefix)]) m mo ?_; clear m w61; intro w72 m
 refine sh_ (i := 0) rfl hs (m.sub (.c r0 (.c r1 (.c r1 (.c r1 (.c r1 (.c r1 (.c r2 .n)))))))) (ok_move rfl) (bh_ (i := 1) rfl (m.sub (.c r0 (.c r1 (.c r1 (.c r1 (.c r1 (.c r1 (.c r2 .n)))))))) (ok_move rfl) (bh_ (i := 2) rfl (m.sub (.c r0 (.c r1 (.c r1 (.c r1 (.c r1 (.c r1 (.c r2 .n)))))))) (ok_nilCheck rfl) (bh_ (i := 3) rfl (m.sub (.c r0 (.c r1 (.c r1 (.c r1 (.c r1 (.c r1 (.c r2 .n)))))))) (ok_fieldAddr (r := 48) rfl fd135_5 ty22 rfl) (bh_ (i := 5) rfl (m.sub (.c r0 (.c r1 (.c r1 (.c r1 (.c r1 (.c r1 (.c r2 .n)))))))) (ok_fieldAddr (r := 2) rfl fd161_2 ty48 rfl) (bh_ (i := 6) rfl (m.sub (.c r0 (.c r1 (.c r1 (.c r1 (.c r1 (.c r1 (.c r2 .n)))))))) (ok_load_ag (vs := cLease e53.Lease) rfl ty48 (bx_at r0) (by kernel_rfl) (by kernel_rfl)) ?_)))))
 clear hs a; intro a hs
 refine h_eff (i := 4) (by kernel_rfl) rfl ?_
 refine s_ hs m (ok_load_sc rfl ty22 (bx_at r1) rfl) ?_
 clear hs a; intro a hs
 refine wpList_nil (n_then ⟨(m.sub (.c r0 (.c r1 (.c r1 (.c r1 (.c r1 (.c r1 (.c r2 .n)))))))), ?_⟩)
 refine h_eff (i := 7) (by kernel_rfl) rfl ?_
 obtain ⟨R1, hR, hR2, ⟨y1, sy, ly⟩, mc, back⟩ := Hp.split (Pc := [Sv 12 48 x48.v (((evK ag r_Events k).view).map cLease)]) (Ps := [Bx p58 161 (cEvent e53), Bx pag 135 (cAg ((evK ag r_Events k).self) x44.v ((evK ag r_Events k).opn) ((evK ag r_Events k).read) x45.v x46.v x47.v x48.v e53.Rev ((evK ag r_Events k).stale) x49.v ((evK ag r_Events k).degraded) ((evK ag r_Events k).granted) ((evK ag r_Events k).waiting) ((evK ag r_Events k).wish) ((evK ag r_Events k).renewed) ((evK ag r_Events k).quiet)), Bx x43 63 [.pointer (some (padd pag 0))], Sv 2 138 x44.v ((rulesOf pag x43 : List (List Value)).map id), Sv 4 51 x45.v (((evK ag r_Events k).Routes).map cRoute), Sv 7 54 x46.v (((evK ag r_Events k).Neighs).map cNeigh), Sv 7 56 x47.v (((evK ag r_Events k).Fdbs).map cFdb), Sv 2 44 x49.v (((evK ag r_Events k).skipped).map cPrefix)]) (m.sub (.c r7 (.c r0 (.c r0 (.c r0 (.c r0 (.c r0 (.c r0 (.c r0 (.c r0 .n))))))))))
 refine r_call hs rfl rfl ca138 rfl (unsetLease_c x48 ((evK ag r_Events k).view) e53.Lease _ R1   mc) rfl ?_
 clear hs a; rintro _ w74 ⟨v73, rfl, hm⟩ a hs
 replace m : Hp w0 R [Sv 12 48 v73.v ((unsetM cmpLease ((evK ag r_Events k).view) e53.Lease).map cLease), Bx p58 161 (cEvent e53), Bx pag 135 (cAg ((evK ag r_Events k).self) x44.v ((evK ag r_Events k).opn) ((evK ag r_Events k).read) x45.v x46.v x47.v x48.v e53.Rev ((evK ag r_Events k).stale) x49.v ((evK ag r_Events k).degraded) ((evK ag r_Events k).granted) ((evK ag r_Events k).waiting) ((evK ag r_Events k).wish) ((evK ag r_Events k).renewed) ((evK ag r_Events k).quiet)), Bx x43 63 [.pointer (some (padd pag 0))], Sv 2 138 x44.v ((rulesOf pag x43 : List (List Value)).map id), Sv 4 51 x45.v (((evK ag r_Events k).Routes).map cRoute), Sv 7 54 x46.v (((evK ag r_Events k).Neighs).map cNeigh), Sv 7 56 x47.v (((evK ag r_Events k).Fdbs).map cFdb), Sv 2 44 x49.v (((evK ag r_Events k).skipped).map cPrefix)] w74 := back _ _ hm
 clear hm back mc sy ly hR2 hR y1 R1 w72
 refine wpList_nil (n_then ⟨(m.sub (.c r1 (.c r2 (.c r2 (.c r2 (.c r2 (.c r2 (.c r2 .n)))))))), ?_⟩)
 refine sh_ (i := 8) rfl hs (m.sub (.c r1 (.c r2 (.c r2 (.c r2 (.c r2 (.c r2 (.c r2 .n)))))))) (ok_nilCheck rfl) (bh_ (i := 9) rfl (m.sub (.c r1 (.c r2 (.c r2 (.c r2 (.c r2 (.c r2 (.c r2 .n)))))))) (ok_fieldAddr (r := 48) rfl fd135_5 ty22 rfl) ?_)
 clear hs a; intro a hs
 refine h_eff (i := 10) (by kernel_rfl) rfl ?_
 refine st_ (cAg ((evK ag r_Events k).self) x44.v ((evK ag r_Events k).opn) ((evK ag r_Events k).read) x45.v x46.v x47.v v73.v e53.Rev ((evK ag r_Events k).stale) x49.v ((evK ag r_Events k).degraded) ((evK ag r_Events k).granted) ((evK ag r_Events k).waiting) ((evK ag r_Events k).wish) ((evK ag r_Events k).renewed) ((evK ag r_Events k).quiet)) [v73.v] hs m ty22 s2 ?_
 clear m w74; intro w75 m
 refine wpList_nil (n_then ⟨(m.sub (.c r1 (.c r2 (.c r2 (.c r2 (.c r2 (.c r2 (.c r2 .n)))))))), ?_⟩)
 refine h_done (by kernel_rfl) (n_then ?_)
 refine c_drawH (Hp w0 R [Sv 12 48 v73.v ((unsetM cmpLease ((evK ag r_Events k).view) e53.Lease).map cLease), Bx p58 161 (cEvent e53), Bx x43 63 [.pointer (some (padd pag 0))], Sv 2 138 x44.v ((rulesOf pag x43 : List (List Value)).map id), Sv 4 51 x45.v (((evK ag r_Events k).Routes).map cRoute), Sv 7 54 x46.v (((evK ag r_Events k).Neighs).map cNeigh), Sv 7 56 x47.v (((evK ag r_Events k).Fdbs).map cFdb)]) m mo ?_; clear m w75; intro w76 m
 refine sh_ (i := 0) rfl hs (m.sub (.c r0 (.c r0 (.c r1 (.c r1 (.c r1 (.c r1 (.c r1 .n)))))))) (ok_move rfl) (bh_ (i := 1) rfl (m.sub (.c r0 (.c r0 (.c r1 (.c r1 (.c r1 (.c r1 (.c r1 .n)))))))) (ok_move rfl) (bh_ (i := 2) rfl (m.sub (.c r0 (.c r0 (.c r1 (.c r1 (.c r1 (.c r1 (.c r1 .n)))))))) (ok_nilCheck rfl) (bh_ (i := 3) rfl (m.sub (.c r0 (.c r0 (.c r1 (.c r1 (.c r1 (.c r1 (.c r1 .n)))))))) (ok_fieldAddr (r := 51) rfl fd135_8 ty82 rfl) (bh_ (i := 5) rfl (m.sub (.c r0 (.c r0 (.c r1 (.c r1 (.c r1 (.c r1 (.c r1 .n)))))))) (ok_fieldAddr (r := 2) rfl fd161_2 ty48 rfl) (bh_ (i := 6) rfl (m.sub (.c r0 (.c r0 (.c r1 (.c r1 (.c r1 (.c r1 (.c r1 .n)))))))) (ok_fieldAddr (r := 3) rfl fd48_1 ty44 rfl) (bh_ (i := 7) rfl (m.sub (.c r0 (.c r0 (.c r1 (.c r1 (.c r1 (.c r1 (.c r1 .n)))))))) (ok_load_ag (vs := cPrefix e53.Lease.Subnet) rfl ty44 (bx_at r1) (by kernel_rfl) (by kernel_rfl)) ?_))))))
 clear hs a; intro a hs
 refine h_eff (i := 4) (by kernel_rfl) rfl ?_
 refine s_ hs m (ok_load_sc rfl ty82 (bx_at r2) rfl) ?_
 clear hs a; intro a hs
 refine wpList_nil (n_then ⟨(m.sub (.c r0 (.c r0 (.c r1 (.c r1 (.c r1 (.c r1 (.c r1 .n)))))))), ?_⟩)
 refine h_eff (i := 8) (by kernel_rfl) rfl ?_
 obtain ⟨R1, hR, hR2, ⟨y1, sy, ly⟩, mc, back⟩ := Hp.split (Pc := [Sv 2 44 x49.v (((evK ag r_Events k).skipped).map cPrefix)]) (Ps := [Sv 12 48 v73.v ((unsetM cmpLease ((evK ag r_Events k).view) e53.Lease).map cLease), Bx p58 161 (cEvent e53), Bx pag 135 (cAg ((evK ag r_Events k).self) x44.v ((evK ag r_Events k).opn) ((evK ag r_Events k).read) x45.v x46.v x47.v v73.v e53.Rev ((evK ag r_Events k).stale) x49.v ((evK ag r_Events k).degraded) ((evK ag r_Events k).granted) ((evK ag r_Events k).waiting) ((evK ag r_Events k).wish) ((evK ag r_Events k).renewed) ((evK ag r_Events k).quiet)), Bx x43 63 [.pointer (some (padd pag 0))], Sv 2 138 x44.v ((rulesOf pag x43 : List (List Value)).map id), Sv 4 51 x45.v (((evK ag r_Events k).Routes).map cRoute), Sv 7 54 x46.v (((evK ag r_Events k).Neighs).map cNeigh), Sv 7 56 x47.v (((evK ag r_Events k).Fdbs).map cFdb)]) (m.sub (.c r8 (.c r0 (.c r0 (.c r0 (.c r0 (.c r0 (.c r0 (.c r0 (.c r0 .n))))))))))
 refine r_call hs rfl rfl ca139 rfl (unsetPrefix_c x49 ((evK ag r_Events k).skipped) e53.Lease.Subnet _ R1   mc) rfl ?_
 clear hs a; rintro _ w78 ⟨v77, rfl, hm⟩ a hs
 replace m : Hp w0 R [Sv 2 44 v77.v ((unsetM cmpPrefix ((evK ag r_Events k).skipped) e53.Lease.Subnet).map cPrefix), Sv 12 48 v73.v ((unsetM cmpLease ((evK ag r_Events k).view) e53.Lease).map cLease), Bx p58 161 (cEvent e53), Bx pag 135 (cAg ((evK ag r_Events k).self) x44.v ((evK ag r_Events k).opn) ((evK ag r_Events k).read) x45.v x46.v x47.v v73.v e53.Rev ((evK ag r_Events k).stale) x49.v ((evK ag r_Events k).degraded) ((evK ag r_Events k).granted) ((evK ag r_Events k).waiting) ((evK ag r_Events k).wish) ((evK ag r_Events k).renewed) ((evK ag r_Events k).quiet)), Bx x43 63 [.pointer (some (padd pag 0))], Sv 2 138 x44.v ((rulesOf pag x43 : List (List Value)).map id), Sv 4 51 x45.v (((evK ag r_Events k).Routes).map cRoute), Sv 7 54 x46.v (((evK ag r_Events k).Neighs).map cNeigh), Sv 7 56 x47.v (((evK ag r_Events k).Fdbs).map cFdb)] w78 := back _ _ hm
 clear hm back mc sy ly hR2 hR y1 R1 w76
 refine wpList_nil (n_then ⟨(m.sub (.c r1 (.c r1 (.c r2 (.c r2 (.c r2 (.c r2 (.c r2 .n)))))))), ?_⟩)
 refine sh_ (i := 9) rfl hs (m.sub (.c r1 (.c r1 (.c r2 (.c r2 (.c r2 (.c r2 (.c r2 .n)))))))) (ok_nilCheck rfl) (bh_ (i := 10) rfl (m.sub (.c r1 (.c r1 (.c r2 (.c r2 (.c r2 (.c r2 (.c r2 .n)))))))) (ok_fieldAddr (r := 51) rfl fd135_8 ty82 rfl) ?_)
 clear hs a; intro a hs
 refine h_eff (i := 11) (by kernel_rfl) rfl ?_
 refine st_ (cAg ((evK ag r_Events k).self) x44.v ((evK ag r_Events k).opn) ((evK ag r_Events k).read) x45.v x46.v x47.v v73.v e53.Rev ((evK ag r_Events k).stale) v77.v ((evK ag r_Events k).degraded) ((evK ag r_Events k).granted) ((evK ag r_Events k).waiting) ((evK ag r_Events k).wish) ((evK ag r_Events k).renewed) ((evK ag r_Events k).quiet)) [v77.v] hs m ty82 s3 ?_
 clear m w78; intro w79 m
 refine wpList_nil (n_then ⟨(m.sub (.c r1 (.c r1 (.c r2 (.c r2 (.c r2 (.c r2 (.c r2 .n)))))))), ?_⟩)
 refine h_done (by kernel_rfl) (n_then ?_)
 refine c_last ?_
 refine s_ hs m (ok_move rfl) (b_ m (ok_nilCheck rfl) (b_ m (ok_fieldAddr (r := 54) rfl fd135_11 ty4 rfl) ?_))
 clear hs a; intro a hs
 refine st_ (cAg ((evK ag r_Events k).self) x44.v ((evK ag r_Events k).opn) ((evK ag r_Events k).read) x45.v x46.v x47.v v73.v e53.Rev ((evK ag r_Events k).stale) v77.v ((evK ag r_Events k).degraded) ((evK ag r_Events k).granted) false ((evK ag r_Events k).wish) ((evK ag r_Events k).renewed) ((evK ag r_Events k).quiet)) [.bool false] hs m ty4 s3 ?_
 clear m w79; intro w80 m
 refine wpList_nil (n_block (n_then ?_))
 refine c_last ?_
 refine s_ hs m (ok_add (r := (k : Int) + 1) rfl rfl (wrap_i64 (by omega) (by omega))) (b_ m (ok_move rfl) (bn_ ?_))
 clear hs a; intro a hs
 replace m := (m.sub (.c r3 (.c r3 (.c r3 (.c r3 (.c r3 (.c r3 (.c r1 (.c r0 (.c r0 .n)))))))))).closeAg (p := pag) (A := ({ (evK ag r_Events k) with view := (unsetM cmpLease ((evK ag r_Events k).view) e53.Lease), cursor := e53.Rev, skipped := (unsetM cmpPrefix ((evK ag r_Events k).skipped) e53.Lease.Subnet), waiting := false } : AgM))
 have q81 : ({ (evK ag r_Events k) with view := (unsetM cmpLease ((evK ag r_Events k).view) e53.Lease), cursor := e53.Rev, skipped := (unsetM cmpPrefix ((evK ag r_Events k).skipped) e53.Lease.Subnet), waiting := false } : AgM) = (evK ag r_Events (k + 1)) := by clear hs m; exact ev_3 (by assumption) (by assumption)
 replace m := m.swp (q := AgP pag (evK ag r_Events (k + 1))) s0 (fun _ e => by rw [← q81]; exact e)
 exact ⟨r_Events.length - (k + 1), by omega, k + 1, by omega, rfl, hs.to ⟨rfl, rfl, rfl, rfl, trivial⟩, m.sub (.c r0 .n)⟩
end Go.Proofs.YtnbpodjbemfpbaaGreat.Fw
set_option linter.all false
set_option maxHeartbeats 4000000
set_option maxRecDepth 100000
namespace Go.Proofs.YtnbpodjbemfpbaaGreat.Fw
open Go
theorem done_c (pag : Addr) (ag : AgM) (r_Err : Fx .i64) (r_Answer : TAnswer) (r_Snap_Rev : Fx .i64) (r_Snap_Now : Fx .i64) (vr_Snap_Leases : SH) (r_Snap_Leases : List TLease) (vr_Events : SH) (r_Events : List TEvent) (vr_Tables_Routes : SH) (r_Tables_Routes : List TRoute) (vr_Tables_Neighs : SH) (r_Tables_Neighs : List TNeigh) (vr_Tables_Fdbs : SH) (r_Tables_Fdbs : List TFdb) (w0 : World) (R : Hh) (hr_Snap_Leases : RdS R 12 vr_Snap_Leases.v (r_Snap_Leases.map cLease)) (hr_Events : RdS R 14 vr_Events.v (r_Events.map cEvent)) (hr_Tables_Routes : RdS R 4 vr_Tables_Routes.v (r_Tables_Routes.map cRoute)) (hr_Tables_Neighs : RdS R 7 vr_Tables_Neighs.v (r_Tables_Neighs.map cNeigh)) (hr_Tables_Fdbs : RdS R 7 vr_Tables_Fdbs.v (r_Tables_Fdbs.map cFdb)) (B0 : ag.view.length ≤ 2000000000) (B1 : ag.Routes.length ≤ 2000000000) (B2 : ag.Neighs.length ≤ 2000000000) (B3 : ag.Fdbs.length ≤ 2000000000) (B4 : ag.skipped.length ≤ 2000000000000) (B5 : r_Events.length ≤ 2000000000) (B6 : r_Snap_Leases.length ≤ 2000000000) (B7 : r_Tables_Routes.length ≤ 2000000000) (B8 : r_Tables_Neighs.length ≤ 2000000000) (B9 : r_Tables_Fdbs.length ≤ 2000000000) (m : Hp w0 R [AgP pag ag] w0) : Calls Tryz.prog 32 ⟨[.pointer (some (padd pag 0)), .agg ⟨cRe r_Err r_Answer r_Snap_Rev r_Snap_Now vr_Snap_Leases.v vr_Events.v vr_Tables_Routes.v vr_Tables_Neighs.v vr_Tables_Fdbs.v⟩]⟩ w0 fun e w' => ∃ v, e = .returned v ∧ (v = (.int .i64 (doneE ag (⟨r_Err, r_Answer, r_Snap_Rev, r_Snap_Now, r_Snap_Leases, r_Events, r_Tables_Routes, r_Tables_Neighs, r_Tables_Fdbs⟩ : ReM))) ∧ Hp w0 R [AgP pag (doneA ag (⟨r_Err, r_Answer, r_Snap_Rev, r_Snap_Now, r_Snap_Leases, r_Events, r_Tables_Routes, r_Tables_Neighs, r_Tables_Fdbs⟩ : ReM))] w') := by
 have lvr_Snap_Leases := hr_Snap_Leases.bd
 have lvr_Events := hr_Events.bd
 have lvr_Tables_Routes := hr_Tables_Routes.bd
 have lvr_Tables_Neighs := hr_Tables_Neighs.bd
 have lvr_Tables_Fdbs := hr_Tables_Fdbs.bd
 refine enter (n := 75) Tryz.func32 rfl rfl rfl fun a (hs : St 75 [(0, .pointer (some (padd pag 0))), (1, .agg ⟨cRe r_Err r_Answer r_Snap_Rev r_Snap_Now vr_Snap_Leases.v vr_Events.v vr_Tables_Routes.v vr_Tables_Neighs.v vr_Tables_Fdbs.v⟩)] a) => ?_
 have mo := m.openAg r0
 clear m; obtain ⟨x1, x2, x3, x4, x5, x6, x7, m⟩ := mo
 refine c_reg ?_
 refine r_box (cs := cRe r_Err r_Answer r_Snap_Rev r_Snap_Now vr_Snap_Leases.v vr_Events.v vr_Tables_Routes.v vr_Tables_Neighs.v vr_Tables_Fdbs.v) hs m rfl (by kernel_rfl) rfl ?_
 clear m hs a; intro p8 w9 m a hs
 refine s_ hs m (ok_assign rfl) (bn_ (bc_ (b_ m (ok_assign rfl) (bn_ (bc_ (b_ m (ok_assign rfl) (bn_ ?_)))))))
 clear hs a; intro a hs
 refine c_seq ?_
 refine c_reg ?_
 refine s_ hs m (ok_move rfl) (b_ m (ok_nilCheck rfl) (b_ m (ok_fieldAddr (r := 10) rfl fd135_2 ty89 rfl) (b_ m (ok_fieldAddr (r := 10) rfl fd89_0 ty3 rfl) (b_ m (ok_load_sc rfl ty3 (bx_at r1) rfl) (bn_ ?_)))))
 clear hs a; intro a hs
 refine wp_block ?_
 refine c_reg ?_
 refine s_ hs m (ok_bin rfl rfl rfl) (b_ m (ok_assign rfl) (bn_ ?_))
 clear hs a; intro a hs
 refine c_cond hs rfl (fun h10 => ?_) (fun h10 => ?_)
 ·have h10p := eq_of_beq h10
  refine c_reg ?_
  refine s_ hs m (ok_assign rfl) (bn_ ?_)
  clear hs a; intro a hs
  refine wp_ret ?_
  refine ret_block (ret_then (leave hs (vs := [.int .i64 160]) rfl ⟨rfl, trivial⟩ ?_))
  replace m := (m.sub (.c r1 (.c r1 (.c r1 (.c r1 (.c r1 (.c r1 (.c r1 (.c r1 (.c r0 .n)))))))))).closeAg (p := pag) (A := ag)
  have q11 : ag = doneA ag (⟨r_Err, r_Answer, r_Snap_Rev, r_Snap_Now, r_Snap_Leases, r_Events, r_Tables_Routes, r_Tables_Neighs, r_Tables_Fdbs⟩ : ReM) := by clear hs m; exact (done_0 (g := ag) (r := ⟨r_Err, r_Answer, r_Snap_Rev, r_Snap_Now, r_Snap_Leases, r_Events, r_Tables_Routes, r_Tables_Neighs, r_Tables_Fdbs⟩) (by omega)).2
  rw [q11] at m
  refine ⟨_, rfl, ?_, m.sub (.c r0 .n)⟩
  have q12 : (160 : Int) = doneE ag (⟨r_Err, r_Answer, r_Snap_Rev, r_Snap_Now, r_Snap_Leases, r_Events, r_Tables_Routes, r_Tables_Neighs, r_Tables_Fdbs⟩ : ReM) := by clear hs m; exact (done_0 (g := ag) (r := ⟨r_Err, r_Answer, r_Snap_Rev, r_Snap_Now, r_Snap_Leases, r_Events, r_Tables_Routes, r_Tables_Neighs, r_Tables_Fdbs⟩) (by omega)).1
  (rw [q12]; rfl)
 have h10p := ne_of_beq_false h10
 refine c_reg ?_
 refine s_ hs m (ok_bin rfl rfl rfl) (b_ m (ok_assign rfl) (bn_ ?_))
 clear hs a; intro a hs
 refine c_cond hs rfl (fun h13 => ?_) (fun h13 => ?_)
 ·have h13p := eq_of_beq h13
  refine c_last ?_
  refine s_ hs m (ok_move rfl) (b_ m (ok_load_ag (vs := cRe r_Err r_Answer r_Snap_Rev r_Snap_Now vr_Snap_Leases.v vr_Events.v vr_Tables_Routes.v vr_Tables_Neighs.v vr_Tables_Fdbs.v) rfl ty77 (bx_at r0) (by kernel_rfl) (by kernel_rfl)) ?_)
  clear hs a; intro a hs
  replace m := (m.sub (.c r1 (.c r1 (.c r1 (.c r1 (.c r1 (.c r1 (.c r1 (.c r1 (.c r0 .n)))))))))).closeAg (p := pag) (A := ag)
  obtain ⟨R1, hR, hR2, ⟨y1, sy, ly⟩, mc, back⟩ := Hp.split (Pc := [AgP pag ag]) (Ps := [Bx p8 77 (cRe r_Err r_Answer r_Snap_Rev r_Snap_Now vr_Snap_Leases.v vr_Events.v vr_Tables_Routes.v vr_Tables_Neighs.v vr_Tables_Fdbs.v)]) (m.sub (.c r0 (.c r0 .n)))
  refine r_call hs rfl rfl ca86 rfl (dumped_c pag ag r_Err r_Answer r_Snap_Rev r_Snap_Now vr_Snap_Leases r_Snap_Leases vr_Events r_Events vr_Tables_Routes r_Tables_Routes vr_Tables_Neighs r_Tables_Neighs vr_Tables_Fdbs r_Tables_Fdbs _ R1 (hr_Snap_Leases.le hR) (hr_Events.le hR) (hr_Tables_Routes.le hR) (hr_Tables_Neighs.le hR) (hr_Tables_Fdbs.le hR) (by omega) (by omega) (by omega) mc) rfl ?_
  clear hs a; rintro _ w14 ⟨rfl, hm⟩ a hs
  replace m : Hp w0 R [AgP pag (dumpA ag r_Err.v r_Tables_Routes r_Tables_Neighs r_Tables_Fdbs), Bx p8 77 (cRe r_Err r_Answer r_Snap_Rev r_Snap_Now vr_Snap_Leases.v vr_Events.v vr_Tables_Routes.v vr_Tables_Neighs.v vr_Tables_Fdbs.v)] w14 := back _ _ hm
  clear hm back mc sy ly hR2 hR y1 R1 w9
  have mo := m.openAg r0
  clear m; obtain ⟨x15, x16, x17, x18, x19, x20, x21, m⟩ := mo
  refine s_ hs m (ok_assign rfl) ?_
  clear hs a; intro a hs
  refine wpList_nil (n_block (n_then ?_))
  refine c_seq ?_
  refine c_reg ?_
  refine s_ hs m (ok_move rfl) (b_ m (ok_bin rfl rfl rfl) (bn_ ?_))
  clear hs a; intro a hs
  refine c_cond hs rfl (fun h22 => ?_) (fun h22 => ?_)
  ·have h22p := ne_of_bne h22
   refine c_reg ?_
   refine s_ hs m (ok_move rfl) (b_ m (ok_assign rfl) (bn_ ?_))
   clear hs a; intro a hs
   refine wp_ret ?_
   refine ret_then (leave hs (vs := [.int .i64 (dumpE r_Err.v r_Tables_Routes r_Tables_Neighs r_Tables_Fdbs)]) rfl ⟨rfl, trivial⟩ ?_)
   replace m := (m.sub (.c r0 (.c r0 (.c r0 (.c r0 (.c r0 (.c r0 (.c r0 (.c r0 (.c r0 .n)))))))))).closeAg (p := pag) (A := (dumpA ag r_Err.v r_Tables_Routes r_Tables_Neighs r_Tables_Fdbs))
   have q23 : (dumpA ag r_Err.v r_Tables_Routes r_Tables_Neighs r_Tables_Fdbs) = doneA ag (⟨r_Err, r_Answer, r_Snap_Rev, r_Snap_Now, r_Snap_Leases, r_Events, r_Tables_Routes, r_Tables_Neighs, r_Tables_Fdbs⟩ : ReM) := by clear hs m; exact (done_e (g := ag) (r := ⟨r_Err, r_Answer, r_Snap_Rev, r_Snap_Now, r_Snap_Leases, r_Events, r_Tables_Routes, r_Tables_Neighs, r_Tables_Fdbs⟩) (tk1 (by omega)) (by omega) (by omega)).2
   rw [q23] at m
   refine ⟨_, rfl, ?_, m.sub (.c r0 .n)⟩
   have q24 : (dumpE r_Err.v r_Tables_Routes r_Tables_Neighs r_Tables_Fdbs : Int) = doneE ag (⟨r_Err, r_Answer, r_Snap_Rev, r_Snap_Now, r_Snap_Leases, r_Events, r_Tables_Routes, r_Tables_Neighs, r_Tables_Fdbs⟩ : ReM) := by clear hs m; exact (done_e (g := ag) (r := ⟨r_Err, r_Answer, r_Snap_Rev, r_Snap_Now, r_Snap_Leases, r_Events, r_Tables_Routes, r_Tables_Neighs, r_Tables_Fdbs⟩) (tk1 (by omega)) (by omega) (by omega)).1
   (rw [q24]; rfl)
  have h22p := eq_of_bne_false h22
  refine wp_skip ?_
  refine n_then ?_
  refine c_reg ?_
  refine s_ hs m (ok_move rfl) (b_ m (ok_move rfl) (b_ m (ok_nilCheck rfl) (b_ m (ok_fieldAddr (r := 10) rfl fd135_2 ty89 rfl) (b_ m (ok_fieldAddr (r := 10) rfl fd89_0 ty3 rfl) (b_ m (ok_load_sc rfl ty3 (bx_at r0) rfl) (b_ m (ok_bin rfl rfl rfl) (b_ m (ok_move rfl) ?_)))))))
  clear hs a; intro a hs
  refine l_cut (.c (.c (.c (.c (.n))))) (fun a w => St 75 [(0, .pointer (some (padd pag 0))), (6, .bool false), (53, .pointer (some (padd pag 0))), (64, .bool ((((((dumpA ag r_Err.v r_Tables_Routes r_Tables_Neighs r_Tables_Fdbs).opn).Kind).v) == 5) && (r_Err.v == 0)))] a ∧ Hp w0 R [Bx pag 135 (cAg ((dumpA ag r_Err.v r_Tables_Routes r_Tables_Neighs r_Tables_Fdbs).self) x16.v ((dumpA ag r_Err.v r_Tables_Routes r_Tables_Neighs r_Tables_Fdbs).opn) ((dumpA ag r_Err.v r_Tables_Routes r_Tables_Neighs r_Tables_Fdbs).read) x17.v x18.v x19.v x20.v ((dumpA ag r_Err.v r_Tables_Routes r_Tables_Neighs r_Tables_Fdbs).cursor) ((dumpA ag r_Err.v r_Tables_Routes r_Tables_Neighs r_Tables_Fdbs).stale) x21.v ((dumpA ag r_Err.v r_Tables_Routes r_Tables_Neighs r_Tables_Fdbs).degraded) ((dumpA ag r_Err.v r_Tables_Routes r_Tables_Neighs r_Tables_Fdbs).granted) ((dumpA ag r_Err.v r_Tables_Routes r_Tables_Neighs r_Tables_Fdbs).waiting) ((dumpA ag r_Err.v r_Tables_Routes r_Tables_Neighs r_Tables_Fdbs).wish) ((dumpA ag r_Err.v r_Tables_Routes r_Tables_Neighs r_Tables_Fdbs).renewed) ((dumpA ag r_Err.v r_Tables_Routes r_Tables_Neighs r_Tables_Fdbs).quiet)), Bx x15 63 [.pointer (some (padd pag 0))], Sv 2 138 x16.v ((rulesOf pag x15 : List (List Value)).map id), Sv 4 51 x17.v (((dumpA ag r_Err.v r_Tables_Routes r_Tables_Neighs r_Tables_Fdbs).Routes).map cRoute), Sv 7 54 x18.v (((dumpA ag r_Err.v r_Tables_Routes r_Tables_Neighs r_Tables_Fdbs).Neighs).map cNeigh), Sv 7 56 x19.v (((dumpA ag r_Err.v r_Tables_Routes r_Tables_Neighs r_Tables_Fdbs).Fdbs).map cFdb), Sv 12 48 x20.v (((dumpA ag r_Err.v r_Tables_Routes r_Tables_Neighs r_Tables_Fdbs).view).map cLease), Sv 2 44 x21.v (((dumpA ag r_Err.v r_Tables_Routes r_Tables_Neighs r_Tables_Fdbs).skipped).map cPrefix), Bx p8 77 (cRe r_Err r_Answer r_Snap_Rev r_Snap_Now vr_Snap_Leases.v vr_Events.v vr_Tables_Routes.v vr_Tables_Neighs.v vr_Tables_Fdbs.v)] w) ?_ ?_
  ·rcases Bool.eq_false_or_eq_true (((((dumpA ag r_Err.v r_Tables_Routes r_Tables_Neighs r_Tables_Fdbs).opn).Kind).v) == 5) with hb25 | hb25
   ·have hb25p := eq_of_beq hb25
    refine sg_ hs hb25 m (ok_fieldAddr (r := 0) rfl fd77_0 ty36 rfl) (bg_ hb25 m (ok_load_sc rfl ty36 (bx_at r8) rfl) (bg_ hb25 m (ok_bin rfl rfl rfl) (b_ m (ok_pick (r := .bool ((((((dumpA ag r_Err.v r_Tables_Routes r_Tables_Neighs r_Tables_Fdbs).opn).Kind).v) == 5) && (r_Err.v == 0))) rfl rfl rfl (by rw [hb25]; rfl)) ?_)))
    clear hs a; intro a hs
    exact wpList_nil (n_then ⟨hs.to ⟨rfl, rfl, rfl, rfl, trivial⟩, m⟩)
   ·have hb25p := ne_of_beq_false hb25
    refine so_ hs hb25 (bo_ hb25 (bo_ hb25 (b_ m (ok_pick (r := .bool ((((((dumpA ag r_Err.v r_Tables_Routes r_Tables_Neighs r_Tables_Fdbs).opn).Kind).v) == 5) && (r_Err.v == 0))) rfl rfl rfl (by rw [hb25]; rfl)) ?_)))
    clear hs a; intro a hs
    exact wpList_nil (n_then ⟨hs.to ⟨rfl, rfl, rfl, rfl, trivial⟩, m⟩)
  clear hs m a w14; rintro a w26 ⟨hs, m⟩
  refine s_ hs m (ok_nilCheck rfl) (b_ m (ok_fieldAddr (r := 57) rfl fd135_13 ty4 rfl) ?_)
  clear hs a; intro a hs
  refine st_ (cAg ((dumpA ag r_Err.v r_Tables_Routes r_Tables_Neighs r_Tables_Fdbs).self) x16.v ((dumpA ag r_Err.v r_Tables_Routes r_Tables_Neighs r_Tables_Fdbs).opn) ((dumpA ag r_Err.v r_Tables_Routes r_Tables_Neighs r_Tables_Fdbs).read) x17.v x18.v x19.v x20.v ((dumpA ag r_Err.v r_Tables_Routes r_Tables_Neighs r_Tables_Fdbs).cursor) ((dumpA ag r_Err.v r_Tables_Routes r_Tables_Neighs r_Tables_Fdbs).stale) x21.v ((dumpA ag r_Err.v r_Tables_Routes r_Tables_Neighs r_Tables_Fdbs).degraded) ((dumpA ag r_Err.v r_Tables_Routes r_Tables_Neighs r_Tables_Fdbs).granted) ((dumpA ag r_Err.v r_Tables_Routes r_Tables_Neighs r_Tables_Fdbs).waiting) ((dumpA ag r_Err.v r_Tables_Routes r_Tables_Neighs r_Tables_Fdbs).wish) ((((((dumpA ag r_Err.v r_Tables_Routes r_Tables_Neighs r_Tables_Fdbs).opn).Kind).v) == 5) && (r_Err.v == 0)) ((dumpA ag r_Err.v r_Tables_Routes r_Tables_Neighs r_Tables_Fdbs).quiet)) [.bool ((((((dumpA ag r_Err.v r_Tables_Routes r_Tables_Neighs r_Tables_Fdbs).opn).Kind).v) == 5) && (r_Err.v == 0))] hs m ty4 s0 ?_
  clear m w26; intro w27 m
  refine wpList_nil (n_then ?_)
  refine c_reg ?_
  refine s_ hs m (ok_move rfl) (b_ m (ok_move rfl) (b_ m (ok_move rfl) (b_ m (ok_build (cs := cReq zReq) st89 ze89 rfl (by kernel_rfl)) (b_ m (ok_nilCheck rfl) (b_ m (ok_fieldAddr (r := 58) rfl fd135_14 ty4 rfl) ?_)))))
  clear hs a; intro a hs
  refine st_ (cAg ((dumpA ag r_Err.v r_Tables_Routes r_Tables_Neighs r_Tables_Fdbs).self) x16.v ((dumpA ag r_Err.v r_Tables_Routes r_Tables_Neighs r_Tables_Fdbs).opn) ((dumpA ag r_Err.v r_Tables_Routes r_Tables_Neighs r_Tables_Fdbs).read) x17.v x18.v x19.v x20.v ((dumpA ag r_Err.v r_Tables_Routes r_Tables_Neighs r_Tables_Fdbs).cursor) ((dumpA ag r_Err.v r_Tables_Routes r_Tables_Neighs r_Tables_Fdbs).stale) x21.v ((dumpA ag r_Err.v r_Tables_Routes r_Tables_Neighs r_Tables_Fdbs).degraded) ((dumpA ag r_Err.v r_Tables_Routes r_Tables_Neighs r_Tables_Fdbs).granted) ((dumpA ag r_Err.v r_Tables_Routes r_Tables_Neighs r_Tables_Fdbs).waiting) ((dumpA ag r_Err.v r_Tables_Routes r_Tables_Neighs r_Tables_Fdbs).wish) ((((((dumpA ag r_Err.v r_Tables_Routes r_Tables_Neighs r_Tables_Fdbs).opn).Kind).v) == 5) && (r_Err.v == 0)) false) [.bool false] hs m ty4 s0 ?_
  clear m w27; intro w28 m
  refine s_ hs m (ok_nilCheck rfl) (b_ m (ok_fieldAddr (r := 10) rfl fd135_2 ty89 rfl) ?_)
  clear hs a; intro a hs
  refine st_ (cAg ((dumpA ag r_Err.v r_Tables_Routes r_Tables_Neighs r_Tables_Fdbs).self) x16.v zReq ((dumpA ag r_Err.v r_Tables_Routes r_Tables_Neighs r_Tables_Fdbs).read) x17.v x18.v x19.v x20.v ((dumpA ag r_Err.v r_Tables_Routes r_Tables_Neighs r_Tables_Fdbs).cursor) ((dumpA ag r_Err.v r_Tables_Routes r_Tables_Neighs r_Tables_Fdbs).stale) x21.v ((dumpA ag r_Err.v r_Tables_Routes r_Tables_Neighs r_Tables_Fdbs).degraded) ((dumpA ag r_Err.v r_Tables_Routes r_Tables_Neighs r_Tables_Fdbs).granted) ((dumpA ag r_Err.v r_Tables_Routes r_Tables_Neighs r_Tables_Fdbs).waiting) ((dumpA ag r_Err.v r_Tables_Routes r_Tables_Neighs r_Tables_Fdbs).wish) ((((((dumpA ag r_Err.v r_Tables_Routes r_Tables_Neighs r_Tables_Fdbs).opn).Kind).v) == 5) && (r_Err.v == 0)) false) (cReq zReq) hs m ty89 s0 ?_
  clear m w28; intro w29 m
  refine wpList_nil (n_then ?_)
  refine c_reg ?_
  refine s_ hs m (ok_assign rfl) (bn_ ?_)
  clear hs a; intro a hs
  refine wp_ret ?_
  refine leave hs (vs := [.int .i64 0]) rfl ⟨rfl, trivial⟩ ?_
  replace m := (m.sub (.c r0 (.c r0 (.c r0 (.c r0 (.c r0 (.c r0 (.c r0 (.c r0 (.c r0 .n)))))))))).closeAg (p := pag) (A := ({ (dumpA ag r_Err.v r_Tables_Routes r_Tables_Neighs r_Tables_Fdbs) with opn := zReq, renewed := (((((dumpA ag r_Err.v r_Tables_Routes r_Tables_Neighs r_Tables_Fdbs).opn).Kind).v) == 5) && (r_Err.v == 0), quiet := false } : AgM))
  have q30 : ({ (dumpA ag r_Err.v r_Tables_Routes r_Tables_Neighs r_Tables_Fdbs) with opn := zReq, renewed := (((((dumpA ag r_Err.v r_Tables_Routes r_Tables_Neighs r_Tables_Fdbs).opn).Kind).v) == 5) && (r_Err.v == 0), quiet := false } : AgM) = doneA ag (⟨r_Err, r_Answer, r_Snap_Rev, r_Snap_Now, r_Snap_Leases, r_Events, r_Tables_Routes, r_Tables_Neighs, r_Tables_Fdbs⟩ : ReM) := by clear hs m; exact (done_k (g := ag) (r := ⟨r_Err, r_Answer, r_Snap_Rev, r_Snap_Now, r_Snap_Leases, r_Events, r_Tables_Routes, r_Tables_Neighs, r_Tables_Fdbs⟩) (tk1 (by omega)) (by omega) (by omega) (qt0 (by omega))).2
  rw [q30] at m
  refine ⟨_, rfl, ?_, m.sub (.c r0 .n)⟩
  have q31 : (0 : Int) = doneE ag (⟨r_Err, r_Answer, r_Snap_Rev, r_Snap_Now, r_Snap_Leases, r_Events, r_Tables_Routes, r_Tables_Neighs, r_Tables_Fdbs⟩ : ReM) := by clear hs m; exact (done_k (g := ag) (r := ⟨r_Err, r_Answer, r_Snap_Rev, r_Snap_Now, r_Snap_Leases, r_Events, r_Tables_Routes, r_Tables_Neighs, r_Tables_Fdbs⟩) (tk1 (by omega)) (by omega) (by omega) (qt0 (by omega))).1
  (rw [q31]; rfl)
 have h13p := ne_of_beq_false h13
 refine c_reg ?_
 refine s_ hs m (ok_bin rfl rfl rfl) (b_ m (ok_assign rfl) (bn_ ?_))
 clear hs a; intro a hs
 refine c_cond hs rfl (fun h32 => ?_) (fun h32 => ?_)
 ·have h32p := eq_of_beq h32
  refine c_last ?_
  refine s_ hs m (ok_move rfl) (b_ m (ok_load_ag (vs := cRe r_Err r_Answer r_Snap_Rev r_Snap_Now vr_Snap_Leases.v vr_Events.v vr_Tables_Routes.v vr_Tables_Neighs.v vr_Tables_Fdbs.v) rfl ty77 (bx_at r0) (by kernel_rfl) (by kernel_rfl)) ?_)
  clear hs a; intro a hs
  replace m := (m.sub (.c r1 (.c r1 (.c r1 (.c r1 (.c r1 (.c r1 (.c r1 (.c r1 (.c r0 .n)))))))))).closeAg (p := pag) (A := ag)
  obtain ⟨R1, hR, hR2, ⟨y1, sy, ly⟩, mc, back⟩ := Hp.split (Pc := [AgP pag ag]) (Ps := [Bx p8 77 (cRe r_Err r_Answer r_Snap_Rev r_Snap_Now vr_Snap_Leases.v vr_Events.v vr_Tables_Routes.v vr_Tables_Neighs.v vr_Tables_Fdbs.v)]) (m.sub (.c r0 (.c r0 .n)))
  refine r_call hs rfl rfl ca87 rfl (snapped_c pag ag r_Err r_Answer r_Snap_Rev r_Snap_Now vr_Snap_Leases r_Snap_Leases vr_Events r_Events vr_Tables_Routes r_Tables_Routes vr_Tables_Neighs r_Tables_Neighs vr_Tables_Fdbs r_Tables_Fdbs _ R1 (hr_Snap_Leases.le hR) (hr_Events.le hR) (hr_Tables_Routes.le hR) (hr_Tables_Neighs.le hR) (hr_Tables_Fdbs.le hR) (by omega) mc) rfl ?_
  clear hs a; rintro _ w33 ⟨rfl, hm⟩ a hs
  replace m : Hp w0 R [AgP pag (snapA ag r_Err.v r_Snap_Rev r_Snap_Leases), Bx p8 77 (cRe r_Err r_Answer r_Snap_Rev r_Snap_Now vr_Snap_Leases.v vr_Events.v vr_Tables_Routes.v vr_Tables_Neighs.v vr_Tables_Fdbs.v)] w33 := back _ _ hm
  clear hm back mc sy ly hR2 hR y1 R1 w9
  have mo := m.openAg r0
  clear m; obtain ⟨x34, x35, x36, x37, x38, x39, x40, m⟩ := mo
  refine s_ hs m (ok_assign rfl) ?_
  clear hs a; intro a hs
  refine wpList_nil (n_block (n_then ?_))
  refine c_seq ?_
  refine c_reg ?_
  refine s_ hs m (ok_move rfl) (b_ m (ok_bin rfl rfl rfl) (bn_ ?_))
  clear hs a; intro a hs
  refine c_cond hs rfl (fun h41 => ?_) (fun h41 => ?_)
  ·have h41p := ne_of_bne h41
   refine c_reg ?_
   refine s_ hs m (ok_move rfl) (b_ m (ok_assign rfl) (bn_ ?_))
   clear hs a; intro a hs
   refine wp_ret ?_
   refine ret_then (leave hs (vs := [.int .i64 (snapE r_Err.v r_Snap_Rev.v r_Snap_Leases)]) rfl ⟨rfl, trivial⟩ ?_)
   replace m := (m.sub (.c r0 (.c r0 (.c r0 (.c r0 (.c r0 (.c r0 (.c r0 (.c r0 (.c r0 .n)))))))))).closeAg (p := pag) (A := (snapA ag r_Err.v r_Snap_Rev r_Snap_Leases))
   have q42 : (snapA ag r_Err.v r_Snap_Rev r_Snap_Leases) = doneA ag (⟨r_Err, r_Answer, r_Snap_Rev, r_Snap_Now, r_Snap_Leases, r_Events, r_Tables_Routes, r_Tables_Neighs, r_Tables_Fdbs⟩ : ReM) := by clear hs m; exact (done_e (g := ag) (r := ⟨r_Err, r_Answer, r_Snap_Rev, r_Snap_Now, r_Snap_Leases, r_Events, r_Tables_Routes, r_Tables_Neighs, r_Tables_Fdbs⟩) (tk2 (by omega)) (by omega) (by omega)).2
   rw [q42] at m
   refine ⟨_, rfl, ?_, m.sub (.c r0 .n)⟩
   have q43 : (snapE r_Err.v r_Snap_Rev.v r_Snap_Leases : Int) = doneE ag (⟨r_Err, r_Answer, r_Snap_Rev, r_Snap_Now, r_Snap_Leases, r_Events, r_Tables_Routes, r_Tables_Neighs, r_Tables_Fdbs⟩ : ReM) := by clear hs m; exact (done_e (g := ag) (r := ⟨r_Err, r_Answer, r_Snap_Rev, r_Snap_Now, r_Snap_Leases, r_Events, r_Tables_Routes, r_Tables_Neighs, r_Tables_Fdbs⟩) (tk2 (by omega)) (by omega) (by omega)).1
   (rw [q43]; rfl)
  have h41p := eq_of_bne_false h41
  refine wp_skip ?_
  refine n_then ?_
  refine c_reg ?_
  refine s_ hs m (ok_move rfl) (b_ m (ok_move rfl) (b_ m (ok_nilCheck rfl) (b_ m (ok_fieldAddr (r := 10) rfl fd135_2 ty89 rfl) (b_ m (ok_fieldAddr (r := 10) rfl fd89_0 ty3 rfl) (b_ m (ok_load_sc rfl ty3 (bx_at r0) rfl) (b_ m (ok_bin rfl rfl rfl) (b_ m (ok_move rfl) ?_)))))))
  clear hs a; intro a hs
  refine l_cut (.c (.c (.c (.c (.n))))) (fun a w => St 75 [(0, .pointer (some (padd pag 0))), (6, .bool false), (53, .pointer (some (padd pag 0))), (64, .bool ((((((snapA ag r_Err.v r_Snap_Rev r_Snap_Leases).opn).Kind).v) == 5) && (r_Err.v == 0)))] a ∧ Hp w0 R [Bx pag 135 (cAg ((snapA ag r_Err.v r_Snap_Rev r_Snap_Leases).self) x35.v ((snapA ag r_Err.v r_Snap_Rev r_Snap_Leases).opn) ((snapA ag r_Err.v r_Snap_Rev r_Snap_Leases).read) x36.v x37.v x38.v x39.v ((snapA ag r_Err.v r_Snap_Rev r_Snap_Leases).cursor) ((snapA ag r_Err.v r_Snap_Rev r_Snap_Leases).stale) x40.v ((snapA ag r_Err.v r_Snap_Rev r_Snap_Leases).degraded) ((snapA ag r_Err.v r_Snap_Rev r_Snap_Leases).granted) ((snapA ag r_Err.v r_Snap_Rev r_Snap_Leases).waiting) ((snapA ag r_Err.v r_Snap_Rev r_Snap_Leases).wish) ((snapA ag r_Err.v r_Snap_Rev r_Snap_Leases).renewed) ((snapA ag r_Err.v r_Snap_Rev r_Snap_Leases).quiet)), Bx x34 63 [.pointer (some (padd pag 0))], Sv 2 138 x35.v ((rulesOf pag x34 : List (List Value)).map id), Sv 4 51 x36.v (((snapA ag r_Err.v r_Snap_Rev r_Snap_Leases).Routes).map cRoute), Sv 7 54 x37.v (((snapA ag r_Err.v r_Snap_Rev r_Snap_Leases).Neighs).map cNeigh), Sv 7 56 x38.v (((snapA ag r_Err.v r_Snap_Rev r_Snap_Leases).Fdbs).map cFdb), Sv 12 48 x39.v (((snapA ag r_Err.v r_Snap_Rev r_Snap_Leases).view).map cLease), Sv 2 44 x40.v (((snapA ag r_Err.v r_Snap_Rev r_Snap_Leases).skipped).map cPrefix), Bx p8 77 (cRe r_Err r_Answer r_Snap_Rev r_Snap_Now vr_Snap_Leases.v vr_Events.v vr_Tables_Routes.v vr_Tables_Neighs.v vr_Tables_Fdbs.v)] w) ?_ ?_
  ·rcases Bool.eq_false_or_eq_true (((((snapA ag r_Err.v r_Snap_Rev r_Snap_Leases).opn).Kind).v) == 5) with hb44 | hb44
   ·have hb44p := eq_of_beq hb44
    refine sg_ hs hb44 m (ok_fieldAddr (r := 0) rfl fd77_0 ty36 rfl) (bg_ hb44 m (ok_load_sc rfl ty36 (bx_at r8) rfl) (bg_ hb44 m (ok_bin rfl rfl rfl) (b_ m (ok_pick (r := .bool ((((((snapA ag r_Err.v r_Snap_Rev r_Snap_Leases).opn).Kind).v) == 5) && (r_Err.v == 0))) rfl rfl rfl (by rw [hb44]; rfl)) ?_)))
    clear hs a; intro a hs
    exact wpList_nil (n_then ⟨hs.to ⟨rfl, rfl, rfl, rfl, trivial⟩, m⟩)
   ·have hb44p := ne_of_beq_false hb44
    refine so_ hs hb44 (bo_ hb44 (bo_ hb44 (b_ m (ok_pick (r := .bool ((((((snapA ag r_Err.v r_Snap_Rev r_Snap_Leases).opn).Kind).v) == 5) && (r_Err.v == 0))) rfl rfl rfl (by rw [hb44]; rfl)) ?_)))
    clear hs a; intro a hs
    exact wpList_nil (n_then ⟨hs.to ⟨rfl, rfl, rfl, rfl, trivial⟩, m⟩)
  clear hs m a w33; rintro a w45 ⟨hs, m⟩
  refine s_ hs m (ok_nilCheck rfl) (b_ m (ok_fieldAddr (r := 57) rfl fd135_13 ty4 rfl) ?_)
  clear hs a; intro a hs
  refine st_ (cAg ((snapA ag r_Err.v r_Snap_Rev r_Snap_Leases).self) x35.v ((snapA ag r_Err.v r_Snap_Rev r_Snap_Leases).opn) ((snapA ag r_Err.v r_Snap_Rev r_Snap_Leases).read) x36.v x37.v x38.v x39.v ((snapA ag r_Err.v r_Snap_Rev r_Snap_Leases).cursor) ((snapA ag r_Err.v r_Snap_Rev r_Snap_Leases).stale) x40.v ((snapA ag r_Err.v r_Snap_Rev r_Snap_Leases).degraded) ((snapA ag r_Err.v r_Snap_Rev r_Snap_Leases).granted) ((snapA ag r_Err.v r_Snap_Rev r_Snap_Leases).waiting) ((snapA ag r_Err.v r_Snap_Rev r_Snap_Leases).wish) ((((((snapA ag r_Err.v r_Snap_Rev r_Snap_Leases).opn).Kind).v) == 5) && (r_Err.v == 0)) ((snapA ag r_Err.v r_Snap_Rev r_Snap_Leases).quiet)) [.bool ((((((snapA ag r_Err.v r_Snap_Rev r_Snap_Leases).opn).Kind).v) == 5) && (r_Err.v == 0))] hs m ty4 s0 ?_
  clear m w45; intro w46 m
  refine wpList_nil (n_then ?_)
  refine c_reg ?_
  refine s_ hs m (ok_move rfl) (b_ m (ok_move rfl) (b_ m (ok_move rfl) (b_ m (ok_build (cs := cReq zReq) st89 ze89 rfl (by kernel_rfl)) (b_ m (ok_nilCheck rfl) (b_ m (ok_fieldAddr (r := 58) rfl fd135_14 ty4 rfl) ?_)))))
  clear hs a; intro a hs
  refine st_ (cAg ((snapA ag r_Err.v r_Snap_Rev r_Snap_Leases).self) x35.v ((snapA ag r_Err.v r_Snap_Rev r_Snap_Leases).opn) ((snapA ag r_Err.v r_Snap_Rev r_Snap_Leases).read) x36.v x37.v x38.v x39.v ((snapA ag r_Err.v r_Snap_Rev r_Snap_Leases).cursor) ((snapA ag r_Err.v r_Snap_Rev r_Snap_Leases).stale) x40.v ((snapA ag r_Err.v r_Snap_Rev r_Snap_Leases).degraded) ((snapA ag r_Err.v r_Snap_Rev r_Snap_Leases).granted) ((snapA ag r_Err.v r_Snap_Rev r_Snap_Leases).waiting) ((snapA ag r_Err.v r_Snap_Rev r_Snap_Leases).wish) ((((((snapA ag r_Err.v r_Snap_Rev r_Snap_Leases).opn).Kind).v) == 5) && (r_Err.v == 0)) false) [.bool false] hs m ty4 s0 ?_
  clear m w46; intro w47 m
  refine s_ hs m (ok_nilCheck rfl) (b_ m (ok_fieldAddr (r := 10) rfl fd135_2 ty89 rfl) ?_)
  clear hs a; intro a hs
  refine st_ (cAg ((snapA ag r_Err.v r_Snap_Rev r_Snap_Leases).self) x35.v zReq ((snapA ag r_Err.v r_Snap_Rev r_Snap_Leases).read) x36.v x37.v x38.v x39.v ((snapA ag r_Err.v r_Snap_Rev r_Snap_Leases).cursor) ((snapA ag r_Err.v r_Snap_Rev r_Snap_Leases).stale) x40.v ((snapA ag r_Err.v r_Snap_Rev r_Snap_Leases).degraded) ((snapA ag r_Err.v r_Snap_Rev r_Snap_Leases).granted) ((snapA ag r_Err.v r_Snap_Rev r_Snap_Leases).waiting) ((snapA ag r_Err.v r_Snap_Rev r_Snap_Leases).wish) ((((((snapA ag r_Err.v r_Snap_Rev r_Snap_Leases).opn).Kind).v) == 5) && (r_Err.v == 0)) false) (cReq zReq) hs m ty89 s0 ?_
  clear m w47; intro w48 m
  refine wpList_nil (n_then ?_)
  refine c_reg ?_
  refine s_ hs m (ok_assign rfl) (bn_ ?_)
  clear hs a; intro a hs
  refine wp_ret ?_
  refine leave hs (vs := [.int .i64 0]) rfl ⟨rfl, trivial⟩ ?_
  replace m := (m.sub (.c r0 (.c r0 (.c r0 (.c r0 (.c r0 (.c r0 (.c r0 (.c r0 (.c r0 .n)))))))))).closeAg (p := pag) (A := ({ (snapA ag r_Err.v r_Snap_Rev r_Snap_Leases) with opn := zReq, renewed := (((((snapA ag r_Err.v r_Snap_Rev r_Snap_Leases).opn).Kind).v) == 5) && (r_Err.v == 0), quiet := false } : AgM))
  have q49 : ({ (snapA ag r_Err.v r_Snap_Rev r_Snap_Leases) with opn := zReq, renewed := (((((snapA ag r_Err.v r_Snap_Rev r_Snap_Leases).opn).Kind).v) == 5) && (r_Err.v == 0), quiet := false } : AgM) = doneA ag (⟨r_Err, r_Answer, r_Snap_Rev, r_Snap_Now, r_Snap_Leases, r_Events, r_Tables_Routes, r_Tables_Neighs, r_Tables_Fdbs⟩ : ReM) := by clear hs m; exact (done_k (g := ag) (r := ⟨r_Err, r_Answer, r_Snap_Rev, r_Snap_Now, r_Snap_Leases, r_Events, r_Tables_Routes, r_Tables_Neighs, r_Tables_Fdbs⟩) (tk2 (by omega)) (by omega) (by omega) (qt0 (by omega))).2
  rw [q49] at m
  refine ⟨_, rfl, ?_, m.sub (.c r0 .n)⟩
  have q50 : (0 : Int) = doneE ag (⟨r_Err, r_Answer, r_Snap_Rev, r_Snap_Now, r_Snap_Leases, r_Events, r_Tables_Routes, r_Tables_Neighs, r_Tables_Fdbs⟩ : ReM) := by clear hs m; exact (done_k (g := ag) (r := ⟨r_Err, r_Answer, r_Snap_Rev, r_Snap_Now, r_Snap_Leases, r_Events, r_Tables_Routes, r_Tables_Neighs, r_Tables_Fdbs⟩) (tk2 (by omega)) (by omega) (by omega) (qt0 (by omega))).1
  (rw [q50]; rfl)
 have h32p := ne_of_beq_false h32
 refine c_reg ?_
 refine s_ hs m (ok_bin rfl rfl rfl) (b_ m (ok_assign rfl) (bn_ ?_))
 clear hs a; intro a hs
 refine c_cond hs rfl (fun h51 => ?_) (fun h51 => ?_)
 ·have h51p := eq_of_beq h51
  refine c_last ?_
  refine s_ hs m (ok_move rfl) (b_ m (ok_fieldAddr (r := 0) rfl fd77_0 ty36 rfl) (b_ m (ok_load_sc rfl ty36 (bx_at r0) rfl) ?_))
  clear hs a; intro a hs
  replace m := (m.sub (.c r1 (.c r1 (.c r1 (.c r1 (.c r1 (.c r1 (.c r1 (.c r1 (.c r0 .n)))))))))).closeAg (p := pag) (A := ag)
  obtain ⟨R1, hR, hR2, ⟨y1, sy, ly⟩, mc, back⟩ := Hp.split (Pc := [AgP pag ag]) (Ps := [Bx p8 77 (cRe r_Err r_Answer r_Snap_Rev r_Snap_Now vr_Snap_Leases.v vr_Events.v vr_Tables_Routes.v vr_Tables_Neighs.v vr_Tables_Fdbs.v)]) (m.sub (.c r0 (.c r0 .n)))
  refine r_call hs rfl rfl ca88 rfl (changed_c pag ag r_Err.v _ R1  (by omega) (by omega) (by omega) (by omega) (by omega) mc) rfl ?_
  clear hs a; rintro _ w52 ⟨rfl, hm⟩ a hs
  replace m : Hp w0 R [AgP pag (changedA ag r_Err.v), Bx p8 77 (cRe r_Err r_Answer r_Snap_Rev r_Snap_Now vr_Snap_Leases.v vr_Events.v vr_Tables_Routes.v vr_Tables_Neighs.v vr_Tables_Fdbs.v)] w52 := back _ _ hm
  clear hm back mc sy ly hR2 hR y1 R1 w9
  have mo := m.openAg r0
  clear m; obtain ⟨x53, x54, x55, x56, x57, x58, x59, m⟩ := mo
  refine wpList_nil (n_block (n_then ?_))
  refine c_seq ?_
  refine c_reg ?_
  refine s_ hs m (ok_move rfl) (b_ m (ok_bin (v := .bool false) rfl rfl rfl) (bn_ ?_))
  clear hs a; intro a hs
  refine c_false hs rfl rfl ?_
  refine wp_skip ?_
  refine n_then ?_
  refine c_reg ?_
  refine s_ hs m (ok_move rfl) (b_ m (ok_move rfl) (b_ m (ok_nilCheck rfl) (b_ m (ok_fieldAddr (r := 10) rfl fd135_2 ty89 rfl) (b_ m (ok_fieldAddr (r := 10) rfl fd89_0 ty3 rfl) (b_ m (ok_load_sc rfl ty3 (bx_at r0) rfl) (b_ m (ok_bin rfl rfl rfl) (b_ m (ok_move rfl) ?_)))))))
  clear hs a; intro a hs
  refine l_cut (.c (.c (.c (.c (.n))))) (fun a w => St 75 [(0, .pointer (some (padd pag 0))), (6, .bool false), (53, .pointer (some (padd pag 0))), (64, .bool ((((((changedA ag r_Err.v).opn).Kind).v) == 5) && (r_Err.v == 0)))] a ∧ Hp w0 R [Bx pag 135 (cAg ((changedA ag r_Err.v).self) x54.v ((changedA ag r_Err.v).opn) ((changedA ag r_Err.v).read) x55.v x56.v x57.v x58.v ((changedA ag r_Err.v).cursor) ((changedA ag r_Err.v).stale) x59.v ((changedA ag r_Err.v).degraded) ((changedA ag r_Err.v).granted) ((changedA ag r_Err.v).waiting) ((changedA ag r_Err.v).wish) ((changedA ag r_Err.v).renewed) ((changedA ag r_Err.v).quiet)), Bx x53 63 [.pointer (some (padd pag 0))], Sv 2 138 x54.v ((rulesOf pag x53 : List (List Value)).map id), Sv 4 51 x55.v (((changedA ag r_Err.v).Routes).map cRoute), Sv 7 54 x56.v (((changedA ag r_Err.v).Neighs).map cNeigh), Sv 7 56 x57.v (((changedA ag r_Err.v).Fdbs).map cFdb), Sv 12 48 x58.v (((changedA ag r_Err.v).view).map cLease), Sv 2 44 x59.v (((changedA ag r_Err.v).skipped).map cPrefix), Bx p8 77 (cRe r_Err r_Answer r_Snap_Rev r_Snap_Now vr_Snap_Leases.v vr_Events.v vr_Tables_Routes.v vr_Tables_Neighs.v vr_Tables_Fdbs.v)] w) ?_ ?_
  ·rcases Bool.eq_false_or_eq_true (((((changedA ag r_Err.v).opn).Kind).v) == 5) with hb61 | hb61
   ·have hb61p := eq_of_beq hb61
    refine sg_ hs hb61 m (ok_fieldAddr (r := 0) rfl fd77_0 ty36 rfl) (bg_ hb61 m (ok_load_sc rfl ty36 (bx_at r8) rfl) (bg_ hb61 m (ok_bin rfl rfl rfl) (b_ m (ok_pick (r := .bool ((((((changedA ag r_Err.v).opn).Kind).v) == 5) && (r_Err.v == 0))) rfl rfl rfl (by rw [hb61]; rfl)) ?_)))
    clear hs a; intro a hs
    exact wpList_nil (n_then ⟨hs.to ⟨rfl, rfl, rfl, rfl, trivial⟩, m⟩)
   ·have hb61p := ne_of_beq_false hb61
    refine so_ hs hb61 (bo_ hb61 (bo_ hb61 (b_ m (ok_pick (r := .bool ((((((changedA ag r_Err.v).opn).Kind).v) == 5) && (r_Err.v == 0))) rfl rfl rfl (by rw [hb61]; rfl)) ?_)))
    clear hs a; intro a hs
    exact wpList_nil (n_then ⟨hs.to ⟨rfl, rfl, rfl, rfl, trivial⟩, m⟩)
  clear hs m a w52; rintro a w62 ⟨hs, m⟩
  refine s_ hs m (ok_nilCheck rfl) (b_ m (ok_fieldAddr (r := 57) rfl fd135_13 ty4 rfl) ?_)
  clear hs a; intro a hs
  refine st_ (cAg ((changedA ag r_Err.v).self) x54.v ((changedA ag r_Err.v).opn) ((changedA ag r_Err.v).read) x55.v x56.v x57.v x58.v ((changedA ag r_Err.v).cursor) ((changedA ag r_Err.v).stale) x59.v ((changedA ag r_Err.v).degraded) ((changedA ag r_Err.v).granted) ((changedA ag r_Err.v).waiting) ((changedA ag r_Err.v).wish) ((((((changedA ag r_Err.v).opn).Kind).v) == 5) && (r_Err.v == 0)) ((changedA ag r_Err.v).quiet)) [.bool ((((((changedA ag r_Err.v).opn).Kind).v) == 5) && (r_Err.v == 0))] hs m ty4 s0 ?_
  clear m w62; intro w63 m
  refine wpList_nil (n_then ?_)
  refine c_reg ?_
  refine s_ hs m (ok_move rfl) (b_ m (ok_move rfl) (b_ m (ok_move rfl) (b_ m (ok_build (cs := cReq zReq) st89 ze89 rfl (by kernel_rfl)) (b_ m (ok_nilCheck rfl) (b_ m (ok_fieldAddr (r := 58) rfl fd135_14 ty4 rfl) ?_)))))
  clear hs a; intro a hs
  refine st_ (cAg ((changedA ag r_Err.v).self) x54.v ((changedA ag r_Err.v).opn) ((changedA ag r_Err.v).read) x55.v x56.v x57.v x58.v ((changedA ag r_Err.v).cursor) ((changedA ag r_Err.v).stale) x59.v ((changedA ag r_Err.v).degraded) ((changedA ag r_Err.v).granted) ((changedA ag r_Err.v).waiting) ((changedA ag r_Err.v).wish) ((((((changedA ag r_Err.v).opn).Kind).v) == 5) && (r_Err.v == 0)) false) [.bool false] hs m ty4 s0 ?_
  clear m w63; intro w64 m
  refine s_ hs m (ok_nilCheck rfl) (b_ m (ok_fieldAddr (r := 10) rfl fd135_2 ty89 rfl) ?_)
  clear hs a; intro a hs
  refine st_ (cAg ((changedA ag r_Err.v).self) x54.v zReq ((changedA ag r_Err.v).read) x55.v x56.v x57.v x58.v ((changedA ag r_Err.v).cursor) ((changedA ag r_Err.v).stale) x59.v ((changedA ag r_Err.v).degraded) ((changedA ag r_Err.v).granted) ((changedA ag r_Err.v).waiting) ((changedA ag r_Err.v).wish) ((((((changedA ag r_Err.v).opn).Kind).v) == 5) && (r_Err.v == 0)) false) (cReq zReq) hs m ty89 s0 ?_
  clear m w64; intro w65 m
  refine wpList_nil (n_then ?_)
  refine c_reg ?_
  refine s_ hs m (ok_assign rfl) (bn_ ?_)
  clear hs a; intro a hs
  refine wp_ret ?_
  refine leave hs (vs := [.int .i64 0]) rfl ⟨rfl, trivial⟩ ?_
  replace m := (m.sub (.c r0 (.c r0 (.c r0 (.c r0 (.c r0 (.c r0 (.c r0 (.c r0 (.c r0 .n)))))))))).closeAg (p := pag) (A := ({ (changedA ag r_Err.v) with opn := zReq, renewed := (((((changedA ag r_Err.v).opn).Kind).v) == 5) && (r_Err.v == 0), quiet := false } : AgM))
  have q66 : ({ (changedA ag r_Err.v) with opn := zReq, renewed := (((((changedA ag r_Err.v).opn).Kind).v) == 5) && (r_Err.v == 0), quiet := false } : AgM) = doneA ag (⟨r_Err, r_Answer, r_Snap_Rev, r_Snap_Now, r_Snap_Leases, r_Events, r_Tables_Routes, r_Tables_Neighs, r_Tables_Fdbs⟩ : ReM) := by clear hs m; exact (done_k (g := ag) (r := ⟨r_Err, r_Answer, r_Snap_Rev, r_Snap_Now, r_Snap_Leases, r_Events, r_Tables_Routes, r_Tables_Neighs, r_Tables_Fdbs⟩) (tk3 (by omega)) (by omega) (by omega) (qt0 (by omega))).2
  rw [q66] at m
  refine ⟨_, rfl, ?_, m.sub (.c r0 .n)⟩
  have q67 : (0 : Int) = doneE ag (⟨r_Err, r_Answer, r_Snap_Rev, r_Snap_Now, r_Snap_Leases, r_Events, r_Tables_Routes, r_Tables_Neighs, r_Tables_Fdbs⟩ : ReM) := by clear hs m; exact (done_k (g := ag) (r := ⟨r_Err, r_Answer, r_Snap_Rev, r_Snap_Now, r_Snap_Leases, r_Events, r_Tables_Routes, r_Tables_Neighs, r_Tables_Fdbs⟩) (tk3 (by omega)) (by omega) (by omega) (qt0 (by omega))).1
  (rw [q67]; rfl)
 have h51p := ne_of_beq_false h51
 refine c_seq ?_
 refine c_reg ?_
 refine s_ hs m (ok_bin rfl rfl rfl) (b_ m (ok_assign rfl) (bn_ ?_))
 clear hs a; intro a hs
 refine c_cond hs rfl (fun h68 => ?_) (fun h68 => ?_)
 ·have h68p := eq_of_beq h68
  refine wp_skip ?_
  refine n_then ?_
  refine c_true hs rfl h68 ?_
  refine c_last ?_
  refine s_ hs m (ok_move rfl) (b_ m (ok_load_ag (vs := cRe r_Err r_Answer r_Snap_Rev r_Snap_Now vr_Snap_Leases.v vr_Events.v vr_Tables_Routes.v vr_Tables_Neighs.v vr_Tables_Fdbs.v) rfl ty77 (bx_at r0) (by kernel_rfl) (by kernel_rfl)) ?_)
  clear hs a; intro a hs
  replace m := (m.sub (.c r1 (.c r1 (.c r1 (.c r1 (.c r1 (.c r1 (.c r1 (.c r1 (.c r0 .n)))))))))).closeAg (p := pag) (A := ag)
  obtain ⟨R1, hR, hR2, ⟨y1, sy, ly⟩, mc, back⟩ := Hp.split (Pc := [AgP pag ag]) (Ps := [Bx p8 77 (cRe r_Err r_Answer r_Snap_Rev r_Snap_Now vr_Snap_Leases.v vr_Events.v vr_Tables_Routes.v vr_Tables_Neighs.v vr_Tables_Fdbs.v)]) (m.sub (.c r0 (.c r0 .n)))
  refine r_call hs rfl rfl ca89 rfl (leased_c pag ag r_Err r_Answer r_Snap_Rev r_Snap_Now vr_Snap_Leases r_Snap_Leases vr_Events r_Events vr_Tables_Routes r_Tables_Routes vr_Tables_Neighs r_Tables_Neighs vr_Tables_Fdbs r_Tables_Fdbs _ R1 (hr_Snap_Leases.le hR) (hr_Events.le hR) (hr_Tables_Routes.le hR) (hr_Tables_Neighs.le hR) (hr_Tables_Fdbs.le hR)  mc) rfl ?_
  clear hs a; rintro _ w70 ⟨rfl, hm⟩ a hs
  replace m : Hp w0 R [AgP pag (leasedA ag r_Err.v r_Answer.Lease), Bx p8 77 (cRe r_Err r_Answer r_Snap_Rev r_Snap_Now vr_Snap_Leases.v vr_Events.v vr_Tables_Routes.v vr_Tables_Neighs.v vr_Tables_Fdbs.v)] w70 := back _ _ hm
  clear hm back mc sy ly hR2 hR y1 R1 w9
  have mo := m.openAg r0
  clear m; obtain ⟨x71, x72, x73, x74, x75, x76, x77, m⟩ := mo
  refine s_ hs m (ok_assign rfl) ?_
  clear hs a; intro a hs
  refine wpList_nil (n_block (n_then ?_))
  refine c_seq ?_
  refine c_reg ?_
  refine s_ hs m (ok_move rfl) (b_ m (ok_bin rfl rfl rfl) (bn_ ?_))
  clear hs a; intro a hs
  refine c_cond hs rfl (fun h78 => ?_) (fun h78 => ?_)
  ·have h78p := ne_of_bne h78
   refine c_reg ?_
   refine s_ hs m (ok_move rfl) (b_ m (ok_assign rfl) (bn_ ?_))
   clear hs a; intro a hs
   refine wp_ret ?_
   refine ret_then (leave hs (vs := [.int .i64 (leasedE ag r_Err.v r_Answer.Lease)]) rfl ⟨rfl, trivial⟩ ?_)
   replace m := (m.sub (.c r0 (.c r0 (.c r0 (.c r0 (.c r0 (.c r0 (.c r0 (.c r0 (.c r0 .n)))))))))).closeAg (p := pag) (A := (leasedA ag r_Err.v r_Answer.Lease))
   have q79 : (leasedA ag r_Err.v r_Answer.Lease) = doneA ag (⟨r_Err, r_Answer, r_Snap_Rev, r_Snap_Now, r_Snap_Leases, r_Events, r_Tables_Routes, r_Tables_Neighs, r_Tables_Fdbs⟩ : ReM) := by clear hs m; exact (done_e (g := ag) (r := ⟨r_Err, r_Answer, r_Snap_Rev, r_Snap_Now, r_Snap_Leases, r_Events, r_Tables_Routes, r_Tables_Neighs, r_Tables_Fdbs⟩) (tk4 (by omega)) (by omega) (by omega)).2
   rw [q79] at m
   refine ⟨_, rfl, ?_, m.sub (.c r0 .n)⟩
   have q80 : (leasedE ag r_Err.v r_Answer.Lease : Int) = doneE ag (⟨r_Err, r_Answer, r_Snap_Rev, r_Snap_Now, r_Snap_Leases, r_Events, r_Tables_Routes, r_Tables_Neighs, r_Tables_Fdbs⟩ : ReM) := by clear hs m; exact (done_e (g := ag) (r := ⟨r_Err, r_Answer, r_Snap_Rev, r_Snap_Now, r_Snap_Leases, r_Events, r_Tables_Routes, r_Tables_Neighs, r_Tables_Fdbs⟩) (tk4 (by omega)) (by omega) (by omega)).1
   (rw [q80]; rfl)
  have h78p := eq_of_bne_false h78
  refine wp_skip ?_
  refine n_then ?_
  refine c_reg ?_
  refine s_ hs m (ok_move rfl) (b_ m (ok_move rfl) (b_ m (ok_nilCheck rfl) (b_ m (ok_fieldAddr (r := 10) rfl fd135_2 ty89 rfl) (b_ m (ok_fieldAddr (r := 10) rfl fd89_0 ty3 rfl) (b_ m (ok_load_sc rfl ty3 (bx_at r0) rfl) (b_ m (ok_bin rfl rfl rfl) (b_ m (ok_move rfl) ?_)))))))
  clear hs a; intro a hs
  refine l_cut (.c (.c (.c (.c (.n))))) (fun a w => St 75 [(0, .pointer (some (padd pag 0))), (6, .bool false), (53, .pointer (some (padd pag 0))), (64, .bool ((((((leasedA ag r_Err.v r_Answer.Lease).opn).Kind).v) == 5) && (r_Err.v == 0)))] a ∧ Hp w0 R [Bx pag 135 (cAg ((leasedA ag r_Err.v r_Answer.Lease).self) x72.v ((leasedA ag r_Err.v r_Answer.Lease).opn) ((leasedA ag r_Err.v r_Answer.Lease).read) x73.v x74.v x75.v x76.v ((leasedA ag r_Err.v r_Answer.Lease).cursor) ((leasedA ag r_Err.v r_Answer.Lease).stale) x77.v ((leasedA ag r_Err.v r_Answer.Lease).degraded) ((leasedA ag r_Err.v r_Answer.Lease).granted) ((leasedA ag r_Err.v r_Answer.Lease).waiting) ((leasedA ag r_Err.v r_Answer.Lease).wish) ((leasedA ag r_Err.v r_Answer.Lease).renewed) ((leasedA ag r_Err.v r_Answer.Lease).quiet)), Bx x71 63 [.pointer (some (padd pag 0))], Sv 2 138 x72.v ((rulesOf pag x71 : List (List Value)).map id), Sv 4 51 x73.v (((leasedA ag r_Err.v r_Answer.Lease).Routes).map cRoute), Sv 7 54 x74.v (((leasedA ag r_Err.v r_Answer.Lease).Neighs).map cNeigh), Sv 7 56 x75.v (((leasedA ag r_Err.v r_Answer.Lease).Fdbs).map cFdb), Sv 12 48 x76.v (((leasedA ag r_Err.v r_Answer.Lease).view).map cLease), Sv 2 44 x77.v (((leasedA ag r_Err.v r_Answer.Lease).skipped).map cPrefix), Bx p8 77 (cRe r_Err r_Answer r_Snap_Rev r_Snap_Now vr_Snap_Leases.v vr_Events.v vr_Tables_Routes.v vr_Tables_Neighs.v vr_Tables_Fdbs.v)] w) ?_ ?_
  ·rcases Bool.eq_false_or_eq_true (((((leasedA ag r_Err.v r_Answer.Lease).opn).Kind).v) == 5) with hb81 | hb81
   ·have hb81p := eq_of_beq hb81
    refine sg_ hs hb81 m (ok_fieldAddr (r := 0) rfl fd77_0 ty36 rfl) (bg_ hb81 m (ok_load_sc rfl ty36 (bx_at r8) rfl) (bg_ hb81 m (ok_bin rfl rfl rfl) (b_ m (ok_pick (r := .bool ((((((leasedA ag r_Err.v r_Answer.Lease).opn).Kind).v) == 5) && (r_Err.v == 0))) rfl rfl rfl (by rw [hb81]; rfl)) ?_)))
    clear hs a; intro a hs
    exact wpList_nil (n_then ⟨hs.to ⟨rfl, rfl, rfl, rfl, trivial⟩, m⟩)
   ·have hb81p := ne_of_beq_false hb81
    refine so_ hs hb81 (bo_ hb81 (bo_ hb81 (b_ m (ok_pick (r := .bool ((((((leasedA ag r_Err.v r_Answer.Lease).opn).Kind).v) == 5) && (r_Err.v == 0))) rfl rfl rfl (by rw [hb81]; rfl)) ?_)))
    clear hs a; intro a hs
    exact wpList_nil (n_then ⟨hs.to ⟨rfl, rfl, rfl, rfl, trivial⟩, m⟩)
  clear hs m a w70; rintro a w82 ⟨hs, m⟩
  refine s_ hs m (ok_nilCheck rfl) (b_ m (ok_fieldAddr (r := 57) rfl fd135_13 ty4 rfl) ?_)
  clear hs a; intro a hs
  refine st_ (cAg ((leasedA ag r_Err.v r_Answer.Lease).self) x72.v ((leasedA ag r_Err.v r_Answer.Lease).opn) ((leasedA ag r_Err.v r_Answer.Lease).read) x73.v x74.v x75.v x76.v ((leasedA ag r_Err.v r_Answer.Lease).cursor) ((leasedA ag r_Err.v r_Answer.Lease).stale) x77.v ((leasedA ag r_Err.v r_Answer.Lease).degraded) ((leasedA ag r_Err.v r_Answer.Lease).granted) ((leasedA ag r_Err.v r_Answer.Lease).waiting) ((leasedA ag r_Err.v r_Answer.Lease).wish) ((((((leasedA ag r_Err.v r_Answer.Lease).opn).Kind).v) == 5) && (r_Err.v == 0)) ((leasedA ag r_Err.v r_Answer.Lease).quiet)) [.bool ((((((leasedA ag r_Err.v r_Answer.Lease).opn).Kind).v) == 5) && (r_Err.v == 0))] hs m ty4 s0 ?_
  clear m w82; intro w83 m
  refine wpList_nil (n_then ?_)
  refine c_reg ?_
  refine s_ hs m (ok_move rfl) (b_ m (ok_move rfl) (b_ m (ok_move rfl) (b_ m (ok_build (cs := cReq zReq) st89 ze89 rfl (by kernel_rfl)) (b_ m (ok_nilCheck rfl) (b_ m (ok_fieldAddr (r := 58) rfl fd135_14 ty4 rfl) ?_)))))
  clear hs a; intro a hs
  refine st_ (cAg ((leasedA ag r_Err.v r_Answer.Lease).self) x72.v ((leasedA ag r_Err.v r_Answer.Lease).opn) ((leasedA ag r_Err.v r_Answer.Lease).read) x73.v x74.v x75.v x76.v ((leasedA ag r_Err.v r_Answer.Lease).cursor) ((leasedA ag r_Err.v r_Answer.Lease).stale) x77.v ((leasedA ag r_Err.v r_Answer.Lease).degraded) ((leasedA ag r_Err.v r_Answer.Lease).granted) ((leasedA ag r_Err.v r_Answer.Lease).waiting) ((leasedA ag r_Err.v r_Answer.Lease).wish) ((((((leasedA ag r_Err.v r_Answer.Lease).opn).Kind).v) == 5) && (r_Err.v == 0)) false) [.bool false] hs m ty4 s0 ?_
  clear m w83; intro w84 m
  refine s_ hs m (ok_nilCheck rfl) (b_ m (ok_fieldAddr (r := 10) rfl fd135_2 ty89 rfl) ?_)
  clear hs a; intro a hs
  refine st_ (cAg ((leasedA ag r_Err.v r_Answer.Lease).self) x72.v zReq ((leasedA ag r_Err.v r_Answer.Lease).read) x73.v x74.v x75.v x76.v ((leasedA ag r_Err.v r_Answer.Lease).cursor) ((leasedA ag r_Err.v r_Answer.Lease).stale) x77.v ((leasedA ag r_Err.v r_Answer.Lease).degraded) ((leasedA ag r_Err.v r_Answer.Lease).granted) ((leasedA ag r_Err.v r_Answer.Lease).waiting) ((leasedA ag r_Err.v r_Answer.Lease).wish) ((((((leasedA ag r_Err.v r_Answer.Lease).opn).Kind).v) == 5) && (r_Err.v == 0)) false) (cReq zReq) hs m ty89 s0 ?_
  clear m w84; intro w85 m
  refine wpList_nil (n_then ?_)
  refine c_reg ?_
  refine s_ hs m (ok_assign rfl) (bn_ ?_)
  clear hs a; intro a hs
  refine wp_ret ?_
  refine leave hs (vs := [.int .i64 0]) rfl ⟨rfl, trivial⟩ ?_
  replace m := (m.sub (.c r0 (.c r0 (.c r0 (.c r0 (.c r0 (.c r0 (.c r0 (.c r0 (.c r0 .n)))))))))).closeAg (p := pag) (A := ({ (leasedA ag r_Err.v r_Answer.Lease) with opn := zReq, renewed := (((((leasedA ag r_Err.v r_Answer.Lease).opn).Kind).v) == 5) && (r_Err.v == 0), quiet := false } : AgM))
  have q86 : ({ (leasedA ag r_Err.v r_Answer.Lease) with opn := zReq, renewed := (((((leasedA ag r_Err.v r_Answer.Lease).opn).Kind).v) == 5) && (r_Err.v == 0), quiet := false } : AgM) = doneA ag (⟨r_Err, r_Answer, r_Snap_Rev, r_Snap_Now, r_Snap_Leases, r_Events, r_Tables_Routes, r_Tables_Neighs, r_Tables_Fdbs⟩ : ReM) := by clear hs m; exact (done_k (g := ag) (r := ⟨r_Err, r_Answer, r_Snap_Rev, r_Snap_Now, r_Snap_Leases, r_Events, r_Tables_Routes, r_Tables_Neighs, r_Tables_Fdbs⟩) (tk4 (by omega)) (by omega) (by omega) (qt0 (by omega))).2
  rw [q86] at m
  refine ⟨_, rfl, ?_, m.sub (.c r0 .n)⟩
  have q87 : (0 : Int) = doneE ag (⟨r_Err, r_Answer, r_Snap_Rev, r_Snap_Now, r_Snap_Leases, r_Events, r_Tables_Routes, r_Tables_Neighs, r_Tables_Fdbs⟩ : ReM) := by clear hs m; exact (done_k (g := ag) (r := ⟨r_Err, r_Answer, r_Snap_Rev, r_Snap_Now, r_Snap_Leases, r_Events, r_Tables_Routes, r_Tables_Neighs, r_Tables_Fdbs⟩) (tk4 (by omega)) (by omega) (by omega) (qt0 (by omega))).1
  (rw [q87]; rfl)
 have h68p := ne_of_beq_false h68
 refine c_last ?_
 refine s_ hs m (ok_bin rfl rfl rfl) (b_ m (ok_assign rfl) (bn_ ?_))
 clear hs a; intro a hs
 refine c_cond hs rfl (fun h88 => ?_) (fun h88 => ?_)
 ·have h88p := eq_of_beq h88
  refine c_last ?_
  refine s_ hs m (ok_move rfl) (b_ m (ok_load_ag (vs := cRe r_Err r_Answer r_Snap_Rev r_Snap_Now vr_Snap_Leases.v vr_Events.v vr_Tables_Routes.v vr_Tables_Neighs.v vr_Tables_Fdbs.v) rfl ty77 (bx_at r0) (by kernel_rfl) (by kernel_rfl)) ?_)
  clear hs a; intro a hs
  replace m := (m.sub (.c r1 (.c r1 (.c r1 (.c r1 (.c r1 (.c r1 (.c r1 (.c r1 (.c r0 .n)))))))))).closeAg (p := pag) (A := ag)
  obtain ⟨R1, hR, hR2, ⟨y1, sy, ly⟩, mc, back⟩ := Hp.split (Pc := [AgP pag ag]) (Ps := [Bx p8 77 (cRe r_Err r_Answer r_Snap_Rev r_Snap_Now vr_Snap_Leases.v vr_Events.v vr_Tables_Routes.v vr_Tables_Neighs.v vr_Tables_Fdbs.v)]) (m.sub (.c r0 (.c r0 .n)))
  refine r_call hs rfl rfl ca89 rfl (leased_c pag ag r_Err r_Answer r_Snap_Rev r_Snap_Now vr_Snap_Leases r_Snap_Leases vr_Events r_Events vr_Tables_Routes r_Tables_Routes vr_Tables_Neighs r_Tables_Neighs vr_Tables_Fdbs r_Tables_Fdbs _ R1 (hr_Snap_Leases.le hR) (hr_Events.le hR) (hr_Tables_Routes.le hR) (hr_Tables_Neighs.le hR) (hr_Tables_Fdbs.le hR)  mc) rfl ?_
  clear hs a; rintro _ w89 ⟨rfl, hm⟩ a hs
  replace m : Hp w0 R [AgP pag (leasedA ag r_Err.v r_Answer.Lease), Bx p8 77 (cRe r_Err r_Answer r_Snap_Rev r_Snap_Now vr_Snap_Leases.v vr_Events.v vr_Tables_Routes.v vr_Tables_Neighs.v vr_Tables_Fdbs.v)] w89 := back _ _ hm
  clear hm back mc sy ly hR2 hR y1 R1 w9
  have mo := m.openAg r0
  clear m; obtain ⟨x90, x91, x92, x93, x94, x95, x96, m⟩ := mo
  refine s_ hs m (ok_assign rfl) ?_
  clear hs a; intro a hs
  refine wpList_nil (n_block (n_then ?_))
  refine c_seq ?_
  refine c_reg ?_
  refine s_ hs m (ok_move rfl) (b_ m (ok_bin rfl rfl rfl) (bn_ ?_))
  clear hs a; intro a hs
  refine c_cond hs rfl (fun h97 => ?_) (fun h97 => ?_)
  ·have h97p := ne_of_bne h97
   refine c_reg ?_
   refine s_ hs m (ok_move rfl) (b_ m (ok_assign rfl) (bn_ ?_))
   clear hs a; intro a hs
   refine wp_ret ?_
   refine ret_then (leave hs (vs := [.int .i64 (leasedE ag r_Err.v r_Answer.Lease)]) rfl ⟨rfl, trivial⟩ ?_)
   replace m := (m.sub (.c r0 (.c r0 (.c r0 (.c r0 (.c r0 (.c r0 (.c r0 (.c r0 (.c r0 .n)))))))))).closeAg (p := pag) (A := (leasedA ag r_Err.v r_Answer.Lease))
   have q98 : (leasedA ag r_Err.v r_Answer.Lease) = doneA ag (⟨r_Err, r_Answer, r_Snap_Rev, r_Snap_Now, r_Snap_Leases, r_Events, r_Tables_Routes, r_Tables_Neighs, r_Tables_Fdbs⟩ : ReM) := by clear hs m; exact (done_e (g := ag) (r := ⟨r_Err, r_Answer, r_Snap_Rev, r_Snap_Now, r_Snap_Leases, r_Events, r_Tables_Routes, r_Tables_Neighs, r_Tables_Fdbs⟩) (tk4 (by omega)) (by omega) (by omega)).2
   rw [q98] at m
   refine ⟨_, rfl, ?_, m.sub (.c r0 .n)⟩
   have q99 : (leasedE ag r_Err.v r_Answer.Lease : Int) = doneE ag (⟨r_Err, r_Answer, r_Snap_Rev, r_Snap_Now, r_Snap_Leases, r_Events, r_Tables_Routes, r_Tables_Neighs, r_Tables_Fdbs⟩ : ReM) := by clear hs m; exact (done_e (g := ag) (r := ⟨r_Err, r_Answer, r_Snap_Rev, r_Snap_Now, r_Snap_Leases, r_Events, r_Tables_Routes, r_Tables_Neighs, r_Tables_Fdbs⟩) (tk4 (by omega)) (by omega) (by omega)).1
   (rw [q99]; rfl)
  have h97p := eq_of_bne_false h97
  refine wp_skip ?_
  refine n_then ?_
  refine c_reg ?_
  refine s_ hs m (ok_move rfl) (b_ m (ok_move rfl) (b_ m (ok_nilCheck rfl) (b_ m (ok_fieldAddr (r := 10) rfl fd135_2 ty89 rfl) (b_ m (ok_fieldAddr (r := 10) rfl fd89_0 ty3 rfl) (b_ m (ok_load_sc rfl ty3 (bx_at r0) rfl) (b_ m (ok_bin rfl rfl rfl) (b_ m (ok_move rfl) ?_)))))))
  clear hs a; intro a hs
  refine l_cut (.c (.c (.c (.c (.n))))) (fun a w => St 75 [(0, .pointer (some (padd pag 0))), (6, .bool false), (53, .pointer (some (padd pag 0))), (64, .bool ((((((leasedA ag r_Err.v r_Answer.Lease).opn).Kind).v) == 5) && (r_Err.v == 0)))] a ∧ Hp w0 R [Bx pag 135 (cAg ((leasedA ag r_Err.v r_Answer.Lease).self) x91.v ((leasedA ag r_Err.v r_Answer.Lease).opn) ((leasedA ag r_Err.v r_Answer.Lease).read) x92.v x93.v x94.v x95.v ((leasedA ag r_Err.v r_Answer.Lease).cursor) ((leasedA ag r_Err.v r_Answer.Lease).stale) x96.v ((leasedA ag r_Err.v r_Answer.Lease).degraded) ((leasedA ag r_Err.v r_Answer.Lease).granted) ((leasedA ag r_Err.v r_Answer.Lease).waiting) ((leasedA ag r_Err.v r_Answer.Lease).wish) ((leasedA ag r_Err.v r_Answer.Lease).renewed) ((leasedA ag r_Err.v r_Answer.Lease).quiet)), Bx x90 63 [.pointer (some (padd pag 0))], Sv 2 138 x91.v ((rulesOf pag x90 : List (List Value)).map id), Sv 4 51 x92.v (((leasedA ag r_Err.v r_Answer.Lease).Routes).map cRoute), Sv 7 54 x93.v (((leasedA ag r_Err.v r_Answer.Lease).Neighs).map cNeigh), Sv 7 56 x94.v (((leasedA ag r_Err.v r_Answer.Lease).Fdbs).map cFdb), Sv 12 48 x95.v (((leasedA ag r_Err.v r_Answer.Lease).view).map cLease), Sv 2 44 x96.v (((leasedA ag r_Err.v r_Answer.Lease).skipped).map cPrefix), Bx p8 77 (cRe r_Err r_Answer r_Snap_Rev r_Snap_Now vr_Snap_Leases.v vr_Events.v vr_Tables_Routes.v vr_Tables_Neighs.v vr_Tables_Fdbs.v)] w) ?_ ?_
  ·rcases Bool.eq_false_or_eq_true (((((leasedA ag r_Err.v r_Answer.Lease).opn).Kind).v) == 5) with hb100 | hb100
   ·have hb100p := eq_of_beq hb100
    refine sg_ hs hb100 m (ok_fieldAddr (r := 0) rfl fd77_0 ty36 rfl) (bg_ hb100 m (ok_load_sc rfl ty36 (bx_at r8) rfl) (bg_ hb100 m (ok_bin rfl rfl rfl) (b_ m (ok_pick (r := .bool ((((((leasedA ag r_Err.v r_Answer.Lease).opn).Kind).v) == 5) && (r_Err.v == 0))) rfl rfl rfl (by rw [hb100]; rfl)) ?_)))
    clear hs a; intro a hs
    exact wpList_nil (n_then ⟨hs.to ⟨rfl, rfl, rfl, rfl, trivial⟩, m⟩)
   ·have hb100p := ne_of_beq_false hb100
    refine so_ hs hb100 (bo_ hb100 (bo_ hb100 (b_ m (ok_pick (r := .bool ((((((leasedA ag r_Err.v r_Answer.Lease).opn).Kind).v) == 5) && (r_Err.v == 0))) rfl rfl rfl (by rw [hb100]; rfl)) ?_)))
    clear hs a; intro a hs
    exact wpList_nil (n_then ⟨hs.to ⟨rfl, rfl, rfl, rfl, trivial⟩, m⟩)
  clear hs m a w89; rintro a w101 ⟨hs, m⟩
  refine s_ hs m (ok_nilCheck rfl) (b_ m (ok_fieldAddr (r := 57) rfl fd135_13 ty4 rfl) ?_)
  clear hs a; intro a hs
  refine st_ (cAg ((leasedA ag r_Err.v r_Answer.Lease).self) x91.v ((leasedA ag r_Err.v r_Answer.Lease).opn) ((leasedA ag r_Err.v r_Answer.Lease).read) x92.v x93.v x94.v x95.v ((leasedA ag r_Err.v r_Answer.Lease).cursor) ((leasedA ag r_Err.v r_Answer.Lease).stale) x96.v ((leasedA ag r_Err.v r_Answer.Lease).degraded) ((leasedA ag r_Err.v r_Answer.Lease).granted) ((leasedA ag r_Err.v r_Answer.Lease).waiting) ((leasedA ag r_Err.v r_Answer.Lease).wish) ((((((leasedA ag r_Err.v r_Answer.Lease).opn).Kind).v) == 5) && (r_Err.v == 0)) ((leasedA ag r_Err.v r_Answer.Lease).quiet)) [.bool ((((((leasedA ag r_Err.v r_Answer.Lease).opn).Kind).v) == 5) && (r_Err.v == 0))] hs m ty4 s0 ?_
  clear m w101; intro w102 m
  refine wpList_nil (n_then ?_)
  refine c_reg ?_
  refine s_ hs m (ok_move rfl) (b_ m (ok_move rfl) (b_ m (ok_move rfl) (b_ m (ok_build (cs := cReq zReq) st89 ze89 rfl (by kernel_rfl)) (b_ m (ok_nilCheck rfl) (b_ m (ok_fieldAddr (r := 58) rfl fd135_14 ty4 rfl) ?_)))))
  clear hs a; intro a hs
  refine st_ (cAg ((leasedA ag r_Err.v r_Answer.Lease).self) x91.v ((leasedA ag r_Err.v r_Answer.Lease).opn) ((leasedA ag r_Err.v r_Answer.Lease).read) x92.v x93.v x94.v x95.v ((leasedA ag r_Err.v r_Answer.Lease).cursor) ((leasedA ag r_Err.v r_Answer.Lease).stale) x96.v ((leasedA ag r_Err.v r_Answer.Lease).degraded) ((leasedA ag r_Err.v r_Answer.Lease).granted) ((leasedA ag r_Err.v r_Answer.Lease).waiting) ((leasedA ag r_Err.v r_Answer.Lease).wish) ((((((leasedA ag r_Err.v r_Answer.Lease).opn).Kind).v) == 5) && (r_Err.v == 0)) false) [.bool false] hs m ty4 s0 ?_
  clear m w102; intro w103 m
  refine s_ hs m (ok_nilCheck rfl) (b_ m (ok_fieldAddr (r := 10) rfl fd135_2 ty89 rfl) ?_)
  clear hs a; intro a hs
  refine st_ (cAg ((leasedA ag r_Err.v r_Answer.Lease).self) x91.v zReq ((leasedA ag r_Err.v r_Answer.Lease).read) x92.v x93.v x94.v x95.v ((leasedA ag r_Err.v r_Answer.Lease).cursor) ((leasedA ag r_Err.v r_Answer.Lease).stale) x96.v ((leasedA ag r_Err.v r_Answer.Lease).degraded) ((leasedA ag r_Err.v r_Answer.Lease).granted) ((leasedA ag r_Err.v r_Answer.Lease).waiting) ((leasedA ag r_Err.v r_Answer.Lease).wish) ((((((leasedA ag r_Err.v r_Answer.Lease).opn).Kind).v) == 5) && (r_Err.v == 0)) false) (cReq zReq) hs m ty89 s0 ?_
  clear m w103; intro w104 m
  refine wpList_nil (n_then ?_)
  refine c_reg ?_
  refine s_ hs m (ok_assign rfl) (bn_ ?_)
  clear hs a; intro a hs
  refine wp_ret ?_
  refine leave hs (vs := [.int .i64 0]) rfl ⟨rfl, trivial⟩ ?_
  replace m := (m.sub (.c r0 (.c r0 (.c r0 (.c r0 (.c r0 (.c r0 (.c r0 (.c r0 (.c r0 .n)))))))))).closeAg (p := pag) (A := ({ (leasedA ag r_Err.v r_Answer.Lease) with opn := zReq, renewed := (((((leasedA ag r_Err.v r_Answer.Lease).opn).Kind).v) == 5) && (r_Err.v == 0), quiet := false } : AgM))
  have q105 : ({ (leasedA ag r_Err.v r_Answer.Lease) with opn := zReq, renewed := (((((leasedA ag r_Err.v r_Answer.Lease).opn).Kind).v) == 5) && (r_Err.v == 0), quiet := false } : AgM) = doneA ag (⟨r_Err, r_Answer, r_Snap_Rev, r_Snap_Now, r_Snap_Leases, r_Events, r_Tables_Routes, r_Tables_Neighs, r_Tables_Fdbs⟩ : ReM) := by clear hs m; exact (done_k (g := ag) (r := ⟨r_Err, r_Answer, r_Snap_Rev, r_Snap_Now, r_Snap_Leases, r_Events, r_Tables_Routes, r_Tables_Neighs, r_Tables_Fdbs⟩) (tk4 (by omega)) (by omega) (by omega) (qt0 (by omega))).2
  rw [q105] at m
  refine ⟨_, rfl, ?_, m.sub (.c r0 .n)⟩
  have q106 : (0 : Int) = doneE ag (⟨r_Err, r_Answer, r_Snap_Rev, r_Snap_Now, r_Snap_Leases, r_Events, r_Tables_Routes, r_Tables_Neighs, r_Tables_Fdbs⟩ : ReM) := by clear hs m; exact (done_k (g := ag) (r := ⟨r_Err, r_Answer, r_Snap_Rev, r_Snap_Now, r_Snap_Leases, r_Events, r_Tables_Routes, r_Tables_Neighs, r_Tables_Fdbs⟩) (tk4 (by omega)) (by omega) (by omega) (qt0 (by omega))).1
  (rw [q106]; rfl)
 have h88p := ne_of_beq_false h88
 refine c_reg ?_
 refine s_ hs m (ok_bin rfl rfl rfl) (b_ m (ok_assign rfl) (bn_ ?_))
 clear hs a; intro a hs
 refine c_cond hs rfl (fun h107 => ?_) (fun h107 => ?_)
 ·have h107p := eq_of_beq h107
  refine c_reg ?_
  refine s_ hs m (ok_move rfl) (b_ m (ok_load_ag (vs := cRe r_Err r_Answer r_Snap_Rev r_Snap_Now vr_Snap_Leases.v vr_Events.v vr_Tables_Routes.v vr_Tables_Neighs.v vr_Tables_Fdbs.v) rfl ty77 (bx_at r0) (by kernel_rfl) (by kernel_rfl)) ?_)
  clear hs a; intro a hs
  replace m := (m.sub (.c r1 (.c r1 (.c r1 (.c r1 (.c r1 (.c r1 (.c r1 (.c r1 (.c r0 .n)))))))))).closeAg (p := pag) (A := ag)
  obtain ⟨R1, hR, hR2, ⟨y1, sy, ly⟩, mc, back⟩ := Hp.split (Pc := [AgP pag ag]) (Ps := [Bx p8 77 (cRe r_Err r_Answer r_Snap_Rev r_Snap_Now vr_Snap_Leases.v vr_Events.v vr_Tables_Routes.v vr_Tables_Neighs.v vr_Tables_Fdbs.v)]) (m.sub (.c r0 (.c r0 .n)))
  refine r_call hs rfl rfl ca90 rfl (watched_c pag ag r_Err r_Answer r_Snap_Rev r_Snap_Now vr_Snap_Leases r_Snap_Leases vr_Events r_Events vr_Tables_Routes r_Tables_Routes vr_Tables_Neighs r_Tables_Neighs vr_Tables_Fdbs r_Tables_Fdbs _ R1 (hr_Snap_Leases.le hR) (hr_Events.le hR) (hr_Tables_Routes.le hR) (hr_Tables_Neighs.le hR) (hr_Tables_Fdbs.le hR) (by omega) (by omega) (by omega) (by omega) (by omega) (by omega) mc) rfl ?_
  clear hs a; rintro _ w108 ⟨rfl, hm⟩ a hs
  replace m : Hp w0 R [AgP pag (watchedA ag r_Err.v r_Events), Bx p8 77 (cRe r_Err r_Answer r_Snap_Rev r_Snap_Now vr_Snap_Leases.v vr_Events.v vr_Tables_Routes.v vr_Tables_Neighs.v vr_Tables_Fdbs.v)] w108 := back _ _ hm
  clear hm back mc sy ly hR2 hR y1 R1 w9
  have mo := m.openAg r0
  clear m; obtain ⟨x109, x110, x111, x112, x113, x114, x115, m⟩ := mo
  refine s_ hs m (ok_assign rfl) (bn_ ?_)
  clear hs a; intro a hs
  refine c_last ?_
  refine s_ hs m (ok_fieldAddr (r := 0) rfl fd77_0 ty36 rfl) (b_ m (ok_load_sc rfl ty36 (bx_at r8) rfl) (b_ m (ok_bin rfl rfl rfl) (b_ m (ok_move rfl) ?_)))
  clear hs a; intro a hs
  refine l_cut (.c (.c (.c (.c (.c (.n)))))) (fun a w => St 75 [(0, .pointer (some (padd pag 0))), (3, .pointer (some (padd p8 0))), (5, .int .i64 (watchedE ag r_Err.v r_Events)), (49, .bool ((r_Err.v == 0) && ((r_Events.length : Int) == 0)))] a ∧ Hp w0 R [Bx pag 135 (cAg ((watchedA ag r_Err.v r_Events).self) x110.v ((watchedA ag r_Err.v r_Events).opn) ((watchedA ag r_Err.v r_Events).read) x111.v x112.v x113.v x114.v ((watchedA ag r_Err.v r_Events).cursor) ((watchedA ag r_Err.v r_Events).stale) x115.v ((watchedA ag r_Err.v r_Events).degraded) ((watchedA ag r_Err.v r_Events).granted) ((watchedA ag r_Err.v r_Events).waiting) ((watchedA ag r_Err.v r_Events).wish) ((watchedA ag r_Err.v r_Events).renewed) ((watchedA ag r_Err.v r_Events).quiet)), Bx x109 63 [.pointer (some (padd pag 0))], Sv 2 138 x110.v ((rulesOf pag x109 : List (List Value)).map id), Sv 4 51 x111.v (((watchedA ag r_Err.v r_Events).Routes).map cRoute), Sv 7 54 x112.v (((watchedA ag r_Err.v r_Events).Neighs).map cNeigh), Sv 7 56 x113.v (((watchedA ag r_Err.v r_Events).Fdbs).map cFdb), Sv 12 48 x114.v (((watchedA ag r_Err.v r_Events).view).map cLease), Sv 2 44 x115.v (((watchedA ag r_Err.v r_Events).skipped).map cPrefix), Bx p8 77 (cRe r_Err r_Answer r_Snap_Rev r_Snap_Now vr_Snap_Leases.v vr_Events.v vr_Tables_Routes.v vr_Tables_Neighs.v vr_Tables_Fdbs.v)] w) ?_ ?_
  ·rcases Bool.eq_false_or_eq_true (r_Err.v == 0) with hb116 | hb116
   ·have hb116p := eq_of_beq hb116
    refine sg_ hs hb116 m (ok_fieldAddr (r := 19) rfl fd77_3 ty75 rfl) (bg_ hb116 m (ok_load_sc rfl ty75 (bx_at r8) rfl) (bg_ hb116 m (ok_len (r := (r_Events.length : Int)) m rfl sl75 (rc_fr hr_Events) (by simp)) (bg_ hb116 m (ok_bin rfl rfl rfl) (b_ m (ok_pick (r := .bool ((r_Err.v == 0) && ((r_Events.length : Int) == 0))) rfl rfl rfl (by rw [hb116]; rfl)) ?_))))
    clear hs a; intro a hs
    exact wpList_nil (n_then ⟨hs.to ⟨rfl, rfl, rfl, rfl, trivial⟩, m⟩)
   ·have hb116p := ne_of_beq_false hb116
    refine so_ hs hb116 (bo_ hb116 (bo_ hb116 (bo_ hb116 (b_ m (ok_pick (r := .bool ((r_Err.v == 0) && ((r_Events.length : Int) == 0))) rfl rfl rfl (by rw [hb116]; rfl)) ?_))))
    clear hs a; intro a hs
    exact wpList_nil (n_then ⟨hs.to ⟨rfl, rfl, rfl, rfl, trivial⟩, m⟩)
  clear hs m a w108; rintro a w117 ⟨hs, m⟩
  refine s_ hs m (ok_assign rfl) ?_
  clear hs a; intro a hs
  refine wpList_nil (n_block (n_then ?_))
  refine c_seq ?_
  refine c_reg ?_
  refine s_ hs m (ok_move rfl) (b_ m (ok_bin rfl rfl rfl) (bn_ ?_))
  clear hs a; intro a hs
  refine c_cond hs rfl (fun h118 => ?_) (fun h118 => ?_)
  ·have h118p := ne_of_bne h118
   refine c_reg ?_
   refine s_ hs m (ok_move rfl) (b_ m (ok_assign rfl) (bn_ ?_))
   clear hs a; intro a hs
   refine wp_ret ?_
   refine ret_then (leave hs (vs := [.int .i64 (watchedE ag r_Err.v r_Events)]) rfl ⟨rfl, trivial⟩ ?_)
   replace m := (m.sub (.c r0 (.c r0 (.c r0 (.c r0 (.c r0 (.c r0 (.c r0 (.c r0 (.c r0 .n)))))))))).closeAg (p := pag) (A := (watchedA ag r_Err.v r_Events))
   have q119 : (watchedA ag r_Err.v r_Events) = doneA ag (⟨r_Err, r_Answer, r_Snap_Rev, r_Snap_Now, r_Snap_Leases, r_Events, r_Tables_Routes, r_Tables_Neighs, r_Tables_Fdbs⟩ : ReM) := by clear hs m; exact (done_e (g := ag) (r := ⟨r_Err, r_Answer, r_Snap_Rev, r_Snap_Now, r_Snap_Leases, r_Events, r_Tables_Routes, r_Tables_Neighs, r_Tables_Fdbs⟩) (tk6 (by omega)) (by omega) (by omega)).2
   rw [q119] at m
   refine ⟨_, rfl, ?_, m.sub (.c r0 .n)⟩
   have q120 : (watchedE ag r_Err.v r_Events : Int) = doneE ag (⟨r_Err, r_Answer, r_Snap_Rev, r_Snap_Now, r_Snap_Leases, r_Events, r_Tables_Routes, r_Tables_Neighs, r_Tables_Fdbs⟩ : ReM) := by clear hs m; exact (done_e (g := ag) (r := ⟨r_Err, r_Answer, r_Snap_Rev, r_Snap_Now, r_Snap_Leases, r_Events, r_Tables_Routes, r_Tables_Neighs, r_Tables_Fdbs⟩) (tk6 (by omega)) (by omega) (by omega)).1
   (rw [q120]; rfl)
  have h118p := eq_of_bne_false h118
  refine wp_skip ?_
  refine n_then ?_
  refine c_reg ?_
  refine s_ hs m (ok_move rfl) (b_ m (ok_move rfl) (b_ m (ok_nilCheck rfl) (b_ m (ok_fieldAddr (r := 10) rfl fd135_2 ty89 rfl) (b_ m (ok_fieldAddr (r := 10) rfl fd89_0 ty3 rfl) (b_ m (ok_load_sc rfl ty3 (bx_at r0) rfl) (b_ m (ok_bin rfl rfl rfl) (b_ m (ok_move rfl) ?_)))))))
  clear hs a; intro a hs
  refine l_cut (.c (.c (.c (.c (.n))))) (fun a w => St 75 [(0, .pointer (some (padd pag 0))), (6, .bool ((r_Err.v == 0) && ((r_Events.length : Int) == 0))), (53, .pointer (some (padd pag 0))), (64, .bool ((((((watchedA ag r_Err.v r_Events).opn).Kind).v) == 5) && (r_Err.v == 0)))] a ∧ Hp w0 R [Bx pag 135 (cAg ((watchedA ag r_Err.v r_Events).self) x110.v ((watchedA ag r_Err.v r_Events).opn) ((watchedA ag r_Err.v r_Events).read) x111.v x112.v x113.v x114.v ((watchedA ag r_Err.v r_Events).cursor) ((watchedA ag r_Err.v r_Events).stale) x115.v ((watchedA ag r_Err.v r_Events).degraded) ((watchedA ag r_Err.v r_Events).granted) ((watchedA ag r_Err.v r_Events).waiting) ((watchedA ag r_Err.v r_Events).wish) ((watchedA ag r_Err.v r_Events).renewed) ((watchedA ag r_Err.v r_Events).quiet)), Bx x109 63 [.pointer (some (padd pag 0))], Sv 2 138 x110.v ((rulesOf pag x109 : List (List Value)).map id), Sv 4 51 x111.v (((watchedA ag r_Err.v r_Events).Routes).map cRoute), Sv 7 54 x112.v (((watchedA ag r_Err.v r_Events).Neighs).map cNeigh), Sv 7 56 x113.v (((watchedA ag r_Err.v r_Events).Fdbs).map cFdb), Sv 12 48 x114.v (((watchedA ag r_Err.v r_Events).view).map cLease), Sv 2 44 x115.v (((watchedA ag r_Err.v r_Events).skipped).map cPrefix), Bx p8 77 (cRe r_Err r_Answer r_Snap_Rev r_Snap_Now vr_Snap_Leases.v vr_Events.v vr_Tables_Routes.v vr_Tables_Neighs.v vr_Tables_Fdbs.v)] w) ?_ ?_
  ·rcases Bool.eq_false_or_eq_true (((((watchedA ag r_Err.v r_Events).opn).Kind).v) == 5) with hb121 | hb121
   ·have hb121p := eq_of_beq hb121
    refine sg_ hs hb121 m (ok_fieldAddr (r := 0) rfl fd77_0 ty36 rfl) (bg_ hb121 m (ok_load_sc rfl ty36 (bx_at r8) rfl) (bg_ hb121 m (ok_bin rfl rfl rfl) (b_ m (ok_pick (r := .bool ((((((watchedA ag r_Err.v r_Events).opn).Kind).v) == 5) && (r_Err.v == 0))) rfl rfl rfl (by rw [hb121]; rfl)) ?_)))
    clear hs a; intro a hs
    exact wpList_nil (n_then ⟨hs.to ⟨rfl, rfl, rfl, rfl, trivial⟩, m⟩)
   ·have hb121p := ne_of_beq_false hb121
    refine so_ hs hb121 (bo_ hb121 (bo_ hb121 (b_ m (ok_pick (r := .bool ((((((watchedA ag r_Err.v r_Events).opn).Kind).v) == 5) && (r_Err.v == 0))) rfl rfl rfl (by rw [hb121]; rfl)) ?_)))
    clear hs a; intro a hs
    exact wpList_nil (n_then ⟨hs.to ⟨rfl, rfl, rfl, rfl, trivial⟩, m⟩)
  clear hs m a w117; rintro a w122 ⟨hs, m⟩
  refine s_ hs m (ok_nilCheck rfl) (b_ m (ok_fieldAddr (r := 57) rfl fd135_13 ty4 rfl) ?_)
  clear hs a; intro a hs
  refine st_ (cAg ((watchedA ag r_Err.v r_Events).self) x110.v ((watchedA ag r_Err.v r_Events).opn) ((watchedA ag r_Err.v r_Events).read) x111.v x112.v x113.v x114.v ((watchedA ag r_Err.v r_Events).cursor) ((watchedA ag r_Err.v r_Events).stale) x115.v ((watchedA ag r_Err.v r_Events).degraded) ((watchedA ag r_Err.v r_Events).granted) ((watchedA ag r_Err.v r_Events).waiting) ((watchedA ag r_Err.v r_Events).wish) ((((((watchedA ag r_Err.v r_Events).opn).Kind).v) == 5) && (r_Err.v == 0)) ((watchedA ag r_Err.v r_Events).quiet)) [.bool ((((((watchedA ag r_Err.v r_Events).opn).Kind).v) == 5) && (r_Err.v == 0))] hs m ty4 s0 ?_
  clear m w122; intro w123 m
  refine wpList_nil (n_then ?_)
  refine c_reg ?_
  refine s_ hs m (ok_move rfl) (b_ m (ok_move rfl) (b_ m (ok_move rfl) (b_ m (ok_build (cs := cReq zReq) st89 ze89 rfl (by kernel_rfl)) (b_ m (ok_nilCheck rfl) (b_ m (ok_fieldAddr (r := 58) rfl fd135_14 ty4 rfl) ?_)))))
  clear hs a; intro a hs
  refine st_ (cAg ((watchedA ag r_Err.v r_Events).self) x110.v ((watchedA ag r_Err.v r_Events).opn) ((watchedA ag r_Err.v r_Events).read) x111.v x112.v x113.v x114.v ((watchedA ag r_Err.v r_Events).cursor) ((watchedA ag r_Err.v r_Events).stale) x115.v ((watchedA ag r_Err.v r_Events).degraded) ((watchedA ag r_Err.v r_Events).granted) ((watchedA ag r_Err.v r_Events).waiting) ((watchedA ag r_Err.v r_Events).wish) ((((((watchedA ag r_Err.v r_Events).opn).Kind).v) == 5) && (r_Err.v == 0)) ((r_Err.v == 0) && ((r_Events.length : Int) == 0))) [.bool ((r_Err.v == 0) && ((r_Events.length : Int) == 0))] hs m ty4 s0 ?_
  clear m w123; intro w124 m
  refine s_ hs m (ok_nilCheck rfl) (b_ m (ok_fieldAddr (r := 10) rfl fd135_2 ty89 rfl) ?_)
  clear hs a; intro a hs
  refine st_ (cAg ((watchedA ag r_Err.v r_Events).self) x110.v zReq ((watchedA ag r_Err.v r_Events).read) x111.v x112.v x113.v x114.v ((watchedA ag r_Err.v r_Events).cursor) ((watchedA ag r_Err.v r_Events).stale) x115.v ((watchedA ag r_Err.v r_Events).degraded) ((watchedA ag r_Err.v r_Events).granted) ((watchedA ag r_Err.v r_Events).waiting) ((watchedA ag r_Err.v r_Events).wish) ((((((watchedA ag r_Err.v r_Events).opn).Kind).v) == 5) && (r_Err.v == 0)) ((r_Err.v == 0) && ((r_Events.length : Int) == 0))) (cReq zReq) hs m ty89 s0 ?_
  clear m w124; intro w125 m
  refine wpList_nil (n_then ?_)
  refine c_reg ?_
  refine s_ hs m (ok_assign rfl) (bn_ ?_)
  clear hs a; intro a hs
  refine wp_ret ?_
  refine leave hs (vs := [.int .i64 0]) rfl ⟨rfl, trivial⟩ ?_
  replace m := (m.sub (.c r0 (.c r0 (.c r0 (.c r0 (.c r0 (.c r0 (.c r0 (.c r0 (.c r0 .n)))))))))).closeAg (p := pag) (A := ({ (watchedA ag r_Err.v r_Events) with opn := zReq, renewed := (((((watchedA ag r_Err.v r_Events).opn).Kind).v) == 5) && (r_Err.v == 0), quiet := (r_Err.v == 0) && ((r_Events.length : Int) == 0) } : AgM))
  have q126 : ({ (watchedA ag r_Err.v r_Events) with opn := zReq, renewed := (((((watchedA ag r_Err.v r_Events).opn).Kind).v) == 5) && (r_Err.v == 0), quiet := (r_Err.v == 0) && ((r_Events.length : Int) == 0) } : AgM) = doneA ag (⟨r_Err, r_Answer, r_Snap_Rev, r_Snap_Now, r_Snap_Leases, r_Events, r_Tables_Routes, r_Tables_Neighs, r_Tables_Fdbs⟩ : ReM) := by clear hs m; exact (done_k (g := ag) (r := ⟨r_Err, r_Answer, r_Snap_Rev, r_Snap_Now, r_Snap_Leases, r_Events, r_Tables_Routes, r_Tables_Neighs, r_Tables_Fdbs⟩) (tk6 (by omega)) (by omega) (by omega) (qt6 (by omega))).2
  rw [q126] at m
  refine ⟨_, rfl, ?_, m.sub (.c r0 .n)⟩
  have q127 : (0 : Int) = doneE ag (⟨r_Err, r_Answer, r_Snap_Rev, r_Snap_Now, r_Snap_Leases, r_Events, r_Tables_Routes, r_Tables_Neighs, r_Tables_Fdbs⟩ : ReM) := by clear hs m; exact (done_k (g := ag) (r := ⟨r_Err, r_Answer, r_Snap_Rev, r_Snap_Now, r_Snap_Leases, r_Events, r_Tables_Routes, r_Tables_Neighs, r_Tables_Fdbs⟩) (tk6 (by omega)) (by omega) (by omega) (qt6 (by omega))).1
  (rw [q127]; rfl)
 have h107p := ne_of_beq_false h107
 refine wp_skip ?_
 refine n_block (n_then ?_)
 refine c_seq ?_
 refine c_reg ?_
 refine s_ hs m (ok_move rfl) (b_ m (ok_bin (v := .bool false) rfl rfl rfl) (bn_ ?_))
 clear hs a; intro a hs
 refine c_false hs rfl rfl ?_
 refine wp_skip ?_
 refine n_then ?_
 refine c_reg ?_
 refine s_ hs m (ok_move rfl) (b_ m (ok_move rfl) (b_ m (ok_nilCheck rfl) (b_ m (ok_fieldAddr (r := 10) rfl fd135_2 ty89 rfl) (b_ m (ok_fieldAddr (r := 10) rfl fd89_0 ty3 rfl) (b_ m (ok_load_sc rfl ty3 (bx_at r1) rfl) (b_ m (ok_bin rfl rfl rfl) (b_ m (ok_move rfl) ?_)))))))
 clear hs a; intro a hs
 refine l_cut (.c (.c (.c (.c (.n))))) (fun a w => St 75 [(0, .pointer (some (padd pag 0))), (6, .bool false), (53, .pointer (some (padd pag 0))), (64, .bool ((ag.opn.Kind.v == 5) && (r_Err.v == 0)))] a ∧ Hp w0 R [Bx p8 77 (cRe r_Err r_Answer r_Snap_Rev r_Snap_Now vr_Snap_Leases.v vr_Events.v vr_Tables_Routes.v vr_Tables_Neighs.v vr_Tables_Fdbs.v), Bx pag 135 (cAg ag.self x2.v ag.opn ag.read x3.v x4.v x5.v x6.v ag.cursor ag.stale x7.v ag.degraded ag.granted ag.waiting ag.wish ag.renewed ag.quiet), Bx x1 63 [.pointer (some (padd pag 0))], Sv 2 138 x2.v ((rulesOf pag x1 : List (List Value)).map id), Sv 4 51 x3.v (ag.Routes.map cRoute), Sv 7 54 x4.v (ag.Neighs.map cNeigh), Sv 7 56 x5.v (ag.Fdbs.map cFdb), Sv 12 48 x6.v (ag.view.map cLease), Sv 2 44 x7.v (ag.skipped.map cPrefix)] w) ?_ ?_
 ·rcases Bool.eq_false_or_eq_true (ag.opn.Kind.v == 5) with hb129 | hb129
  ·have hb129p := eq_of_beq hb129
   refine sg_ hs hb129 m (ok_fieldAddr (r := 0) rfl fd77_0 ty36 rfl) (bg_ hb129 m (ok_load_sc rfl ty36 (bx_at r0) rfl) (bg_ hb129 m (ok_bin rfl rfl rfl) (b_ m (ok_pick (r := .bool ((ag.opn.Kind.v == 5) && (r_Err.v == 0))) rfl rfl rfl (by rw [hb129]; rfl)) ?_)))
   clear hs a; intro a hs
   exact wpList_nil (n_then ⟨hs.to ⟨rfl, rfl, rfl, rfl, trivial⟩, m⟩)
  ·have hb129p := ne_of_beq_false hb129
   refine so_ hs hb129 (bo_ hb129 (bo_ hb129 (b_ m (ok_pick (r := .bool ((ag.opn.Kind.v == 5) && (r_Err.v == 0))) rfl rfl rfl (by rw [hb129]; rfl)) ?_)))
   clear hs a; intro a hs
   exact wpList_nil (n_then ⟨hs.to ⟨rfl, rfl, rfl, rfl, trivial⟩, m⟩)
 clear hs m a w9; rintro a w130 ⟨hs, m⟩
 refine s_ hs m (ok_nilCheck rfl) (b_ m (ok_fieldAddr (r := 57) rfl fd135_13 ty4 rfl) ?_)
 clear hs a; intro a hs
 refine st_ (cAg ag.self x2.v ag.opn ag.read x3.v x4.v x5.v x6.v ag.cursor ag.stale x7.v ag.degraded ag.granted ag.waiting ag.wish ((ag.opn.Kind.v == 5) && (r_Err.v == 0)) ag.quiet) [.bool ((ag.opn.Kind.v == 5) && (r_Err.v == 0))] hs m ty4 s1 ?_
 clear m w130; intro w131 m
 refine wpList_nil (n_then ?_)
 refine c_reg ?_
 refine s_ hs m (ok_move rfl) (b_ m (ok_move rfl) (b_ m (ok_move rfl) (b_ m (ok_build (cs := cReq zReq) st89 ze89 rfl (by kernel_rfl)) (b_ m (ok_nilCheck rfl) (b_ m (ok_fieldAddr (r := 58) rfl fd135_14 ty4 rfl) ?_)))))
 clear hs a; intro a hs
 refine st_ (cAg ag.self x2.v ag.opn ag.read x3.v x4.v x5.v x6.v ag.cursor ag.stale x7.v ag.degraded ag.granted ag.waiting ag.wish ((ag.opn.Kind.v == 5) && (r_Err.v == 0)) false) [.bool false] hs m ty4 s1 ?_
 clear m w131; intro w132 m
 refine s_ hs m (ok_nilCheck rfl) (b_ m (ok_fieldAddr (r := 10) rfl fd135_2 ty89 rfl) ?_)
 clear hs a; intro a hs
 refine st_ (cAg ag.self x2.v zReq ag.read x3.v x4.v x5.v x6.v ag.cursor ag.stale x7.v ag.degraded ag.granted ag.waiting ag.wish ((ag.opn.Kind.v == 5) && (r_Err.v == 0)) false) (cReq zReq) hs m ty89 s1 ?_
 clear m w132; intro w133 m
 refine wpList_nil (n_then ?_)
 refine c_reg ?_
 refine s_ hs m (ok_assign rfl) (bn_ ?_)
 clear hs a; intro a hs
 refine wp_ret ?_
 refine leave hs (vs := [.int .i64 0]) rfl ⟨rfl, trivial⟩ ?_
 replace m := (m.sub (.c r1 (.c r1 (.c r1 (.c r1 (.c r1 (.c r1 (.c r1 (.c r1 (.c r0 .n)))))))))).closeAg (p := pag) (A := ({ ag with opn := zReq, renewed := (ag.opn.Kind.v == 5) && (r_Err.v == 0), quiet := false } : AgM))
 have q134 : ({ ag with opn := zReq, renewed := (ag.opn.Kind.v == 5) && (r_Err.v == 0), quiet := false } : AgM) = doneA ag (⟨r_Err, r_Answer, r_Snap_Rev, r_Snap_Now, r_Snap_Leases, r_Events, r_Tables_Routes, r_Tables_Neighs, r_Tables_Fdbs⟩ : ReM) := by clear hs m; exact (done_k (g := ag) (r := ⟨r_Err, r_Answer, r_Snap_Rev, r_Snap_Now, r_Snap_Leases, r_Events, r_Tables_Routes, r_Tables_Neighs, r_Tables_Fdbs⟩) (tkn (by omega) (by omega) (by omega) (by omega) (by omega)) (by omega) (by omega) (qt0 (by omega))).2
 rw [q134] at m
 refine ⟨_, rfl, ?_, m.sub (.c r0 .n)⟩
 have q135 : (0 : Int) = doneE ag (⟨r_Err, r_Answer, r_Snap_Rev, r_Snap_Now, r_Snap_Leases, r_Events, r_Tables_Routes, r_Tables_Neighs, r_Tables_Fdbs⟩ : ReM) := by clear hs m; exact (done_k (g := ag) (r := ⟨r_Err, r_Answer, r_Snap_Rev, r_Snap_Now, r_Snap_Leases, r_Events, r_Tables_Routes, r_Tables_Neighs, r_Tables_Fdbs⟩) (tkn (by omega) (by omega) (by omega) (by omega) (by omega)) (by omega) (by omega) (qt0 (by omega))).1
 (rw [q135]; rfl)
end Go.Proofs.YtnbpodjbemfpbaaGreat.Fw
