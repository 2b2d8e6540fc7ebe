/-
  Walks: printed by wip/tool/agent.py.
-/
import Derived.Test.YtnbpodjbemfpbaaGreatWd
import Derived.KernelRfl
set_option linter.all false
set_option maxHeartbeats 4000000
set_option maxRecDepth 100000
namespace Go.Proofs.YtnbpodjbemfpbaaGreat.Fw
open Go
theorem bsRoute_c (vx : SH) (x : List TRoute) (t : TRoute) (w0 : World) (hx : RdS (hh w0) 4 vx.v (x.map cRoute)) : Pure Tryz.prog 97 [vx.v, .agg ⟨cRoute t⟩, .func (.func 45) ⟨[]⟩ ⟨[]⟩] (.tuple ⟨[.int .i64 (bsI (fun e => (cmpRoute e t).v) x : Int), .bool (bsHit cmpRoute x t)]⟩) w0 := by
  have lvx := hx.bd
  refine enter (n := 49) Tryz.func97 rfl rfl rfl fun a (hs : St 49 [(0, vx.v), (1, .agg ⟨cRoute t⟩), (2, .func (.func 45) ⟨[]⟩ ⟨[]⟩)] a) => ?_
  have m := Hp.start w0
  refine c_reg ?_
  refine r_box (cs := cRoute t) hs m rfl rfl rfl ?_
  clear m hs a; intro p1 w2 m a hs
  refine r_ok hs m (ok_assign rfl) rfl ?_
  clear hs a; intro a hs
  refine r_ok hs m (ok_assign rfl) rfl ?_
  clear hs a; intro a hs
  refine wpList_nil (n_then ?_)
  refine c_reg ?_
  refine r_ok hs m (ok_move rfl) rfl ?_
  clear hs a; intro a hs
  refine r_ok hs m (ok_len (r := (x.length : Int)) m rfl sl25 (rc_fr hx) (by simp)) rfl ?_
  clear hs a; intro a hs
  refine r_ok hs m (ok_assign rfl) rfl ?_
  clear hs a; intro a hs
  refine wpList_nil (n_then ?_)
  refine c_reg ?_
  refine r_ok hs m (ok_move rfl) rfl ?_
  clear hs a; intro a hs
  refine r_ok hs m (ok_assign rfl) rfl ?_
  clear hs a; intro a hs
  refine r_ok hs m (ok_assign rfl) rfl ?_
  clear hs a; intro a hs
  refine wpList_nil (n_then ?_)
  refine c_seq ?_
  refine wp_block ?_
  refine wp_loop_ghost (fun gn a w => ∃ i : Nat, ∃ j : Nat, ∃ fu : Nat, (i ≤ j) ∧ (j ≤ x.length) ∧ (j - i ≤ fu) ∧ (bsF (fun e => (cmpRoute e t).v) x fu i j = bsI (fun e => (cmpRoute e t).v) x) ∧ gn = j - i ∧ St 49 [(0, vx.v), (2, .func (.func 45) ⟨[]⟩ ⟨[]⟩), (4, .pointer (some (padd p1 0))), (8, .int .i64 (x.length : Int)), (9, .int .i64 (i : Int)), (10, .int .i64 (j : Int))] a ∧ Hp w0 (hh w0) [Bx p1 51 (cRoute t)] w) (x.length - 0) ⟨0, x.length, x.length, by omega, by omega, by omega, by rfl, rfl, hs.to ⟨rfl, rfl, rfl, rfl, rfl, rfl, trivial⟩, m.sub (.c r0 .n)⟩ ?_
  clear hs m a w2
  rintro gn a w3 ⟨i, j, fu, hi, hj, hfu, hb, rfl, hs, m⟩
  refine c_seq ?_
  refine c_reg ?_
  refine r_ok hs m (ok_move rfl) rfl ?_
  clear hs a; intro a hs
  refine r_ok hs m (ok_move rfl) rfl ?_
  clear hs a; intro a hs
  refine r_ok hs m (ok_bin rfl rfl rfl) rfl ?_
  clear hs a; intro a hs
  refine wpList_nil (n_then ?_)
  refine c_cond hs rfl (fun h4 => ?_) (fun h4 => ?_)
  rotate_left
  · have h4p := of_decide_eq_false h4
    refine wp_exit ?_
    refine ex_then (ex_then (ex_hit (?_)))
    refine n_then ?_
    refine c_draw m mo (by kernel_rfl) ?_
    refine q_ok hs (ok_move rfl) rfl ?_
    clear hs a; intro a hs
    refine q_ok hs (ok_move rfl) rfl ?_
    clear hs a; intro a hs
    refine q_ok hs (ok_move rfl) rfl ?_
    clear hs a; intro a hs
    refine q_ok hs (ok_bin rfl rfl rfl) rfl ?_
    clear hs a; intro a hs
    refine q_ok hs (ok_move rfl) rfl ?_
    clear hs a; intro a hs
    refine q_cut (.c (.c (.c (.c (.c (.c (.c (.c (.c (.n)))))))))) (fun a => St 49 [(35, .int .i64 (i : Int)), (48, .bool ((decide ((i : Int) < (x.length : Int))) && (((cmpRoute ((x[i]?).getD (⟨(⟨⟨0, rfl⟩, ⟨0, rfl⟩⟩ : TPrefix), ⟨0, rfl⟩, false⟩ : TRoute)) t).v) == 0)))] a) ?_ ?_
    · rcases Bool.eq_false_or_eq_true (decide ((i : Int) < (x.length : Int))) with hb5 | hb5
      · have hb5p := of_decide_eq_true hb5
        refine q_okg hs rfl rfl hb5 (ok_move rfl) rfl ?_
        clear hs a; intro a hs
        refine q_okg hs rfl rfl hb5 (ok_move rfl) rfl ?_
        clear hs a; intro a hs
        refine q_okg hs rfl rfl hb5 (ok_move rfl) rfl ?_
        clear hs a; intro a hs
        obtain ⟨e6, he7⟩ := get_of_lt (l := x) (i := i) (by omega)
        refine elF (c := cRoute) (e := e6) hs m (x := (.tmp 41)) (ix := (.tmp 42)) rfl rfl sl25 ty51 hx (by omega) he7 fun p8 hp9 ok10 => ?_
        refine q_okg hs rfl rfl hb5 (ok10 _ _ _ _ _) rfl ?_
        clear hs a; intro a hs
        refine q_okg hs rfl rfl hb5 (ok_load_ag (vs := cRoute e6) rfl ty51 (fr_at hp9) rfl rfl) rfl ?_
        clear hs a; intro a hs
        refine q_okg hs rfl rfl hb5 (ok_load_ag (vs := cRoute t) rfl ty51 (bx_at r0) rfl rfl) rfl ?_
        clear hs a; intro a hs
        refine q_callPg hs rfl rfl hb5 rfl rfl ca45 rfl (fun w m => croute_c e6 t w  ) rfl ?_
        clear hs a; intro a hs
        refine q_okg hs rfl rfl hb5 (ok_bin rfl rfl rfl) rfl ?_
        clear hs a; intro a hs
        refine q_ok hs (ok_pick (r := .bool ((decide ((i : Int) < (x.length : Int))) && (((cmpRoute ((x[i]?).getD (⟨(⟨⟨0, rfl⟩, ⟨0, rfl⟩⟩ : TPrefix), ⟨0, rfl⟩, false⟩ : TRoute)) t).v) == 0))) rfl rfl rfl (by (try rw [he7]); rw [hb5]; rfl)) rfl ?_
        clear hs a; intro a hs
        exact wpQuiet_nil (hs.to ⟨rfl, rfl, trivial⟩)
      · have hb5p := of_decide_eq_false hb5
        refine q_out hs rfl rfl hb5 rfl ?_
        clear hs a; intro a hs
        refine q_out hs rfl rfl hb5 rfl ?_
        clear hs a; intro a hs
        refine q_out hs rfl rfl hb5 rfl ?_
        clear hs a; intro a hs
        refine q_out hs rfl rfl hb5 rfl ?_
        clear hs a; intro a hs
        refine q_out hs rfl rfl hb5 rfl ?_
        clear hs a; intro a hs
        refine q_out hs rfl rfl hb5 rfl ?_
        clear hs a; intro a hs
        refine q_out hs rfl rfl hb5 rfl ?_
        clear hs a; intro a hs
        refine q_out hs rfl rfl hb5 rfl ?_
        clear hs a; intro a hs
        refine q_ok hs (ok_pick (r := .bool ((decide ((i : Int) < (x.length : Int))) && (((cmpRoute ((x[i]?).getD (⟨(⟨⟨0, rfl⟩, ⟨0, rfl⟩⟩ : TPrefix), ⟨0, rfl⟩, false⟩ : TRoute)) t).v) == 0))) rfl rfl rfl (by rw [hb5]; rfl)) rfl ?_
        clear hs a; intro a hs
        exact wpQuiet_nil (hs.to ⟨rfl, rfl, trivial⟩)
    clear hs a; intro a hs
    refine q_ok hs (ok_assign rfl) rfl ?_
    clear hs a; intro a hs
    refine q_ok hs (ok_assign rfl) rfl ?_
    clear hs a; intro a hs
    refine wpQuiet_nil ?_; clear m w3; intro w11 m
    refine wp_ret ?_
    refine leave hs (vs := [.int .i64 (i : Int), .bool ((decide ((i : Int) < (x.length : Int))) && (((cmpRoute ((x[i]?).getD (⟨(⟨⟨0, rfl⟩, ⟨0, rfl⟩⟩ : TPrefix), ⟨0, rfl⟩, false⟩ : TRoute)) t).v) == 0))]) rfl ⟨rfl, rfl, trivial⟩ ?_
    refine ⟨?_, m.sub .n⟩
    have q12 : ((i : Int) : Int) = (bsI (fun e => (cmpRoute e t).v) x : Int) := by clear hs m; first | (rw [← hb, bsF_end (by omega)]) | exact bsHit_eq (by rw [← hb, bsF_end (by omega)])
    have q13 : ((decide ((i : Int) < (x.length : Int))) && (((cmpRoute ((x[i]?).getD (⟨(⟨⟨0, rfl⟩, ⟨0, rfl⟩⟩ : TPrefix), ⟨0, rfl⟩, false⟩ : TRoute)) t).v) == 0) : Bool) = bsHit cmpRoute x t := by clear hs m; first | (rw [← hb, bsF_end (by omega)]) | exact bsHit_eq (by rw [← hb, bsF_end (by omega)])
    first | (rw [q12, q13]; done) | (rw [q12, q13]; rfl) | (rw [q13, q12]; rfl) | (simp only [q12, q13, pack]; done)
  have h4p := of_decide_eq_true h4
  refine wp_skip ?_
  refine n_then ?_
  refine wp_block ?_
  refine c_reg ?_
  refine r_ok hs m (ok_move rfl) rfl ?_
  clear hs a; intro a hs
  refine r_ok hs m (ok_move rfl) rfl ?_
  clear hs a; intro a hs
  refine r_ok hs m (ok_add (r := (i : Int) + (j : Int)) rfl rfl (wrap_i64 (by omega) (by omega))) rfl ?_
  clear hs a; intro a hs
  refine r_ok hs m (ok_conv (r := (i : Int) + (j : Int)) rfl in3 in208 (wrap_u64 (by omega) (by omega))) rfl ?_
  clear hs a; intro a hs
  refine r_ok hs m (ok_shr (r := (((i + j) / 2 : Nat) : Int)) rfl rfl (by decide) (mid_eq)) rfl ?_
  clear hs a; intro a hs
  refine r_ok hs m (ok_conv (r := (((i + j) / 2 : Nat) : Int)) rfl in208 in3 (wrap_i64 (by omega) (by omega))) rfl ?_
  clear hs a; intro a hs
  refine r_ok hs m (ok_assign rfl) rfl ?_
  clear hs a; intro a hs
  refine wpList_nil (n_then ?_)
  refine c_draw m mo (by kernel_rfl) ?_
  refine q_ok hs (ok_move rfl) rfl ?_
  clear hs a; intro a hs
  refine q_ok hs (ok_move rfl) rfl ?_
  clear hs a; intro a hs
  refine q_ok hs (ok_move rfl) rfl ?_
  clear hs a; intro a hs
  obtain ⟨e14, he15⟩ := get_of_lt (l := x) (i := ((i + j) / 2)) (by omega)
  refine elF (c := cRoute) (e := e14) hs m (x := (.tmp 25)) (ix := (.tmp 26)) rfl rfl sl25 ty51 hx (by omega) he15 fun p16 hp17 ok18 => ?_
  refine q_ok hs (ok18 _ _ _ _ _) rfl ?_
  clear hs a; intro a hs
  refine q_ok hs (ok_load_ag (vs := cRoute e14) rfl ty51 (fr_at hp17) rfl rfl) rfl ?_
  clear hs a; intro a hs
  refine q_ok hs (ok_load_ag (vs := cRoute t) rfl ty51 (bx_at r0) rfl rfl) rfl ?_
  clear hs a; intro a hs
  refine q_callP hs rfl rfl ca45 rfl (fun w m => croute_c e14 t w  ) rfl ?_
  clear hs a; intro a hs
  refine q_ok hs (ok_bin rfl rfl rfl) rfl ?_
  clear hs a; intro a hs
  refine wpQuiet_nil ?_; clear m w3; intro w19 m
  refine c_cond hs rfl (fun h20 => ?_) (fun h20 => ?_)
  · have h20p := of_decide_eq_true h20
    refine c_last ?_
    refine r_ok hs m (ok_move rfl) rfl ?_
    clear hs a; intro a hs
    refine r_ok hs m (ok_add (r := (((i + j) / 2 : Nat) : Int) + 1) rfl rfl (wrap_i64 (by omega) (by omega))) rfl ?_
    clear hs a; intro a hs
    refine r_ok hs m (ok_assign rfl) rfl ?_
    clear hs a; intro a hs
    refine wpList_nil (n_block (n_then ?_))
    exact ⟨j - ((i + j) / 2 + 1), by omega, (i + j) / 2 + 1, j, fu - 1, by omega, by omega, by omega, by (first | exact (bsF_lt (by omega) (by omega) (by assumption) (by assumption)).trans hb | exact (bsF_ge (by omega) (by omega) (by assumption) (by assumption)).trans hb), rfl, hs.to ⟨rfl, rfl, rfl, rfl, rfl, rfl, trivial⟩, m.sub (.c r0 .n)⟩
  have h20p := of_decide_eq_false h20
  refine c_last ?_
  refine r_ok hs m (ok_move rfl) rfl ?_
  clear hs a; intro a hs
  refine r_ok hs m (ok_assign rfl) rfl ?_
  clear hs a; intro a hs
  refine wpList_nil (n_block (n_then ?_))
  exact ⟨((i + j) / 2) - i, by omega, i, (i + j) / 2, fu - 1, by omega, by omega, by omega, by (first | exact (bsF_lt (by omega) (by omega) (by assumption) (by assumption)).trans hb | exact (bsF_ge (by omega) (by omega) (by assumption) (by assumption)).trans hb), rfl, hs.to ⟨rfl, rfl, rfl, rfl, rfl, rfl, trivial⟩, m.sub (.c r0 .n)⟩
theorem bsNeigh_c (vx : SH) (x : List TNeigh) (t : TNeigh) (w0 : World) (hx : RdS (hh w0) 7 vx.v (x.map cNeigh)) : Pure Tryz.prog 100 [vx.v, .agg ⟨cNeigh t⟩, .func (.func 47) ⟨[]⟩ ⟨[]⟩] (.tuple ⟨[.int .i64 (bsI (fun e => (cmpNeigh e t).v) x : Int), .bool (bsHit cmpNeigh x t)]⟩) w0 := by
  have lvx := hx.bd
  refine enter (n := 49) Tryz.func100 rfl rfl rfl fun a (hs : St 49 [(0, vx.v), (1, .agg ⟨cNeigh t⟩), (2, .func (.func 47) ⟨[]⟩ ⟨[]⟩)] a) => ?_
  have m := Hp.start w0
  refine c_reg ?_
  refine r_box (cs := cNeigh t) hs m rfl rfl rfl ?_
  clear m hs a; intro p1 w2 m a hs
  refine r_ok hs m (ok_assign rfl) rfl ?_
  clear hs a; intro a hs
  refine r_ok hs m (ok_assign rfl) rfl ?_
  clear hs a; intro a hs
  refine wpList_nil (n_then ?_)
  refine c_reg ?_
  refine r_ok hs m (ok_move rfl) rfl ?_
  clear hs a; intro a hs
  refine r_ok hs m (ok_len (r := (x.length : Int)) m rfl sl26 (rc_fr hx) (by simp)) rfl ?_
  clear hs a; intro a hs
  refine r_ok hs m (ok_assign rfl) rfl ?_
  clear hs a; intro a hs
  refine wpList_nil (n_then ?_)
  refine c_reg ?_
  refine r_ok hs m (ok_move rfl) rfl ?_
  clear hs a; intro a hs
  refine r_ok hs m (ok_assign rfl) rfl ?_
  clear hs a; intro a hs
  refine r_ok hs m (ok_assign rfl) rfl ?_
  clear hs a; intro a hs
  refine wpList_nil (n_then ?_)
  refine c_seq ?_
  refine wp_block ?_
  refine wp_loop_ghost (fun gn a w => ∃ i : Nat, ∃ j : Nat, ∃ fu : Nat, (i ≤ j) ∧ (j ≤ x.length) ∧ (j - i ≤ fu) ∧ (bsF (fun e => (cmpNeigh e t).v) x fu i j = bsI (fun e => (cmpNeigh e t).v) x) ∧ gn = j - i ∧ St 49 [(0, vx.v), (2, .func (.func 47) ⟨[]⟩ ⟨[]⟩), (4, .pointer (some (padd p1 0))), (8, .int .i64 (x.length : Int)), (9, .int .i64 (i : Int)), (10, .int .i64 (j : Int))] a ∧ Hp w0 (hh w0) [Bx p1 54 (cNeigh t)] w) (x.length - 0) ⟨0, x.length, x.length, by omega, by omega, by omega, by rfl, rfl, hs.to ⟨rfl, rfl, rfl, rfl, rfl, rfl, trivial⟩, m.sub (.c r0 .n)⟩ ?_
  clear hs m a w2
  rintro gn a w3 ⟨i, j, fu, hi, hj, hfu, hb, rfl, hs, m⟩
  refine c_seq ?_
  refine c_reg ?_
  refine r_ok hs m (ok_move rfl) rfl ?_
  clear hs a; intro a hs
  refine r_ok hs m (ok_move rfl) rfl ?_
  clear hs a; intro a hs
  refine r_ok hs m (ok_bin rfl rfl rfl) rfl ?_
  clear hs a; intro a hs
  refine wpList_nil (n_then ?_)
  refine c_cond hs rfl (fun h4 => ?_) (fun h4 => ?_)
  rotate_left
  · have h4p := of_decide_eq_false h4
    refine wp_exit ?_
    refine ex_then (ex_then (ex_hit (?_)))
    refine n_then ?_
    refine c_draw m mo (by kernel_rfl) ?_
    refine q_ok hs (ok_move rfl) rfl ?_
    clear hs a; intro a hs
    refine q_ok hs (ok_move rfl) rfl ?_
    clear hs a; intro a hs
    refine q_ok hs (ok_move rfl) rfl ?_
    clear hs a; intro a hs
    refine q_ok hs (ok_bin rfl rfl rfl) rfl ?_
    clear hs a; intro a hs
    refine q_ok hs (ok_move rfl) rfl ?_
    clear hs a; intro a hs
    refine q_cut (.c (.c (.c (.c (.c (.c (.c (.c (.c (.n)))))))))) (fun a => St 49 [(35, .int .i64 (i : Int)), (48, .bool ((decide ((i : Int) < (x.length : Int))) && (((cmpNeigh ((x[i]?).getD (⟨⟨0, rfl⟩, (⟨⟨0, rfl⟩, ⟨0, rfl⟩, ⟨0, rfl⟩, ⟨0, rfl⟩, ⟨0, rfl⟩, ⟨0, rfl⟩⟩ : TMAC)⟩ : TNeigh)) t).v) == 0)))] a) ?_ ?_
    · rcases Bool.eq_false_or_eq_true (decide ((i : Int) < (x.length : Int))) with hb5 | hb5
      · have hb5p := of_decide_eq_true hb5
        refine q_okg hs rfl rfl hb5 (ok_move rfl) rfl ?_
        clear hs a; intro a hs
        refine q_okg hs rfl rfl hb5 (ok_move rfl) rfl ?_
        clear hs a; intro a hs
        refine q_okg hs rfl rfl hb5 (ok_move rfl) rfl ?_
        clear hs a; intro a hs
        obtain ⟨e6, he7⟩ := get_of_lt (l := x) (i := i) (by omega)
        refine elF (c := cNeigh) (e := e6) hs m (x := (.tmp 41)) (ix := (.tmp 42)) rfl rfl sl26 ty54 hx (by omega) he7 fun p8 hp9 ok10 => ?_
        refine q_okg hs rfl rfl hb5 (ok10 _ _ _ _ _) rfl ?_
        clear hs a; intro a hs
        refine q_okg hs rfl rfl hb5 (ok_load_ag (vs := cNeigh e6) rfl ty54 (fr_at hp9) rfl rfl) rfl ?_
        clear hs a; intro a hs
        refine q_okg hs rfl rfl hb5 (ok_load_ag (vs := cNeigh t) rfl ty54 (bx_at r0) rfl rfl) rfl ?_
        clear hs a; intro a hs
        refine q_callPg hs rfl rfl hb5 rfl rfl ca47 rfl (fun w m => cneigh_c e6 t w  ) rfl ?_
        clear hs a; intro a hs
        refine q_okg hs rfl rfl hb5 (ok_bin rfl rfl rfl) rfl ?_
        clear hs a; intro a hs
        refine q_ok hs (ok_pick (r := .bool ((decide ((i : Int) < (x.length : Int))) && (((cmpNeigh ((x[i]?).getD (⟨⟨0, rfl⟩, (⟨⟨0, rfl⟩, ⟨0, rfl⟩, ⟨0, rfl⟩, ⟨0, rfl⟩, ⟨0, rfl⟩, ⟨0, rfl⟩⟩ : TMAC)⟩ : TNeigh)) t).v) == 0))) rfl rfl rfl (by (try rw [he7]); rw [hb5]; rfl)) rfl ?_
        clear hs a; intro a hs
        exact wpQuiet_nil (hs.to ⟨rfl, rfl, trivial⟩)
      · have hb5p := of_decide_eq_false hb5
        refine q_out hs rfl rfl hb5 rfl ?_
        clear hs a; intro a hs
        refine q_out hs rfl rfl hb5 rfl ?_
        clear hs a; intro a hs
        refine q_out hs rfl rfl hb5 rfl ?_
        clear hs a; intro a hs
        refine q_out hs rfl rfl hb5 rfl ?_
        clear hs a; intro a hs
        refine q_out hs rfl rfl hb5 rfl ?_
        clear hs a; intro a hs
        refine q_out hs rfl rfl hb5 rfl ?_
        clear hs a; intro a hs
        refine q_out hs rfl rfl hb5 rfl ?_
        clear hs a; intro a hs
        refine q_out hs rfl rfl hb5 rfl ?_
        clear hs a; intro a hs
        refine q_ok hs (ok_pick (r := .bool ((decide ((i : Int) < (x.length : Int))) && (((cmpNeigh ((x[i]?).getD (⟨⟨0, rfl⟩, (⟨⟨0, rfl⟩, ⟨0, rfl⟩, ⟨0, rfl⟩, ⟨0, rfl⟩, ⟨0, rfl⟩, ⟨0, rfl⟩⟩ : TMAC)⟩ : TNeigh)) t).v) == 0))) rfl rfl rfl (by rw [hb5]; rfl)) rfl ?_
        clear hs a; intro a hs
        exact wpQuiet_nil (hs.to ⟨rfl, rfl, trivial⟩)
    clear hs a; intro a hs
    refine q_ok hs (ok_assign rfl) rfl ?_
    clear hs a; intro a hs
    refine q_ok hs (ok_assign rfl) rfl ?_
    clear hs a; intro a hs
    refine wpQuiet_nil ?_; clear m w3; intro w11 m
    refine wp_ret ?_
    refine leave hs (vs := [.int .i64 (i : Int), .bool ((decide ((i : Int) < (x.length : Int))) && (((cmpNeigh ((x[i]?).getD (⟨⟨0, rfl⟩, (⟨⟨0, rfl⟩, ⟨0, rfl⟩, ⟨0, rfl⟩, ⟨0, rfl⟩, ⟨0, rfl⟩, ⟨0, rfl⟩⟩ : TMAC)⟩ : TNeigh)) t).v) == 0))]) rfl ⟨rfl, rfl, trivial⟩ ?_
    refine ⟨?_, m.sub .n⟩
    have q12 : ((i : Int) : Int) = (bsI (fun e => (cmpNeigh e t).v) x : Int) := by clear hs m; first | (rw [← hb, bsF_end (by omega)]) | exact bsHit_eq (by rw [← hb, bsF_end (by omega)])
    have q13 : ((decide ((i : Int) < (x.length : Int))) && (((cmpNeigh ((x[i]?).getD (⟨⟨0, rfl⟩, (⟨⟨0, rfl⟩, ⟨0, rfl⟩, ⟨0, rfl⟩, ⟨0, rfl⟩, ⟨0, rfl⟩, ⟨0, rfl⟩⟩ : TMAC)⟩ : TNeigh)) t).v) == 0) : Bool) = bsHit cmpNeigh x t := by clear hs m; first | (rw [← hb, bsF_end (by omega)]) | exact bsHit_eq (by rw [← hb, bsF_end (by omega)])
    first | (rw [q12, q13]; done) | (rw [q12, q13]; rfl) | (rw [q13, q12]; rfl) | (simp only [q12, q13, pack]; done)
  have h4p := of_decide_eq_true h4
  refine wp_skip ?_
  refine n_then ?_
  refine wp_block ?_
  refine c_reg ?_
  refine r_ok hs m (ok_move rfl) rfl ?_
  clear hs a; intro a hs
  refine r_ok hs m (ok_move rfl) rfl ?_
  clear hs a; intro a hs
  refine r_ok hs m (ok_add (r := (i : Int) + (j : Int)) rfl rfl (wrap_i64 (by omega) (by omega))) rfl ?_
  clear hs a; intro a hs
  refine r_ok hs m (ok_conv (r := (i : Int) + (j : Int)) rfl in3 in208 (wrap_u64 (by omega) (by omega))) rfl ?_
  clear hs a; intro a hs
  refine r_ok hs m (ok_shr (r := (((i + j) / 2 : Nat) : Int)) rfl rfl (by decide) (mid_eq)) rfl ?_
  clear hs a; intro a hs
  refine r_ok hs m (ok_conv (r := (((i + j) / 2 : Nat) : Int)) rfl in208 in3 (wrap_i64 (by omega) (by omega))) rfl ?_
  clear hs a; intro a hs
  refine r_ok hs m (ok_assign rfl) rfl ?_
  clear hs a; intro a hs
  refine wpList_nil (n_then ?_)
  refine c_draw m mo (by kernel_rfl) ?_
  refine q_ok hs (ok_move rfl) rfl ?_
  clear hs a; intro a hs
  refine q_ok hs (ok_move rfl) rfl ?_
  clear hs a; intro a hs
  refine q_ok hs (ok_move rfl) rfl ?_
  clear hs a; intro a hs
  obtain ⟨e14, he15⟩ := get_of_lt (l := x) (i := ((i + j) / 2)) (by omega)
  refine elF (c := cNeigh) (e := e14) hs m (x := (.tmp 25)) (ix := (.tmp 26)) rfl rfl sl26 ty54 hx (by omega) he15 fun p16 hp17 ok18 => ?_
  refine q_ok hs (ok18 _ _ _ _ _) rfl ?_
  clear hs a; intro a hs
  refine q_ok hs (ok_load_ag (vs := cNeigh e14) rfl ty54 (fr_at hp17) rfl rfl) rfl ?_
  clear hs a; intro a hs
  refine q_ok hs (ok_load_ag (vs := cNeigh t) rfl ty54 (bx_at r0) rfl rfl) rfl ?_
  clear hs a; intro a hs
  refine q_callP hs rfl rfl ca47 rfl (fun w m => cneigh_c e14 t w  ) rfl ?_
  clear hs a; intro a hs
  refine q_ok hs (ok_bin rfl rfl rfl) rfl ?_
  clear hs a; intro a hs
  refine wpQuiet_nil ?_; clear m w3; intro w19 m
  refine c_cond hs rfl (fun h20 => ?_) (fun h20 => ?_)
  · have h20p := of_decide_eq_true h20
    refine c_last ?_
    refine r_ok hs m (ok_move rfl) rfl ?_
    clear hs a; intro a hs
    refine r_ok hs m (ok_add (r := (((i + j) / 2 : Nat) : Int) + 1) rfl rfl (wrap_i64 (by omega) (by omega))) rfl ?_
    clear hs a; intro a hs
    refine r_ok hs m (ok_assign rfl) rfl ?_
    clear hs a; intro a hs
    refine wpList_nil (n_block (n_then ?_))
    exact ⟨j - ((i + j) / 2 + 1), by omega, (i + j) / 2 + 1, j, fu - 1, by omega, by omega, by omega, by (first | exact (bsF_lt (by omega) (by omega) (by assumption) (by assumption)).trans hb | exact (bsF_ge (by omega) (by omega) (by assumption) (by assumption)).trans hb), rfl, hs.to ⟨rfl, rfl, rfl, rfl, rfl, rfl, trivial⟩, m.sub (.c r0 .n)⟩
  have h20p := of_decide_eq_false h20
  refine c_last ?_
  refine r_ok hs m (ok_move rfl) rfl ?_
  clear hs a; intro a hs
  refine r_ok hs m (ok_assign rfl) rfl ?_
  clear hs a; intro a hs
  refine wpList_nil (n_block (n_then ?_))
  exact ⟨((i + j) / 2) - i, by omega, i, (i + j) / 2, fu - 1, by omega, by omega, by omega, by (first | exact (bsF_lt (by omega) (by omega) (by assumption) (by assumption)).trans hb | exact (bsF_ge (by omega) (by omega) (by assumption) (by assumption)).trans hb), rfl, hs.to ⟨rfl, rfl, rfl, rfl, rfl, rfl, trivial⟩, m.sub (.c r0 .n)⟩
theorem bsFdb_c (vx : SH) (x : List TFdb) (t : TFdb) (w0 : World) (hx : RdS (hh w0) 7 vx.v (x.map cFdb)) : Pure Tryz.prog 103 [vx.v, .agg ⟨cFdb t⟩, .func (.func 49) ⟨[]⟩ ⟨[]⟩] (.tuple ⟨[.int .i64 (bsI (fun e => (cmpFdb e t).v) x : Int), .bool (bsHit cmpFdb x t)]⟩) w0 := by
  have lvx := hx.bd
  refine enter (n := 49) Tryz.func103 rfl rfl rfl fun a (hs : St 49 [(0, vx.v), (1, .agg ⟨cFdb t⟩), (2, .func (.func 49) ⟨[]⟩ ⟨[]⟩)] a) => ?_
  have m := Hp.start w0
  refine c_reg ?_
  refine r_box (cs := cFdb t) hs m rfl rfl rfl ?_
  clear m hs a; intro p1 w2 m a hs
  refine r_ok hs m (ok_assign rfl) rfl ?_
  clear hs a; intro a hs
  refine r_ok hs m (ok_assign rfl) rfl ?_
  clear hs a; intro a hs
  refine wpList_nil (n_then ?_)
  refine c_reg ?_
  refine r_ok hs m (ok_move rfl) rfl ?_
  clear hs a; intro a hs
  refine r_ok hs m (ok_len (r := (x.length : Int)) m rfl sl27 (rc_fr hx) (by simp)) rfl ?_
  clear hs a; intro a hs
  refine r_ok hs m (ok_assign rfl) rfl ?_
  clear hs a; intro a hs
  refine wpList_nil (n_then ?_)
  refine c_reg ?_
  refine r_ok hs m (ok_move rfl) rfl ?_
  clear hs a; intro a hs
  refine r_ok hs m (ok_assign rfl) rfl ?_
  clear hs a; intro a hs
  refine r_ok hs m (ok_assign rfl) rfl ?_
  clear hs a; intro a hs
  refine wpList_nil (n_then ?_)
  refine c_seq ?_
  refine wp_block ?_
  refine wp_loop_ghost (fun gn a w => ∃ i : Nat, ∃ j : Nat, ∃ fu : Nat, (i ≤ j) ∧ (j ≤ x.length) ∧ (j - i ≤ fu) ∧ (bsF (fun e => (cmpFdb e t).v) x fu i j = bsI (fun e => (cmpFdb e t).v) x) ∧ gn = j - i ∧ St 49 [(0, vx.v), (2, .func (.func 49) ⟨[]⟩ ⟨[]⟩), (4, .pointer (some (padd p1 0))), (8, .int .i64 (x.length : Int)), (9, .int .i64 (i : Int)), (10, .int .i64 (j : Int))] a ∧ Hp w0 (hh w0) [Bx p1 56 (cFdb t)] w) (x.length - 0) ⟨0, x.length, x.length, by omega, by omega, by omega, by rfl, rfl, hs.to ⟨rfl, rfl, rfl, rfl, rfl, rfl, trivial⟩, m.sub (.c r0 .n)⟩ ?_
  clear hs m a w2
  rintro gn a w3 ⟨i, j, fu, hi, hj, hfu, hb, rfl, hs, m⟩
  refine c_seq ?_
  refine c_reg ?_
  refine r_ok hs m (ok_move rfl) rfl ?_
  clear hs a; intro a hs
  refine r_ok hs m (ok_move rfl) rfl ?_
  clear hs a; intro a hs
  refine r_ok hs m (ok_bin rfl rfl rfl) rfl ?_
  clear hs a; intro a hs
  refine wpList_nil (n_then ?_)
  refine c_cond hs rfl (fun h4 => ?_) (fun h4 => ?_)
  rotate_left
  · have h4p := of_decide_eq_false h4
    refine wp_exit ?_
    refine ex_then (ex_then (ex_hit (?_)))
    refine n_then ?_
    refine c_draw m mo (by kernel_rfl) ?_
    refine q_ok hs (ok_move rfl) rfl ?_
    clear hs a; intro a hs
    refine q_ok hs (ok_move rfl) rfl ?_
    clear hs a; intro a hs
    refine q_ok hs (ok_move rfl) rfl ?_
    clear hs a; intro a hs
    refine q_ok hs (ok_bin rfl rfl rfl) rfl ?_
    clear hs a; intro a hs
    refine q_ok hs (ok_move rfl) rfl ?_
    clear hs a; intro a hs
    refine q_cut (.c (.c (.c (.c (.c (.c (.c (.c (.c (.n)))))))))) (fun a => St 49 [(35, .int .i64 (i : Int)), (48, .bool ((decide ((i : Int) < (x.length : Int))) && (((cmpFdb ((x[i]?).getD (⟨(⟨⟨0, rfl⟩, ⟨0, rfl⟩, ⟨0, rfl⟩, ⟨0, rfl⟩, ⟨0, rfl⟩, ⟨0, rfl⟩⟩ : TMAC), ⟨0, rfl⟩⟩ : TFdb)) t).v) == 0)))] a) ?_ ?_
    · rcases Bool.eq_false_or_eq_true (decide ((i : Int) < (x.length : Int))) with hb5 | hb5
      · have hb5p := of_decide_eq_true hb5
        refine q_okg hs rfl rfl hb5 (ok_move rfl) rfl ?_
        clear hs a; intro a hs
        refine q_okg hs rfl rfl hb5 (ok_move rfl) rfl ?_
        clear hs a; intro a hs
        refine q_okg hs rfl rfl hb5 (ok_move rfl) rfl ?_
        clear hs a; intro a hs
        obtain ⟨e6, he7⟩ := get_of_lt (l := x) (i := i) (by omega)
        refine elF (c := cFdb) (e := e6) hs m (x := (.tmp 41)) (ix := (.tmp 42)) rfl rfl sl27 ty56 hx (by omega) he7 fun p8 hp9 ok10 => ?_
        refine q_okg hs rfl rfl hb5 (ok10 _ _ _ _ _) rfl ?_
        clear hs a; intro a hs
        refine q_okg hs rfl rfl hb5 (ok_load_ag (vs := cFdb e6) rfl ty56 (fr_at hp9) rfl rfl) rfl ?_
        clear hs a; intro a hs
        refine q_okg hs rfl rfl hb5 (ok_load_ag (vs := cFdb t) rfl ty56 (bx_at r0) rfl rfl) rfl ?_
        clear hs a; intro a hs
        refine q_callPg hs rfl rfl hb5 rfl rfl ca49 rfl (fun w m => cfdb_c e6 t w  ) rfl ?_
        clear hs a; intro a hs
        refine q_okg hs rfl rfl hb5 (ok_bin rfl rfl rfl) rfl ?_
        clear hs a; intro a hs
        refine q_ok hs (ok_pick (r := .bool ((decide ((i : Int) < (x.length : Int))) && (((cmpFdb ((x[i]?).getD (⟨(⟨⟨0, rfl⟩, ⟨0, rfl⟩, ⟨0, rfl⟩, ⟨0, rfl⟩, ⟨0, rfl⟩, ⟨0, rfl⟩⟩ : TMAC), ⟨0, rfl⟩⟩ : TFdb)) t).v) == 0))) rfl rfl rfl (by (try rw [he7]); rw [hb5]; rfl)) rfl ?_
        clear hs a; intro a hs
        exact wpQuiet_nil (hs.to ⟨rfl, rfl, trivial⟩)
      · have hb5p := of_decide_eq_false hb5
        refine q_out hs rfl rfl hb5 rfl ?_
        clear hs a; intro a hs
        refine q_out hs rfl rfl hb5 rfl ?_
        clear hs a; intro a hs
        refine q_out hs rfl rfl hb5 rfl ?_
        clear hs a; intro a hs
        refine q_out hs rfl rfl hb5 rfl ?_
        clear hs a; intro a hs
        refine q_out hs rfl rfl hb5 rfl ?_
        clear hs a; intro a hs
        refine q_out hs rfl rfl hb5 rfl ?_
        clear hs a; intro a hs
        refine q_out hs rfl rfl hb5 rfl ?_
        clear hs a; intro a hs
        refine q_out hs rfl rfl hb5 rfl ?_
        clear hs a; intro a hs
        refine q_ok hs (ok_pick (r := .bool ((decide ((i : Int) < (x.length : Int))) && (((cmpFdb ((x[i]?).getD (⟨(⟨⟨0, rfl⟩, ⟨0, rfl⟩, ⟨0, rfl⟩, ⟨0, rfl⟩, ⟨0, rfl⟩, ⟨0, rfl⟩⟩ : TMAC), ⟨0, rfl⟩⟩ : TFdb)) t).v) == 0))) rfl rfl rfl (by rw [hb5]; rfl)) rfl ?_
        clear hs a; intro a hs
        exact wpQuiet_nil (hs.to ⟨rfl, rfl, trivial⟩)
    clear hs a; intro a hs
    refine q_ok hs (ok_assign rfl) rfl ?_
    clear hs a; intro a hs
    refine q_ok hs (ok_assign rfl) rfl ?_
    clear hs a; intro a hs
    refine wpQuiet_nil ?_; clear m w3; intro w11 m
    refine wp_ret ?_
    refine leave hs (vs := [.int .i64 (i : Int), .bool ((decide ((i : Int) < (x.length : Int))) && (((cmpFdb ((x[i]?).getD (⟨(⟨⟨0, rfl⟩, ⟨0, rfl⟩, ⟨0, rfl⟩, ⟨0, rfl⟩, ⟨0, rfl⟩, ⟨0, rfl⟩⟩ : TMAC), ⟨0, rfl⟩⟩ : TFdb)) t).v) == 0))]) rfl ⟨rfl, rfl, trivial⟩ ?_
    refine ⟨?_, m.sub .n⟩
    have q12 : ((i : Int) : Int) = (bsI (fun e => (cmpFdb e t).v) x : Int) := by clear hs m; first | (rw [← hb, bsF_end (by omega)]) | exact bsHit_eq (by rw [← hb, bsF_end (by omega)])
    have q13 : ((decide ((i : Int) < (x.length : Int))) && (((cmpFdb ((x[i]?).getD (⟨(⟨⟨0, rfl⟩, ⟨0, rfl⟩, ⟨0, rfl⟩, ⟨0, rfl⟩, ⟨0, rfl⟩, ⟨0, rfl⟩⟩ : TMAC), ⟨0, rfl⟩⟩ : TFdb)) t).v) == 0) : Bool) = bsHit cmpFdb x t := by clear hs m; first | (rw [← hb, bsF_end (by omega)]) | exact bsHit_eq (by rw [← hb, bsF_end (by omega)])
    first | (rw [q12, q13]; done) | (rw [q12, q13]; rfl) | (rw [q13, q12]; rfl) | (simp only [q12, q13, pack]; done)
  have h4p := of_decide_eq_true h4
  refine wp_skip ?_
  refine n_then ?_
  refine wp_block ?_
  refine c_reg ?_
  refine r_ok hs m (ok_move rfl) rfl ?_
  clear hs a; intro a hs
  refine r_ok hs m (ok_move rfl) rfl ?_
  clear hs a; intro a hs
  refine r_ok hs m (ok_add (r := (i : Int) + (j : Int)) rfl rfl (wrap_i64 (by omega) (by omega))) rfl ?_
  clear hs a; intro a hs
  refine r_ok hs m (ok_conv (r := (i : Int) + (j : Int)) rfl in3 in208 (wrap_u64 (by omega) (by omega))) rfl ?_
  clear hs a; intro a hs
  refine r_ok hs m (ok_shr (r := (((i + j) / 2 : Nat) : Int)) rfl rfl (by decide) (mid_eq)) rfl ?_
  clear hs a; intro a hs
  refine r_ok hs m (ok_conv (r := (((i + j) / 2 : Nat) : Int)) rfl in208 in3 (wrap_i64 (by omega) (by omega))) rfl ?_
  clear hs a; intro a hs
  refine r_ok hs m (ok_assign rfl) rfl ?_
  clear hs a; intro a hs
  refine wpList_nil (n_then ?_)
  refine c_draw m mo (by kernel_rfl) ?_
  refine q_ok hs (ok_move rfl) rfl ?_
  clear hs a; intro a hs
  refine q_ok hs (ok_move rfl) rfl ?_
  clear hs a; intro a hs
  refine q_ok hs (ok_move rfl) rfl ?_
  clear hs a; intro a hs
  obtain ⟨e14, he15⟩ := get_of_lt (l := x) (i := ((i + j) / 2)) (by omega)
  refine elF (c := cFdb) (e := e14) hs m (x := (.tmp 25)) (ix := (.tmp 26)) rfl rfl sl27 ty56 hx (by omega) he15 fun p16 hp17 ok18 => ?_
  refine q_ok hs (ok18 _ _ _ _ _) rfl ?_
  clear hs a; intro a hs
  refine q_ok hs (ok_load_ag (vs := cFdb e14) rfl ty56 (fr_at hp17) rfl rfl) rfl ?_
  clear hs a; intro a hs
  refine q_ok hs (ok_load_ag (vs := cFdb t) rfl ty56 (bx_at r0) rfl rfl) rfl ?_
  clear hs a; intro a hs
  refine q_callP hs rfl rfl ca49 rfl (fun w m => cfdb_c e14 t w  ) rfl ?_
  clear hs a; intro a hs
  refine q_ok hs (ok_bin rfl rfl rfl) rfl ?_
  clear hs a; intro a hs
  refine wpQuiet_nil ?_; clear m w3; intro w19 m
  refine c_cond hs rfl (fun h20 => ?_) (fun h20 => ?_)
  · have h20p := of_decide_eq_true h20
    refine c_last ?_
    refine r_ok hs m (ok_move rfl) rfl ?_
    clear hs a; intro a hs
    refine r_ok hs m (ok_add (r := (((i + j) / 2 : Nat) : Int) + 1) rfl rfl (wrap_i64 (by omega) (by omega))) rfl ?_
    clear hs a; intro a hs
    refine r_ok hs m (ok_assign rfl) rfl ?_
    clear hs a; intro a hs
    refine wpList_nil (n_block (n_then ?_))
    exact ⟨j - ((i + j) / 2 + 1), by omega, (i + j) / 2 + 1, j, fu - 1, by omega, by omega, by omega, by (first | exact (bsF_lt (by omega) (by omega) (by assumption) (by assumption)).trans hb | exact (bsF_ge (by omega) (by omega) (by assumption) (by assumption)).trans hb), rfl, hs.to ⟨rfl, rfl, rfl, rfl, rfl, rfl, trivial⟩, m.sub (.c r0 .n)⟩
  have h20p := of_decide_eq_false h20
  refine c_last ?_
  refine r_ok hs m (ok_move rfl) rfl ?_
  clear hs a; intro a hs
  refine r_ok hs m (ok_assign rfl) rfl ?_
  clear hs a; intro a hs
  refine wpList_nil (n_block (n_then ?_))
  exact ⟨((i + j) / 2) - i, by omega, i, (i + j) / 2, fu - 1, by omega, by omega, by omega, by (first | exact (bsF_lt (by omega) (by omega) (by assumption) (by assumption)).trans hb | exact (bsF_ge (by omega) (by omega) (by assumption) (by assumption)).trans hb), rfl, hs.to ⟨rfl, rfl, rfl, rfl, rfl, rfl, trivial⟩, m.sub (.c r0 .n)⟩
theorem bsPrefix_c (vx : SH) (x : List TPrefix) (t : TPrefix) (w0 : World) (hx : RdS (hh w0) 2 vx.v (x.map cPrefix)) : Pure Tryz.prog 131 [vx.v, .agg ⟨cPrefix t⟩, .func (.func 99) ⟨[]⟩ ⟨[]⟩] (.tuple ⟨[.int .i64 (bsI (fun e => (cmpPrefix e t).v) x : Int), .bool (bsHit cmpPrefix x t)]⟩) w0 := by
  have lvx := hx.bd
  refine enter (n := 49) Tryz.func131 rfl rfl rfl fun a (hs : St 49 [(0, vx.v), (1, .agg ⟨cPrefix t⟩), (2, .func (.func 99) ⟨[]⟩ ⟨[]⟩)] a) => ?_
  have m := Hp.start w0
  refine c_reg ?_
  refine r_box (cs := cPrefix t) hs m rfl rfl rfl ?_
  clear m hs a; intro p1 w2 m a hs
  refine r_ok hs m (ok_assign rfl) rfl ?_
  clear hs a; intro a hs
  refine r_ok hs m (ok_assign rfl) rfl ?_
  clear hs a; intro a hs
  refine wpList_nil (n_then ?_)
  refine c_reg ?_
  refine r_ok hs m (ok_move rfl) rfl ?_
  clear hs a; intro a hs
  refine r_ok hs m (ok_len (r := (x.length : Int)) m rfl sl82 (rc_fr hx) (by simp)) rfl ?_
  clear hs a; intro a hs
  refine r_ok hs m (ok_assign rfl) rfl ?_
  clear hs a; intro a hs
  refine wpList_nil (n_then ?_)
  refine c_reg ?_
  refine r_ok hs m (ok_move rfl) rfl ?_
  clear hs a; intro a hs
  refine r_ok hs m (ok_assign rfl) rfl ?_
  clear hs a; intro a hs
  refine r_ok hs m (ok_assign rfl) rfl ?_
  clear hs a; intro a hs
  refine wpList_nil (n_then ?_)
  refine c_seq ?_
  refine wp_block ?_
  refine wp_loop_ghost (fun gn a w => ∃ i : Nat, ∃ j : Nat, ∃ fu : Nat, (i ≤ j) ∧ (j ≤ x.length) ∧ (j - i ≤ fu) ∧ (bsF (fun e => (cmpPrefix e t).v) x fu i j = bsI (fun e => (cmpPrefix e t).v) x) ∧ gn = j - i ∧ St 49 [(0, vx.v), (2, .func (.func 99) ⟨[]⟩ ⟨[]⟩), (4, .pointer (some (padd p1 0))), (8, .int .i64 (x.length : Int)), (9, .int .i64 (i : Int)), (10, .int .i64 (j : Int))] a ∧ Hp w0 (hh w0) [Bx p1 44 (cPrefix t)] w) (x.length - 0) ⟨0, x.length, x.length, by omega, by omega, by omega, by rfl, rfl, hs.to ⟨rfl, rfl, rfl, rfl, rfl, rfl, trivial⟩, m.sub (.c r0 .n)⟩ ?_
  clear hs m a w2
  rintro gn a w3 ⟨i, j, fu, hi, hj, hfu, hb, rfl, hs, m⟩
  refine c_seq ?_
  refine c_reg ?_
  refine r_ok hs m (ok_move rfl) rfl ?_
  clear hs a; intro a hs
  refine r_ok hs m (ok_move rfl) rfl ?_
  clear hs a; intro a hs
  refine r_ok hs m (ok_bin rfl rfl rfl) rfl ?_
  clear hs a; intro a hs
  refine wpList_nil (n_then ?_)
  refine c_cond hs rfl (fun h4 => ?_) (fun h4 => ?_)
  rotate_left
  · have h4p := of_decide_eq_false h4
    refine wp_exit ?_
    refine ex_then (ex_then (ex_hit (?_)))
    refine n_then ?_
    refine c_draw m mo (by kernel_rfl) ?_
    refine q_ok hs (ok_move rfl) rfl ?_
    clear hs a; intro a hs
    refine q_ok hs (ok_move rfl) rfl ?_
    clear hs a; intro a hs
    refine q_ok hs (ok_move rfl) rfl ?_
    clear hs a; intro a hs
    refine q_ok hs (ok_bin rfl rfl rfl) rfl ?_
    clear hs a; intro a hs
    refine q_ok hs (ok_move rfl) rfl ?_
    clear hs a; intro a hs
    refine q_cut (.c (.c (.c (.c (.c (.c (.c (.c (.c (.n)))))))))) (fun a => St 49 [(35, .int .i64 (i : Int)), (48, .bool ((decide ((i : Int) < (x.length : Int))) && (((cmpPrefix ((x[i]?).getD (⟨⟨0, rfl⟩, ⟨0, rfl⟩⟩ : TPrefix)) t).v) == 0)))] a) ?_ ?_
    · rcases Bool.eq_false_or_eq_true (decide ((i : Int) < (x.length : Int))) with hb5 | hb5
      · have hb5p := of_decide_eq_true hb5
        refine q_okg hs rfl rfl hb5 (ok_move rfl) rfl ?_
        clear hs a; intro a hs
        refine q_okg hs rfl rfl hb5 (ok_move rfl) rfl ?_
        clear hs a; intro a hs
        refine q_okg hs rfl rfl hb5 (ok_move rfl) rfl ?_
        clear hs a; intro a hs
        obtain ⟨e6, he7⟩ := get_of_lt (l := x) (i := i) (by omega)
        refine elF (c := cPrefix) (e := e6) hs m (x := (.tmp 41)) (ix := (.tmp 42)) rfl rfl sl82 ty44 hx (by omega) he7 fun p8 hp9 ok10 => ?_
        refine q_okg hs rfl rfl hb5 (ok10 _ _ _ _ _) rfl ?_
        clear hs a; intro a hs
        refine q_okg hs rfl rfl hb5 (ok_load_ag (vs := cPrefix e6) rfl ty44 (fr_at hp9) rfl rfl) rfl ?_
        clear hs a; intro a hs
        refine q_okg hs rfl rfl hb5 (ok_load_ag (vs := cPrefix t) rfl ty44 (bx_at r0) rfl rfl) rfl ?_
        clear hs a; intro a hs
        refine q_callPg hs rfl rfl hb5 rfl rfl ca99 rfl (fun w m => cprefix_c e6 t w  ) rfl ?_
        clear hs a; intro a hs
        refine q_okg hs rfl rfl hb5 (ok_bin rfl rfl rfl) rfl ?_
        clear hs a; intro a hs
        refine q_ok hs (ok_pick (r := .bool ((decide ((i : Int) < (x.length : Int))) && (((cmpPrefix ((x[i]?).getD (⟨⟨0, rfl⟩, ⟨0, rfl⟩⟩ : TPrefix)) t).v) == 0))) rfl rfl rfl (by (try rw [he7]); rw [hb5]; rfl)) rfl ?_
        clear hs a; intro a hs
        exact wpQuiet_nil (hs.to ⟨rfl, rfl, trivial⟩)
      · have hb5p := of_decide_eq_false hb5
        refine q_out hs rfl rfl hb5 rfl ?_
        clear hs a; intro a hs
        refine q_out hs rfl rfl hb5 rfl ?_
        clear hs a; intro a hs
        refine q_out hs rfl rfl hb5 rfl ?_
        clear hs a; intro a hs
        refine q_out hs rfl rfl hb5 rfl ?_
        clear hs a; intro a hs
        refine q_out hs rfl rfl hb5 rfl ?_
        clear hs a; intro a hs
        refine q_out hs rfl rfl hb5 rfl ?_
        clear hs a; intro a hs
        refine q_out hs rfl rfl hb5 rfl ?_
        clear hs a; intro a hs
        refine q_out hs rfl rfl hb5 rfl ?_
        clear hs a; intro a hs
        refine q_ok hs (ok_pick (r := .bool ((decide ((i : Int) < (x.length : Int))) && (((cmpPrefix ((x[i]?).getD (⟨⟨0, rfl⟩, ⟨0, rfl⟩⟩ : TPrefix)) t).v) == 0))) rfl rfl rfl (by rw [hb5]; rfl)) rfl ?_
        clear hs a; intro a hs
        exact wpQuiet_nil (hs.to ⟨rfl, rfl, trivial⟩)
    clear hs a; intro a hs
    refine q_ok hs (ok_assign rfl) rfl ?_
    clear hs a; intro a hs
    refine q_ok hs (ok_assign rfl) rfl ?_
    clear hs a; intro a hs
    refine wpQuiet_nil ?_; clear m w3; intro w11 m
    refine wp_ret ?_
    refine leave hs (vs := [.int .i64 (i : Int), .bool ((decide ((i : Int) < (x.length : Int))) && (((cmpPrefix ((x[i]?).getD (⟨⟨0, rfl⟩, ⟨0, rfl⟩⟩ : TPrefix)) t).v) == 0))]) rfl ⟨rfl, rfl, trivial⟩ ?_
    refine ⟨?_, m.sub .n⟩
    have q12 : ((i : Int) : Int) = (bsI (fun e => (cmpPrefix e t).v) x : Int) := by clear hs m; first | (rw [← hb, bsF_end (by omega)]) | exact bsHit_eq (by rw [← hb, bsF_end (by omega)])
    have q13 : ((decide ((i : Int) < (x.length : Int))) && (((cmpPrefix ((x[i]?).getD (⟨⟨0, rfl⟩, ⟨0, rfl⟩⟩ : TPrefix)) t).v) == 0) : Bool) = bsHit cmpPrefix x t := by clear hs m; first | (rw [← hb, bsF_end (by omega)]) | exact bsHit_eq (by rw [← hb, bsF_end (by omega)])
    first | (rw [q12, q13]; done) | (rw [q12, q13]; rfl) | (rw [q13, q12]; rfl) | (simp only [q12, q13, pack]; done)
  have h4p := of_decide_eq_true h4
  refine wp_skip ?_
  refine n_then ?_
  refine wp_block ?_
  refine c_reg ?_
  refine r_ok hs m (ok_move rfl) rfl ?_
  clear hs a; intro a hs
  refine r_ok hs m (ok_move rfl) rfl ?_
  clear hs a; intro a hs
  refine r_ok hs m (ok_add (r := (i : Int) + (j : Int)) rfl rfl (wrap_i64 (by omega) (by omega))) rfl ?_
  clear hs a; intro a hs
  refine r_ok hs m (ok_conv (r := (i : Int) + (j : Int)) rfl in3 in208 (wrap_u64 (by omega) (by omega))) rfl ?_
  clear hs a; intro a hs
  refine r_ok hs m (ok_shr (r := (((i + j) / 2 : Nat) : Int)) rfl rfl (by decide) (mid_eq)) rfl ?_
  clear hs a; intro a hs
  refine r_ok hs m (ok_conv (r := (((i + j) / 2 : Nat) : Int)) rfl in208 in3 (wrap_i64 (by omega) (by omega))) rfl ?_
  clear hs a; intro a hs
  refine r_ok hs m (ok_assign rfl) rfl ?_
  clear hs a; intro a hs
  refine wpList_nil (n_then ?_)
  refine c_draw m mo (by kernel_rfl) ?_
  refine q_ok hs (ok_move rfl) rfl ?_
  clear hs a; intro a hs
  refine q_ok hs (ok_move rfl) rfl ?_
  clear hs a; intro a hs
  refine q_ok hs (ok_move rfl) rfl ?_
  clear hs a; intro a hs
  obtain ⟨e14, he15⟩ := get_of_lt (l := x) (i := ((i + j) / 2)) (by omega)
  refine elF (c := cPrefix) (e := e14) hs m (x := (.tmp 25)) (ix := (.tmp 26)) rfl rfl sl82 ty44 hx (by omega) he15 fun p16 hp17 ok18 => ?_
  refine q_ok hs (ok18 _ _ _ _ _) rfl ?_
  clear hs a; intro a hs
  refine q_ok hs (ok_load_ag (vs := cPrefix e14) rfl ty44 (fr_at hp17) rfl rfl) rfl ?_
  clear hs a; intro a hs
  refine q_ok hs (ok_load_ag (vs := cPrefix t) rfl ty44 (bx_at r0) rfl rfl) rfl ?_
  clear hs a; intro a hs
  refine q_callP hs rfl rfl ca99 rfl (fun w m => cprefix_c e14 t w  ) rfl ?_
  clear hs a; intro a hs
  refine q_ok hs (ok_bin rfl rfl rfl) rfl ?_
  clear hs a; intro a hs
  refine wpQuiet_nil ?_; clear m w3; intro w19 m
  refine c_cond hs rfl (fun h20 => ?_) (fun h20 => ?_)
  · have h20p := of_decide_eq_true h20
    refine c_last ?_
    refine r_ok hs m (ok_move rfl) rfl ?_
    clear hs a; intro a hs
    refine r_ok hs m (ok_add (r := (((i + j) / 2 : Nat) : Int) + 1) rfl rfl (wrap_i64 (by omega) (by omega))) rfl ?_
    clear hs a; intro a hs
    refine r_ok hs m (ok_assign rfl) rfl ?_
    clear hs a; intro a hs
    refine wpList_nil (n_block (n_then ?_))
    exact ⟨j - ((i + j) / 2 + 1), by omega, (i + j) / 2 + 1, j, fu - 1, by omega, by omega, by omega, by (first | exact (bsF_lt (by omega) (by omega) (by assumption) (by assumption)).trans hb | exact (bsF_ge (by omega) (by omega) (by assumption) (by assumption)).trans hb), rfl, hs.to ⟨rfl, rfl, rfl, rfl, rfl, rfl, trivial⟩, m.sub (.c r0 .n)⟩
  have h20p := of_decide_eq_false h20
  refine c_last ?_
  refine r_ok hs m (ok_move rfl) rfl ?_
  clear hs a; intro a hs
  refine r_ok hs m (ok_assign rfl) rfl ?_
  clear hs a; intro a hs
  refine wpList_nil (n_block (n_then ?_))
  exact ⟨((i + j) / 2) - i, by omega, i, (i + j) / 2, fu - 1, by omega, by omega, by omega, by (first | exact (bsF_lt (by omega) (by omega) (by assumption) (by assumption)).trans hb | exact (bsF_ge (by omega) (by omega) (by assumption) (by assumption)).trans hb), rfl, hs.to ⟨rfl, rfl, rfl, rfl, rfl, rfl, trivial⟩, m.sub (.c r0 .n)⟩
end Go.Proofs.YtnbpodjbemfpbaaGreat.Fw
