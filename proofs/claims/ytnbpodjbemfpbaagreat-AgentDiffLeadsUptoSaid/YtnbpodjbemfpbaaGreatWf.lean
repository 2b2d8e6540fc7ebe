/-
  Walks: printed by wip/tool/agent.py.
-/
import Derived.Test.YtnbpodjbemfpbaaGreatWd
import Derived.KernelRfl
set_option linter.all false
set_option maxHeartbeats 4000000
set_option maxRecDepth 100000
namespace Go.Proofs.YtnbpodjbemfpbaaGreat.Fw
open Go
theorem en145 : entry Tryz.prog 145 (Extern.SlicesOverlaps.overlaps #[25, 25] #[4]) := ⟨_, Tryz.func145, by kernel_rfl, by kernel_rfl, by kernel_rfl, by kernel_rfl⟩
theorem en149 : entry Tryz.prog 149 (Extern.SlicesOverlaps.overlaps #[26, 26] #[4]) := ⟨_, Tryz.func149, by kernel_rfl, by kernel_rfl, by kernel_rfl, by kernel_rfl⟩
theorem en152 : entry Tryz.prog 152 (Extern.SlicesOverlaps.overlaps #[27, 27] #[4]) := ⟨_, Tryz.func152, by kernel_rfl, by kernel_rfl, by kernel_rfl, by kernel_rfl⟩
theorem insRoute_c (vx : SH) (x : List TRoute) (i : Nat) (vy : SH) (y : List TRoute) (w0 : World) (R : Hh) (A1 : y.length = 1) (A2 : i ≤ x.length) (A3 : x.length ≤ 2600000000000) (m : Hp w0 R [Sv 4 51 vx.v (x.map cRoute), Sv 4 51 vy.v (y.map cRoute)] w0) : Calls Tryz.prog 98 ⟨[vx.v, .int .i64 (i : Int), vy.v]⟩ w0 fun e w' => ∃ v, e = .returned v ∧ (∃ x0 : SH, v = (x0.v) ∧ Hp w0 R [Sv 4 51 x0.v ((x.take i ++ y ++ x.drop i).map cRoute)] w') := by
  have cx := m.ncapM r0
  have cy := m.ncapM r1
  have lvx := (m.rdv r0).bd
  have lvy := (m.rdv r1).bd
  refine enter (n := 95) Tryz.func98 rfl rfl rfl fun a (hs : St 95 [(0, vx.v), (1, .int .i64 (i : Int)), (2, vy.v)] a) => ?_
  refine c_reg ?_
  refine r_ok hs m (ok_assign rfl) rfl ?_
  clear hs a; intro a hs
  refine wpList_nil (n_then ?_)
  refine c_reg ?_
  refine r_ok hs m (ok_move rfl) rfl ?_
  clear hs a; intro a hs
  refine r_ok hs m (ok_move rfl) rfl ?_
  clear hs a; intro a hs
  have hc1 := ((m.rdv r0)).ncapM
  refine r_ok hs m (ok_sliceH (i := i) (j := x.length) (c := vx.c) rfl sl25 ty51 ⟨_, rfl⟩ (by show _ = _; omega) rfl (fun _ => rfl) (by omega) (by omega) (by omega)) rfl ?_
  clear hs a; intro a hs
  refine wpList_nil (n_then ?_)
  refine c_reg ?_
  refine r_ok hs m (ok_move rfl) rfl ?_
  clear hs a; intro a hs
  refine r_ok hs m (ok_len (r := (y.length : Int)) m rfl sl25 (rc_own r1) (by simp)) rfl ?_
  clear hs a; intro a hs
  refine r_ok hs m (ok_assign rfl) rfl ?_
  clear hs a; intro a hs
  refine wpList_nil (n_then ?_)
  refine c_seq ?_
  refine c_reg ?_
  refine r_ok hs m (ok_move rfl) rfl ?_
  clear hs a; intro a hs
  refine r_ok hs m (ok_bin rfl rfl rfl) rfl ?_
  clear hs a; intro a hs
  refine wpList_nil (n_then ?_)
  refine c_false hs rfl (by rw [A1]; rfl) ?_
  refine wp_skip ?_
  refine n_then ?_
  refine c_reg ?_
  refine r_ok hs m (ok_move rfl) rfl ?_
  clear hs a; intro a hs
  refine r_ok hs m (ok_len (r := (x.length : Int)) m rfl sl25 (rc_own r0) (by simp)) rfl ?_
  clear hs a; intro a hs
  refine r_ok hs m (ok_assign rfl) rfl ?_
  clear hs a; intro a hs
  refine wpList_nil (n_then ?_)
  refine c_seq ?_
  refine c_reg ?_
  refine r_ok hs m (ok_move rfl) rfl ?_
  clear hs a; intro a hs
  refine r_ok hs m (ok_move rfl) rfl ?_
  clear hs a; intro a hs
  refine r_ok hs m (ok_bin rfl rfl rfl) rfl ?_
  clear hs a; intro a hs
  refine wpList_nil (n_then ?_)
  refine c_cond hs rfl (fun h3 => ?_) (fun h3 => ?_)
  · have h3p := eq_of_beq h3
    refine c_reg ?_
    refine r_ok hs m (ok_move rfl) rfl ?_
    clear hs a; intro a hs
    refine r_ok hs m (ok_move rfl) rfl ?_
    clear hs a; intro a hs
    refine r_appendM (c := cRoute) (xs := x) (ys := y) hs m rfl rfl sl25 ni25 ty51 ze51 rfl by51 rfl r0 (m.rdv r1) (fun _ => rfl) (by first | omega | (simp; done) | (simp; omega)) rfl ?_
    clear m hs a; intro v4 w5 m a hs
    refine r_ok hs m (ok_assign rfl) rfl ?_
    clear hs a; intro a hs
    refine wpList_nil (n_then ?_)
    refine wp_ret ?_
    refine ret_then (leave hs (vs := [v4.v]) rfl ⟨rfl, trivial⟩ ?_)
    have q6 : x ++ y = x.take i ++ y ++ x.drop i := by (have hi : i = x.length := by omega); subst hi; simp
    rw [q6] at m
    refine ⟨_, rfl, v4, ?_, m.sub (.c r0 .n)⟩
    rfl
  have h3p := ne_of_beq_false h3
  refine wp_skip ?_
  refine n_then ?_
  refine c_seq ?_
  refine c_reg ?_
  refine r_ok hs m (ok_move rfl) rfl ?_
  clear hs a; intro a hs
  refine r_ok hs m (ok_move rfl) rfl ?_
  clear hs a; intro a hs
  refine r_ok hs m (ok_add (r := ((x.length + 1 : Nat) : Int)) rfl rfl (by rw [wrap_i64 (by omega) (by omega)]; omega)) rfl ?_
  clear hs a; intro a hs
  refine r_ok hs m (ok_move rfl) rfl ?_
  clear hs a; intro a hs
  refine r_ok hs m (ok_cap rfl sl25) rfl ?_
  clear hs a; intro a hs
  refine r_ok hs m (ok_bin rfl rfl rfl) rfl ?_
  clear hs a; intro a hs
  refine wpList_nil (n_then ?_)
  refine c_cond hs rfl (fun h7 => ?_) (fun h7 => ?_)
  · have h7p := of_decide_eq_true h7
    refine c_reg ?_
    refine r_ok hs m (ok_move rfl) rfl ?_
    clear hs a; intro a hs
    refine r_ok hs m (ok_move rfl) rfl ?_
    clear hs a; intro a hs
    have hc8 := ((m.rdv r0)).ncapM
    refine r_ok hs m (ok_sliceH (i := 0) (j := i) (c := vx.c) rfl sl25 ty51 rfl ⟨_, rfl⟩ rfl (fun h => by cases h) (by omega) (by omega) (by omega)) rfl ?_
    clear hs a; intro a hs
    rw [sub3_0] at hs
    refine r_ok hs m (ok_move rfl) rfl ?_
    clear hs a; intro a hs
    refine r_ok hs m (ok_move rfl) rfl ?_
    clear hs a; intro a hs
    refine r_ok hs m (ok_add (r := ((x.length + 1 : Nat) : Int)) rfl rfl (by rw [wrap_i64 (by omega) (by omega)]; omega)) rfl ?_
    clear hs a; intro a hs
    refine r_ok hs m (ok_move rfl) rfl ?_
    clear hs a; intro a hs
    refine r_ok hs m (ok_sub (r := ((x.length + 1 - i : Nat) : Int)) rfl rfl (by rw [wrap_i64 (by omega) (by omega)]; omega)) rfl ?_
    clear hs a; intro a hs
    refine r_appendZM (c := cRoute) (z0 := (⟨(⟨⟨0, rfl⟩, ⟨0, rfl⟩⟩ : TPrefix), ⟨0, rfl⟩, false⟩ : TRoute)) (xs := x) (i := i) (cn := x.length + 1 - i) hs m rfl rfl sl25 in3 ty51 ze51 rfl rfl by51 rfl rfl r0 (by omega) (by omega) (by omega) (by omega) rfl ?_
    clear m hs a; intro v9 w13 hn10 hc11 m a hs
    have hl12 : (x.take i ++ List.replicate (x.length + 1 - i) (⟨(⟨⟨0, rfl⟩, ⟨0, rfl⟩⟩ : TPrefix), ⟨0, rfl⟩, false⟩ : TRoute)).length = x.length + 1 := by simp; omega
    refine r_ok hs m (ok_assign rfl) rfl ?_
    clear hs a; intro a hs
    refine wpList_nil (n_then ?_)
    refine c_reg ?_
    refine r_ok hs m (ok_move rfl) rfl ?_
    clear hs a; intro a hs
    refine r_ok hs m (ok_move rfl) rfl ?_
    clear hs a; intro a hs
    have hc14 := ((m.rdv r0)).ncapM
    refine r_ok hs m (ok_sliceH (i := i) (j := (x.take i ++ List.replicate (x.length + 1 - i) (⟨(⟨⟨0, rfl⟩, ⟨0, rfl⟩⟩ : TPrefix), ⟨0, rfl⟩, false⟩ : TRoute)).length) (c := v9.c) rfl sl25 ty51 ⟨_, rfl⟩ (by show _ = _; omega) rfl (fun _ => rfl) (by omega) (by omega) (by omega)) rfl ?_
    clear hs a; intro a hs
    refine r_ok hs m (ok_move rfl) rfl ?_
    clear hs a; intro a hs
    have hy15 := (m.rdv r2)
    have hy15n := hy15.ncapM
    refine r_copyM (c := cRoute) (x := v9) (xs := (x.take i ++ List.replicate (x.length + 1 - i) (⟨(⟨⟨0, rfl⟩, ⟨0, rfl⟩⟩ : TPrefix), ⟨0, rfl⟩, false⟩ : TRoute))) (es := y) (lo := i) (dl := (x.take i ++ List.replicate (x.length + 1 - i) (⟨(⟨⟨0, rfl⟩, ⟨0, rfl⟩⟩ : TPrefix), ⟨0, rfl⟩, false⟩ : TRoute)).length - i) (zs := ((x.take i ++ List.replicate (x.length + 1 - i) (⟨(⟨⟨0, rfl⟩, ⟨0, rfl⟩⟩ : TPrefix), ⟨0, rfl⟩, false⟩ : TRoute)).take i ++ y ++ (x.take i ++ List.replicate (x.length + 1 - i) (⟨(⟨⟨0, rfl⟩, ⟨0, rfl⟩⟩ : TPrefix), ⟨0, rfl⟩, false⟩ : TRoute)).drop (i + y.length))) (N := x.length + 1) hs m rfl rfl sl25 ty51 r0 (sub3_lt (by omega)) (⟨_, _, _, rfl, by omega, hy15.wln⟩) (fun _ => rfl) (by first | omega | (simp; omega)) (by first | omega | (simp; omega)) (by first | omega | (simp; omega)) (rfl) (by omega) rfl ?_
    clear m hy15 hs a w13; intro w16 m a hs
    have hl17 : ((x.take i ++ List.replicate (x.length + 1 - i) (⟨(⟨⟨0, rfl⟩, ⟨0, rfl⟩⟩ : TPrefix), ⟨0, rfl⟩, false⟩ : TRoute)).take i ++ y ++ (x.take i ++ List.replicate (x.length + 1 - i) (⟨(⟨⟨0, rfl⟩, ⟨0, rfl⟩⟩ : TPrefix), ⟨0, rfl⟩, false⟩ : TRoute)).drop (i + y.length)).length = x.length + 1 := by simp; omega
    rw [show upH v9 (x.length + 1) = v9 from upH_self (by omega)] at m
    refine wpList_nil (n_then ?_)
    refine c_drawH (Hp w0 R [Sv 4 51 vx.v (x.map cRoute), Sv 4 51 vy.v (y.map cRoute)]) m mo ?_; clear m w16; intro w18 m
    refine h_ok (i := 0) rfl (by kernel_rfl) (by kernel_rfl) (by kernel_rfl) hs (m.sub (.c r1 (.c r1 .n))) (ok_move rfl) rfl ?_
    clear hs a; intro a hs
    refine h_ok (i := 1) rfl (by kernel_rfl) (by kernel_rfl) (by kernel_rfl) hs (m.sub (.c r1 (.c r1 .n))) (ok_move rfl) rfl ?_
    clear hs a; intro a hs
    refine h_ok (i := 2) rfl (by kernel_rfl) (by kernel_rfl) (by kernel_rfl) hs (m.sub (.c r1 (.c r1 .n))) (ok_move rfl) rfl ?_
    clear hs a; intro a hs
    refine h_ok (i := 3) rfl (by kernel_rfl) (by kernel_rfl) (by kernel_rfl) hs (m.sub (.c r1 (.c r1 .n))) (ok_add (r := ((i + 1 : Nat) : Int)) rfl rfl (by rw [wrap_i64 (by omega) (by omega)]; omega)) rfl ?_
    clear hs a; intro a hs
    have hc19 := ((m.rdv r0)).ncapM
    refine h_ok (i := 4) rfl (by kernel_rfl) (by kernel_rfl) (by kernel_rfl) hs (m.sub (.c r1 (.c r1 .n))) (ok_sliceH (i := (i + 1)) (j := ((x.take i ++ List.replicate (x.length + 1 - i) (⟨(⟨⟨0, rfl⟩, ⟨0, rfl⟩⟩ : TPrefix), ⟨0, rfl⟩, false⟩ : TRoute)).take i ++ y ++ (x.take i ++ List.replicate (x.length + 1 - i) (⟨(⟨⟨0, rfl⟩, ⟨0, rfl⟩⟩ : TPrefix), ⟨0, rfl⟩, false⟩ : TRoute)).drop (i + y.length)).length) (c := v9.c) rfl sl25 ty51 ⟨_, rfl⟩ (by show _ = _; omega) rfl (fun _ => rfl) (by omega) (by omega) (by omega)) rfl ?_
    clear hs a; intro a hs
    refine h_ok (i := 5) rfl (by kernel_rfl) (by kernel_rfl) (by kernel_rfl) hs (m.sub (.c r1 (.c r1 .n))) (ok_move rfl) rfl ?_
    clear hs a; intro a hs
    refine h_ok (i := 6) rfl (by kernel_rfl) (by kernel_rfl) (by kernel_rfl) hs (m.sub (.c r1 (.c r1 .n))) (ok_move rfl) rfl ?_
    clear hs a; intro a hs
    have hc20 := ((m.rdv r1)).ncapM
    refine h_ok (i := 7) rfl (by kernel_rfl) (by kernel_rfl) (by kernel_rfl) hs (m.sub (.c r1 (.c r1 .n))) (ok_sliceH (i := i) (j := x.length) (c := vx.c) rfl sl25 ty51 ⟨_, rfl⟩ (by show _ = _; omega) rfl (fun _ => rfl) (by omega) (by omega) (by omega)) rfl ?_
    clear hs a; intro a hs
    have hx21 := (m.rdv r1).winS (lo := i) (by omega) (by omega)
    refine h_eff (i := 8) (by kernel_rfl) rfl ?_
    refine r_copyM (c := cRoute) (x := v9) (xs := ((x.take i ++ List.replicate (x.length + 1 - i) (⟨(⟨⟨0, rfl⟩, ⟨0, rfl⟩⟩ : TPrefix), ⟨0, rfl⟩, false⟩ : TRoute)).take i ++ y ++ (x.take i ++ List.replicate (x.length + 1 - i) (⟨(⟨⟨0, rfl⟩, ⟨0, rfl⟩⟩ : TPrefix), ⟨0, rfl⟩, false⟩ : TRoute)).drop (i + y.length))) (es := x.drop i) (lo := i + 1) (dl := ((x.take i ++ List.replicate (x.length + 1 - i) (⟨(⟨⟨0, rfl⟩, ⟨0, rfl⟩⟩ : TPrefix), ⟨0, rfl⟩, false⟩ : TRoute)).take i ++ y ++ (x.take i ++ List.replicate (x.length + 1 - i) (⟨(⟨⟨0, rfl⟩, ⟨0, rfl⟩⟩ : TPrefix), ⟨0, rfl⟩, false⟩ : TRoute)).drop (i + y.length)).length - (i + 1)) (zs := x.take i ++ y ++ x.drop i) (N := x.length + 1) hs m rfl rfl sl25 ty51 r0 (sub3_lt (by omega)) (⟨_, _, _, sub3_lt (by omega), by simp; omega, hx21⟩) (fun _ => rfl) (by first | omega | (simp; omega)) (by first | omega | (simp; omega)) (by first | omega | (simp; omega)) (ins_eqZ (by omega) A1 rfl) (by simp; omega) rfl ?_
    clear m hx21 hs a w18; intro w22 m a hs
    rw [show upH v9 (x.length + 1) = v9 from upH_self (by omega)] at m
    refine wpList_nil (n_then ⟨(m.sub (.c r1 (.c r1 .n))), ?_⟩)
    refine h_done (by kernel_rfl) (n_then ?_)
    refine c_reg ?_
    refine r_ok hs m (ok_move rfl) rfl ?_
    clear hs a; intro a hs
    refine r_ok hs m (ok_assign rfl) rfl ?_
    clear hs a; intro a hs
    refine wpList_nil (n_then ?_)
    refine wp_ret ?_
    refine ret_then (leave hs (vs := [v9.v]) rfl ⟨rfl, trivial⟩ ?_)
    refine ⟨_, rfl, v9, ?_, m.sub (.c r0 .n)⟩
    rfl
  have h7p := of_decide_eq_false h7
  refine wp_skip ?_
  refine n_then ?_
  refine c_reg ?_
  refine r_ok hs m (ok_move rfl) rfl ?_
  clear hs a; intro a hs
  refine r_ok hs m (ok_move rfl) rfl ?_
  clear hs a; intro a hs
  refine r_ok hs m (ok_move rfl) rfl ?_
  clear hs a; intro a hs
  refine r_ok hs m (ok_add (r := ((x.length + 1 : Nat) : Int)) rfl rfl (by rw [wrap_i64 (by omega) (by omega)]; omega)) rfl ?_
  clear hs a; intro a hs
  have hc23 := ((m.rdv r0)).ncapM
  refine r_ok hs m (ok_sliceH (i := 0) (j := (x.length + 1)) (c := vx.c) rfl sl25 ty51 rfl ⟨_, rfl⟩ rfl (fun h => by cases h) (by omega) (by omega) (by omega)) rfl ?_
  clear hs a; intro a hs
  rw [sub3_0] at hs
  refine r_ok hs m (ok_assign rfl) rfl ?_
  clear hs a; intro a hs
  refine wpList_nil (n_then ?_)
  refine c_seq ?_
  refine c_reg ?_
  refine r_ok hs m (ok_move rfl) rfl ?_
  clear hs a; intro a hs
  refine r_ok hs m (ok_move rfl) rfl ?_
  clear hs a; intro a hs
  refine r_ok hs m (ok_move rfl) rfl ?_
  clear hs a; intro a hs
  refine r_ok hs m (ok_move rfl) rfl ?_
  clear hs a; intro a hs
  refine r_ok hs m (ok_add (r := ((i + 1 : Nat) : Int)) rfl rfl (by rw [wrap_i64 (by omega) (by omega)]; omega)) rfl ?_
  clear hs a; intro a hs
  have hc24 : (upH vx (x.length + 1)).n = (x.length + 1) ∧ (upH vx (x.length + 1)).c = vx.c := ⟨rfl, rfl⟩
  refine r_ok hs m (ok_sliceH (i := (i + 1)) (j := (x.length + 1)) (c := (upH vx (x.length + 1)).c) rfl sl25 ty51 ⟨_, rfl⟩ (by show _ = _; omega) rfl (fun _ => rfl) (by omega) (by omega) (by omega)) rfl ?_
  clear hs a; intro a hs
  refine r_ok hs m (ok_entry en145 rfl (fun w m => overlaps_no (x := vx) (i := i + 1) (j := x.length + 1) sl25 ty51 m r1 r0 (by omega))) rfl ?_
  clear hs a; intro a hs
  refine r_ok hs m (ok_not rfl) rfl ?_
  clear hs a; intro a hs
  refine wpList_nil (n_then ?_)
  refine c_true hs rfl rfl ?_
  refine c_drawH (Hp w0 R [Sv 4 51 vy.v (y.map cRoute)]) m mo ?_; clear m; intro w26 m
  refine h_ok (i := 0) rfl (by kernel_rfl) (by kernel_rfl) (by kernel_rfl) hs (m.sub (.c r1 .n)) (ok_move rfl) rfl ?_
  clear hs a; intro a hs
  refine h_ok (i := 1) rfl (by kernel_rfl) (by kernel_rfl) (by kernel_rfl) hs (m.sub (.c r1 .n)) (ok_move rfl) rfl ?_
  clear hs a; intro a hs
  refine h_ok (i := 2) rfl (by kernel_rfl) (by kernel_rfl) (by kernel_rfl) hs (m.sub (.c r1 .n)) (ok_move rfl) rfl ?_
  clear hs a; intro a hs
  refine h_ok (i := 3) rfl (by kernel_rfl) (by kernel_rfl) (by kernel_rfl) hs (m.sub (.c r1 .n)) (ok_add (r := ((i + 1 : Nat) : Int)) rfl rfl (by rw [wrap_i64 (by omega) (by omega)]; omega)) rfl ?_
  clear hs a; intro a hs
  have hc27 : (upH vx (x.length + 1)).n = (x.length + 1) ∧ (upH vx (x.length + 1)).c = vx.c := ⟨rfl, rfl⟩
  refine h_ok (i := 4) rfl (by kernel_rfl) (by kernel_rfl) (by kernel_rfl) hs (m.sub (.c r1 .n)) (ok_sliceH (i := (i + 1)) (j := (x.length + 1)) (c := (upH vx (x.length + 1)).c) rfl sl25 ty51 ⟨_, rfl⟩ (by show _ = _; omega) rfl (fun _ => rfl) (by omega) (by omega) (by omega)) rfl ?_
  clear hs a; intro a hs
  refine h_ok (i := 5) rfl (by kernel_rfl) (by kernel_rfl) (by kernel_rfl) hs (m.sub (.c r1 .n)) (ok_move rfl) rfl ?_
  clear hs a; intro a hs
  refine h_ok (i := 6) rfl (by kernel_rfl) (by kernel_rfl) (by kernel_rfl) hs (m.sub (.c r1 .n)) (ok_move rfl) rfl ?_
  clear hs a; intro a hs
  have hc28 : (upH vx (x.length + 1)).n = (x.length + 1) ∧ (upH vx (x.length + 1)).c = vx.c := ⟨rfl, rfl⟩
  refine h_ok (i := 7) rfl (by kernel_rfl) (by kernel_rfl) (by kernel_rfl) hs (m.sub (.c r1 .n)) (ok_sliceH (i := i) (j := (x.length + 1)) (c := (upH vx (x.length + 1)).c) rfl sl25 ty51 ⟨_, rfl⟩ (by show _ = _; omega) rfl (fun _ => rfl) (by omega) (by omega) (by omega)) rfl ?_
  clear hs a; intro a hs
  have hx29 := (m.rdv r0).winS (lo := i) (by omega) (by omega)
  refine h_eff (i := 8) (by kernel_rfl) rfl ?_
  refine r_copyM (c := cRoute) (x := vx) (xs := x) (es := x.drop i) (lo := i + 1) (dl := x.length + 1 - (i + 1)) (zs := x.take (i + 1) ++ x.drop i) (N := x.length + 1) hs m rfl rfl sl25 ty51 r0 (sub3_lt (x := upH vx (x.length + 1)) (by show _ < vx.c; omega)) (⟨_, _, _, sub3_lt (x := upH vx (x.length + 1)) (by show _ < vx.c; omega), by simp; omega, hx29⟩) (fun _ => rfl) (by first | omega | (simp; omega)) (by first | omega | (simp; omega)) (by first | omega | (simp; omega)) (cp1_eq (by omega)) (by simp; omega) rfl ?_
  clear m hx29 hs a w26; intro w30 m a hs
  refine wpList_nil (n_then ⟨(m.sub (.c r1 .n)), ?_⟩)
  refine h_done (by kernel_rfl) (n_then ?_)
  refine c_reg ?_
  refine r_ok hs m (ok_move rfl) rfl ?_
  clear hs a; intro a hs
  refine r_ok hs m (ok_move rfl) rfl ?_
  clear hs a; intro a hs
  have hc31 : (upH vx (x.length + 1)).n = (x.length + 1) ∧ (upH vx (x.length + 1)).c = vx.c := ⟨rfl, rfl⟩
  refine r_ok hs m (ok_sliceH (i := i) (j := (x.length + 1)) (c := (upH vx (x.length + 1)).c) rfl sl25 ty51 ⟨_, rfl⟩ (by show _ = _; omega) rfl (fun _ => rfl) (by omega) (by omega) (by omega)) rfl ?_
  clear hs a; intro a hs
  refine r_ok hs m (ok_move rfl) rfl ?_
  clear hs a; intro a hs
  have hy32 := (m.rdv r1)
  have hy32n := hy32.ncapM
  refine r_copyM (c := cRoute) (x := (upH vx (x.length + 1))) (xs := x.take (i + 1) ++ x.drop i) (es := y) (lo := i) (dl := x.length + 1 - i) (zs := x.take i ++ y ++ x.drop i) (N := x.length + 1) hs m rfl rfl sl25 ty51 r0 (sub3_lt (x := upH vx (x.length + 1)) (by show _ < vx.c; omega)) (⟨_, _, _, rfl, by omega, hy32.wln⟩) (fun _ => rfl) (by first | omega | (simp; omega)) (by first | omega | (simp; omega)) (by first | omega | (simp; omega)) (ins_eq (by omega) A1) (by simp; omega) rfl ?_
  clear m hy32 hs a w30; intro w33 m a hs
  refine wpList_nil (n_then ?_)
  refine c_reg ?_
  refine r_ok hs m (ok_move rfl) rfl ?_
  clear hs a; intro a hs
  refine r_ok hs m (ok_assign rfl) rfl ?_
  clear hs a; intro a hs
  refine wpList_nil (n_then ?_)
  refine wp_ret ?_
  refine ret_then (leave hs (vs := [(upH vx (x.length + 1)).v]) rfl ⟨rfl, trivial⟩ ?_)
  refine ⟨_, rfl, (upH vx (x.length + 1)), ?_, m.sub (.c r0 .n)⟩
  rfl
theorem insNeigh_c (vx : SH) (x : List TNeigh) (i : Nat) (vy : SH) (y : List TNeigh) (w0 : World) (R : Hh) (A1 : y.length = 1) (A2 : i ≤ x.length) (A3 : x.length ≤ 2600000000000) (m : Hp w0 R [Sv 7 54 vx.v (x.map cNeigh), Sv 7 54 vy.v (y.map cNeigh)] w0) : Calls Tryz.prog 101 ⟨[vx.v, .int .i64 (i : Int), vy.v]⟩ w0 fun e w' => ∃ v, e = .returned v ∧ (∃ x0 : SH, v = (x0.v) ∧ Hp w0 R [Sv 7 54 x0.v ((x.take i ++ y ++ x.drop i).map cNeigh)] w') := by
  have cx := m.ncapM r0
  have cy := m.ncapM r1
  have lvx := (m.rdv r0).bd
  have lvy := (m.rdv r1).bd
  refine enter (n := 95) Tryz.func101 rfl rfl rfl fun a (hs : St 95 [(0, vx.v), (1, .int .i64 (i : Int)), (2, vy.v)] a) => ?_
  refine c_reg ?_
  refine r_ok hs m (ok_assign rfl) rfl ?_
  clear hs a; intro a hs
  refine wpList_nil (n_then ?_)
  refine c_reg ?_
  refine r_ok hs m (ok_move rfl) rfl ?_
  clear hs a; intro a hs
  refine r_ok hs m (ok_move rfl) rfl ?_
  clear hs a; intro a hs
  have hc1 := ((m.rdv r0)).ncapM
  refine r_ok hs m (ok_sliceH (i := i) (j := x.length) (c := vx.c) rfl sl26 ty54 ⟨_, rfl⟩ (by show _ = _; omega) rfl (fun _ => rfl) (by omega) (by omega) (by omega)) rfl ?_
  clear hs a; intro a hs
  refine wpList_nil (n_then ?_)
  refine c_reg ?_
  refine r_ok hs m (ok_move rfl) rfl ?_
  clear hs a; intro a hs
  refine r_ok hs m (ok_len (r := (y.length : Int)) m rfl sl26 (rc_own r1) (by simp)) rfl ?_
  clear hs a; intro a hs
  refine r_ok hs m (ok_assign rfl) rfl ?_
  clear hs a; intro a hs
  refine wpList_nil (n_then ?_)
  refine c_seq ?_
  refine c_reg ?_
  refine r_ok hs m (ok_move rfl) rfl ?_
  clear hs a; intro a hs
  refine r_ok hs m (ok_bin rfl rfl rfl) rfl ?_
  clear hs a; intro a hs
  refine wpList_nil (n_then ?_)
  refine c_false hs rfl (by rw [A1]; rfl) ?_
  refine wp_skip ?_
  refine n_then ?_
  refine c_reg ?_
  refine r_ok hs m (ok_move rfl) rfl ?_
  clear hs a; intro a hs
  refine r_ok hs m (ok_len (r := (x.length : Int)) m rfl sl26 (rc_own r0) (by simp)) rfl ?_
  clear hs a; intro a hs
  refine r_ok hs m (ok_assign rfl) rfl ?_
  clear hs a; intro a hs
  refine wpList_nil (n_then ?_)
  refine c_seq ?_
  refine c_reg ?_
  refine r_ok hs m (ok_move rfl) rfl ?_
  clear hs a; intro a hs
  refine r_ok hs m (ok_move rfl) rfl ?_
  clear hs a; intro a hs
  refine r_ok hs m (ok_bin rfl rfl rfl) rfl ?_
  clear hs a; intro a hs
  refine wpList_nil (n_then ?_)
  refine c_cond hs rfl (fun h3 => ?_) (fun h3 => ?_)
  · have h3p := eq_of_beq h3
    refine c_reg ?_
    refine r_ok hs m (ok_move rfl) rfl ?_
    clear hs a; intro a hs
    refine r_ok hs m (ok_move rfl) rfl ?_
    clear hs a; intro a hs
    refine r_appendM (c := cNeigh) (xs := x) (ys := y) hs m rfl rfl sl26 ni26 ty54 ze54 rfl by54 rfl r0 (m.rdv r1) (fun _ => rfl) (by first | omega | (simp; done) | (simp; omega)) rfl ?_
    clear m hs a; intro v4 w5 m a hs
    refine r_ok hs m (ok_assign rfl) rfl ?_
    clear hs a; intro a hs
    refine wpList_nil (n_then ?_)
    refine wp_ret ?_
    refine ret_then (leave hs (vs := [v4.v]) rfl ⟨rfl, trivial⟩ ?_)
    have q6 : x ++ y = x.take i ++ y ++ x.drop i := by (have hi : i = x.length := by omega); subst hi; simp
    rw [q6] at m
    refine ⟨_, rfl, v4, ?_, m.sub (.c r0 .n)⟩
    rfl
  have h3p := ne_of_beq_false h3
  refine wp_skip ?_
  refine n_then ?_
  refine c_seq ?_
  refine c_reg ?_
  refine r_ok hs m (ok_move rfl) rfl ?_
  clear hs a; intro a hs
  refine r_ok hs m (ok_move rfl) rfl ?_
  clear hs a; intro a hs
  refine r_ok hs m (ok_add (r := ((x.length + 1 : Nat) : Int)) rfl rfl (by rw [wrap_i64 (by omega) (by omega)]; omega)) rfl ?_
  clear hs a; intro a hs
  refine r_ok hs m (ok_move rfl) rfl ?_
  clear hs a; intro a hs
  refine r_ok hs m (ok_cap rfl sl26) rfl ?_
  clear hs a; intro a hs
  refine r_ok hs m (ok_bin rfl rfl rfl) rfl ?_
  clear hs a; intro a hs
  refine wpList_nil (n_then ?_)
  refine c_cond hs rfl (fun h7 => ?_) (fun h7 => ?_)
  · have h7p := of_decide_eq_true h7
    refine c_reg ?_
    refine r_ok hs m (ok_move rfl) rfl ?_
    clear hs a; intro a hs
    refine r_ok hs m (ok_move rfl) rfl ?_
    clear hs a; intro a hs
    have hc8 := ((m.rdv r0)).ncapM
    refine r_ok hs m (ok_sliceH (i := 0) (j := i) (c := vx.c) rfl sl26 ty54 rfl ⟨_, rfl⟩ rfl (fun h => by cases h) (by omega) (by omega) (by omega)) rfl ?_
    clear hs a; intro a hs
    rw [sub3_0] at hs
    refine r_ok hs m (ok_move rfl) rfl ?_
    clear hs a; intro a hs
    refine r_ok hs m (ok_move rfl) rfl ?_
    clear hs a; intro a hs
    refine r_ok hs m (ok_add (r := ((x.length + 1 : Nat) : Int)) rfl rfl (by rw [wrap_i64 (by omega) (by omega)]; omega)) rfl ?_
    clear hs a; intro a hs
    refine r_ok hs m (ok_move rfl) rfl ?_
    clear hs a; intro a hs
    refine r_ok hs m (ok_sub (r := ((x.length + 1 - i : Nat) : Int)) rfl rfl (by rw [wrap_i64 (by omega) (by omega)]; omega)) rfl ?_
    clear hs a; intro a hs
    refine r_appendZM (c := cNeigh) (z0 := (⟨⟨0, rfl⟩, (⟨⟨0, rfl⟩, ⟨0, rfl⟩, ⟨0, rfl⟩, ⟨0, rfl⟩, ⟨0, rfl⟩, ⟨0, rfl⟩⟩ : TMAC)⟩ : TNeigh)) (xs := x) (i := i) (cn := x.length + 1 - i) hs m rfl rfl sl26 in3 ty54 ze54 rfl rfl by54 rfl rfl r0 (by omega) (by omega) (by omega) (by omega) rfl ?_
    clear m hs a; intro v9 w13 hn10 hc11 m a hs
    have hl12 : (x.take i ++ List.replicate (x.length + 1 - i) (⟨⟨0, rfl⟩, (⟨⟨0, rfl⟩, ⟨0, rfl⟩, ⟨0, rfl⟩, ⟨0, rfl⟩, ⟨0, rfl⟩, ⟨0, rfl⟩⟩ : TMAC)⟩ : TNeigh)).length = x.length + 1 := by simp; omega
    refine r_ok hs m (ok_assign rfl) rfl ?_
    clear hs a; intro a hs
    refine wpList_nil (n_then ?_)
    refine c_reg ?_
    refine r_ok hs m (ok_move rfl) rfl ?_
    clear hs a; intro a hs
    refine r_ok hs m (ok_move rfl) rfl ?_
    clear hs a; intro a hs
    have hc14 := ((m.rdv r0)).ncapM
    refine r_ok hs m (ok_sliceH (i := i) (j := (x.take i ++ List.replicate (x.length + 1 - i) (⟨⟨0, rfl⟩, (⟨⟨0, rfl⟩, ⟨0, rfl⟩, ⟨0, rfl⟩, ⟨0, rfl⟩, ⟨0, rfl⟩, ⟨0, rfl⟩⟩ : TMAC)⟩ : TNeigh)).length) (c := v9.c) rfl sl26 ty54 ⟨_, rfl⟩ (by show _ = _; omega) rfl (fun _ => rfl) (by omega) (by omega) (by omega)) rfl ?_
    clear hs a; intro a hs
    refine r_ok hs m (ok_move rfl) rfl ?_
    clear hs a; intro a hs
    have hy15 := (m.rdv r2)
    have hy15n := hy15.ncapM
    refine r_copyM (c := cNeigh) (x := v9) (xs := (x.take i ++ List.replicate (x.length + 1 - i) (⟨⟨0, rfl⟩, (⟨⟨0, rfl⟩, ⟨0, rfl⟩, ⟨0, rfl⟩, ⟨0, rfl⟩, ⟨0, rfl⟩, ⟨0, rfl⟩⟩ : TMAC)⟩ : TNeigh))) (es := y) (lo := i) (dl := (x.take i ++ List.replicate (x.length + 1 - i) (⟨⟨0, rfl⟩, (⟨⟨0, rfl⟩, ⟨0, rfl⟩, ⟨0, rfl⟩, ⟨0, rfl⟩, ⟨0, rfl⟩, ⟨0, rfl⟩⟩ : TMAC)⟩ : TNeigh)).length - i) (zs := ((x.take i ++ List.replicate (x.length + 1 - i) (⟨⟨0, rfl⟩, (⟨⟨0, rfl⟩, ⟨0, rfl⟩, ⟨0, rfl⟩, ⟨0, rfl⟩, ⟨0, rfl⟩, ⟨0, rfl⟩⟩ : TMAC)⟩ : TNeigh)).take i ++ y ++ (x.take i ++ List.replicate (x.length + 1 - i) (⟨⟨0, rfl⟩, (⟨⟨0, rfl⟩, ⟨0, rfl⟩, ⟨0, rfl⟩, ⟨0, rfl⟩, ⟨0, rfl⟩, ⟨0, rfl⟩⟩ : TMAC)⟩ : TNeigh)).drop (i + y.length))) (N := x.length + 1) hs m rfl rfl sl26 ty54 r0 (sub3_lt (by omega)) (⟨_, _, _, rfl, by omega, hy15.wln⟩) (fun _ => rfl) (by first | omega | (simp; omega)) (by first | omega | (simp; omega)) (by first | omega | (simp; omega)) (rfl) (by omega) rfl ?_
    clear m hy15 hs a w13; intro w16 m a hs
    have hl17 : ((x.take i ++ List.replicate (x.length + 1 - i) (⟨⟨0, rfl⟩, (⟨⟨0, rfl⟩, ⟨0, rfl⟩, ⟨0, rfl⟩, ⟨0, rfl⟩, ⟨0, rfl⟩, ⟨0, rfl⟩⟩ : TMAC)⟩ : TNeigh)).take i ++ y ++ (x.take i ++ List.replicate (x.length + 1 - i) (⟨⟨0, rfl⟩, (⟨⟨0, rfl⟩, ⟨0, rfl⟩, ⟨0, rfl⟩, ⟨0, rfl⟩, ⟨0, rfl⟩, ⟨0, rfl⟩⟩ : TMAC)⟩ : TNeigh)).drop (i + y.length)).length = x.length + 1 := by simp; omega
    rw [show upH v9 (x.length + 1) = v9 from upH_self (by omega)] at m
    refine wpList_nil (n_then ?_)
    refine c_drawH (Hp w0 R [Sv 7 54 vx.v (x.map cNeigh), Sv 7 54 vy.v (y.map cNeigh)]) m mo ?_; clear m w16; intro w18 m
    refine h_ok (i := 0) rfl (by kernel_rfl) (by kernel_rfl) (by kernel_rfl) hs (m.sub (.c r1 (.c r1 .n))) (ok_move rfl) rfl ?_
    clear hs a; intro a hs
    refine h_ok (i := 1) rfl (by kernel_rfl) (by kernel_rfl) (by kernel_rfl) hs (m.sub (.c r1 (.c r1 .n))) (ok_move rfl) rfl ?_
    clear hs a; intro a hs
    refine h_ok (i := 2) rfl (by kernel_rfl) (by kernel_rfl) (by kernel_rfl) hs (m.sub (.c r1 (.c r1 .n))) (ok_move rfl) rfl ?_
    clear hs a; intro a hs
    refine h_ok (i := 3) rfl (by kernel_rfl) (by kernel_rfl) (by kernel_rfl) hs (m.sub (.c r1 (.c r1 .n))) (ok_add (r := ((i + 1 : Nat) : Int)) rfl rfl (by rw [wrap_i64 (by omega) (by omega)]; omega)) rfl ?_
    clear hs a; intro a hs
    have hc19 := ((m.rdv r0)).ncapM
    refine h_ok (i := 4) rfl (by kernel_rfl) (by kernel_rfl) (by kernel_rfl) hs (m.sub (.c r1 (.c r1 .n))) (ok_sliceH (i := (i + 1)) (j := ((x.take i ++ List.replicate (x.length + 1 - i) (⟨⟨0, rfl⟩, (⟨⟨0, rfl⟩, ⟨0, rfl⟩, ⟨0, rfl⟩, ⟨0, rfl⟩, ⟨0, rfl⟩, ⟨0, rfl⟩⟩ : TMAC)⟩ : TNeigh)).take i ++ y ++ (x.take i ++ List.replicate (x.length + 1 - i) (⟨⟨0, rfl⟩, (⟨⟨0, rfl⟩, ⟨0, rfl⟩, ⟨0, rfl⟩, ⟨0, rfl⟩, ⟨0, rfl⟩, ⟨0, rfl⟩⟩ : TMAC)⟩ : TNeigh)).drop (i + y.length)).length) (c := v9.c) rfl sl26 ty54 ⟨_, rfl⟩ (by show _ = _; omega) rfl (fun _ => rfl) (by omega) (by omega) (by omega)) rfl ?_
    clear hs a; intro a hs
    refine h_ok (i := 5) rfl (by kernel_rfl) (by kernel_rfl) (by kernel_rfl) hs (m.sub (.c r1 (.c r1 .n))) (ok_move rfl) rfl ?_
    clear hs a; intro a hs
    refine h_ok (i := 6) rfl (by kernel_rfl) (by kernel_rfl) (by kernel_rfl) hs (m.sub (.c r1 (.c r1 .n))) (ok_move rfl) rfl ?_
    clear hs a; intro a hs
    have hc20 := ((m.rdv r1)).ncapM
    refine h_ok (i := 7) rfl (by kernel_rfl) (by kernel_rfl) (by kernel_rfl) hs (m.sub (.c r1 (.c r1 .n))) (ok_sliceH (i := i) (j := x.length) (c := vx.c) rfl sl26 ty54 ⟨_, rfl⟩ (by show _ = _; omega) rfl (fun _ => rfl) (by omega) (by omega) (by omega)) rfl ?_
    clear hs a; intro a hs
    have hx21 := (m.rdv r1).winS (lo := i) (by omega) (by omega)
    refine h_eff (i := 8) (by kernel_rfl) rfl ?_
    refine r_copyM (c := cNeigh) (x := v9) (xs := ((x.take i ++ List.replicate (x.length + 1 - i) (⟨⟨0, rfl⟩, (⟨⟨0, rfl⟩, ⟨0, rfl⟩, ⟨0, rfl⟩, ⟨0, rfl⟩, ⟨0, rfl⟩, ⟨0, rfl⟩⟩ : TMAC)⟩ : TNeigh)).take i ++ y ++ (x.take i ++ List.replicate (x.length + 1 - i) (⟨⟨0, rfl⟩, (⟨⟨0, rfl⟩, ⟨0, rfl⟩, ⟨0, rfl⟩, ⟨0, rfl⟩, ⟨0, rfl⟩, ⟨0, rfl⟩⟩ : TMAC)⟩ : TNeigh)).drop (i + y.length))) (es := x.drop i) (lo := i + 1) (dl := ((x.take i ++ List.replicate (x.length + 1 - i) (⟨⟨0, rfl⟩, (⟨⟨0, rfl⟩, ⟨0, rfl⟩, ⟨0, rfl⟩, ⟨0, rfl⟩, ⟨0, rfl⟩, ⟨0, rfl⟩⟩ : TMAC)⟩ : TNeigh)).take i ++ y ++ (x.take i ++ List.replicate (x.length + 1 - i) (⟨⟨0, rfl⟩, (⟨⟨0, rfl⟩, ⟨0, rfl⟩, ⟨0, rfl⟩, ⟨0, rfl⟩, ⟨0, rfl⟩, ⟨0, rfl⟩⟩ : TMAC)⟩ : TNeigh)).drop (i + y.length)).length - (i + 1)) (zs := x.take i ++ y ++ x.drop i) (N := x.length + 1) hs m rfl rfl sl26 ty54 r0 (sub3_lt (by omega)) (⟨_, _, _, sub3_lt (by omega), by simp; omega, hx21⟩) (fun _ => rfl) (by first | omega | (simp; omega)) (by first | omega | (simp; omega)) (by first | omega | (simp; omega)) (ins_eqZ (by omega) A1 rfl) (by simp; omega) rfl ?_
    clear m hx21 hs a w18; intro w22 m a hs
    rw [show upH v9 (x.length + 1) = v9 from upH_self (by omega)] at m
    refine wpList_nil (n_then ⟨(m.sub (.c r1 (.c r1 .n))), ?_⟩)
    refine h_done (by kernel_rfl) (n_then ?_)
    refine c_reg ?_
    refine r_ok hs m (ok_move rfl) rfl ?_
    clear hs a; intro a hs
    refine r_ok hs m (ok_assign rfl) rfl ?_
    clear hs a; intro a hs
    refine wpList_nil (n_then ?_)
    refine wp_ret ?_
    refine ret_then (leave hs (vs := [v9.v]) rfl ⟨rfl, trivial⟩ ?_)
    refine ⟨_, rfl, v9, ?_, m.sub (.c r0 .n)⟩
    rfl
  have h7p := of_decide_eq_false h7
  refine wp_skip ?_
  refine n_then ?_
  refine c_reg ?_
  refine r_ok hs m (ok_move rfl) rfl ?_
  clear hs a; intro a hs
  refine r_ok hs m (ok_move rfl) rfl ?_
  clear hs a; intro a hs
  refine r_ok hs m (ok_move rfl) rfl ?_
  clear hs a; intro a hs
  refine r_ok hs m (ok_add (r := ((x.length + 1 : Nat) : Int)) rfl rfl (by rw [wrap_i64 (by omega) (by omega)]; omega)) rfl ?_
  clear hs a; intro a hs
  have hc23 := ((m.rdv r0)).ncapM
  refine r_ok hs m (ok_sliceH (i := 0) (j := (x.length + 1)) (c := vx.c) rfl sl26 ty54 rfl ⟨_, rfl⟩ rfl (fun h => by cases h) (by omega) (by omega) (by omega)) rfl ?_
  clear hs a; intro a hs
  rw [sub3_0] at hs
  refine r_ok hs m (ok_assign rfl) rfl ?_
  clear hs a; intro a hs
  refine wpList_nil (n_then ?_)
  refine c_seq ?_
  refine c_reg ?_
  refine r_ok hs m (ok_move rfl) rfl ?_
  clear hs a; intro a hs
  refine r_ok hs m (ok_move rfl) rfl ?_
  clear hs a; intro a hs
  refine r_ok hs m (ok_move rfl) rfl ?_
  clear hs a; intro a hs
  refine r_ok hs m (ok_move rfl) rfl ?_
  clear hs a; intro a hs
  refine r_ok hs m (ok_add (r := ((i + 1 : Nat) : Int)) rfl rfl (by rw [wrap_i64 (by omega) (by omega)]; omega)) rfl ?_
  clear hs a; intro a hs
  have hc24 : (upH vx (x.length + 1)).n = (x.length + 1) ∧ (upH vx (x.length + 1)).c = vx.c := ⟨rfl, rfl⟩
  refine r_ok hs m (ok_sliceH (i := (i + 1)) (j := (x.length + 1)) (c := (upH vx (x.length + 1)).c) rfl sl26 ty54 ⟨_, rfl⟩ (by show _ = _; omega) rfl (fun _ => rfl) (by omega) (by omega) (by omega)) rfl ?_
  clear hs a; intro a hs
  refine r_ok hs m (ok_entry en149 rfl (fun w m => overlaps_no (x := vx) (i := i + 1) (j := x.length + 1) sl26 ty54 m r1 r0 (by omega))) rfl ?_
  clear hs a; intro a hs
  refine r_ok hs m (ok_not rfl) rfl ?_
  clear hs a; intro a hs
  refine wpList_nil (n_then ?_)
  refine c_true hs rfl rfl ?_
  refine c_drawH (Hp w0 R [Sv 7 54 vy.v (y.map cNeigh)]) m mo ?_; clear m; intro w26 m
  refine h_ok (i := 0) rfl (by kernel_rfl) (by kernel_rfl) (by kernel_rfl) hs (m.sub (.c r1 .n)) (ok_move rfl) rfl ?_
  clear hs a; intro a hs
  refine h_ok (i := 1) rfl (by kernel_rfl) (by kernel_rfl) (by kernel_rfl) hs (m.sub (.c r1 .n)) (ok_move rfl) rfl ?_
  clear hs a; intro a hs
  refine h_ok (i := 2) rfl (by kernel_rfl) (by kernel_rfl) (by kernel_rfl) hs (m.sub (.c r1 .n)) (ok_move rfl) rfl ?_
  clear hs a; intro a hs
  refine h_ok (i := 3) rfl (by kernel_rfl) (by kernel_rfl) (by kernel_rfl) hs (m.sub (.c r1 .n)) (ok_add (r := ((i + 1 : Nat) : Int)) rfl rfl (by rw [wrap_i64 (by omega) (by omega)]; omega)) rfl ?_
  clear hs a; intro a hs
  have hc27 : (upH vx (x.length + 1)).n = (x.length + 1) ∧ (upH vx (x.length + 1)).c = vx.c := ⟨rfl, rfl⟩
  refine h_ok (i := 4) rfl (by kernel_rfl) (by kernel_rfl) (by kernel_rfl) hs (m.sub (.c r1 .n)) (ok_sliceH (i := (i + 1)) (j := (x.length + 1)) (c := (upH vx (x.length + 1)).c) rfl sl26 ty54 ⟨_, rfl⟩ (by show _ = _; omega) rfl (fun _ => rfl) (by omega) (by omega) (by omega)) rfl ?_
  clear hs a; intro a hs
  refine h_ok (i := 5) rfl (by kernel_rfl) (by kernel_rfl) (by kernel_rfl) hs (m.sub (.c r1 .n)) (ok_move rfl) rfl ?_
  clear hs a; intro a hs
  refine h_ok (i := 6) rfl (by kernel_rfl) (by kernel_rfl) (by kernel_rfl) hs (m.sub (.c r1 .n)) (ok_move rfl) rfl ?_
  clear hs a; intro a hs
  have hc28 : (upH vx (x.length + 1)).n = (x.length + 1) ∧ (upH vx (x.length + 1)).c = vx.c := ⟨rfl, rfl⟩
  refine h_ok (i := 7) rfl (by kernel_rfl) (by kernel_rfl) (by kernel_rfl) hs (m.sub (.c r1 .n)) (ok_sliceH (i := i) (j := (x.length + 1)) (c := (upH vx (x.length + 1)).c) rfl sl26 ty54 ⟨_, rfl⟩ (by show _ = _; omega) rfl (fun _ => rfl) (by omega) (by omega) (by omega)) rfl ?_
  clear hs a; intro a hs
  have hx29 := (m.rdv r0).winS (lo := i) (by omega) (by omega)
  refine h_eff (i := 8) (by kernel_rfl) rfl ?_
  refine r_copyM (c := cNeigh) (x := vx) (xs := x) (es := x.drop i) (lo := i + 1) (dl := x.length + 1 - (i + 1)) (zs := x.take (i + 1) ++ x.drop i) (N := x.length + 1) hs m rfl rfl sl26 ty54 r0 (sub3_lt (x := upH vx (x.length + 1)) (by show _ < vx.c; omega)) (⟨_, _, _, sub3_lt (x := upH vx (x.length + 1)) (by show _ < vx.c; omega), by simp; omega, hx29⟩) (fun _ => rfl) (by first | omega | (simp; omega)) (by first | omega | (simp; omega)) (by first | omega | (simp; omega)) (cp1_eq (by omega)) (by simp; omega) rfl ?_
  clear m hx29 hs a w26; intro w30 m a hs
  refine wpList_nil (n_then ⟨(m.sub (.c r1 .n)), ?_⟩)
  refine h_done (by kernel_rfl) (n_then ?_)
  refine c_reg ?_
  refine r_ok hs m (ok_move rfl) rfl ?_
  clear hs a; intro a hs
  refine r_ok hs m (ok_move rfl) rfl ?_
  clear hs a; intro a hs
  have hc31 : (upH vx (x.length + 1)).n = (x.length + 1) ∧ (upH vx (x.length + 1)).c = vx.c := ⟨rfl, rfl⟩
  refine r_ok hs m (ok_sliceH (i := i) (j := (x.length + 1)) (c := (upH vx (x.length + 1)).c) rfl sl26 ty54 ⟨_, rfl⟩ (by show _ = _; omega) rfl (fun _ => rfl) (by omega) (by omega) (by omega)) rfl ?_
  clear hs a; intro a hs
  refine r_ok hs m (ok_move rfl) rfl ?_
  clear hs a; intro a hs
  have hy32 := (m.rdv r1)
  have hy32n := hy32.ncapM
  refine r_copyM (c := cNeigh) (x := (upH vx (x.length + 1))) (xs := x.take (i + 1) ++ x.drop i) (es := y) (lo := i) (dl := x.length + 1 - i) (zs := x.take i ++ y ++ x.drop i) (N := x.length + 1) hs m rfl rfl sl26 ty54 r0 (sub3_lt (x := upH vx (x.length + 1)) (by show _ < vx.c; omega)) (⟨_, _, _, rfl, by omega, hy32.wln⟩) (fun _ => rfl) (by first | omega | (simp; omega)) (by first | omega | (simp; omega)) (by first | omega | (simp; omega)) (ins_eq (by omega) A1) (by simp; omega) rfl ?_
  clear m hy32 hs a w30; intro w33 m a hs
  refine wpList_nil (n_then ?_)
  refine c_reg ?_
  refine r_ok hs m (ok_move rfl) rfl ?_
  clear hs a; intro a hs
  refine r_ok hs m (ok_assign rfl) rfl ?_
  clear hs a; intro a hs
  refine wpList_nil (n_then ?_)
  refine wp_ret ?_
  refine ret_then (leave hs (vs := [(upH vx (x.length + 1)).v]) rfl ⟨rfl, trivial⟩ ?_)
  refine ⟨_, rfl, (upH vx (x.length + 1)), ?_, m.sub (.c r0 .n)⟩
  rfl
theorem insFdb_c (vx : SH) (x : List TFdb) (i : Nat) (vy : SH) (y : List TFdb) (w0 : World) (R : Hh) (A1 : y.length = 1) (A2 : i ≤ x.length) (A3 : x.length ≤ 2600000000000) (m : Hp w0 R [Sv 7 56 vx.v (x.map cFdb), Sv 7 56 vy.v (y.map cFdb)] w0) : Calls Tryz.prog 104 ⟨[vx.v, .int .i64 (i : Int), vy.v]⟩ w0 fun e w' => ∃ v, e = .returned v ∧ (∃ x0 : SH, v = (x0.v) ∧ Hp w0 R [Sv 7 56 x0.v ((x.take i ++ y ++ x.drop i).map cFdb)] w') := by
  have cx := m.ncapM r0
  have cy := m.ncapM r1
  have lvx := (m.rdv r0).bd
  have lvy := (m.rdv r1).bd
  refine enter (n := 95) Tryz.func104 rfl rfl rfl fun a (hs : St 95 [(0, vx.v), (1, .int .i64 (i : Int)), (2, vy.v)] a) => ?_
  refine c_reg ?_
  refine r_ok hs m (ok_assign rfl) rfl ?_
  clear hs a; intro a hs
  refine wpList_nil (n_then ?_)
  refine c_reg ?_
  refine r_ok hs m (ok_move rfl) rfl ?_
  clear hs a; intro a hs
  refine r_ok hs m (ok_move rfl) rfl ?_
  clear hs a; intro a hs
  have hc1 := ((m.rdv r0)).ncapM
  refine r_ok hs m (ok_sliceH (i := i) (j := x.length) (c := vx.c) rfl sl27 ty56 ⟨_, rfl⟩ (by show _ = _; omega) rfl (fun _ => rfl) (by omega) (by omega) (by omega)) rfl ?_
  clear hs a; intro a hs
  refine wpList_nil (n_then ?_)
  refine c_reg ?_
  refine r_ok hs m (ok_move rfl) rfl ?_
  clear hs a; intro a hs
  refine r_ok hs m (ok_len (r := (y.length : Int)) m rfl sl27 (rc_own r1) (by simp)) rfl ?_
  clear hs a; intro a hs
  refine r_ok hs m (ok_assign rfl) rfl ?_
  clear hs a; intro a hs
  refine wpList_nil (n_then ?_)
  refine c_seq ?_
  refine c_reg ?_
  refine r_ok hs m (ok_move rfl) rfl ?_
  clear hs a; intro a hs
  refine r_ok hs m (ok_bin rfl rfl rfl) rfl ?_
  clear hs a; intro a hs
  refine wpList_nil (n_then ?_)
  refine c_false hs rfl (by rw [A1]; rfl) ?_
  refine wp_skip ?_
  refine n_then ?_
  refine c_reg ?_
  refine r_ok hs m (ok_move rfl) rfl ?_
  clear hs a; intro a hs
  refine r_ok hs m (ok_len (r := (x.length : Int)) m rfl sl27 (rc_own r0) (by simp)) rfl ?_
  clear hs a; intro a hs
  refine r_ok hs m (ok_assign rfl) rfl ?_
  clear hs a; intro a hs
  refine wpList_nil (n_then ?_)
  refine c_seq ?_
  refine c_reg ?_
  refine r_ok hs m (ok_move rfl) rfl ?_
  clear hs a; intro a hs
  refine r_ok hs m (ok_move rfl) rfl ?_
  clear hs a; intro a hs
  refine r_ok hs m (ok_bin rfl rfl rfl) rfl ?_
  clear hs a; intro a hs
  refine wpList_nil (n_then ?_)
  refine c_cond hs rfl (fun h3 => ?_) (fun h3 => ?_)
  · have h3p := eq_of_beq h3
    refine c_reg ?_
    refine r_ok hs m (ok_move rfl) rfl ?_
    clear hs a; intro a hs
    refine r_ok hs m (ok_move rfl) rfl ?_
    clear hs a; intro a hs
    refine r_appendM (c := cFdb) (xs := x) (ys := y) hs m rfl rfl sl27 ni27 ty56 ze56 rfl by56 rfl r0 (m.rdv r1) (fun _ => rfl) (by first | omega | (simp; done) | (simp; omega)) rfl ?_
    clear m hs a; intro v4 w5 m a hs
    refine r_ok hs m (ok_assign rfl) rfl ?_
    clear hs a; intro a hs
    refine wpList_nil (n_then ?_)
    refine wp_ret ?_
    refine ret_then (leave hs (vs := [v4.v]) rfl ⟨rfl, trivial⟩ ?_)
    have q6 : x ++ y = x.take i ++ y ++ x.drop i := by (have hi : i = x.length := by omega); subst hi; simp
    rw [q6] at m
    refine ⟨_, rfl, v4, ?_, m.sub (.c r0 .n)⟩
    rfl
  have h3p := ne_of_beq_false h3
  refine wp_skip ?_
  refine n_then ?_
  refine c_seq ?_
  refine c_reg ?_
  refine r_ok hs m (ok_move rfl) rfl ?_
  clear hs a; intro a hs
  refine r_ok hs m (ok_move rfl) rfl ?_
  clear hs a; intro a hs
  refine r_ok hs m (ok_add (r := ((x.length + 1 : Nat) : Int)) rfl rfl (by rw [wrap_i64 (by omega) (by omega)]; omega)) rfl ?_
  clear hs a; intro a hs
  refine r_ok hs m (ok_move rfl) rfl ?_
  clear hs a; intro a hs
  refine r_ok hs m (ok_cap rfl sl27) rfl ?_
  clear hs a; intro a hs
  refine r_ok hs m (ok_bin rfl rfl rfl) rfl ?_
  clear hs a; intro a hs
  refine wpList_nil (n_then ?_)
  refine c_cond hs rfl (fun h7 => ?_) (fun h7 => ?_)
  · have h7p := of_decide_eq_true h7
    refine c_reg ?_
    refine r_ok hs m (ok_move rfl) rfl ?_
    clear hs a; intro a hs
    refine r_ok hs m (ok_move rfl) rfl ?_
    clear hs a; intro a hs
    have hc8 := ((m.rdv r0)).ncapM
    refine r_ok hs m (ok_sliceH (i := 0) (j := i) (c := vx.c) rfl sl27 ty56 rfl ⟨_, rfl⟩ rfl (fun h => by cases h) (by omega) (by omega) (by omega)) rfl ?_
    clear hs a; intro a hs
    rw [sub3_0] at hs
    refine r_ok hs m (ok_move rfl) rfl ?_
    clear hs a; intro a hs
    refine r_ok hs m (ok_move rfl) rfl ?_
    clear hs a; intro a hs
    refine r_ok hs m (ok_add (r := ((x.length + 1 : Nat) : Int)) rfl rfl (by rw [wrap_i64 (by omega) (by omega)]; omega)) rfl ?_
    clear hs a; intro a hs
    refine r_ok hs m (ok_move rfl) rfl ?_
    clear hs a; intro a hs
    refine r_ok hs m (ok_sub (r := ((x.length + 1 - i : Nat) : Int)) rfl rfl (by rw [wrap_i64 (by omega) (by omega)]; omega)) rfl ?_
    clear hs a; intro a hs
    refine r_appendZM (c := cFdb) (z0 := (⟨(⟨⟨0, rfl⟩, ⟨0, rfl⟩, ⟨0, rfl⟩, ⟨0, rfl⟩, ⟨0, rfl⟩, ⟨0, rfl⟩⟩ : TMAC), ⟨0, rfl⟩⟩ : TFdb)) (xs := x) (i := i) (cn := x.length + 1 - i) hs m rfl rfl sl27 in3 ty56 ze56 rfl rfl by56 rfl rfl r0 (by omega) (by omega) (by omega) (by omega) rfl ?_
    clear m hs a; intro v9 w13 hn10 hc11 m a hs
    have hl12 : (x.take i ++ List.replicate (x.length + 1 - i) (⟨(⟨⟨0, rfl⟩, ⟨0, rfl⟩, ⟨0, rfl⟩, ⟨0, rfl⟩, ⟨0, rfl⟩, ⟨0, rfl⟩⟩ : TMAC), ⟨0, rfl⟩⟩ : TFdb)).length = x.length + 1 := by simp; omega
    refine r_ok hs m (ok_assign rfl) rfl ?_
    clear hs a; intro a hs
    refine wpList_nil (n_then ?_)
    refine c_reg ?_
    refine r_ok hs m (ok_move rfl) rfl ?_
    clear hs a; intro a hs
    refine r_ok hs m (ok_move rfl) rfl ?_
    clear hs a; intro a hs
    have hc14 := ((m.rdv r0)).ncapM
    refine r_ok hs m (ok_sliceH (i := i) (j := (x.take i ++ List.replicate (x.length + 1 - i) (⟨(⟨⟨0, rfl⟩, ⟨0, rfl⟩, ⟨0, rfl⟩, ⟨0, rfl⟩, ⟨0, rfl⟩, ⟨0, rfl⟩⟩ : TMAC), ⟨0, rfl⟩⟩ : TFdb)).length) (c := v9.c) rfl sl27 ty56 ⟨_, rfl⟩ (by show _ = _; omega) rfl (fun _ => rfl) (by omega) (by omega) (by omega)) rfl ?_
    clear hs a; intro a hs
    refine r_ok hs m (ok_move rfl) rfl ?_
    clear hs a; intro a hs
    have hy15 := (m.rdv r2)
    have hy15n := hy15.ncapM
    refine r_copyM (c := cFdb) (x := v9) (xs := (x.take i ++ List.replicate (x.length + 1 - i) (⟨(⟨⟨0, rfl⟩, ⟨0, rfl⟩, ⟨0, rfl⟩, ⟨0, rfl⟩, ⟨0, rfl⟩, ⟨0, rfl⟩⟩ : TMAC), ⟨0, rfl⟩⟩ : TFdb))) (es := y) (lo := i) (dl := (x.take i ++ List.replicate (x.length + 1 - i) (⟨(⟨⟨0, rfl⟩, ⟨0, rfl⟩, ⟨0, rfl⟩, ⟨0, rfl⟩, ⟨0, rfl⟩, ⟨0, rfl⟩⟩ : TMAC), ⟨0, rfl⟩⟩ : TFdb)).length - i) (zs := ((x.take i ++ List.replicate (x.length + 1 - i) (⟨(⟨⟨0, rfl⟩, ⟨0, rfl⟩, ⟨0, rfl⟩, ⟨0, rfl⟩, ⟨0, rfl⟩, ⟨0, rfl⟩⟩ : TMAC), ⟨0, rfl⟩⟩ : TFdb)).take i ++ y ++ (x.take i ++ List.replicate (x.length + 1 - i) (⟨(⟨⟨0, rfl⟩, ⟨0, rfl⟩, ⟨0, rfl⟩, ⟨0, rfl⟩, ⟨0, rfl⟩, ⟨0, rfl⟩⟩ : TMAC), ⟨0, rfl⟩⟩ : TFdb)).drop (i + y.length))) (N := x.length + 1) hs m rfl rfl sl27 ty56 r0 (sub3_lt (by omega)) (⟨_, _, _, rfl, by omega, hy15.wln⟩) (fun _ => rfl) (by first | omega | (simp; omega)) (by first | omega | (simp; omega)) (by first | omega | (simp; omega)) (rfl) (by omega) rfl ?_
    clear m hy15 hs a w13; intro w16 m a hs
    have hl17 : ((x.take i ++ List.replicate (x.length + 1 - i) (⟨(⟨⟨0, rfl⟩, ⟨0, rfl⟩, ⟨0, rfl⟩, ⟨0, rfl⟩, ⟨0, rfl⟩, ⟨0, rfl⟩⟩ : TMAC), ⟨0, rfl⟩⟩ : TFdb)).take i ++ y ++ (x.take i ++ List.replicate (x.length + 1 - i) (⟨(⟨⟨0, rfl⟩, ⟨0, rfl⟩, ⟨0, rfl⟩, ⟨0, rfl⟩, ⟨0, rfl⟩, ⟨0, rfl⟩⟩ : TMAC), ⟨0, rfl⟩⟩ : TFdb)).drop (i + y.length)).length = x.length + 1 := by simp; omega
    rw [show upH v9 (x.length + 1) = v9 from upH_self (by omega)] at m
    refine wpList_nil (n_then ?_)
    refine c_drawH (Hp w0 R [Sv 7 56 vx.v (x.map cFdb), Sv 7 56 vy.v (y.map cFdb)]) m mo ?_; clear m w16; intro w18 m
    refine h_ok (i := 0) rfl (by kernel_rfl) (by kernel_rfl) (by kernel_rfl) hs (m.sub (.c r1 (.c r1 .n))) (ok_move rfl) rfl ?_
    clear hs a; intro a hs
    refine h_ok (i := 1) rfl (by kernel_rfl) (by kernel_rfl) (by kernel_rfl) hs (m.sub (.c r1 (.c r1 .n))) (ok_move rfl) rfl ?_
    clear hs a; intro a hs
    refine h_ok (i := 2) rfl (by kernel_rfl) (by kernel_rfl) (by kernel_rfl) hs (m.sub (.c r1 (.c r1 .n))) (ok_move rfl) rfl ?_
    clear hs a; intro a hs
    refine h_ok (i := 3) rfl (by kernel_rfl) (by kernel_rfl) (by kernel_rfl) hs (m.sub (.c r1 (.c r1 .n))) (ok_add (r := ((i + 1 : Nat) : Int)) rfl rfl (by rw [wrap_i64 (by omega) (by omega)]; omega)) rfl ?_
    clear hs a; intro a hs
    have hc19 := ((m.rdv r0)).ncapM
    refine h_ok (i := 4) rfl (by kernel_rfl) (by kernel_rfl) (by kernel_rfl) hs (m.sub (.c r1 (.c r1 .n))) (ok_sliceH (i := (i + 1)) (j := ((x.take i ++ List.replicate (x.length + 1 - i) (⟨(⟨⟨0, rfl⟩, ⟨0, rfl⟩, ⟨0, rfl⟩, ⟨0, rfl⟩, ⟨0, rfl⟩, ⟨0, rfl⟩⟩ : TMAC), ⟨0, rfl⟩⟩ : TFdb)).take i ++ y ++ (x.take i ++ List.replicate (x.length + 1 - i) (⟨(⟨⟨0, rfl⟩, ⟨0, rfl⟩, ⟨0, rfl⟩, ⟨0, rfl⟩, ⟨0, rfl⟩, ⟨0, rfl⟩⟩ : TMAC), ⟨0, rfl⟩⟩ : TFdb)).drop (i + y.length)).length) (c := v9.c) rfl sl27 ty56 ⟨_, rfl⟩ (by show _ = _; omega) rfl (fun _ => rfl) (by omega) (by omega) (by omega)) rfl ?_
    clear hs a; intro a hs
    refine h_ok (i := 5) rfl (by kernel_rfl) (by kernel_rfl) (by kernel_rfl) hs (m.sub (.c r1 (.c r1 .n))) (ok_move rfl) rfl ?_
    clear hs a; intro a hs
    refine h_ok (i := 6) rfl (by kernel_rfl) (by kernel_rfl) (by kernel_rfl) hs (m.sub (.c r1 (.c r1 .n))) (ok_move rfl) rfl ?_
    clear hs a; intro a hs
    have hc20 := ((m.rdv r1)).ncapM
    refine h_ok (i := 7) rfl (by kernel_rfl) (by kernel_rfl) (by kernel_rfl) hs (m.sub (.c r1 (.c r1 .n))) (ok_sliceH (i := i) (j := x.length) (c := vx.c) rfl sl27 ty56 ⟨_, rfl⟩ (by show _ = _; omega) rfl (fun _ => rfl) (by omega) (by omega) (by omega)) rfl ?_
    clear hs a; intro a hs
    have hx21 := (m.rdv r1).winS (lo := i) (by omega) (by omega)
    refine h_eff (i := 8) (by kernel_rfl) rfl ?_
    refine r_copyM (c := cFdb) (x := v9) (xs := ((x.take i ++ List.replicate (x.length + 1 - i) (⟨(⟨⟨0, rfl⟩, ⟨0, rfl⟩, ⟨0, rfl⟩, ⟨0, rfl⟩, ⟨0, rfl⟩, ⟨0, rfl⟩⟩ : TMAC), ⟨0, rfl⟩⟩ : TFdb)).take i ++ y ++ (x.take i ++ List.replicate (x.length + 1 - i) (⟨(⟨⟨0, rfl⟩, ⟨0, rfl⟩, ⟨0, rfl⟩, ⟨0, rfl⟩, ⟨0, rfl⟩, ⟨0, rfl⟩⟩ : TMAC), ⟨0, rfl⟩⟩ : TFdb)).drop (i + y.length))) (es := x.drop i) (lo := i + 1) (dl := ((x.take i ++ List.replicate (x.length + 1 - i) (⟨(⟨⟨0, rfl⟩, ⟨0, rfl⟩, ⟨0, rfl⟩, ⟨0, rfl⟩, ⟨0, rfl⟩, ⟨0, rfl⟩⟩ : TMAC), ⟨0, rfl⟩⟩ : TFdb)).take i ++ y ++ (x.take i ++ List.replicate (x.length + 1 - i) (⟨(⟨⟨0, rfl⟩, ⟨0, rfl⟩, ⟨0, rfl⟩, ⟨0, rfl⟩, ⟨0, rfl⟩, ⟨0, rfl⟩⟩ : TMAC), ⟨0, rfl⟩⟩ : TFdb)).drop (i + y.length)).length - (i + 1)) (zs := x.take i ++ y ++ x.drop i) (N := x.length + 1) hs m rfl rfl sl27 ty56 r0 (sub3_lt (by omega)) (⟨_, _, _, sub3_lt (by omega), by simp; omega, hx21⟩) (fun _ => rfl) (by first | omega | (simp; omega)) (by first | omega | (simp; omega)) (by first | omega | (simp; omega)) (ins_eqZ (by omega) A1 rfl) (by simp; omega) rfl ?_
    clear m hx21 hs a w18; intro w22 m a hs
    rw [show upH v9 (x.length + 1) = v9 from upH_self (by omega)] at m
    refine wpList_nil (n_then ⟨(m.sub (.c r1 (.c r1 .n))), ?_⟩)
    refine h_done (by kernel_rfl) (n_then ?_)
    refine c_reg ?_
    refine r_ok hs m (ok_move rfl) rfl ?_
    clear hs a; intro a hs
    refine r_ok hs m (ok_assign rfl) rfl ?_
    clear hs a; intro a hs
    refine wpList_nil (n_then ?_)
    refine wp_ret ?_
    refine ret_then (leave hs (vs := [v9.v]) rfl ⟨rfl, trivial⟩ ?_)
    refine ⟨_, rfl, v9, ?_, m.sub (.c r0 .n)⟩
    rfl
  have h7p := of_decide_eq_false h7
  refine wp_skip ?_
  refine n_then ?_
  refine c_reg ?_
  refine r_ok hs m (ok_move rfl) rfl ?_
  clear hs a; intro a hs
  refine r_ok hs m (ok_move rfl) rfl ?_
  clear hs a; intro a hs
  refine r_ok hs m (ok_move rfl) rfl ?_
  clear hs a; intro a hs
  refine r_ok hs m (ok_add (r := ((x.length + 1 : Nat) : Int)) rfl rfl (by rw [wrap_i64 (by omega) (by omega)]; omega)) rfl ?_
  clear hs a; intro a hs
  have hc23 := ((m.rdv r0)).ncapM
  refine r_ok hs m (ok_sliceH (i := 0) (j := (x.length + 1)) (c := vx.c) rfl sl27 ty56 rfl ⟨_, rfl⟩ rfl (fun h => by cases h) (by omega) (by omega) (by omega)) rfl ?_
  clear hs a; intro a hs
  rw [sub3_0] at hs
  refine r_ok hs m (ok_assign rfl) rfl ?_
  clear hs a; intro a hs
  refine wpList_nil (n_then ?_)
  refine c_seq ?_
  refine c_reg ?_
  refine r_ok hs m (ok_move rfl) rfl ?_
  clear hs a; intro a hs
  refine r_ok hs m (ok_move rfl) rfl ?_
  clear hs a; intro a hs
  refine r_ok hs m (ok_move rfl) rfl ?_
  clear hs a; intro a hs
  refine r_ok hs m (ok_move rfl) rfl ?_
  clear hs a; intro a hs
  refine r_ok hs m (ok_add (r := ((i + 1 : Nat) : Int)) rfl rfl (by rw [wrap_i64 (by omega) (by omega)]; omega)) rfl ?_
  clear hs a; intro a hs
  have hc24 : (upH vx (x.length + 1)).n = (x.length + 1) ∧ (upH vx (x.length + 1)).c = vx.c := ⟨rfl, rfl⟩
  refine r_ok hs m (ok_sliceH (i := (i + 1)) (j := (x.length + 1)) (c := (upH vx (x.length + 1)).c) rfl sl27 ty56 ⟨_, rfl⟩ (by show _ = _; omega) rfl (fun _ => rfl) (by omega) (by omega) (by omega)) rfl ?_
  clear hs a; intro a hs
  refine r_ok hs m (ok_entry en152 rfl (fun w m => overlaps_no (x := vx) (i := i + 1) (j := x.length + 1) sl27 ty56 m r1 r0 (by omega))) rfl ?_
  clear hs a; intro a hs
  refine r_ok hs m (ok_not rfl) rfl ?_
  clear hs a; intro a hs
  refine wpList_nil (n_then ?_)
  refine c_true hs rfl rfl ?_
  refine c_drawH (Hp w0 R [Sv 7 56 vy.v (y.map cFdb)]) m mo ?_; clear m; intro w26 m
  refine h_ok (i := 0) rfl (by kernel_rfl) (by kernel_rfl) (by kernel_rfl) hs (m.sub (.c r1 .n)) (ok_move rfl) rfl ?_
  clear hs a; intro a hs
  refine h_ok (i := 1) rfl (by kernel_rfl) (by kernel_rfl) (by kernel_rfl) hs (m.sub (.c r1 .n)) (ok_move rfl) rfl ?_
  clear hs a; intro a hs
  refine h_ok (i := 2) rfl (by kernel_rfl) (by kernel_rfl) (by kernel_rfl) hs (m.sub (.c r1 .n)) (ok_move rfl) rfl ?_
  clear hs a; intro a hs
  refine h_ok (i := 3) rfl (by kernel_rfl) (by kernel_rfl) (by kernel_rfl) hs (m.sub (.c r1 .n)) (ok_add (r := ((i + 1 : Nat) : Int)) rfl rfl (by rw [wrap_i64 (by omega) (by omega)]; omega)) rfl ?_
  clear hs a; intro a hs
  have hc27 : (upH vx (x.length + 1)).n = (x.length + 1) ∧ (upH vx (x.length + 1)).c = vx.c := ⟨rfl, rfl⟩
  refine h_ok (i := 4) rfl (by kernel_rfl) (by kernel_rfl) (by kernel_rfl) hs (m.sub (.c r1 .n)) (ok_sliceH (i := (i + 1)) (j := (x.length + 1)) (c := (upH vx (x.length + 1)).c) rfl sl27 ty56 ⟨_, rfl⟩ (by show _ = _; omega) rfl (fun _ => rfl) (by omega) (by omega) (by omega)) rfl ?_
  clear hs a; intro a hs
  refine h_ok (i := 5) rfl (by kernel_rfl) (by kernel_rfl) (by kernel_rfl) hs (m.sub (.c r1 .n)) (ok_move rfl) rfl ?_
  clear hs a; intro a hs
  refine h_ok (i := 6) rfl (by kernel_rfl) (by kernel_rfl) (by kernel_rfl) hs (m.sub (.c r1 .n)) (ok_move rfl) rfl ?_
  clear hs a; intro a hs
  have hc28 : (upH vx (x.length + 1)).n = (x.length + 1) ∧ (upH vx (x.length + 1)).c = vx.c := ⟨rfl, rfl⟩
  refine h_ok (i := 7) rfl (by kernel_rfl) (by kernel_rfl) (by kernel_rfl) hs (m.sub (.c r1 .n)) (ok_sliceH (i := i) (j := (x.length + 1)) (c := (upH vx (x.length + 1)).c) rfl sl27 ty56 ⟨_, rfl⟩ (by show _ = _; omega) rfl (fun _ => rfl) (by omega) (by omega) (by omega)) rfl ?_
  clear hs a; intro a hs
  have hx29 := (m.rdv r0).winS (lo := i) (by omega) (by omega)
  refine h_eff (i := 8) (by kernel_rfl) rfl ?_
  refine r_copyM (c := cFdb) (x := vx) (xs := x) (es := x.drop i) (lo := i + 1) (dl := x.length + 1 - (i + 1)) (zs := x.take (i + 1) ++ x.drop i) (N := x.length + 1) hs m rfl rfl sl27 ty56 r0 (sub3_lt (x := upH vx (x.length + 1)) (by show _ < vx.c; omega)) (⟨_, _, _, sub3_lt (x := upH vx (x.length + 1)) (by show _ < vx.c; omega), by simp; omega, hx29⟩) (fun _ => rfl) (by first | omega | (simp; omega)) (by first | omega | (simp; omega)) (by first | omega | (simp; omega)) (cp1_eq (by omega)) (by simp; omega) rfl ?_
  clear m hx29 hs a w26; intro w30 m a hs
  refine wpList_nil (n_then ⟨(m.sub (.c r1 .n)), ?_⟩)
  refine h_done (by kernel_rfl) (n_then ?_)
  refine c_reg ?_
  refine r_ok hs m (ok_move rfl) rfl ?_
  clear hs a; intro a hs
  refine r_ok hs m (ok_move rfl) rfl ?_
  clear hs a; intro a hs
  have hc31 : (upH vx (x.length + 1)).n = (x.length + 1) ∧ (upH vx (x.length + 1)).c = vx.c := ⟨rfl, rfl⟩
  refine r_ok hs m (ok_sliceH (i := i) (j := (x.length + 1)) (c := (upH vx (x.length + 1)).c) rfl sl27 ty56 ⟨_, rfl⟩ (by show _ = _; omega) rfl (fun _ => rfl) (by omega) (by omega) (by omega)) rfl ?_
  clear hs a; intro a hs
  refine r_ok hs m (ok_move rfl) rfl ?_
  clear hs a; intro a hs
  have hy32 := (m.rdv r1)
  have hy32n := hy32.ncapM
  refine r_copyM (c := cFdb) (x := (upH vx (x.length + 1))) (xs := x.take (i + 1) ++ x.drop i) (es := y) (lo := i) (dl := x.length + 1 - i) (zs := x.take i ++ y ++ x.drop i) (N := x.length + 1) hs m rfl rfl sl27 ty56 r0 (sub3_lt (x := upH vx (x.length + 1)) (by show _ < vx.c; omega)) (⟨_, _, _, rfl, by omega, hy32.wln⟩) (fun _ => rfl) (by first | omega | (simp; omega)) (by first | omega | (simp; omega)) (by first | omega | (simp; omega)) (ins_eq (by omega) A1) (by simp; omega) rfl ?_
  clear m hy32 hs a w30; intro w33 m a hs
  refine wpList_nil (n_then ?_)
  refine c_reg ?_
  refine r_ok hs m (ok_move rfl) rfl ?_
  clear hs a; intro a hs
  refine r_ok hs m (ok_assign rfl) rfl ?_
  clear hs a; intro a hs
  refine wpList_nil (n_then ?_)
  refine wp_ret ?_
  refine ret_then (leave hs (vs := [(upH vx (x.length + 1)).v]) rfl ⟨rfl, trivial⟩ ?_)
  refine ⟨_, rfl, (upH vx (x.length + 1)), ?_, m.sub (.c r0 .n)⟩
  rfl
end Go.Proofs.YtnbpodjbemfpbaaGreat.Fw
