/-
  Walks: printed by wip/tool/agent.py.
-/
import Derived.Test.YtnbpodjbemfpbaaGreatWt
import Derived.Test.YtnbpodjbemfpbaaGreatWj
import Derived.Test.YtnbpodjbemfpbaaGreatPl8
import Derived.Test.YtnbpodjbemfpbaaGreatFw18
import Derived.KernelRfl
set_option linter.all false
set_option maxHeartbeats 4000000
set_option maxRecDepth 100000
namespace Go.Proofs.YtnbpodjbemfpbaaGreat.Fw
open Go
theorem routesAfter_c (vl : SH) (l : List TRoute) (r : TRoute) (put : Bool) (w0 : World) (hl : RdS (hh w0) 4 vl.v (l.map cRoute)) (A1 : l.length ≤ 16777216) : Calls Tryz.prog 68 ⟨[vl.v, .agg ⟨cRoute r⟩, .bool put]⟩ w0 fun e w' => ∃ v, e = .returned v ∧ (∃ x0 : SH, v = (x0.v) ∧ Hp w0 (hh w0) [Sv 4 51 x0.v ((insB (fun e => lowerM r.Dst e.Dst) (fun e => decide (e.Dst = r.Dst)) r l put).map cRoute)] w') := by
  have lvl := hl.bd
  refine enter (n := 51) Tryz.func68 rfl rfl rfl fun a (hs : St 51 [(0, vl.v), (1, .agg ⟨cRoute r⟩), (2, .bool put)] a) => ?_
  have m := Hp.start w0
  refine c_reg ?_
  refine r_box (cs := cRoute r) hs m rfl rfl rfl ?_
  clear m hs a; intro p1 w2 m a hs
  refine r_ok hs m (ok_assign rfl) rfl ?_
  clear hs a; intro a hs
  refine wpList_nil (n_then ?_)
  refine c_reg ?_
  refine r_ok hs m (ok_assign rfl) rfl ?_
  clear hs a; intro a hs
  refine wpList_nil (n_then ?_)
  refine c_seq ?_
  refine c_reg ?_
  refine r_ok hs m (ok_assign rfl) rfl ?_
  clear hs a; intro a hs
  refine wpList_nil (n_then ?_)
  refine wp_block ?_
  replace m := m.nilSvM cRoute 4 51
  have q5 : ([] : List TRoute) = (insA (fun e => lowerM r.Dst e.Dst) (fun e => decide (e.Dst = r.Dst)) r l put 0).1 := by first | (rw [insA_0]; done) | exact insA_tt (by assumption) hp (by assumption) (by assumption) (by assumption) | exact insA_tf (by assumption) hp (by assumption) (by assumption) (by assumption) | exact insA_ft (by assumption) hp (by assumption) (by assumption) (by assumption) | exact insA_ff (by assumption) hp (by assumption) (by assumption) (by assumption) | exact insA_nt (by assumption) hp (by assumption) (by assumption) | exact insA_nf (by assumption) hp (by assumption) (by assumption)
  rw [q5] at m
  refine wp_loop_ghost (fun gn a w => ∃ k : Nat, ∃ p : Bool, ∃ v3 : SH, (k ≤ l.length) ∧ (p = (insA (fun e => lowerM r.Dst e.Dst) (fun e => decide (e.Dst = r.Dst)) r l put k).2) ∧ gn = l.length - k ∧ St 51 [(0, vl.v), (2, .bool p), (4, .pointer (some (padd p1 0))), (7, v3.v), (8, .int .i64 (k : Int))] a ∧ Hp w0 (hh w0) [Bx p1 51 (cRoute r), Sv 4 51 v3.v (((insA (fun e => lowerM r.Dst e.Dst) (fun e => decide (e.Dst = r.Dst)) r l put k).1).map cRoute)] w) (l.length - 0) ⟨0, put, nilH, by omega, by rw [insA_0], rfl, hs.to ⟨rfl, rfl, rfl, rfl, rfl, trivial⟩, m.sub (.c r1 (.c r0 .n))⟩ ?_
  clear hs m a w2
  rintro gn a w6 ⟨k, p, v3, hk, hp, rfl, hs, m⟩
  have hal := insA_len (lw := fun e => lowerM r.Dst e.Dst) (eq := fun e => decide (e.Dst = r.Dst)) (x := r) (l := l) (p := put) (k := k)
  refine c_seq ?_
  refine c_reg ?_
  refine r_ok hs m (ok_move rfl) rfl ?_
  clear hs a; intro a hs
  refine r_ok hs m (ok_move rfl) rfl ?_
  clear hs a; intro a hs
  refine r_ok hs m (ok_len (r := (l.length : Int)) m rfl sl25 (rc_fr hl) (by simp)) rfl ?_
  clear hs a; intro a hs
  refine r_ok hs m (ok_bin rfl rfl rfl) rfl ?_
  clear hs a; intro a hs
  refine wpList_nil (n_then ?_)
  refine c_cond hs rfl (fun h7 => ?_) (fun h7 => ?_)
  rotate_left
  · have h7p := of_decide_eq_false h7
    refine wp_exit ?_
    refine ex_then (ex_then (ex_hit (?_)))
    refine n_then ?_
    refine c_seq ?_
    refine c_reg ?_
    refine r_ok hs m (ok_move rfl) rfl ?_
    clear hs a; intro a hs
    refine wpList_nil (n_then ?_)
    refine c_cond hs rfl (fun h8 => ?_) (fun h8 => ?_)
    · refine c_last ?_
      refine r_ok hs m (ok_move rfl) rfl ?_
      clear hs a; intro a hs
      refine r_ok hs m (ok_load_ag (vs := cRoute r) rfl ty51 (bx_at r0) rfl rfl) rfl ?_
      clear hs a; intro a hs
      refine r_buildM (c := cRoute) (ys := [r]) hs m sl25 ty51 ze51 rfl rfl rfl rfl rfl (fun _ => rfl) rfl rfl rfl ?_
      clear m hs a w6; intro v9 w10 m a hs
      refine r_appendM (c := cRoute) (xs := (insA (fun e => lowerM r.Dst e.Dst) (fun e => decide (e.Dst = r.Dst)) r l put k).1) (ys := [r]) hs m rfl rfl sl25 ni25 ty51 ze51 rfl by51 rfl r2 (m.rdv r0) (fun _ => rfl) (by first | omega | (simp; done) | (simp; omega)) rfl ?_
      clear m hs a w10; intro v11 w12 m a hs
      refine r_ok hs m (ok_assign rfl) rfl ?_
      clear hs a; intro a hs
      refine wpList_nil (n_then ?_)
      refine c_reg ?_
      refine r_ok hs m (ok_move rfl) rfl ?_
      clear hs a; intro a hs
      refine r_ok hs m (ok_assign rfl) rfl ?_
      clear hs a; intro a hs
      refine wpList_nil (n_then ?_)
      refine wp_ret ?_
      refine leave hs (vs := [v11.v]) rfl ⟨rfl, trivial⟩ ?_
      have q13 : ((insA (fun e => lowerM r.Dst e.Dst) (fun e => decide (e.Dst = r.Dst)) r l put k).1) ++ [r] = insB (fun e => lowerM r.Dst e.Dst) (fun e => decide (e.Dst = r.Dst)) r l put := by first | exact insA_t (by omega) hp (by assumption) | exact insA_f (by omega) hp (by assumption)
      rw [q13] at m
      refine ⟨_, rfl, v11, ?_, m.sub (.c r0 .n)⟩
      rfl
    refine wp_skip ?_
    refine n_then ?_
    refine c_reg ?_
    refine r_ok hs m (ok_move rfl) rfl ?_
    clear hs a; intro a hs
    refine r_ok hs m (ok_assign rfl) rfl ?_
    clear hs a; intro a hs
    refine wpList_nil (n_then ?_)
    refine wp_ret ?_
    refine leave hs (vs := [v3.v]) rfl ⟨rfl, trivial⟩ ?_
    have q14 : (insA (fun e => lowerM r.Dst e.Dst) (fun e => decide (e.Dst = r.Dst)) r l put k).1 = insB (fun e => lowerM r.Dst e.Dst) (fun e => decide (e.Dst = r.Dst)) r l put := by first | exact insA_t (by omega) hp (by assumption) | exact insA_f (by omega) hp (by assumption)
    rw [q14] at m
    refine ⟨_, rfl, v3, ?_, m.sub (.c r1 .n)⟩
    rfl
  have h7p := of_decide_eq_true h7
  refine wp_skip ?_
  refine n_then ?_
  refine c_seq ?_
  refine wp_block ?_
  refine c_seq ?_
  refine c_draw m mo (by kernel_rfl) ?_
  refine q_ok hs (ok_move rfl) rfl ?_
  clear hs a; intro a hs
  refine q_ok hs (ok_move rfl) rfl ?_
  clear hs a; intro a hs
  rcases Bool.eq_false_or_eq_true p with hb15 | hb15
  · refine q_okg hs rfl rfl hb15 (ok_fieldAddr (r := 0) rfl fd51_0 ty44 rfl) rfl ?_
    clear hs a; intro a hs
    refine q_okg hs rfl rfl hb15 (ok_load_ag (vs := cPrefix r.Dst) rfl ty44 (bx_at r0) rfl rfl) rfl ?_
    clear hs a; intro a hs
    refine q_okg hs rfl rfl hb15 (ok_move rfl) rfl ?_
    clear hs a; intro a hs
    refine q_okg hs rfl rfl hb15 (ok_move rfl) rfl ?_
    clear hs a; intro a hs
    obtain ⟨e16, he17⟩ := get_of_lt (l := l) (i := k) (by omega)
    refine elF (c := cRoute) (e := e16) hs m (x := (.tmp 19)) (ix := (.tmp 20)) rfl rfl sl25 ty51 hl (by omega) he17 fun p18 hp19 ok20 => ?_
    refine q_okg hs rfl rfl hb15 (ok20 _ _ _ _ _) rfl ?_
    clear hs a; intro a hs
    refine q_okg hs rfl rfl hb15 (ok_fieldAddr (r := 0) rfl fd51_0 ty44 rfl) rfl ?_
    clear hs a; intro a hs
    refine q_okg hs rfl rfl hb15 (ok_load_ag (vs := cPrefix e16.Dst) rfl ty44 (fr_at hp19) rfl rfl) rfl ?_
    clear hs a; intro a hs
    refine q_callPg hs rfl rfl hb15 rfl rfl ca66 rfl (fun w m => below_c r.Dst e16.Dst w  ) rfl ?_
    clear hs a; intro a hs
    refine q_ok hs (ok_pick (r := .bool (lowerM r.Dst e16.Dst)) rfl rfl rfl (by rw [hb15]; rfl)) rfl ?_
    clear hs a; intro a hs
    refine wpQuiet_nil ?_; clear m w6; intro w21 m
    refine c_cond hs rfl (fun h22 => ?_) (fun h22 => ?_)
    · refine c_reg ?_
      refine r_ok hs m (ok_move rfl) rfl ?_
      clear hs a; intro a hs
      refine r_ok hs m (ok_load_ag (vs := cRoute r) rfl ty51 (bx_at r0) rfl rfl) rfl ?_
      clear hs a; intro a hs
      refine r_buildM (c := cRoute) (ys := [r]) hs m sl25 ty51 ze51 rfl rfl rfl rfl rfl (fun _ => rfl) rfl rfl rfl ?_
      clear m hs a w21; intro v23 w24 m a hs
      refine r_appendM (c := cRoute) (xs := (insA (fun e => lowerM r.Dst e.Dst) (fun e => decide (e.Dst = r.Dst)) r l put k).1) (ys := [r]) hs m rfl rfl sl25 ni25 ty51 ze51 rfl by51 rfl r2 (m.rdv r0) (fun _ => rfl) (by first | omega | (simp; done) | (simp; omega)) rfl ?_
      clear m hs a w24; intro v25 w26 m a hs
      refine r_ok hs m (ok_assign rfl) rfl ?_
      clear hs a; intro a hs
      refine wpList_nil (n_then ?_)
      refine c_last ?_
      refine r_ok hs m (ok_assign rfl) rfl ?_
      clear hs a; intro a hs
      refine wpList_nil (n_then ?_)
      refine c_draw m mo (by kernel_rfl) ?_
      refine q_ok hs (ok_move rfl) rfl ?_
      clear hs a; intro a hs
      refine q_ok hs (ok_move rfl) rfl ?_
      clear hs a; intro a hs
      refine elF (c := cRoute) (e := e16) hs m (x := (.tmp 30)) (ix := (.tmp 31)) rfl rfl sl25 ty51 hl (by omega) he17 fun p27 hp28 ok29 => ?_
      refine q_ok hs (ok29 _ _ _ _ _) rfl ?_
      clear hs a; intro a hs
      refine q_ok hs (ok_fieldAddr (r := 0) rfl fd51_0 ty44 rfl) rfl ?_
      clear hs a; intro a hs
      refine q_ok hs (ok_load_ag (vs := cPrefix e16.Dst) rfl ty44 (fr_at hp28) rfl rfl) rfl ?_
      clear hs a; intro a hs
      refine q_ok hs (ok_fieldAddr (r := 0) rfl fd51_0 ty44 rfl) rfl ?_
      clear hs a; intro a hs
      refine q_ok hs (ok_load_ag (vs := cPrefix r.Dst) rfl ty44 (bx_at r2) rfl rfl) rfl ?_
      clear hs a; intro a hs
      refine q_ok hs (ok_nev (b := decide (e16.Dst = r.Dst)) rfl rfl eqT44 (fPrefix _) (fPrefix _) (iPrefix e16.Dst r.Dst)) rfl ?_
      clear hs a; intro a hs
      refine wpQuiet_nil ?_; clear m w26; intro w30 m
      refine c_cond hs rfl (fun h31 => ?_) (fun h31 => ?_)
      · have h31p := h31; simp only [Bool.or_eq_true, Bool.or_eq_false_iff, Bool.and_eq_true, Bool.and_eq_false_iff, Bool.not_eq_true', Bool.not_eq_false', decide_eq_true_eq, decide_eq_false_iff_not, beq_iff_eq, bne_iff_ne, beq_eq_false_iff_ne, bne_eq_false_iff_eq, ne_eq, gt_iff_lt, ge_iff_le, Int.not_lt, Int.not_le] at h31p
        refine c_last ?_
        refine r_ok hs m (ok_move rfl) rfl ?_
        clear hs a; intro a hs
        refine r_ok hs m (ok_move rfl) rfl ?_
        clear hs a; intro a hs
        refine r_ok hs m (ok_move rfl) rfl ?_
        clear hs a; intro a hs
        refine elF (c := cRoute) (e := e16) hs m (x := (.tmp 39)) (ix := (.tmp 40)) rfl rfl sl25 ty51 hl (by omega) he17 fun p32 hp33 ok34 => ?_
        refine r_ok hs m (ok34 _ _ _ _ _) rfl ?_
        clear hs a; intro a hs
        refine r_ok hs m (ok_load_ag (vs := cRoute e16) rfl ty51 (fr_at hp33) rfl rfl) rfl ?_
        clear hs a; intro a hs
        refine r_buildM (c := cRoute) (ys := [e16]) hs m sl25 ty51 ze51 rfl rfl rfl rfl rfl (fun _ => rfl) rfl rfl rfl ?_
        clear m hs a w30; intro v35 w36 m a hs
        refine r_appendM (c := cRoute) (xs := ((insA (fun e => lowerM r.Dst e.Dst) (fun e => decide (e.Dst = r.Dst)) r l put k).1) ++ [r]) (ys := [e16]) hs m rfl rfl sl25 ni25 ty51 ze51 rfl by51 rfl r1 (m.rdv r0) (fun _ => rfl) (by first | omega | (simp; done) | (simp; omega)) rfl ?_
        clear m hs a w36; intro v37 w38 m a hs
        refine r_ok hs m (ok_assign rfl) rfl ?_
        clear hs a; intro a hs
        refine wpList_nil (n_block (n_then ?_))
        refine c_last ?_
        refine r_ok hs m (ok_move rfl) rfl ?_
        clear hs a; intro a hs
        refine r_ok hs m (ok_add (r := (k : Int) + 1) rfl rfl (wrap_i64 (by omega) (by omega))) rfl ?_
        clear hs a; intro a hs
        refine r_ok hs m (ok_assign rfl) rfl ?_
        clear hs a; intro a hs
        refine wpList_nil (n_then ?_)
        have q39 : ((insA (fun e => lowerM r.Dst e.Dst) (fun e => decide (e.Dst = r.Dst)) r l put k).1) ++ [r] ++ [e16] = (insA (fun e => lowerM r.Dst e.Dst) (fun e => decide (e.Dst = r.Dst)) r l put (k + 1)).1 := by first | (rw [insA_0]; done) | exact insA_tt (by assumption) hp (by assumption) (by assumption) (by assumption) | exact insA_tf (by assumption) hp (by assumption) (by assumption) (by assumption) | exact insA_ft (by assumption) hp (by assumption) (by assumption) (by assumption) | exact insA_ff (by assumption) hp (by assumption) (by assumption) (by assumption) | exact insA_nt (by assumption) hp (by assumption) (by assumption) | exact insA_nf (by assumption) hp (by assumption) (by assumption)
        rw [q39] at m
        exact ⟨l.length - (k + 1), by omega, k + 1, false, v37, by omega, by first | exact insA_pt (by assumption) hp (by assumption) (by assumption) | exact insA_pf (by assumption) hp (by assumption) (by assumption) | exact insA_pn (by assumption) hp (by assumption), rfl, hs.to ⟨rfl, rfl, rfl, rfl, rfl, trivial⟩, m.sub (.c r3 (.c r0 .n))⟩
      have h31p := h31; simp only [Bool.or_eq_true, Bool.or_eq_false_iff, Bool.and_eq_true, Bool.and_eq_false_iff, Bool.not_eq_true', Bool.not_eq_false', decide_eq_true_eq, decide_eq_false_iff_not, beq_iff_eq, bne_iff_ne, beq_eq_false_iff_ne, bne_eq_false_iff_eq, ne_eq, gt_iff_lt, ge_iff_le, Int.not_lt, Int.not_le] at h31p
      refine wp_skip ?_
      refine n_block (n_then ?_)
      refine c_last ?_
      refine r_ok hs m (ok_move rfl) rfl ?_
      clear hs a; intro a hs
      refine r_ok hs m (ok_add (r := (k : Int) + 1) rfl rfl (wrap_i64 (by omega) (by omega))) rfl ?_
      clear hs a; intro a hs
      refine r_ok hs m (ok_assign rfl) rfl ?_
      clear hs a; intro a hs
      refine wpList_nil (n_then ?_)
      have q40 : ((insA (fun e => lowerM r.Dst e.Dst) (fun e => decide (e.Dst = r.Dst)) r l put k).1) ++ [r] = (insA (fun e => lowerM r.Dst e.Dst) (fun e => decide (e.Dst = r.Dst)) r l put (k + 1)).1 := by first | (rw [insA_0]; done) | exact insA_tt (by assumption) hp (by assumption) (by assumption) (by assumption) | exact insA_tf (by assumption) hp (by assumption) (by assumption) (by assumption) | exact insA_ft (by assumption) hp (by assumption) (by assumption) (by assumption) | exact insA_ff (by assumption) hp (by assumption) (by assumption) (by assumption) | exact insA_nt (by assumption) hp (by assumption) (by assumption) | exact insA_nf (by assumption) hp (by assumption) (by assumption)
      rw [q40] at m
      exact ⟨l.length - (k + 1), by omega, k + 1, false, v25, by omega, by first | exact insA_pt (by assumption) hp (by assumption) (by assumption) | exact insA_pf (by assumption) hp (by assumption) (by assumption) | exact insA_pn (by assumption) hp (by assumption), rfl, hs.to ⟨rfl, rfl, rfl, rfl, rfl, trivial⟩, m.sub (.c r2 (.c r0 .n))⟩
    refine wp_skip ?_
    refine n_then ?_
    refine c_draw m mo (by kernel_rfl) ?_
    refine q_ok hs (ok_move rfl) rfl ?_
    clear hs a; intro a hs
    refine q_ok hs (ok_move rfl) rfl ?_
    clear hs a; intro a hs
    refine elF (c := cRoute) (e := e16) hs m (x := (.tmp 30)) (ix := (.tmp 31)) rfl rfl sl25 ty51 hl (by omega) he17 fun p41 hp42 ok43 => ?_
    refine q_ok hs (ok43 _ _ _ _ _) rfl ?_
    clear hs a; intro a hs
    refine q_ok hs (ok_fieldAddr (r := 0) rfl fd51_0 ty44 rfl) rfl ?_
    clear hs a; intro a hs
    refine q_ok hs (ok_load_ag (vs := cPrefix e16.Dst) rfl ty44 (fr_at hp42) rfl rfl) rfl ?_
    clear hs a; intro a hs
    refine q_ok hs (ok_fieldAddr (r := 0) rfl fd51_0 ty44 rfl) rfl ?_
    clear hs a; intro a hs
    refine q_ok hs (ok_load_ag (vs := cPrefix r.Dst) rfl ty44 (bx_at r0) rfl rfl) rfl ?_
    clear hs a; intro a hs
    refine q_ok hs (ok_nev (b := decide (e16.Dst = r.Dst)) rfl rfl eqT44 (fPrefix _) (fPrefix _) (iPrefix e16.Dst r.Dst)) rfl ?_
    clear hs a; intro a hs
    refine wpQuiet_nil ?_; clear m w21; intro w44 m
    refine c_cond hs rfl (fun h45 => ?_) (fun h45 => ?_)
    · have h45p := h45; simp only [Bool.or_eq_true, Bool.or_eq_false_iff, Bool.and_eq_true, Bool.and_eq_false_iff, Bool.not_eq_true', Bool.not_eq_false', decide_eq_true_eq, decide_eq_false_iff_not, beq_iff_eq, bne_iff_ne, beq_eq_false_iff_ne, bne_eq_false_iff_eq, ne_eq, gt_iff_lt, ge_iff_le, Int.not_lt, Int.not_le] at h45p
      refine c_last ?_
      refine r_ok hs m (ok_move rfl) rfl ?_
      clear hs a; intro a hs
      refine r_ok hs m (ok_move rfl) rfl ?_
      clear hs a; intro a hs
      refine r_ok hs m (ok_move rfl) rfl ?_
      clear hs a; intro a hs
      refine elF (c := cRoute) (e := e16) hs m (x := (.tmp 39)) (ix := (.tmp 40)) rfl rfl sl25 ty51 hl (by omega) he17 fun p46 hp47 ok48 => ?_
      refine r_ok hs m (ok48 _ _ _ _ _) rfl ?_
      clear hs a; intro a hs
      refine r_ok hs m (ok_load_ag (vs := cRoute e16) rfl ty51 (fr_at hp47) rfl rfl) rfl ?_
      clear hs a; intro a hs
      refine r_buildM (c := cRoute) (ys := [e16]) hs m sl25 ty51 ze51 rfl rfl rfl rfl rfl (fun _ => rfl) rfl rfl rfl ?_
      clear m hs a w44; intro v49 w50 m a hs
      refine r_appendM (c := cRoute) (xs := (insA (fun e => lowerM r.Dst e.Dst) (fun e => decide (e.Dst = r.Dst)) r l put k).1) (ys := [e16]) hs m rfl rfl sl25 ni25 ty51 ze51 rfl by51 rfl r2 (m.rdv r0) (fun _ => rfl) (by first | omega | (simp; done) | (simp; omega)) rfl ?_
      clear m hs a w50; intro v51 w52 m a hs
      refine r_ok hs m (ok_assign rfl) rfl ?_
      clear hs a; intro a hs
      refine wpList_nil (n_block (n_then ?_))
      refine c_last ?_
      refine r_ok hs m (ok_move rfl) rfl ?_
      clear hs a; intro a hs
      refine r_ok hs m (ok_add (r := (k : Int) + 1) rfl rfl (wrap_i64 (by omega) (by omega))) rfl ?_
      clear hs a; intro a hs
      refine r_ok hs m (ok_assign rfl) rfl ?_
      clear hs a; intro a hs
      refine wpList_nil (n_then ?_)
      have q53 : ((insA (fun e => lowerM r.Dst e.Dst) (fun e => decide (e.Dst = r.Dst)) r l put k).1) ++ [e16] = (insA (fun e => lowerM r.Dst e.Dst) (fun e => decide (e.Dst = r.Dst)) r l put (k + 1)).1 := by first | (rw [insA_0]; done) | exact insA_tt (by assumption) hp (by assumption) (by assumption) (by assumption) | exact insA_tf (by assumption) hp (by assumption) (by assumption) (by assumption) | exact insA_ft (by assumption) hp (by assumption) (by assumption) (by assumption) | exact insA_ff (by assumption) hp (by assumption) (by assumption) (by assumption) | exact insA_nt (by assumption) hp (by assumption) (by assumption) | exact insA_nf (by assumption) hp (by assumption) (by assumption)
      rw [q53] at m
      exact ⟨l.length - (k + 1), by omega, k + 1, p, v51, by omega, by first | exact insA_pt (by assumption) hp (by assumption) (by assumption) | exact insA_pf (by assumption) hp (by assumption) (by assumption) | exact insA_pn (by assumption) hp (by assumption), rfl, hs.to ⟨rfl, rfl, rfl, rfl, rfl, trivial⟩, m.sub (.c r2 (.c r0 .n))⟩
    have h45p := h45; simp only [Bool.or_eq_true, Bool.or_eq_false_iff, Bool.and_eq_true, Bool.and_eq_false_iff, Bool.not_eq_true', Bool.not_eq_false', decide_eq_true_eq, decide_eq_false_iff_not, beq_iff_eq, bne_iff_ne, beq_eq_false_iff_ne, bne_eq_false_iff_eq, ne_eq, gt_iff_lt, ge_iff_le, Int.not_lt, Int.not_le] at h45p
    refine wp_skip ?_
    refine n_block (n_then ?_)
    refine c_last ?_
    refine r_ok hs m (ok_move rfl) rfl ?_
    clear hs a; intro a hs
    refine r_ok hs m (ok_add (r := (k : Int) + 1) rfl rfl (wrap_i64 (by omega) (by omega))) rfl ?_
    clear hs a; intro a hs
    refine r_ok hs m (ok_assign rfl) rfl ?_
    clear hs a; intro a hs
    refine wpList_nil (n_then ?_)
    have q54 : (insA (fun e => lowerM r.Dst e.Dst) (fun e => decide (e.Dst = r.Dst)) r l put k).1 = (insA (fun e => lowerM r.Dst e.Dst) (fun e => decide (e.Dst = r.Dst)) r l put (k + 1)).1 := by first | (rw [insA_0]; done) | exact insA_tt (by assumption) hp (by assumption) (by assumption) (by assumption) | exact insA_tf (by assumption) hp (by assumption) (by assumption) (by assumption) | exact insA_ft (by assumption) hp (by assumption) (by assumption) (by assumption) | exact insA_ff (by assumption) hp (by assumption) (by assumption) (by assumption) | exact insA_nt (by assumption) hp (by assumption) (by assumption) | exact insA_nf (by assumption) hp (by assumption) (by assumption)
    rw [q54] at m
    exact ⟨l.length - (k + 1), by omega, k + 1, p, v3, by omega, by first | exact insA_pt (by assumption) hp (by assumption) (by assumption) | exact insA_pf (by assumption) hp (by assumption) (by assumption) | exact insA_pn (by assumption) hp (by assumption), rfl, hs.to ⟨rfl, rfl, rfl, rfl, rfl, trivial⟩, m.sub (.c r0 (.c r0 .n))⟩
  · refine q_out hs rfl rfl hb15 rfl ?_
    clear hs a; intro a hs
    refine q_out hs rfl rfl hb15 rfl ?_
    clear hs a; intro a hs
    refine q_out hs rfl rfl hb15 rfl ?_
    clear hs a; intro a hs
    refine q_out hs rfl rfl hb15 rfl ?_
    clear hs a; intro a hs
    refine q_out hs rfl rfl hb15 rfl ?_
    clear hs a; intro a hs
    refine q_out hs rfl rfl hb15 rfl ?_
    clear hs a; intro a hs
    refine q_out hs rfl rfl hb15 rfl ?_
    clear hs a; intro a hs
    refine q_out hs rfl rfl hb15 rfl ?_
    clear hs a; intro a hs
    refine q_ok hs (ok_pick (r := .bool false) rfl rfl rfl (by rw [hb15]; rfl)) rfl ?_
    clear hs a; intro a hs
    refine wpQuiet_nil ?_; clear m w6; intro w55 m
    refine c_false hs rfl rfl ?_
    refine wp_skip ?_
    refine n_then ?_
    refine c_draw m mo (by kernel_rfl) ?_
    refine q_ok hs (ok_move rfl) rfl ?_
    clear hs a; intro a hs
    refine q_ok hs (ok_move rfl) rfl ?_
    clear hs a; intro a hs
    obtain ⟨e57, he58⟩ := get_of_lt (l := l) (i := k) (by omega)
    refine elF (c := cRoute) (e := e57) hs m (x := (.tmp 30)) (ix := (.tmp 31)) rfl rfl sl25 ty51 hl (by omega) he58 fun p59 hp60 ok61 => ?_
    refine q_ok hs (ok61 _ _ _ _ _) rfl ?_
    clear hs a; intro a hs
    refine q_ok hs (ok_fieldAddr (r := 0) rfl fd51_0 ty44 rfl) rfl ?_
    clear hs a; intro a hs
    refine q_ok hs (ok_load_ag (vs := cPrefix e57.Dst) rfl ty44 (fr_at hp60) rfl rfl) rfl ?_
    clear hs a; intro a hs
    refine q_ok hs (ok_fieldAddr (r := 0) rfl fd51_0 ty44 rfl) rfl ?_
    clear hs a; intro a hs
    refine q_ok hs (ok_load_ag (vs := cPrefix r.Dst) rfl ty44 (bx_at r0) rfl rfl) rfl ?_
    clear hs a; intro a hs
    refine q_ok hs (ok_nev (b := decide (e57.Dst = r.Dst)) rfl rfl eqT44 (fPrefix _) (fPrefix _) (iPrefix e57.Dst r.Dst)) rfl ?_
    clear hs a; intro a hs
    refine wpQuiet_nil ?_; clear m w55; intro w62 m
    refine c_cond hs rfl (fun h63 => ?_) (fun h63 => ?_)
    · have h63p := h63; simp only [Bool.or_eq_true, Bool.or_eq_false_iff, Bool.and_eq_true, Bool.and_eq_false_iff, Bool.not_eq_true', Bool.not_eq_false', decide_eq_true_eq, decide_eq_false_iff_not, beq_iff_eq, bne_iff_ne, beq_eq_false_iff_ne, bne_eq_false_iff_eq, ne_eq, gt_iff_lt, ge_iff_le, Int.not_lt, Int.not_le] at h63p
      refine c_last ?_
      refine r_ok hs m (ok_move rfl) rfl ?_
      clear hs a; intro a hs
      refine r_ok hs m (ok_move rfl) rfl ?_
      clear hs a; intro a hs
      refine r_ok hs m (ok_move rfl) rfl ?_
      clear hs a; intro a hs
      refine elF (c := cRoute) (e := e57) hs m (x := (.tmp 39)) (ix := (.tmp 40)) rfl rfl sl25 ty51 hl (by omega) he58 fun p64 hp65 ok66 => ?_
      refine r_ok hs m (ok66 _ _ _ _ _) rfl ?_
      clear hs a; intro a hs
      refine r_ok hs m (ok_load_ag (vs := cRoute e57) rfl ty51 (fr_at hp65) rfl rfl) rfl ?_
      clear hs a; intro a hs
      refine r_buildM (c := cRoute) (ys := [e57]) hs m sl25 ty51 ze51 rfl rfl rfl rfl rfl (fun _ => rfl) rfl rfl rfl ?_
      clear m hs a w62; intro v67 w68 m a hs
      refine r_appendM (c := cRoute) (xs := (insA (fun e => lowerM r.Dst e.Dst) (fun e => decide (e.Dst = r.Dst)) r l put k).1) (ys := [e57]) hs m rfl rfl sl25 ni25 ty51 ze51 rfl by51 rfl r2 (m.rdv r0) (fun _ => rfl) (by first | omega | (simp; done) | (simp; omega)) rfl ?_
      clear m hs a w68; intro v69 w70 m a hs
      refine r_ok hs m (ok_assign rfl) rfl ?_
      clear hs a; intro a hs
      refine wpList_nil (n_block (n_then ?_))
      refine c_last ?_
      refine r_ok hs m (ok_move rfl) rfl ?_
      clear hs a; intro a hs
      refine r_ok hs m (ok_add (r := (k : Int) + 1) rfl rfl (wrap_i64 (by omega) (by omega))) rfl ?_
      clear hs a; intro a hs
      refine r_ok hs m (ok_assign rfl) rfl ?_
      clear hs a; intro a hs
      refine wpList_nil (n_then ?_)
      have q71 : ((insA (fun e => lowerM r.Dst e.Dst) (fun e => decide (e.Dst = r.Dst)) r l put k).1) ++ [e57] = (insA (fun e => lowerM r.Dst e.Dst) (fun e => decide (e.Dst = r.Dst)) r l put (k + 1)).1 := by first | (rw [insA_0]; done) | exact insA_tt (by assumption) hp (by assumption) (by assumption) (by assumption) | exact insA_tf (by assumption) hp (by assumption) (by assumption) (by assumption) | exact insA_ft (by assumption) hp (by assumption) (by assumption) (by assumption) | exact insA_ff (by assumption) hp (by assumption) (by assumption) (by assumption) | exact insA_nt (by assumption) hp (by assumption) (by assumption) | exact insA_nf (by assumption) hp (by assumption) (by assumption)
      rw [q71] at m
      exact ⟨l.length - (k + 1), by omega, k + 1, p, v69, by omega, by first | exact insA_pt (by assumption) hp (by assumption) (by assumption) | exact insA_pf (by assumption) hp (by assumption) (by assumption) | exact insA_pn (by assumption) hp (by assumption), rfl, hs.to ⟨rfl, rfl, rfl, rfl, rfl, trivial⟩, m.sub (.c r2 (.c r0 .n))⟩
    have h63p := h63; simp only [Bool.or_eq_true, Bool.or_eq_false_iff, Bool.and_eq_true, Bool.and_eq_false_iff, Bool.not_eq_true', Bool.not_eq_false', decide_eq_true_eq, decide_eq_false_iff_not, beq_iff_eq, bne_iff_ne, beq_eq_false_iff_ne, bne_eq_false_iff_eq, ne_eq, gt_iff_lt, ge_iff_le, Int.not_lt, Int.not_le] at h63p
    refine wp_skip ?_
    refine n_block (n_then ?_)
    refine c_last ?_
    refine r_ok hs m (ok_move rfl) rfl ?_
    clear hs a; intro a hs
    refine r_ok hs m (ok_add (r := (k : Int) + 1) rfl rfl (wrap_i64 (by omega) (by omega))) rfl ?_
    clear hs a; intro a hs
    refine r_ok hs m (ok_assign rfl) rfl ?_
    clear hs a; intro a hs
    refine wpList_nil (n_then ?_)
    have q72 : (insA (fun e => lowerM r.Dst e.Dst) (fun e => decide (e.Dst = r.Dst)) r l put k).1 = (insA (fun e => lowerM r.Dst e.Dst) (fun e => decide (e.Dst = r.Dst)) r l put (k + 1)).1 := by first | (rw [insA_0]; done) | exact insA_tt (by assumption) hp (by assumption) (by assumption) (by assumption) | exact insA_tf (by assumption) hp (by assumption) (by assumption) (by assumption) | exact insA_ft (by assumption) hp (by assumption) (by assumption) (by assumption) | exact insA_ff (by assumption) hp (by assumption) (by assumption) (by assumption) | exact insA_nt (by assumption) hp (by assumption) (by assumption) | exact insA_nf (by assumption) hp (by assumption) (by assumption)
    rw [q72] at m
    exact ⟨l.length - (k + 1), by omega, k + 1, p, v3, by omega, by first | exact insA_pt (by assumption) hp (by assumption) (by assumption) | exact insA_pf (by assumption) hp (by assumption) (by assumption) | exact insA_pn (by assumption) hp (by assumption), rfl, hs.to ⟨rfl, rfl, rfl, rfl, rfl, trivial⟩, m.sub (.c r0 (.c r0 .n))⟩
theorem neighsAfter_c (vl : SH) (l : List TNeigh) (q : TNeigh) (put : Bool) (w0 : World) (hl : RdS (hh w0) 7 vl.v (l.map cNeigh)) (A1 : l.length ≤ 16777216) : Calls Tryz.prog 69 ⟨[vl.v, .agg ⟨cNeigh q⟩, .bool put]⟩ w0 fun e w' => ∃ v, e = .returned v ∧ (∃ x0 : SH, v = (x0.v) ∧ Hp w0 (hh w0) [Sv 7 54 x0.v ((insB (fun e => decide (q.IP.v < e.IP.v)) (fun e => e.IP.v == q.IP.v) q l put).map cNeigh)] w') := by
  have lvl := hl.bd
  refine enter (n := 51) Tryz.func69 rfl rfl rfl fun a (hs : St 51 [(0, vl.v), (1, .agg ⟨cNeigh q⟩), (2, .bool put)] a) => ?_
  have m := Hp.start w0
  refine c_reg ?_
  refine r_box (cs := cNeigh q) hs m rfl rfl rfl ?_
  clear m hs a; intro p1 w2 m a hs
  refine r_ok hs m (ok_assign rfl) rfl ?_
  clear hs a; intro a hs
  refine wpList_nil (n_then ?_)
  refine c_reg ?_
  refine r_ok hs m (ok_assign rfl) rfl ?_
  clear hs a; intro a hs
  refine wpList_nil (n_then ?_)
  refine c_seq ?_
  refine c_reg ?_
  refine r_ok hs m (ok_assign rfl) rfl ?_
  clear hs a; intro a hs
  refine wpList_nil (n_then ?_)
  refine wp_block ?_
  replace m := m.nilSvM cNeigh 7 54
  have q5 : ([] : List TNeigh) = (insA (fun e => decide (q.IP.v < e.IP.v)) (fun e => e.IP.v == q.IP.v) q l put 0).1 := by first | (rw [insA_0]; done) | exact insA_tt (by assumption) hp (by assumption) (by assumption) (by assumption) | exact insA_tf (by assumption) hp (by assumption) (by assumption) (by assumption) | exact insA_ft (by assumption) hp (by assumption) (by assumption) (by assumption) | exact insA_ff (by assumption) hp (by assumption) (by assumption) (by assumption) | exact insA_nt (by assumption) hp (by assumption) (by assumption) | exact insA_nf (by assumption) hp (by assumption) (by assumption)
  rw [q5] at m
  refine wp_loop_ghost (fun gn a w => ∃ k : Nat, ∃ p : Bool, ∃ v3 : SH, (k ≤ l.length) ∧ (p = (insA (fun e => decide (q.IP.v < e.IP.v)) (fun e => e.IP.v == q.IP.v) q l put k).2) ∧ gn = l.length - k ∧ St 51 [(0, vl.v), (2, .bool p), (4, .pointer (some (padd p1 0))), (7, v3.v), (8, .int .i64 (k : Int))] a ∧ Hp w0 (hh w0) [Bx p1 54 (cNeigh q), Sv 7 54 v3.v (((insA (fun e => decide (q.IP.v < e.IP.v)) (fun e => e.IP.v == q.IP.v) q l put k).1).map cNeigh)] w) (l.length - 0) ⟨0, put, nilH, by omega, by rw [insA_0], rfl, hs.to ⟨rfl, rfl, rfl, rfl, rfl, trivial⟩, m.sub (.c r1 (.c r0 .n))⟩ ?_
  clear hs m a w2
  rintro gn a w6 ⟨k, p, v3, hk, hp, rfl, hs, m⟩
  have hal := insA_len (lw := fun e => decide (q.IP.v < e.IP.v)) (eq := fun e => e.IP.v == q.IP.v) (x := q) (l := l) (p := put) (k := k)
  refine c_seq ?_
  refine c_reg ?_
  refine r_ok hs m (ok_move rfl) rfl ?_
  clear hs a; intro a hs
  refine r_ok hs m (ok_move rfl) rfl ?_
  clear hs a; intro a hs
  refine r_ok hs m (ok_len (r := (l.length : Int)) m rfl sl26 (rc_fr hl) (by simp)) rfl ?_
  clear hs a; intro a hs
  refine r_ok hs m (ok_bin rfl rfl rfl) rfl ?_
  clear hs a; intro a hs
  refine wpList_nil (n_then ?_)
  refine c_cond hs rfl (fun h7 => ?_) (fun h7 => ?_)
  rotate_left
  · have h7p := of_decide_eq_false h7
    refine wp_exit ?_
    refine ex_then (ex_then (ex_hit (?_)))
    refine n_then ?_
    refine c_seq ?_
    refine c_reg ?_
    refine r_ok hs m (ok_move rfl) rfl ?_
    clear hs a; intro a hs
    refine wpList_nil (n_then ?_)
    refine c_cond hs rfl (fun h8 => ?_) (fun h8 => ?_)
    · refine c_last ?_
      refine r_ok hs m (ok_move rfl) rfl ?_
      clear hs a; intro a hs
      refine r_ok hs m (ok_load_ag (vs := cNeigh q) rfl ty54 (bx_at r0) rfl rfl) rfl ?_
      clear hs a; intro a hs
      refine r_buildM (c := cNeigh) (ys := [q]) hs m sl26 ty54 ze54 rfl rfl rfl rfl rfl (fun _ => rfl) rfl rfl rfl ?_
      clear m hs a w6; intro v9 w10 m a hs
      refine r_appendM (c := cNeigh) (xs := (insA (fun e => decide (q.IP.v < e.IP.v)) (fun e => e.IP.v == q.IP.v) q l put k).1) (ys := [q]) hs m rfl rfl sl26 ni26 ty54 ze54 rfl by54 rfl r2 (m.rdv r0) (fun _ => rfl) (by first | omega | (simp; done) | (simp; omega)) rfl ?_
      clear m hs a w10; intro v11 w12 m a hs
      refine r_ok hs m (ok_assign rfl) rfl ?_
      clear hs a; intro a hs
      refine wpList_nil (n_then ?_)
      refine c_reg ?_
      refine r_ok hs m (ok_move rfl) rfl ?_
      clear hs a; intro a hs
      refine r_ok hs m (ok_assign rfl) rfl ?_
      clear hs a; intro a hs
      refine wpList_nil (n_then ?_)
      refine wp_ret ?_
      refine leave hs (vs := [v11.v]) rfl ⟨rfl, trivial⟩ ?_
      have q13 : ((insA (fun e => decide (q.IP.v < e.IP.v)) (fun e => e.IP.v == q.IP.v) q l put k).1) ++ [q] = insB (fun e => decide (q.IP.v < e.IP.v)) (fun e => e.IP.v == q.IP.v) q l put := by first | exact insA_t (by omega) hp (by assumption) | exact insA_f (by omega) hp (by assumption)
      rw [q13] at m
      refine ⟨_, rfl, v11, ?_, m.sub (.c r0 .n)⟩
      rfl
    refine wp_skip ?_
    refine n_then ?_
    refine c_reg ?_
    refine r_ok hs m (ok_move rfl) rfl ?_
    clear hs a; intro a hs
    refine r_ok hs m (ok_assign rfl) rfl ?_
    clear hs a; intro a hs
    refine wpList_nil (n_then ?_)
    refine wp_ret ?_
    refine leave hs (vs := [v3.v]) rfl ⟨rfl, trivial⟩ ?_
    have q14 : (insA (fun e => decide (q.IP.v < e.IP.v)) (fun e => e.IP.v == q.IP.v) q l put k).1 = insB (fun e => decide (q.IP.v < e.IP.v)) (fun e => e.IP.v == q.IP.v) q l put := by first | exact insA_t (by omega) hp (by assumption) | exact insA_f (by omega) hp (by assumption)
    rw [q14] at m
    refine ⟨_, rfl, v3, ?_, m.sub (.c r1 .n)⟩
    rfl
  have h7p := of_decide_eq_true h7
  refine wp_skip ?_
  refine n_then ?_
  refine c_seq ?_
  refine wp_block ?_
  refine c_seq ?_
  refine c_draw m mo (by kernel_rfl) ?_
  refine q_ok hs (ok_move rfl) rfl ?_
  clear hs a; intro a hs
  refine q_ok hs (ok_move rfl) rfl ?_
  clear hs a; intro a hs
  rcases Bool.eq_false_or_eq_true p with hb15 | hb15
  · refine q_okg hs rfl rfl hb15 (ok_fieldAddr (r := 0) rfl fd54_0 ty42 rfl) rfl ?_
    clear hs a; intro a hs
    refine q_okg hs rfl rfl hb15 (ok_load_sc rfl ty42 (bx_at r0) rfl) rfl ?_
    clear hs a; intro a hs
    refine q_okg hs rfl rfl hb15 (ok_move rfl) rfl ?_
    clear hs a; intro a hs
    refine q_okg hs rfl rfl hb15 (ok_move rfl) rfl ?_
    clear hs a; intro a hs
    obtain ⟨e16, he17⟩ := get_of_lt (l := l) (i := k) (by omega)
    refine elF (c := cNeigh) (e := e16) hs m (x := (.tmp 19)) (ix := (.tmp 20)) rfl rfl sl26 ty54 hl (by omega) he17 fun p18 hp19 ok20 => ?_
    refine q_okg hs rfl rfl hb15 (ok20 _ _ _ _ _) rfl ?_
    clear hs a; intro a hs
    refine q_okg hs rfl rfl hb15 (ok_fieldAddr (r := 0) rfl fd54_0 ty42 rfl) rfl ?_
    clear hs a; intro a hs
    refine q_okg hs rfl rfl hb15 (ok_load_sc rfl ty42 (fr_at hp19) rfl) rfl ?_
    clear hs a; intro a hs
    refine q_okg hs rfl rfl hb15 (ok_bin rfl rfl rfl) rfl ?_
    clear hs a; intro a hs
    refine q_ok hs (ok_pick (r := .bool (decide (q.IP.v < e16.IP.v))) rfl rfl rfl (by rw [hb15]; rfl)) rfl ?_
    clear hs a; intro a hs
    refine wpQuiet_nil ?_; clear m w6; intro w21 m
    refine c_cond hs rfl (fun h22 => ?_) (fun h22 => ?_)
    · have h22p := of_decide_eq_true h22
      refine c_reg ?_
      refine r_ok hs m (ok_move rfl) rfl ?_
      clear hs a; intro a hs
      refine r_ok hs m (ok_load_ag (vs := cNeigh q) rfl ty54 (bx_at r0) rfl rfl) rfl ?_
      clear hs a; intro a hs
      refine r_buildM (c := cNeigh) (ys := [q]) hs m sl26 ty54 ze54 rfl rfl rfl rfl rfl (fun _ => rfl) rfl rfl rfl ?_
      clear m hs a w21; intro v23 w24 m a hs
      refine r_appendM (c := cNeigh) (xs := (insA (fun e => decide (q.IP.v < e.IP.v)) (fun e => e.IP.v == q.IP.v) q l put k).1) (ys := [q]) hs m rfl rfl sl26 ni26 ty54 ze54 rfl by54 rfl r2 (m.rdv r0) (fun _ => rfl) (by first | omega | (simp; done) | (simp; omega)) rfl ?_
      clear m hs a w24; intro v25 w26 m a hs
      refine r_ok hs m (ok_assign rfl) rfl ?_
      clear hs a; intro a hs
      refine wpList_nil (n_then ?_)
      refine c_last ?_
      refine r_ok hs m (ok_assign rfl) rfl ?_
      clear hs a; intro a hs
      refine wpList_nil (n_then ?_)
      refine c_draw m mo (by kernel_rfl) ?_
      refine q_ok hs (ok_move rfl) rfl ?_
      clear hs a; intro a hs
      refine q_ok hs (ok_move rfl) rfl ?_
      clear hs a; intro a hs
      refine elF (c := cNeigh) (e := e16) hs m (x := (.tmp 30)) (ix := (.tmp 31)) rfl rfl sl26 ty54 hl (by omega) he17 fun p27 hp28 ok29 => ?_
      refine q_ok hs (ok29 _ _ _ _ _) rfl ?_
      clear hs a; intro a hs
      refine q_ok hs (ok_fieldAddr (r := 0) rfl fd54_0 ty42 rfl) rfl ?_
      clear hs a; intro a hs
      refine q_ok hs (ok_load_sc rfl ty42 (fr_at hp28) rfl) rfl ?_
      clear hs a; intro a hs
      refine q_ok hs (ok_fieldAddr (r := 0) rfl fd54_0 ty42 rfl) rfl ?_
      clear hs a; intro a hs
      refine q_ok hs (ok_load_sc rfl ty42 (bx_at r2) rfl) rfl ?_
      clear hs a; intro a hs
      refine q_ok hs (ok_bin rfl rfl rfl) rfl ?_
      clear hs a; intro a hs
      refine wpQuiet_nil ?_; clear m w26; intro w30 m
      refine c_cond hs rfl (fun h31 => ?_) (fun h31 => ?_)
      · have h31p := ne_of_bne h31
        refine c_last ?_
        refine r_ok hs m (ok_move rfl) rfl ?_
        clear hs a; intro a hs
        refine r_ok hs m (ok_move rfl) rfl ?_
        clear hs a; intro a hs
        refine r_ok hs m (ok_move rfl) rfl ?_
        clear hs a; intro a hs
        refine elF (c := cNeigh) (e := e16) hs m (x := (.tmp 39)) (ix := (.tmp 40)) rfl rfl sl26 ty54 hl (by omega) he17 fun p32 hp33 ok34 => ?_
        refine r_ok hs m (ok34 _ _ _ _ _) rfl ?_
        clear hs a; intro a hs
        refine r_ok hs m (ok_load_ag (vs := cNeigh e16) rfl ty54 (fr_at hp33) rfl rfl) rfl ?_
        clear hs a; intro a hs
        refine r_buildM (c := cNeigh) (ys := [e16]) hs m sl26 ty54 ze54 rfl rfl rfl rfl rfl (fun _ => rfl) rfl rfl rfl ?_
        clear m hs a w30; intro v35 w36 m a hs
        refine r_appendM (c := cNeigh) (xs := ((insA (fun e => decide (q.IP.v < e.IP.v)) (fun e => e.IP.v == q.IP.v) q l put k).1) ++ [q]) (ys := [e16]) hs m rfl rfl sl26 ni26 ty54 ze54 rfl by54 rfl r1 (m.rdv r0) (fun _ => rfl) (by first | omega | (simp; done) | (simp; omega)) rfl ?_
        clear m hs a w36; intro v37 w38 m a hs
        refine r_ok hs m (ok_assign rfl) rfl ?_
        clear hs a; intro a hs
        refine wpList_nil (n_block (n_then ?_))
        refine c_last ?_
        refine r_ok hs m (ok_move rfl) rfl ?_
        clear hs a; intro a hs
        refine r_ok hs m (ok_add (r := (k : Int) + 1) rfl rfl (wrap_i64 (by omega) (by omega))) rfl ?_
        clear hs a; intro a hs
        refine r_ok hs m (ok_assign rfl) rfl ?_
        clear hs a; intro a hs
        refine wpList_nil (n_then ?_)
        have q39 : ((insA (fun e => decide (q.IP.v < e.IP.v)) (fun e => e.IP.v == q.IP.v) q l put k).1) ++ [q] ++ [e16] = (insA (fun e => decide (q.IP.v < e.IP.v)) (fun e => e.IP.v == q.IP.v) q l put (k + 1)).1 := by first | (rw [insA_0]; done) | exact insA_tt (by assumption) hp (by assumption) (by assumption) (by assumption) | exact insA_tf (by assumption) hp (by assumption) (by assumption) (by assumption) | exact insA_ft (by assumption) hp (by assumption) (by assumption) (by assumption) | exact insA_ff (by assumption) hp (by assumption) (by assumption) (by assumption) | exact insA_nt (by assumption) hp (by assumption) (by assumption) | exact insA_nf (by assumption) hp (by assumption) (by assumption)
        rw [q39] at m
        exact ⟨l.length - (k + 1), by omega, k + 1, false, v37, by omega, by first | exact insA_pt (by assumption) hp (by assumption) (by assumption) | exact insA_pf (by assumption) hp (by assumption) (by assumption) | exact insA_pn (by assumption) hp (by assumption), rfl, hs.to ⟨rfl, rfl, rfl, rfl, rfl, trivial⟩, m.sub (.c r3 (.c r0 .n))⟩
      have h31p := eq_of_bne_false h31
      refine wp_skip ?_
      refine n_block (n_then ?_)
      refine c_last ?_
      refine r_ok hs m (ok_move rfl) rfl ?_
      clear hs a; intro a hs
      refine r_ok hs m (ok_add (r := (k : Int) + 1) rfl rfl (wrap_i64 (by omega) (by omega))) rfl ?_
      clear hs a; intro a hs
      refine r_ok hs m (ok_assign rfl) rfl ?_
      clear hs a; intro a hs
      refine wpList_nil (n_then ?_)
      have q40 : ((insA (fun e => decide (q.IP.v < e.IP.v)) (fun e => e.IP.v == q.IP.v) q l put k).1) ++ [q] = (insA (fun e => decide (q.IP.v < e.IP.v)) (fun e => e.IP.v == q.IP.v) q l put (k + 1)).1 := by first | (rw [insA_0]; done) | exact insA_tt (by assumption) hp (by assumption) (by assumption) (by assumption) | exact insA_tf (by assumption) hp (by assumption) (by assumption) (by assumption) | exact insA_ft (by assumption) hp (by assumption) (by assumption) (by assumption) | exact insA_ff (by assumption) hp (by assumption) (by assumption) (by assumption) | exact insA_nt (by assumption) hp (by assumption) (by assumption) | exact insA_nf (by assumption) hp (by assumption) (by assumption)
      rw [q40] at m
      exact ⟨l.length - (k + 1), by omega, k + 1, false, v25, by omega, by first | exact insA_pt (by assumption) hp (by assumption) (by assumption) | exact insA_pf (by assumption) hp (by assumption) (by assumption) | exact insA_pn (by assumption) hp (by assumption), rfl, hs.to ⟨rfl, rfl, rfl, rfl, rfl, trivial⟩, m.sub (.c r2 (.c r0 .n))⟩
    have h22p := of_decide_eq_false h22
    refine wp_skip ?_
    refine n_then ?_
    refine c_draw m mo (by kernel_rfl) ?_
    refine q_ok hs (ok_move rfl) rfl ?_
    clear hs a; intro a hs
    refine q_ok hs (ok_move rfl) rfl ?_
    clear hs a; intro a hs
    refine elF (c := cNeigh) (e := e16) hs m (x := (.tmp 30)) (ix := (.tmp 31)) rfl rfl sl26 ty54 hl (by omega) he17 fun p41 hp42 ok43 => ?_
    refine q_ok hs (ok43 _ _ _ _ _) rfl ?_
    clear hs a; intro a hs
    refine q_ok hs (ok_fieldAddr (r := 0) rfl fd54_0 ty42 rfl) rfl ?_
    clear hs a; intro a hs
    refine q_ok hs (ok_load_sc rfl ty42 (fr_at hp42) rfl) rfl ?_
    clear hs a; intro a hs
    refine q_ok hs (ok_fieldAddr (r := 0) rfl fd54_0 ty42 rfl) rfl ?_
    clear hs a; intro a hs
    refine q_ok hs (ok_load_sc rfl ty42 (bx_at r0) rfl) rfl ?_
    clear hs a; intro a hs
    refine q_ok hs (ok_bin rfl rfl rfl) rfl ?_
    clear hs a; intro a hs
    refine wpQuiet_nil ?_; clear m w21; intro w44 m
    refine c_cond hs rfl (fun h45 => ?_) (fun h45 => ?_)
    · have h45p := ne_of_bne h45
      refine c_last ?_
      refine r_ok hs m (ok_move rfl) rfl ?_
      clear hs a; intro a hs
      refine r_ok hs m (ok_move rfl) rfl ?_
      clear hs a; intro a hs
      refine r_ok hs m (ok_move rfl) rfl ?_
      clear hs a; intro a hs
      refine elF (c := cNeigh) (e := e16) hs m (x := (.tmp 39)) (ix := (.tmp 40)) rfl rfl sl26 ty54 hl (by omega) he17 fun p46 hp47 ok48 => ?_
      refine r_ok hs m (ok48 _ _ _ _ _) rfl ?_
      clear hs a; intro a hs
      refine r_ok hs m (ok_load_ag (vs := cNeigh e16) rfl ty54 (fr_at hp47) rfl rfl) rfl ?_
      clear hs a; intro a hs
      refine r_buildM (c := cNeigh) (ys := [e16]) hs m sl26 ty54 ze54 rfl rfl rfl rfl rfl (fun _ => rfl) rfl rfl rfl ?_
      clear m hs a w44; intro v49 w50 m a hs
      refine r_appendM (c := cNeigh) (xs := (insA (fun e => decide (q.IP.v < e.IP.v)) (fun e => e.IP.v == q.IP.v) q l put k).1) (ys := [e16]) hs m rfl rfl sl26 ni26 ty54 ze54 rfl by54 rfl r2 (m.rdv r0) (fun _ => rfl) (by first | omega | (simp; done) | (simp; omega)) rfl ?_
      clear m hs a w50; intro v51 w52 m a hs
      refine r_ok hs m (ok_assign rfl) rfl ?_
      clear hs a; intro a hs
      refine wpList_nil (n_block (n_then ?_))
      refine c_last ?_
      refine r_ok hs m (ok_move rfl) rfl ?_
      clear hs a; intro a hs
      refine r_ok hs m (ok_add (r := (k : Int) + 1) rfl rfl (wrap_i64 (by omega) (by omega))) rfl ?_
      clear hs a; intro a hs
      refine r_ok hs m (ok_assign rfl) rfl ?_
      clear hs a; intro a hs
      refine wpList_nil (n_then ?_)
      have q53 : ((insA (fun e => decide (q.IP.v < e.IP.v)) (fun e => e.IP.v == q.IP.v) q l put k).1) ++ [e16] = (insA (fun e => decide (q.IP.v < e.IP.v)) (fun e => e.IP.v == q.IP.v) q l put (k + 1)).1 := by first | (rw [insA_0]; done) | exact insA_tt (by assumption) hp (by assumption) (by assumption) (by assumption) | exact insA_tf (by assumption) hp (by assumption) (by assumption) (by assumption) | exact insA_ft (by assumption) hp (by assumption) (by assumption) (by assumption) | exact insA_ff (by assumption) hp (by assumption) (by assumption) (by assumption) | exact insA_nt (by assumption) hp (by assumption) (by assumption) | exact insA_nf (by assumption) hp (by assumption) (by assumption)
      rw [q53] at m
      exact ⟨l.length - (k + 1), by omega, k + 1, p, v51, by omega, by first | exact insA_pt (by assumption) hp (by assumption) (by assumption) | exact insA_pf (by assumption) hp (by assumption) (by assumption) | exact insA_pn (by assumption) hp (by assumption), rfl, hs.to ⟨rfl, rfl, rfl, rfl, rfl, trivial⟩, m.sub (.c r2 (.c r0 .n))⟩
    have h45p := eq_of_bne_false h45
    refine wp_skip ?_
    refine n_block (n_then ?_)
    refine c_last ?_
    refine r_ok hs m (ok_move rfl) rfl ?_
    clear hs a; intro a hs
    refine r_ok hs m (ok_add (r := (k : Int) + 1) rfl rfl (wrap_i64 (by omega) (by omega))) rfl ?_
    clear hs a; intro a hs
    refine r_ok hs m (ok_assign rfl) rfl ?_
    clear hs a; intro a hs
    refine wpList_nil (n_then ?_)
    have q54 : (insA (fun e => decide (q.IP.v < e.IP.v)) (fun e => e.IP.v == q.IP.v) q l put k).1 = (insA (fun e => decide (q.IP.v < e.IP.v)) (fun e => e.IP.v == q.IP.v) q l put (k + 1)).1 := by first | (rw [insA_0]; done) | exact insA_tt (by assumption) hp (by assumption) (by assumption) (by assumption) | exact insA_tf (by assumption) hp (by assumption) (by assumption) (by assumption) | exact insA_ft (by assumption) hp (by assumption) (by assumption) (by assumption) | exact insA_ff (by assumption) hp (by assumption) (by assumption) (by assumption) | exact insA_nt (by assumption) hp (by assumption) (by assumption) | exact insA_nf (by assumption) hp (by assumption) (by assumption)
    rw [q54] at m
    exact ⟨l.length - (k + 1), by omega, k + 1, p, v3, by omega, by first | exact insA_pt (by assumption) hp (by assumption) (by assumption) | exact insA_pf (by assumption) hp (by assumption) (by assumption) | exact insA_pn (by assumption) hp (by assumption), rfl, hs.to ⟨rfl, rfl, rfl, rfl, rfl, trivial⟩, m.sub (.c r0 (.c r0 .n))⟩
  · refine q_out hs rfl rfl hb15 rfl ?_
    clear hs a; intro a hs
    refine q_out hs rfl rfl hb15 rfl ?_
    clear hs a; intro a hs
    refine q_out hs rfl rfl hb15 rfl ?_
    clear hs a; intro a hs
    refine q_out hs rfl rfl hb15 rfl ?_
    clear hs a; intro a hs
    refine q_out hs rfl rfl hb15 rfl ?_
    clear hs a; intro a hs
    refine q_out hs rfl rfl hb15 rfl ?_
    clear hs a; intro a hs
    refine q_out hs rfl rfl hb15 rfl ?_
    clear hs a; intro a hs
    refine q_out hs rfl rfl hb15 rfl ?_
    clear hs a; intro a hs
    refine q_ok hs (ok_pick (r := .bool false) rfl rfl rfl (by rw [hb15]; rfl)) rfl ?_
    clear hs a; intro a hs
    refine wpQuiet_nil ?_; clear m w6; intro w55 m
    refine c_false hs rfl rfl ?_
    refine wp_skip ?_
    refine n_then ?_
    refine c_draw m mo (by kernel_rfl) ?_
    refine q_ok hs (ok_move rfl) rfl ?_
    clear hs a; intro a hs
    refine q_ok hs (ok_move rfl) rfl ?_
    clear hs a; intro a hs
    obtain ⟨e57, he58⟩ := get_of_lt (l := l) (i := k) (by omega)
    refine elF (c := cNeigh) (e := e57) hs m (x := (.tmp 30)) (ix := (.tmp 31)) rfl rfl sl26 ty54 hl (by omega) he58 fun p59 hp60 ok61 => ?_
    refine q_ok hs (ok61 _ _ _ _ _) rfl ?_
    clear hs a; intro a hs
    refine q_ok hs (ok_fieldAddr (r := 0) rfl fd54_0 ty42 rfl) rfl ?_
    clear hs a; intro a hs
    refine q_ok hs (ok_load_sc rfl ty42 (fr_at hp60) rfl) rfl ?_
    clear hs a; intro a hs
    refine q_ok hs (ok_fieldAddr (r := 0) rfl fd54_0 ty42 rfl) rfl ?_
    clear hs a; intro a hs
    refine q_ok hs (ok_load_sc rfl ty42 (bx_at r0) rfl) rfl ?_
    clear hs a; intro a hs
    refine q_ok hs (ok_bin rfl rfl rfl) rfl ?_
    clear hs a; intro a hs
    refine wpQuiet_nil ?_; clear m w55; intro w62 m
    refine c_cond hs rfl (fun h63 => ?_) (fun h63 => ?_)
    · have h63p := ne_of_bne h63
      refine c_last ?_
      refine r_ok hs m (ok_move rfl) rfl ?_
      clear hs a; intro a hs
      refine r_ok hs m (ok_move rfl) rfl ?_
      clear hs a; intro a hs
      refine r_ok hs m (ok_move rfl) rfl ?_
      clear hs a; intro a hs
      refine elF (c := cNeigh) (e := e57) hs m (x := (.tmp 39)) (ix := (.tmp 40)) rfl rfl sl26 ty54 hl (by omega) he58 fun p64 hp65 ok66 => ?_
      refine r_ok hs m (ok66 _ _ _ _ _) rfl ?_
      clear hs a; intro a hs
      refine r_ok hs m (ok_load_ag (vs := cNeigh e57) rfl ty54 (fr_at hp65) rfl rfl) rfl ?_
      clear hs a; intro a hs
      refine r_buildM (c := cNeigh) (ys := [e57]) hs m sl26 ty54 ze54 rfl rfl rfl rfl rfl (fun _ => rfl) rfl rfl rfl ?_
      clear m hs a w62; intro v67 w68 m a hs
      refine r_appendM (c := cNeigh) (xs := (insA (fun e => decide (q.IP.v < e.IP.v)) (fun e => e.IP.v == q.IP.v) q l put k).1) (ys := [e57]) hs m rfl rfl sl26 ni26 ty54 ze54 rfl by54 rfl r2 (m.rdv r0) (fun _ => rfl) (by first | omega | (simp; done) | (simp; omega)) rfl ?_
      clear m hs a w68; intro v69 w70 m a hs
      refine r_ok hs m (ok_assign rfl) rfl ?_
      clear hs a; intro a hs
      refine wpList_nil (n_block (n_then ?_))
      refine c_last ?_
      refine r_ok hs m (ok_move rfl) rfl ?_
      clear hs a; intro a hs
      refine r_ok hs m (ok_add (r := (k : Int) + 1) rfl rfl (wrap_i64 (by omega) (by omega))) rfl ?_
      clear hs a; intro a hs
      refine r_ok hs m (ok_assign rfl) rfl ?_
      clear hs a; intro a hs
      refine wpList_nil (n_then ?_)
      have q71 : ((insA (fun e => decide (q.IP.v < e.IP.v)) (fun e => e.IP.v == q.IP.v) q l put k).1) ++ [e57] = (insA (fun e => decide (q.IP.v < e.IP.v)) (fun e => e.IP.v == q.IP.v) q l put (k + 1)).1 := by first | (rw [insA_0]; done) | exact insA_tt (by assumption) hp (by assumption) (by assumption) (by assumption) | exact insA_tf (by assumption) hp (by assumption) (by assumption) (by assumption) | exact insA_ft (by assumption) hp (by assumption) (by assumption) (by assumption) | exact insA_ff (by assumption) hp (by assumption) (by assumption) (by assumption) | exact insA_nt (by assumption) hp (by assumption) (by assumption) | exact insA_nf (by assumption) hp (by assumption) (by assumption)
      rw [q71] at m
      exact ⟨l.length - (k + 1), by omega, k + 1, p, v69, by omega, by first | exact insA_pt (by assumption) hp (by assumption) (by assumption) | exact insA_pf (by assumption) hp (by assumption) (by assumption) | exact insA_pn (by assumption) hp (by assumption), rfl, hs.to ⟨rfl, rfl, rfl, rfl, rfl, trivial⟩, m.sub (.c r2 (.c r0 .n))⟩
    have h63p := eq_of_bne_false h63
    refine wp_skip ?_
    refine n_block (n_then ?_)
    refine c_last ?_
    refine r_ok hs m (ok_move rfl) rfl ?_
    clear hs a; intro a hs
    refine r_ok hs m (ok_add (r := (k : Int) + 1) rfl rfl (wrap_i64 (by omega) (by omega))) rfl ?_
    clear hs a; intro a hs
    refine r_ok hs m (ok_assign rfl) rfl ?_
    clear hs a; intro a hs
    refine wpList_nil (n_then ?_)
    have q72 : (insA (fun e => decide (q.IP.v < e.IP.v)) (fun e => e.IP.v == q.IP.v) q l put k).1 = (insA (fun e => decide (q.IP.v < e.IP.v)) (fun e => e.IP.v == q.IP.v) q l put (k + 1)).1 := by first | (rw [insA_0]; done) | exact insA_tt (by assumption) hp (by assumption) (by assumption) (by assumption) | exact insA_tf (by assumption) hp (by assumption) (by assumption) (by assumption) | exact insA_ft (by assumption) hp (by assumption) (by assumption) (by assumption) | exact insA_ff (by assumption) hp (by assumption) (by assumption) (by assumption) | exact insA_nt (by assumption) hp (by assumption) (by assumption) | exact insA_nf (by assumption) hp (by assumption) (by assumption)
    rw [q72] at m
    exact ⟨l.length - (k + 1), by omega, k + 1, p, v3, by omega, by first | exact insA_pt (by assumption) hp (by assumption) (by assumption) | exact insA_pf (by assumption) hp (by assumption) (by assumption) | exact insA_pn (by assumption) hp (by assumption), rfl, hs.to ⟨rfl, rfl, rfl, rfl, rfl, trivial⟩, m.sub (.c r0 (.c r0 .n))⟩
theorem fdbsAfter_c (vl : SH) (l : List TFdb) (f : TFdb) (put : Bool) (w0 : World) (hl : RdS (hh w0) 7 vl.v (l.map cFdb)) (A1 : l.length ≤ 16777216) : Calls Tryz.prog 70 ⟨[vl.v, .agg ⟨cFdb f⟩, .bool put]⟩ w0 fun e w' => ∃ v, e = .returned v ∧ (∃ x0 : SH, v = (x0.v) ∧ Hp w0 (hh w0) [Sv 7 56 x0.v ((insB (fun e => decide (weightM f.MAC < weightM e.MAC)) (fun e => decide (e.MAC = f.MAC)) f l put).map cFdb)] w') := by
  have lvl := hl.bd
  refine enter (n := 53) Tryz.func70 rfl rfl rfl fun a (hs : St 53 [(0, vl.v), (1, .agg ⟨cFdb f⟩), (2, .bool put)] a) => ?_
  have m := Hp.start w0
  refine c_reg ?_
  refine r_box (cs := cFdb f) hs m rfl rfl rfl ?_
  clear m hs a; intro p1 w2 m a hs
  refine r_ok hs m (ok_assign rfl) rfl ?_
  clear hs a; intro a hs
  refine wpList_nil (n_then ?_)
  refine c_reg ?_
  refine r_ok hs m (ok_assign rfl) rfl ?_
  clear hs a; intro a hs
  refine wpList_nil (n_then ?_)
  refine c_seq ?_
  refine c_reg ?_
  refine r_ok hs m (ok_assign rfl) rfl ?_
  clear hs a; intro a hs
  refine wpList_nil (n_then ?_)
  refine wp_block ?_
  replace m := m.nilSvM cFdb 7 56
  have q5 : ([] : List TFdb) = (insA (fun e => decide (weightM f.MAC < weightM e.MAC)) (fun e => decide (e.MAC = f.MAC)) f l put 0).1 := by first | (rw [insA_0]; done) | exact insA_tt (by assumption) hp (by assumption) (by assumption) (by assumption) | exact insA_tf (by assumption) hp (by assumption) (by assumption) (by assumption) | exact insA_ft (by assumption) hp (by assumption) (by assumption) (by assumption) | exact insA_ff (by assumption) hp (by assumption) (by assumption) (by assumption) | exact insA_nt (by assumption) hp (by assumption) (by assumption) | exact insA_nf (by assumption) hp (by assumption) (by assumption)
  rw [q5] at m
  refine wp_loop_ghost (fun gn a w => ∃ k : Nat, ∃ p : Bool, ∃ v3 : SH, (k ≤ l.length) ∧ (p = (insA (fun e => decide (weightM f.MAC < weightM e.MAC)) (fun e => decide (e.MAC = f.MAC)) f l put k).2) ∧ gn = l.length - k ∧ St 53 [(0, vl.v), (2, .bool p), (4, .pointer (some (padd p1 0))), (7, v3.v), (8, .int .i64 (k : Int))] a ∧ Hp w0 (hh w0) [Bx p1 56 (cFdb f), Sv 7 56 v3.v (((insA (fun e => decide (weightM f.MAC < weightM e.MAC)) (fun e => decide (e.MAC = f.MAC)) f l put k).1).map cFdb)] w) (l.length - 0) ⟨0, put, nilH, by omega, by rw [insA_0], rfl, hs.to ⟨rfl, rfl, rfl, rfl, rfl, trivial⟩, m.sub (.c r1 (.c r0 .n))⟩ ?_
  clear hs m a w2
  rintro gn a w6 ⟨k, p, v3, hk, hp, rfl, hs, m⟩
  have hal := insA_len (lw := fun e => decide (weightM f.MAC < weightM e.MAC)) (eq := fun e => decide (e.MAC = f.MAC)) (x := f) (l := l) (p := put) (k := k)
  refine c_seq ?_
  refine c_reg ?_
  refine r_ok hs m (ok_move rfl) rfl ?_
  clear hs a; intro a hs
  refine r_ok hs m (ok_move rfl) rfl ?_
  clear hs a; intro a hs
  refine r_ok hs m (ok_len (r := (l.length : Int)) m rfl sl27 (rc_fr hl) (by simp)) rfl ?_
  clear hs a; intro a hs
  refine r_ok hs m (ok_bin rfl rfl rfl) rfl ?_
  clear hs a; intro a hs
  refine wpList_nil (n_then ?_)
  refine c_cond hs rfl (fun h7 => ?_) (fun h7 => ?_)
  rotate_left
  · have h7p := of_decide_eq_false h7
    refine wp_exit ?_
    refine ex_then (ex_then (ex_hit (?_)))
    refine n_then ?_
    refine c_seq ?_
    refine c_reg ?_
    refine r_ok hs m (ok_move rfl) rfl ?_
    clear hs a; intro a hs
    refine wpList_nil (n_then ?_)
    refine c_cond hs rfl (fun h8 => ?_) (fun h8 => ?_)
    · refine c_last ?_
      refine r_ok hs m (ok_move rfl) rfl ?_
      clear hs a; intro a hs
      refine r_ok hs m (ok_load_ag (vs := cFdb f) rfl ty56 (bx_at r0) rfl rfl) rfl ?_
      clear hs a; intro a hs
      refine r_buildM (c := cFdb) (ys := [f]) hs m sl27 ty56 ze56 rfl rfl rfl rfl rfl (fun _ => rfl) rfl rfl rfl ?_
      clear m hs a w6; intro v9 w10 m a hs
      refine r_appendM (c := cFdb) (xs := (insA (fun e => decide (weightM f.MAC < weightM e.MAC)) (fun e => decide (e.MAC = f.MAC)) f l put k).1) (ys := [f]) hs m rfl rfl sl27 ni27 ty56 ze56 rfl by56 rfl r2 (m.rdv r0) (fun _ => rfl) (by first | omega | (simp; done) | (simp; omega)) rfl ?_
      clear m hs a w10; intro v11 w12 m a hs
      refine r_ok hs m (ok_assign rfl) rfl ?_
      clear hs a; intro a hs
      refine wpList_nil (n_then ?_)
      refine c_reg ?_
      refine r_ok hs m (ok_move rfl) rfl ?_
      clear hs a; intro a hs
      refine r_ok hs m (ok_assign rfl) rfl ?_
      clear hs a; intro a hs
      refine wpList_nil (n_then ?_)
      refine wp_ret ?_
      refine leave hs (vs := [v11.v]) rfl ⟨rfl, trivial⟩ ?_
      have q13 : ((insA (fun e => decide (weightM f.MAC < weightM e.MAC)) (fun e => decide (e.MAC = f.MAC)) f l put k).1) ++ [f] = insB (fun e => decide (weightM f.MAC < weightM e.MAC)) (fun e => decide (e.MAC = f.MAC)) f l put := by first | exact insA_t (by omega) hp (by assumption) | exact insA_f (by omega) hp (by assumption)
      rw [q13] at m
      refine ⟨_, rfl, v11, ?_, m.sub (.c r0 .n)⟩
      rfl
    refine wp_skip ?_
    refine n_then ?_
    refine c_reg ?_
    refine r_ok hs m (ok_move rfl) rfl ?_
    clear hs a; intro a hs
    refine r_ok hs m (ok_assign rfl) rfl ?_
    clear hs a; intro a hs
    refine wpList_nil (n_then ?_)
    refine wp_ret ?_
    refine leave hs (vs := [v3.v]) rfl ⟨rfl, trivial⟩ ?_
    have q14 : (insA (fun e => decide (weightM f.MAC < weightM e.MAC)) (fun e => decide (e.MAC = f.MAC)) f l put k).1 = insB (fun e => decide (weightM f.MAC < weightM e.MAC)) (fun e => decide (e.MAC = f.MAC)) f l put := by first | exact insA_t (by omega) hp (by assumption) | exact insA_f (by omega) hp (by assumption)
    rw [q14] at m
    refine ⟨_, rfl, v3, ?_, m.sub (.c r1 .n)⟩
    rfl
  have h7p := of_decide_eq_true h7
  refine wp_skip ?_
  refine n_then ?_
  refine c_seq ?_
  refine wp_block ?_
  refine c_seq ?_
  refine c_draw m mo (by kernel_rfl) ?_
  refine q_ok hs (ok_move rfl) rfl ?_
  clear hs a; intro a hs
  refine q_ok hs (ok_move rfl) rfl ?_
  clear hs a; intro a hs
  rcases Bool.eq_false_or_eq_true p with hb15 | hb15
  · refine q_okg hs rfl rfl hb15 (ok_fieldAddr (r := 0) rfl fd56_0 ty46 rfl) rfl ?_
    clear hs a; intro a hs
    refine q_okg hs rfl rfl hb15 (ok_load_ag (vs := cMAC f.MAC) rfl ty46 (bx_at r0) rfl rfl) rfl ?_
    clear hs a; intro a hs
    refine q_callPg hs rfl rfl hb15 rfl rfl ca67 rfl (fun w m => weightO_c f.MAC w  ) rfl ?_
    clear hs a; intro a hs
    refine q_okg hs rfl rfl hb15 (ok_move rfl) rfl ?_
    clear hs a; intro a hs
    refine q_okg hs rfl rfl hb15 (ok_move rfl) rfl ?_
    clear hs a; intro a hs
    obtain ⟨e16, he17⟩ := get_of_lt (l := l) (i := k) (by omega)
    refine elF (c := cFdb) (e := e16) hs m (x := (.tmp 20)) (ix := (.tmp 21)) rfl rfl sl27 ty56 hl (by omega) he17 fun p18 hp19 ok20 => ?_
    refine q_okg hs rfl rfl hb15 (ok20 _ _ _ _ _) rfl ?_
    clear hs a; intro a hs
    refine q_okg hs rfl rfl hb15 (ok_fieldAddr (r := 0) rfl fd56_0 ty46 rfl) rfl ?_
    clear hs a; intro a hs
    refine q_okg hs rfl rfl hb15 (ok_load_ag (vs := cMAC e16.MAC) rfl ty46 (fr_at hp19) rfl rfl) rfl ?_
    clear hs a; intro a hs
    refine q_callPg hs rfl rfl hb15 rfl rfl ca67 rfl (fun w m => weightO_c e16.MAC w  ) rfl ?_
    clear hs a; intro a hs
    refine q_okg hs rfl rfl hb15 (ok_bin rfl rfl rfl) rfl ?_
    clear hs a; intro a hs
    refine q_ok hs (ok_pick (r := .bool (decide ((weightM f.MAC) < (weightM e16.MAC)))) rfl rfl rfl (by rw [hb15]; rfl)) rfl ?_
    clear hs a; intro a hs
    refine wpQuiet_nil ?_; clear m w6; intro w21 m
    refine c_cond hs rfl (fun h22 => ?_) (fun h22 => ?_)
    · have h22p := of_decide_eq_true h22
      refine c_reg ?_
      refine r_ok hs m (ok_move rfl) rfl ?_
      clear hs a; intro a hs
      refine r_ok hs m (ok_load_ag (vs := cFdb f) rfl ty56 (bx_at r0) rfl rfl) rfl ?_
      clear hs a; intro a hs
      refine r_buildM (c := cFdb) (ys := [f]) hs m sl27 ty56 ze56 rfl rfl rfl rfl rfl (fun _ => rfl) rfl rfl rfl ?_
      clear m hs a w21; intro v23 w24 m a hs
      refine r_appendM (c := cFdb) (xs := (insA (fun e => decide (weightM f.MAC < weightM e.MAC)) (fun e => decide (e.MAC = f.MAC)) f l put k).1) (ys := [f]) hs m rfl rfl sl27 ni27 ty56 ze56 rfl by56 rfl r2 (m.rdv r0) (fun _ => rfl) (by first | omega | (simp; done) | (simp; omega)) rfl ?_
      clear m hs a w24; intro v25 w26 m a hs
      refine r_ok hs m (ok_assign rfl) rfl ?_
      clear hs a; intro a hs
      refine wpList_nil (n_then ?_)
      refine c_last ?_
      refine r_ok hs m (ok_assign rfl) rfl ?_
      clear hs a; intro a hs
      refine wpList_nil (n_then ?_)
      refine c_draw m mo (by kernel_rfl) ?_
      refine q_ok hs (ok_move rfl) rfl ?_
      clear hs a; intro a hs
      refine q_ok hs (ok_move rfl) rfl ?_
      clear hs a; intro a hs
      refine elF (c := cFdb) (e := e16) hs m (x := (.tmp 32)) (ix := (.tmp 33)) rfl rfl sl27 ty56 hl (by omega) he17 fun p27 hp28 ok29 => ?_
      refine q_ok hs (ok29 _ _ _ _ _) rfl ?_
      clear hs a; intro a hs
      refine q_ok hs (ok_fieldAddr (r := 0) rfl fd56_0 ty46 rfl) rfl ?_
      clear hs a; intro a hs
      refine q_ok hs (ok_load_ag (vs := cMAC e16.MAC) rfl ty46 (fr_at hp28) rfl rfl) rfl ?_
      clear hs a; intro a hs
      refine q_ok hs (ok_fieldAddr (r := 0) rfl fd56_0 ty46 rfl) rfl ?_
      clear hs a; intro a hs
      refine q_ok hs (ok_load_ag (vs := cMAC f.MAC) rfl ty46 (bx_at r2) rfl rfl) rfl ?_
      clear hs a; intro a hs
      refine q_ok hs (ok_nev (b := decide (e16.MAC = f.MAC)) rfl rfl eqT46 (fMAC _) (fMAC _) (iMAC e16.MAC f.MAC)) rfl ?_
      clear hs a; intro a hs
      refine wpQuiet_nil ?_; clear m w26; intro w30 m
      refine c_cond hs rfl (fun h31 => ?_) (fun h31 => ?_)
      · have h31p := h31; simp only [Bool.or_eq_true, Bool.or_eq_false_iff, Bool.and_eq_true, Bool.and_eq_false_iff, Bool.not_eq_true', Bool.not_eq_false', decide_eq_true_eq, decide_eq_false_iff_not, beq_iff_eq, bne_iff_ne, beq_eq_false_iff_ne, bne_eq_false_iff_eq, ne_eq, gt_iff_lt, ge_iff_le, Int.not_lt, Int.not_le] at h31p
        refine c_last ?_
        refine r_ok hs m (ok_move rfl) rfl ?_
        clear hs a; intro a hs
        refine r_ok hs m (ok_move rfl) rfl ?_
        clear hs a; intro a hs
        refine r_ok hs m (ok_move rfl) rfl ?_
        clear hs a; intro a hs
        refine elF (c := cFdb) (e := e16) hs m (x := (.tmp 41)) (ix := (.tmp 42)) rfl rfl sl27 ty56 hl (by omega) he17 fun p32 hp33 ok34 => ?_
        refine r_ok hs m (ok34 _ _ _ _ _) rfl ?_
        clear hs a; intro a hs
        refine r_ok hs m (ok_load_ag (vs := cFdb e16) rfl ty56 (fr_at hp33) rfl rfl) rfl ?_
        clear hs a; intro a hs
        refine r_buildM (c := cFdb) (ys := [e16]) hs m sl27 ty56 ze56 rfl rfl rfl rfl rfl (fun _ => rfl) rfl rfl rfl ?_
        clear m hs a w30; intro v35 w36 m a hs
        refine r_appendM (c := cFdb) (xs := ((insA (fun e => decide (weightM f.MAC < weightM e.MAC)) (fun e => decide (e.MAC = f.MAC)) f l put k).1) ++ [f]) (ys := [e16]) hs m rfl rfl sl27 ni27 ty56 ze56 rfl by56 rfl r1 (m.rdv r0) (fun _ => rfl) (by first | omega | (simp; done) | (simp; omega)) rfl ?_
        clear m hs a w36; intro v37 w38 m a hs
        refine r_ok hs m (ok_assign rfl) rfl ?_
        clear hs a; intro a hs
        refine wpList_nil (n_block (n_then ?_))
        refine c_last ?_
        refine r_ok hs m (ok_move rfl) rfl ?_
        clear hs a; intro a hs
        refine r_ok hs m (ok_add (r := (k : Int) + 1) rfl rfl (wrap_i64 (by omega) (by omega))) rfl ?_
        clear hs a; intro a hs
        refine r_ok hs m (ok_assign rfl) rfl ?_
        clear hs a; intro a hs
        refine wpList_nil (n_then ?_)
        have q39 : ((insA (fun e => decide (weightM f.MAC < weightM e.MAC)) (fun e => decide (e.MAC = f.MAC)) f l put k).1) ++ [f] ++ [e16] = (insA (fun e => decide (weightM f.MAC < weightM e.MAC)) (fun e => decide (e.MAC = f.MAC)) f l put (k + 1)).1 := by first | (rw [insA_0]; done) | exact insA_tt (by assumption) hp (by assumption) (by assumption) (by assumption) | exact insA_tf (by assumption) hp (by assumption) (by assumption) (by assumption) | exact insA_ft (by assumption) hp (by assumption) (by assumption) (by assumption) | exact insA_ff (by assumption) hp (by assumption) (by assumption) (by assumption) | exact insA_nt (by assumption) hp (by assumption) (by assumption) | exact insA_nf (by assumption) hp (by assumption) (by assumption)
        rw [q39] at m
        exact ⟨l.length - (k + 1), by omega, k + 1, false, v37, by omega, by first | exact insA_pt (by assumption) hp (by assumption) (by assumption) | exact insA_pf (by assumption) hp (by assumption) (by assumption) | exact insA_pn (by assumption) hp (by assumption), rfl, hs.to ⟨rfl, rfl, rfl, rfl, rfl, trivial⟩, m.sub (.c r3 (.c r0 .n))⟩
      have h31p := h31; simp only [Bool.or_eq_true, Bool.or_eq_false_iff, Bool.and_eq_true, Bool.and_eq_false_iff, Bool.not_eq_true', Bool.not_eq_false', decide_eq_true_eq, decide_eq_false_iff_not, beq_iff_eq, bne_iff_ne, beq_eq_false_iff_ne, bne_eq_false_iff_eq, ne_eq, gt_iff_lt, ge_iff_le, Int.not_lt, Int.not_le] at h31p
      refine wp_skip ?_
      refine n_block (n_then ?_)
      refine c_last ?_
      refine r_ok hs m (ok_move rfl) rfl ?_
      clear hs a; intro a hs
      refine r_ok hs m (ok_add (r := (k : Int) + 1) rfl rfl (wrap_i64 (by omega) (by omega))) rfl ?_
      clear hs a; intro a hs
      refine r_ok hs m (ok_assign rfl) rfl ?_
      clear hs a; intro a hs
      refine wpList_nil (n_then ?_)
      have q40 : ((insA (fun e => decide (weightM f.MAC < weightM e.MAC)) (fun e => decide (e.MAC = f.MAC)) f l put k).1) ++ [f] = (insA (fun e => decide (weightM f.MAC < weightM e.MAC)) (fun e => decide (e.MAC = f.MAC)) f l put (k + 1)).1 := by first | (rw [insA_0]; done) | exact insA_tt (by assumption) hp (by assumption) (by assumption) (by assumption) | exact insA_tf (by assumption) hp (by assumption) (by assumption) (by assumption) | exact insA_ft (by assumption) hp (by assumption) (by assumption) (by assumption) | exact insA_ff (by assumption) hp (by assumption) (by assumption) (by assumption) | exact insA_nt (by assumption) hp (by assumption) (by assumption) | exact insA_nf (by assumption) hp (by assumption) (by assumption)
      rw [q40] at m
      exact ⟨l.length - (k + 1), by omega, k + 1, false, v25, by omega, by first | exact insA_pt (by assumption) hp (by assumption) (by assumption) | exact insA_pf (by assumption) hp (by assumption) (by assumption) | exact insA_pn (by assumption) hp (by assumption), rfl, hs.to ⟨rfl, rfl, rfl, rfl, rfl, trivial⟩, m.sub (.c r2 (.c r0 .n))⟩
    have h22p := of_decide_eq_false h22
    refine wp_skip ?_
    refine n_then ?_
    refine c_draw m mo (by kernel_rfl) ?_
    refine q_ok hs (ok_move rfl) rfl ?_
    clear hs a; intro a hs
    refine q_ok hs (ok_move rfl) rfl ?_
    clear hs a; intro a hs
    refine elF (c := cFdb) (e := e16) hs m (x := (.tmp 32)) (ix := (.tmp 33)) rfl rfl sl27 ty56 hl (by omega) he17 fun p41 hp42 ok43 => ?_
    refine q_ok hs (ok43 _ _ _ _ _) rfl ?_
    clear hs a; intro a hs
    refine q_ok hs (ok_fieldAddr (r := 0) rfl fd56_0 ty46 rfl) rfl ?_
    clear hs a; intro a hs
    refine q_ok hs (ok_load_ag (vs := cMAC e16.MAC) rfl ty46 (fr_at hp42) rfl rfl) rfl ?_
    clear hs a; intro a hs
    refine q_ok hs (ok_fieldAddr (r := 0) rfl fd56_0 ty46 rfl) rfl ?_
    clear hs a; intro a hs
    refine q_ok hs (ok_load_ag (vs := cMAC f.MAC) rfl ty46 (bx_at r0) rfl rfl) rfl ?_
    clear hs a; intro a hs
    refine q_ok hs (ok_nev (b := decide (e16.MAC = f.MAC)) rfl rfl eqT46 (fMAC _) (fMAC _) (iMAC e16.MAC f.MAC)) rfl ?_
    clear hs a; intro a hs
    refine wpQuiet_nil ?_; clear m w21; intro w44 m
    refine c_cond hs rfl (fun h45 => ?_) (fun h45 => ?_)
    · have h45p := h45; simp only [Bool.or_eq_true, Bool.or_eq_false_iff, Bool.and_eq_true, Bool.and_eq_false_iff, Bool.not_eq_true', Bool.not_eq_false', decide_eq_true_eq, decide_eq_false_iff_not, beq_iff_eq, bne_iff_ne, beq_eq_false_iff_ne, bne_eq_false_iff_eq, ne_eq, gt_iff_lt, ge_iff_le, Int.not_lt, Int.not_le] at h45p
      refine c_last ?_
      refine r_ok hs m (ok_move rfl) rfl ?_
      clear hs a; intro a hs
      refine r_ok hs m (ok_move rfl) rfl ?_
      clear hs a; intro a hs
      refine r_ok hs m (ok_move rfl) rfl ?_
      clear hs a; intro a hs
      refine elF (c := cFdb) (e := e16) hs m (x := (.tmp 41)) (ix := (.tmp 42)) rfl rfl sl27 ty56 hl (by omega) he17 fun p46 hp47 ok48 => ?_
      refine r_ok hs m (ok48 _ _ _ _ _) rfl ?_
      clear hs a; intro a hs
      refine r_ok hs m (ok_load_ag (vs := cFdb e16) rfl ty56 (fr_at hp47) rfl rfl) rfl ?_
      clear hs a; intro a hs
      refine r_buildM (c := cFdb) (ys := [e16]) hs m sl27 ty56 ze56 rfl rfl rfl rfl rfl (fun _ => rfl) rfl rfl rfl ?_
      clear m hs a w44; intro v49 w50 m a hs
      refine r_appendM (c := cFdb) (xs := (insA (fun e => decide (weightM f.MAC < weightM e.MAC)) (fun e => decide (e.MAC = f.MAC)) f l put k).1) (ys := [e16]) hs m rfl rfl sl27 ni27 ty56 ze56 rfl by56 rfl r2 (m.rdv r0) (fun _ => rfl) (by first | omega | (simp; done) | (simp; omega)) rfl ?_
      clear m hs a w50; intro v51 w52 m a hs
      refine r_ok hs m (ok_assign rfl) rfl ?_
      clear hs a; intro a hs
      refine wpList_nil (n_block (n_then ?_))
      refine c_last ?_
      refine r_ok hs m (ok_move rfl) rfl ?_
      clear hs a; intro a hs
      refine r_ok hs m (ok_add (r := (k : Int) + 1) rfl rfl (wrap_i64 (by omega) (by omega))) rfl ?_
      clear hs a; intro a hs
      refine r_ok hs m (ok_assign rfl) rfl ?_
      clear hs a; intro a hs
      refine wpList_nil (n_then ?_)
      have q53 : ((insA (fun e => decide (weightM f.MAC < weightM e.MAC)) (fun e => decide (e.MAC = f.MAC)) f l put k).1) ++ [e16] = (insA (fun e => decide (weightM f.MAC < weightM e.MAC)) (fun e => decide (e.MAC = f.MAC)) f l put (k + 1)).1 := by first | (rw [insA_0]; done) | exact insA_tt (by assumption) hp (by assumption) (by assumption) (by assumption) | exact insA_tf (by assumption) hp (by assumption) (by assumption) (by assumption) | exact insA_ft (by assumption) hp (by assumption) (by assumption) (by assumption) | exact insA_ff (by assumption) hp (by assumption) (by assumption) (by assumption) | exact insA_nt (by assumption) hp (by assumption) (by assumption) | exact insA_nf (by assumption) hp (by assumption) (by assumption)
      rw [q53] at m
      exact ⟨l.length - (k + 1), by omega, k + 1, p, v51, by omega, by first | exact insA_pt (by assumption) hp (by assumption) (by assumption) | exact insA_pf (by assumption) hp (by assumption) (by assumption) | exact insA_pn (by assumption) hp (by assumption), rfl, hs.to ⟨rfl, rfl, rfl, rfl, rfl, trivial⟩, m.sub (.c r2 (.c r0 .n))⟩
    have h45p := h45; simp only [Bool.or_eq_true, Bool.or_eq_false_iff, Bool.and_eq_true, Bool.and_eq_false_iff, Bool.not_eq_true', Bool.not_eq_false', decide_eq_true_eq, decide_eq_false_iff_not, beq_iff_eq, bne_iff_ne, beq_eq_false_iff_ne, bne_eq_false_iff_eq, ne_eq, gt_iff_lt, ge_iff_le, Int.not_lt, Int.not_le] at h45p
    refine wp_skip ?_
    refine n_block (n_then ?_)
    refine c_last ?_
    refine r_ok hs m (ok_move rfl) rfl ?_
    clear hs a; intro a hs
    refine r_ok hs m (ok_add (r := (k : Int) + 1) rfl rfl (wrap_i64 (by omega) (by omega))) rfl ?_
    clear hs a; intro a hs
    refine r_ok hs m (ok_assign rfl) rfl ?_
    clear hs a; intro a hs
    refine wpList_nil (n_then ?_)
    have q54 : (insA (fun e => decide (weightM f.MAC < weightM e.MAC)) (fun e => decide (e.MAC = f.MAC)) f l put k).1 = (insA (fun e => decide (weightM f.MAC < weightM e.MAC)) (fun e => decide (e.MAC = f.MAC)) f l put (k + 1)).1 := by first | (rw [insA_0]; done) | exact insA_tt (by assumption) hp (by assumption) (by assumption) (by assumption) | exact insA_tf (by assumption) hp (by assumption) (by assumption) (by assumption) | exact insA_ft (by assumption) hp (by assumption) (by assumption) (by assumption) | exact insA_ff (by assumption) hp (by assumption) (by assumption) (by assumption) | exact insA_nt (by assumption) hp (by assumption) (by assumption) | exact insA_nf (by assumption) hp (by assumption) (by assumption)
    rw [q54] at m
    exact ⟨l.length - (k + 1), by omega, k + 1, p, v3, by omega, by first | exact insA_pt (by assumption) hp (by assumption) (by assumption) | exact insA_pf (by assumption) hp (by assumption) (by assumption) | exact insA_pn (by assumption) hp (by assumption), rfl, hs.to ⟨rfl, rfl, rfl, rfl, rfl, trivial⟩, m.sub (.c r0 (.c r0 .n))⟩
  · refine q_out hs rfl rfl hb15 rfl ?_
    clear hs a; intro a hs
    refine q_out hs rfl rfl hb15 rfl ?_
    clear hs a; intro a hs
    refine q_out hs rfl rfl hb15 rfl ?_
    clear hs a; intro a hs
    refine q_out hs rfl rfl hb15 rfl ?_
    clear hs a; intro a hs
    refine q_out hs rfl rfl hb15 rfl ?_
    clear hs a; intro a hs
    refine q_out hs rfl rfl hb15 rfl ?_
    clear hs a; intro a hs
    refine q_out hs rfl rfl hb15 rfl ?_
    clear hs a; intro a hs
    refine q_out hs rfl rfl hb15 rfl ?_
    clear hs a; intro a hs
    refine q_out hs rfl rfl hb15 rfl ?_
    clear hs a; intro a hs
    refine q_out hs rfl rfl hb15 rfl ?_
    clear hs a; intro a hs
    refine q_ok hs (ok_pick (r := .bool false) rfl rfl rfl (by rw [hb15]; rfl)) rfl ?_
    clear hs a; intro a hs
    refine wpQuiet_nil ?_; clear m w6; intro w55 m
    refine c_false hs rfl rfl ?_
    refine wp_skip ?_
    refine n_then ?_
    refine c_draw m mo (by kernel_rfl) ?_
    refine q_ok hs (ok_move rfl) rfl ?_
    clear hs a; intro a hs
    refine q_ok hs (ok_move rfl) rfl ?_
    clear hs a; intro a hs
    obtain ⟨e57, he58⟩ := get_of_lt (l := l) (i := k) (by omega)
    refine elF (c := cFdb) (e := e57) hs m (x := (.tmp 32)) (ix := (.tmp 33)) rfl rfl sl27 ty56 hl (by omega) he58 fun p59 hp60 ok61 => ?_
    refine q_ok hs (ok61 _ _ _ _ _) rfl ?_
    clear hs a; intro a hs
    refine q_ok hs (ok_fieldAddr (r := 0) rfl fd56_0 ty46 rfl) rfl ?_
    clear hs a; intro a hs
    refine q_ok hs (ok_load_ag (vs := cMAC e57.MAC) rfl ty46 (fr_at hp60) rfl rfl) rfl ?_
    clear hs a; intro a hs
    refine q_ok hs (ok_fieldAddr (r := 0) rfl fd56_0 ty46 rfl) rfl ?_
    clear hs a; intro a hs
    refine q_ok hs (ok_load_ag (vs := cMAC f.MAC) rfl ty46 (bx_at r0) rfl rfl) rfl ?_
    clear hs a; intro a hs
    refine q_ok hs (ok_nev (b := decide (e57.MAC = f.MAC)) rfl rfl eqT46 (fMAC _) (fMAC _) (iMAC e57.MAC f.MAC)) rfl ?_
    clear hs a; intro a hs
    refine wpQuiet_nil ?_; clear m w55; intro w62 m
    refine c_cond hs rfl (fun h63 => ?_) (fun h63 => ?_)
    · have h63p := h63; simp only [Bool.or_eq_true, Bool.or_eq_false_iff, Bool.and_eq_true, Bool.and_eq_false_iff, Bool.not_eq_true', Bool.not_eq_false', decide_eq_true_eq, decide_eq_false_iff_not, beq_iff_eq, bne_iff_ne, beq_eq_false_iff_ne, bne_eq_false_iff_eq, ne_eq, gt_iff_lt, ge_iff_le, Int.not_lt, Int.not_le] at h63p
      refine c_last ?_
      refine r_ok hs m (ok_move rfl) rfl ?_
      clear hs a; intro a hs
      refine r_ok hs m (ok_move rfl) rfl ?_
      clear hs a; intro a hs
      refine r_ok hs m (ok_move rfl) rfl ?_
      clear hs a; intro a hs
      refine elF (c := cFdb) (e := e57) hs m (x := (.tmp 41)) (ix := (.tmp 42)) rfl rfl sl27 ty56 hl (by omega) he58 fun p64 hp65 ok66 => ?_
      refine r_ok hs m (ok66 _ _ _ _ _) rfl ?_
      clear hs a; intro a hs
      refine r_ok hs m (ok_load_ag (vs := cFdb e57) rfl ty56 (fr_at hp65) rfl rfl) rfl ?_
      clear hs a; intro a hs
      refine r_buildM (c := cFdb) (ys := [e57]) hs m sl27 ty56 ze56 rfl rfl rfl rfl rfl (fun _ => rfl) rfl rfl rfl ?_
      clear m hs a w62; intro v67 w68 m a hs
      refine r_appendM (c := cFdb) (xs := (insA (fun e => decide (weightM f.MAC < weightM e.MAC)) (fun e => decide (e.MAC = f.MAC)) f l put k).1) (ys := [e57]) hs m rfl rfl sl27 ni27 ty56 ze56 rfl by56 rfl r2 (m.rdv r0) (fun _ => rfl) (by first | omega | (simp; done) | (simp; omega)) rfl ?_
      clear m hs a w68; intro v69 w70 m a hs
      refine r_ok hs m (ok_assign rfl) rfl ?_
      clear hs a; intro a hs
      refine wpList_nil (n_block (n_then ?_))
      refine c_last ?_
      refine r_ok hs m (ok_move rfl) rfl ?_
      clear hs a; intro a hs
      refine r_ok hs m (ok_add (r := (k : Int) + 1) rfl rfl (wrap_i64 (by omega) (by omega))) rfl ?_
      clear hs a; intro a hs
      refine r_ok hs m (ok_assign rfl) rfl ?_
      clear hs a; intro a hs
      refine wpList_nil (n_then ?_)
      have q71 : ((insA (fun e => decide (weightM f.MAC < weightM e.MAC)) (fun e => decide (e.MAC = f.MAC)) f l put k).1) ++ [e57] = (insA (fun e => decide (weightM f.MAC < weightM e.MAC)) (fun e => decide (e.MAC = f.MAC)) f l put (k + 1)).1 := by first | (rw [insA_0]; done) | exact insA_tt (by assumption) hp (by assumption) (by assumption) (by assumption) | exact insA_tf (by assumption) hp (by assumption) (by assumption) (by assumption) | exact insA_ft (by assumption) hp (by assumption) (by assumption) (by assumption) | exact insA_ff (by assumption) hp (by assumption) (by assumption) (by assumption) | exact insA_nt (by assumption) hp (by assumption) (by assumption) | exact insA_nf (by assumption) hp (by assumption) (by assumption)
      rw [q71] at m
      exact ⟨l.length - (k + 1), by omega, k + 1, p, v69, by omega, by first | exact insA_pt (by assumption) hp (by assumption) (by assumption) | exact insA_pf (by assumption) hp (by assumption) (by assumption) | exact insA_pn (by assumption) hp (by assumption), rfl, hs.to ⟨rfl, rfl, rfl, rfl, rfl, trivial⟩, m.sub (.c r2 (.c r0 .n))⟩
    have h63p := h63; simp only [Bool.or_eq_true, Bool.or_eq_false_iff, Bool.and_eq_true, Bool.and_eq_false_iff, Bool.not_eq_true', Bool.not_eq_false', decide_eq_true_eq, decide_eq_false_iff_not, beq_iff_eq, bne_iff_ne, beq_eq_false_iff_ne, bne_eq_false_iff_eq, ne_eq, gt_iff_lt, ge_iff_le, Int.not_lt, Int.not_le] at h63p
    refine wp_skip ?_
    refine n_block (n_then ?_)
    refine c_last ?_
    refine r_ok hs m (ok_move rfl) rfl ?_
    clear hs a; intro a hs
    refine r_ok hs m (ok_add (r := (k : Int) + 1) rfl rfl (wrap_i64 (by omega) (by omega))) rfl ?_
    clear hs a; intro a hs
    refine r_ok hs m (ok_assign rfl) rfl ?_
    clear hs a; intro a hs
    refine wpList_nil (n_then ?_)
    have q72 : (insA (fun e => decide (weightM f.MAC < weightM e.MAC)) (fun e => decide (e.MAC = f.MAC)) f l put k).1 = (insA (fun e => decide (weightM f.MAC < weightM e.MAC)) (fun e => decide (e.MAC = f.MAC)) f l put (k + 1)).1 := by first | (rw [insA_0]; done) | exact insA_tt (by assumption) hp (by assumption) (by assumption) (by assumption) | exact insA_tf (by assumption) hp (by assumption) (by assumption) (by assumption) | exact insA_ft (by assumption) hp (by assumption) (by assumption) (by assumption) | exact insA_ff (by assumption) hp (by assumption) (by assumption) (by assumption) | exact insA_nt (by assumption) hp (by assumption) (by assumption) | exact insA_nf (by assumption) hp (by assumption) (by assumption)
    rw [q72] at m
    exact ⟨l.length - (k + 1), by omega, k + 1, p, v3, by omega, by first | exact insA_pt (by assumption) hp (by assumption) (by assumption) | exact insA_pf (by assumption) hp (by assumption) (by assumption) | exact insA_pn (by assumption) hp (by assumption), rfl, hs.to ⟨rfl, rfl, rfl, rfl, rfl, trivial⟩, m.sub (.c r0 (.c r0 .n))⟩
theorem after_c (vt_Routes : SH) (t_Routes : List TRoute) (vt_Neighs : SH) (t_Neighs : List TNeigh) (vt_Fdbs : SH) (t_Fdbs : List TFdb) (o : TOp) (w0 : World) (R : Hh) (B : Hh) (hB : hle B R) (A0 : t_Routes.length ≤ 16777216) (A1 : t_Neighs.length ≤ 16777216) (A2 : t_Fdbs.length ≤ 16777216) (m : Hp w0 R [Ro B 4 51 vt_Routes.v (t_Routes.map cRoute), Ro B 7 54 vt_Neighs.v (t_Neighs.map cNeigh), Ro B 7 56 vt_Fdbs.v (t_Fdbs.map cFdb)] w0) : Calls Tryz.prog 25 ⟨[.agg ⟨[vt_Routes.v, vt_Neighs.v, vt_Fdbs.v]⟩, .agg ⟨cOp o⟩]⟩ w0 fun e w' => ∃ v, e = .returned v ∧ (∃ x0 : SH, ∃ x1 : SH, ∃ x2 : SH, v = (.agg ⟨[x0.v, x1.v, x2.v]⟩) ∧ Hp w0 R [Ro B 4 51 x0.v (((afterT ⟨t_Routes, t_Neighs, t_Fdbs⟩ o).R).map cRoute), Ro B 7 54 x1.v (((afterT ⟨t_Routes, t_Neighs, t_Fdbs⟩ o).N).map cNeigh), Ro B 7 56 x2.v (((afterT ⟨t_Routes, t_Neighs, t_Fdbs⟩ o).F).map cFdb)] w') := by
  have lvt_Routes := (m.rdo hB r0).bd
  have lvt_Neighs := (m.rdo hB r1).bd
  have lvt_Fdbs := (m.rdo hB r2).bd
  refine enter (n := 44) Tryz.func25 rfl rfl rfl fun a (hs : St 44 [(0, .agg ⟨[vt_Routes.v, vt_Neighs.v, vt_Fdbs.v]⟩), (1, .agg ⟨cOp o⟩)] a) => ?_
  refine c_reg ?_
  refine r_box (cs := [vt_Routes.v, vt_Neighs.v, vt_Fdbs.v]) hs m rfl rfl rfl ?_
  clear m hs a; intro p1 w2 m a hs
  refine r_box (cs := cOp o) hs m rfl rfl rfl ?_
  clear m hs a w2; intro p3 w4 m a hs
  refine r_alloc hs m ze29 rfl ?_
  clear m hs a w4; intro p5 w6 m a hs
  refine wpList_nil (n_then ?_)
  refine c_seq ?_
  refine c_reg ?_
  refine r_ok hs m (ok_fieldAddr (r := 0) rfl fd58_0 ty3 rfl) rfl ?_
  clear hs a; intro a hs
  refine r_ok hs m (ok_load_sc rfl ty3 (bx_at r1) rfl) rfl ?_
  clear hs a; intro a hs
  refine wpList_nil (n_then ?_)
  refine wp_block ?_
  refine c_seq ?_
  refine c_reg ?_
  refine r_ok hs m (ok_bin rfl rfl rfl) rfl ?_
  clear hs a; intro a hs
  refine r_ok hs m (ok_assign rfl) rfl ?_
  clear hs a; intro a hs
  refine wpList_nil (n_then ?_)
  refine c_cond hs rfl (fun h7 => ?_) (fun h7 => ?_)
  · have h7p := eq_of_beq h7
    refine wp_skip ?_
    refine n_then ?_
    refine c_true hs rfl h7 ?_
    refine c_last ?_
    refine r_ok hs m (ok_fieldAddr (r := 0) rfl fd29_0 ty25 rfl) rfl ?_
    clear hs a; intro a hs
    refine r_ok hs m (ok_load_sc rfl ty25 (bx_at r2) rfl) rfl ?_
    clear hs a; intro a hs
    refine r_ok hs m (ok_fieldAddr (r := 1) rfl fd58_1 ty51 rfl) rfl ?_
    clear hs a; intro a hs
    refine r_ok hs m (ok_load_ag (vs := cRoute o.Route) rfl ty51 (bx_at r1) rfl rfl) rfl ?_
    clear hs a; intro a hs
    refine r_ok hs m (ok_fieldAddr (r := 0) rfl fd58_0 ty3 rfl) rfl ?_
    clear hs a; intro a hs
    refine r_ok hs m (ok_load_sc rfl ty3 (bx_at r1) rfl) rfl ?_
    clear hs a; intro a hs
    refine r_ok hs m (ok_bin rfl rfl rfl) rfl ?_
    clear hs a; intro a hs
    refine r_call hs rfl rfl ca68 rfl (routesAfter_c vt_Routes t_Routes o.Route (o.Kind.v == 1) _ (m.rdo hB r3) (by first | omega | rfl | exact bsI_le _ _ | assumption | decide)) rfl ?_
    clear hs a; rintro _ w10 ⟨v9, rfl, hm⟩ a hs
    replace m : Hp w0 R [Sv 4 51 v9.v ((insB (fun e => lowerM o.Route.Dst e.Dst) (fun e => decide (e.Dst = o.Route.Dst)) o.Route t_Routes (o.Kind.v == 1)).map cRoute), Bx p5 29 [nilH.v, nilH.v, nilH.v], Bx p3 58 (cOp o), Bx p1 29 [vt_Routes.v, vt_Neighs.v, vt_Fdbs.v], Ro B 4 51 vt_Routes.v (t_Routes.map cRoute), Ro B 7 54 vt_Neighs.v (t_Neighs.map cNeigh), Ro B 7 56 vt_Fdbs.v (t_Fdbs.map cFdb)] w10 := m.after hm
    clear hm w6
    refine r_ok hs m (ok_fieldAddr (r := 0) rfl fd29_0 ty25 rfl) rfl ?_
    clear hs a; intro a hs
    refine r_store (cs' := [v9.v, vt_Neighs.v, vt_Fdbs.v]) (vs := [v9.v]) hs m rfl rfl ty25 s3 rfl rfl rfl rfl rfl ?_
    clear m w10; intro w11 m
    refine wpList_nil (n_block (n_then ?_))
    refine c_reg ?_
    refine r_ok hs m (ok_load_ag (vs := [v9.v, vt_Neighs.v, vt_Fdbs.v]) rfl ty29 (bx_at r3) rfl rfl) rfl ?_
    clear hs a; intro a hs
    refine r_store (cs' := [v9.v, vt_Neighs.v, vt_Fdbs.v]) (vs := [v9.v, vt_Neighs.v, vt_Fdbs.v]) hs m rfl rfl ty29 s1 rfl rfl rfl rfl rfl ?_
    clear m w11; intro w12 m
    refine wpList_nil (n_then ?_)
    refine wp_ret ?_
    refine leave hs (vs := [.agg ⟨[v9.v, vt_Neighs.v, vt_Fdbs.v]⟩]) rfl ⟨resv_cell (cs := [v9.v, vt_Neighs.v, vt_Fdbs.v]) m rfl ty29 r1 rfl, trivial⟩ ?_
    replace m := m.toRo (B := B) r0
    have q14 : insB (fun e => lowerM o.Route.Dst e.Dst) (fun e => decide (e.Dst = o.Route.Dst)) o.Route t_Routes (o.Kind.v == 1) = (afterT ⟨t_Routes, t_Neighs, t_Fdbs⟩ o).R := by first | exact afR1 (by omega) | exact afR2 (by omega) | exact afN1 (by omega) | exact afN2 (by omega) | exact afF1 (by omega) | exact afF2 (by omega)
    rw [q14] at m
    have q15 : t_Neighs = (afterT ⟨t_Routes, t_Neighs, t_Fdbs⟩ o).N := by first | exact afR1 (by omega) | exact afR2 (by omega) | exact afN1 (by omega) | exact afN2 (by omega) | exact afF1 (by omega) | exact afF2 (by omega)
    replace m := m.swp (q := Ro B 7 54 vt_Neighs.v (((afterT ⟨t_Routes, t_Neighs, t_Fdbs⟩ o).N).map cNeigh)) s5 (fun _ e => by rw [← q15]; exact e)
    have q16 : t_Fdbs = (afterT ⟨t_Routes, t_Neighs, t_Fdbs⟩ o).F := by first | exact afR1 (by omega) | exact afR2 (by omega) | exact afN1 (by omega) | exact afN2 (by omega) | exact afF1 (by omega) | exact afF2 (by omega)
    replace m := m.swp (q := Ro B 7 56 vt_Fdbs.v (((afterT ⟨t_Routes, t_Neighs, t_Fdbs⟩ o).F).map cFdb)) s6 (fun _ e => by rw [← q16]; exact e)
    refine ⟨_, rfl, v9, vt_Neighs, vt_Fdbs, ?_, m.sub (.c r0 (.c r4 (.c r4 .n)))⟩
    rfl
  have h7p := ne_of_beq_false h7
  refine c_last ?_
  refine r_ok hs m (ok_bin rfl rfl rfl) rfl ?_
  clear hs a; intro a hs
  refine r_ok hs m (ok_assign rfl) rfl ?_
  clear hs a; intro a hs
  refine wpList_nil (n_then ?_)
  refine c_cond hs rfl (fun h17 => ?_) (fun h17 => ?_)
  · have h17p := eq_of_beq h17
    refine c_last ?_
    refine r_ok hs m (ok_fieldAddr (r := 0) rfl fd29_0 ty25 rfl) rfl ?_
    clear hs a; intro a hs
    refine r_ok hs m (ok_load_sc rfl ty25 (bx_at r2) rfl) rfl ?_
    clear hs a; intro a hs
    refine r_ok hs m (ok_fieldAddr (r := 1) rfl fd58_1 ty51 rfl) rfl ?_
    clear hs a; intro a hs
    refine r_ok hs m (ok_load_ag (vs := cRoute o.Route) rfl ty51 (bx_at r1) rfl rfl) rfl ?_
    clear hs a; intro a hs
    refine r_ok hs m (ok_fieldAddr (r := 0) rfl fd58_0 ty3 rfl) rfl ?_
    clear hs a; intro a hs
    refine r_ok hs m (ok_load_sc rfl ty3 (bx_at r1) rfl) rfl ?_
    clear hs a; intro a hs
    refine r_ok hs m (ok_bin rfl rfl rfl) rfl ?_
    clear hs a; intro a hs
    refine r_call hs rfl rfl ca68 rfl (routesAfter_c vt_Routes t_Routes o.Route (o.Kind.v == 1) _ (m.rdo hB r3) (by first | omega | rfl | exact bsI_le _ _ | assumption | decide)) rfl ?_
    clear hs a; rintro _ w19 ⟨v18, rfl, hm⟩ a hs
    replace m : Hp w0 R [Sv 4 51 v18.v ((insB (fun e => lowerM o.Route.Dst e.Dst) (fun e => decide (e.Dst = o.Route.Dst)) o.Route t_Routes (o.Kind.v == 1)).map cRoute), Bx p5 29 [nilH.v, nilH.v, nilH.v], Bx p3 58 (cOp o), Bx p1 29 [vt_Routes.v, vt_Neighs.v, vt_Fdbs.v], Ro B 4 51 vt_Routes.v (t_Routes.map cRoute), Ro B 7 54 vt_Neighs.v (t_Neighs.map cNeigh), Ro B 7 56 vt_Fdbs.v (t_Fdbs.map cFdb)] w19 := m.after hm
    clear hm w6
    refine r_ok hs m (ok_fieldAddr (r := 0) rfl fd29_0 ty25 rfl) rfl ?_
    clear hs a; intro a hs
    refine r_store (cs' := [v18.v, vt_Neighs.v, vt_Fdbs.v]) (vs := [v18.v]) hs m rfl rfl ty25 s3 rfl rfl rfl rfl rfl ?_
    clear m w19; intro w20 m
    refine wpList_nil (n_block (n_then ?_))
    refine c_reg ?_
    refine r_ok hs m (ok_load_ag (vs := [v18.v, vt_Neighs.v, vt_Fdbs.v]) rfl ty29 (bx_at r3) rfl rfl) rfl ?_
    clear hs a; intro a hs
    refine r_store (cs' := [v18.v, vt_Neighs.v, vt_Fdbs.v]) (vs := [v18.v, vt_Neighs.v, vt_Fdbs.v]) hs m rfl rfl ty29 s1 rfl rfl rfl rfl rfl ?_
    clear m w20; intro w21 m
    refine wpList_nil (n_then ?_)
    refine wp_ret ?_
    refine leave hs (vs := [.agg ⟨[v18.v, vt_Neighs.v, vt_Fdbs.v]⟩]) rfl ⟨resv_cell (cs := [v18.v, vt_Neighs.v, vt_Fdbs.v]) m rfl ty29 r1 rfl, trivial⟩ ?_
    replace m := m.toRo (B := B) r0
    have q23 : insB (fun e => lowerM o.Route.Dst e.Dst) (fun e => decide (e.Dst = o.Route.Dst)) o.Route t_Routes (o.Kind.v == 1) = (afterT ⟨t_Routes, t_Neighs, t_Fdbs⟩ o).R := by first | exact afR1 (by omega) | exact afR2 (by omega) | exact afN1 (by omega) | exact afN2 (by omega) | exact afF1 (by omega) | exact afF2 (by omega)
    rw [q23] at m
    have q24 : t_Neighs = (afterT ⟨t_Routes, t_Neighs, t_Fdbs⟩ o).N := by first | exact afR1 (by omega) | exact afR2 (by omega) | exact afN1 (by omega) | exact afN2 (by omega) | exact afF1 (by omega) | exact afF2 (by omega)
    replace m := m.swp (q := Ro B 7 54 vt_Neighs.v (((afterT ⟨t_Routes, t_Neighs, t_Fdbs⟩ o).N).map cNeigh)) s5 (fun _ e => by rw [← q24]; exact e)
    have q25 : t_Fdbs = (afterT ⟨t_Routes, t_Neighs, t_Fdbs⟩ o).F := by first | exact afR1 (by omega) | exact afR2 (by omega) | exact afN1 (by omega) | exact afN2 (by omega) | exact afF1 (by omega) | exact afF2 (by omega)
    replace m := m.swp (q := Ro B 7 56 vt_Fdbs.v (((afterT ⟨t_Routes, t_Neighs, t_Fdbs⟩ o).F).map cFdb)) s6 (fun _ e => by rw [← q25]; exact e)
    refine ⟨_, rfl, v18, vt_Neighs, vt_Fdbs, ?_, m.sub (.c r0 (.c r4 (.c r4 .n)))⟩
    rfl
  have h17p := ne_of_beq_false h17
  refine c_seq ?_
  refine c_reg ?_
  refine r_ok hs m (ok_bin rfl rfl rfl) rfl ?_
  clear hs a; intro a hs
  refine r_ok hs m (ok_assign rfl) rfl ?_
  clear hs a; intro a hs
  refine wpList_nil (n_then ?_)
  refine c_cond hs rfl (fun h26 => ?_) (fun h26 => ?_)
  · have h26p := eq_of_beq h26
    refine wp_skip ?_
    refine n_then ?_
    refine c_true hs rfl h26 ?_
    refine c_last ?_
    refine r_ok hs m (ok_fieldAddr (r := 1) rfl fd29_1 ty26 rfl) rfl ?_
    clear hs a; intro a hs
    refine r_ok hs m (ok_load_sc rfl ty26 (bx_at r2) rfl) rfl ?_
    clear hs a; intro a hs
    refine r_ok hs m (ok_fieldAddr (r := 5) rfl fd58_2 ty54 rfl) rfl ?_
    clear hs a; intro a hs
    refine r_ok hs m (ok_load_ag (vs := cNeigh o.Neigh) rfl ty54 (bx_at r1) rfl rfl) rfl ?_
    clear hs a; intro a hs
    refine r_ok hs m (ok_fieldAddr (r := 0) rfl fd58_0 ty3 rfl) rfl ?_
    clear hs a; intro a hs
    refine r_ok hs m (ok_load_sc rfl ty3 (bx_at r1) rfl) rfl ?_
    clear hs a; intro a hs
    refine r_ok hs m (ok_bin rfl rfl rfl) rfl ?_
    clear hs a; intro a hs
    refine r_call hs rfl rfl ca69 rfl (neighsAfter_c vt_Neighs t_Neighs o.Neigh (o.Kind.v == 3) _ (m.rdo hB r4) (by first | omega | rfl | exact bsI_le _ _ | assumption | decide)) rfl ?_
    clear hs a; rintro _ w29 ⟨v28, rfl, hm⟩ a hs
    replace m : Hp w0 R [Sv 7 54 v28.v ((insB (fun e => decide (o.Neigh.IP.v < e.IP.v)) (fun e => e.IP.v == o.Neigh.IP.v) o.Neigh t_Neighs (o.Kind.v == 3)).map cNeigh), Bx p5 29 [nilH.v, nilH.v, nilH.v], Bx p3 58 (cOp o), Bx p1 29 [vt_Routes.v, vt_Neighs.v, vt_Fdbs.v], Ro B 4 51 vt_Routes.v (t_Routes.map cRoute), Ro B 7 54 vt_Neighs.v (t_Neighs.map cNeigh), Ro B 7 56 vt_Fdbs.v (t_Fdbs.map cFdb)] w29 := m.after hm
    clear hm w6
    refine r_ok hs m (ok_fieldAddr (r := 1) rfl fd29_1 ty26 rfl) rfl ?_
    clear hs a; intro a hs
    refine r_store (cs' := [vt_Routes.v, v28.v, vt_Fdbs.v]) (vs := [v28.v]) hs m rfl rfl ty26 s3 rfl rfl rfl rfl rfl ?_
    clear m w29; intro w30 m
    refine wpList_nil (n_block (n_then ?_))
    refine c_reg ?_
    refine r_ok hs m (ok_load_ag (vs := [vt_Routes.v, v28.v, vt_Fdbs.v]) rfl ty29 (bx_at r3) rfl rfl) rfl ?_
    clear hs a; intro a hs
    refine r_store (cs' := [vt_Routes.v, v28.v, vt_Fdbs.v]) (vs := [vt_Routes.v, v28.v, vt_Fdbs.v]) hs m rfl rfl ty29 s1 rfl rfl rfl rfl rfl ?_
    clear m w30; intro w31 m
    refine wpList_nil (n_then ?_)
    refine wp_ret ?_
    refine leave hs (vs := [.agg ⟨[vt_Routes.v, v28.v, vt_Fdbs.v]⟩]) rfl ⟨resv_cell (cs := [vt_Routes.v, v28.v, vt_Fdbs.v]) m rfl ty29 r1 rfl, trivial⟩ ?_
    have q32 : t_Routes = (afterT ⟨t_Routes, t_Neighs, t_Fdbs⟩ o).R := by first | exact afR1 (by omega) | exact afR2 (by omega) | exact afN1 (by omega) | exact afN2 (by omega) | exact afF1 (by omega) | exact afF2 (by omega)
    replace m := m.swp (q := Ro B 4 51 vt_Routes.v (((afterT ⟨t_Routes, t_Neighs, t_Fdbs⟩ o).R).map cRoute)) s4 (fun _ e => by rw [← q32]; exact e)
    replace m := m.toRo (B := B) r0
    have q34 : insB (fun e => decide (o.Neigh.IP.v < e.IP.v)) (fun e => e.IP.v == o.Neigh.IP.v) o.Neigh t_Neighs (o.Kind.v == 3) = (afterT ⟨t_Routes, t_Neighs, t_Fdbs⟩ o).N := by first | exact afR1 (by omega) | exact afR2 (by omega) | exact afN1 (by omega) | exact afN2 (by omega) | exact afF1 (by omega) | exact afF2 (by omega)
    rw [q34] at m
    have q35 : t_Fdbs = (afterT ⟨t_Routes, t_Neighs, t_Fdbs⟩ o).F := by first | exact afR1 (by omega) | exact afR2 (by omega) | exact afN1 (by omega) | exact afN2 (by omega) | exact afF1 (by omega) | exact afF2 (by omega)
    replace m := m.swp (q := Ro B 7 56 vt_Fdbs.v (((afterT ⟨t_Routes, t_Neighs, t_Fdbs⟩ o).F).map cFdb)) s6 (fun _ e => by rw [← q35]; exact e)
    refine ⟨_, rfl, vt_Routes, v28, vt_Fdbs, ?_, m.sub (.c r4 (.c r0 (.c r4 .n)))⟩
    rfl
  have h26p := ne_of_beq_false h26
  refine c_last ?_
  refine r_ok hs m (ok_bin rfl rfl rfl) rfl ?_
  clear hs a; intro a hs
  refine r_ok hs m (ok_assign rfl) rfl ?_
  clear hs a; intro a hs
  refine wpList_nil (n_then ?_)
  refine c_cond hs rfl (fun h36 => ?_) (fun h36 => ?_)
  · have h36p := eq_of_beq h36
    refine c_last ?_
    refine r_ok hs m (ok_fieldAddr (r := 1) rfl fd29_1 ty26 rfl) rfl ?_
    clear hs a; intro a hs
    refine r_ok hs m (ok_load_sc rfl ty26 (bx_at r2) rfl) rfl ?_
    clear hs a; intro a hs
    refine r_ok hs m (ok_fieldAddr (r := 5) rfl fd58_2 ty54 rfl) rfl ?_
    clear hs a; intro a hs
    refine r_ok hs m (ok_load_ag (vs := cNeigh o.Neigh) rfl ty54 (bx_at r1) rfl rfl) rfl ?_
    clear hs a; intro a hs
    refine r_ok hs m (ok_fieldAddr (r := 0) rfl fd58_0 ty3 rfl) rfl ?_
    clear hs a; intro a hs
    refine r_ok hs m (ok_load_sc rfl ty3 (bx_at r1) rfl) rfl ?_
    clear hs a; intro a hs
    refine r_ok hs m (ok_bin rfl rfl rfl) rfl ?_
    clear hs a; intro a hs
    refine r_call hs rfl rfl ca69 rfl (neighsAfter_c vt_Neighs t_Neighs o.Neigh (o.Kind.v == 3) _ (m.rdo hB r4) (by first | omega | rfl | exact bsI_le _ _ | assumption | decide)) rfl ?_
    clear hs a; rintro _ w38 ⟨v37, rfl, hm⟩ a hs
    replace m : Hp w0 R [Sv 7 54 v37.v ((insB (fun e => decide (o.Neigh.IP.v < e.IP.v)) (fun e => e.IP.v == o.Neigh.IP.v) o.Neigh t_Neighs (o.Kind.v == 3)).map cNeigh), Bx p5 29 [nilH.v, nilH.v, nilH.v], Bx p3 58 (cOp o), Bx p1 29 [vt_Routes.v, vt_Neighs.v, vt_Fdbs.v], Ro B 4 51 vt_Routes.v (t_Routes.map cRoute), Ro B 7 54 vt_Neighs.v (t_Neighs.map cNeigh), Ro B 7 56 vt_Fdbs.v (t_Fdbs.map cFdb)] w38 := m.after hm
    clear hm w6
    refine r_ok hs m (ok_fieldAddr (r := 1) rfl fd29_1 ty26 rfl) rfl ?_
    clear hs a; intro a hs
    refine r_store (cs' := [vt_Routes.v, v37.v, vt_Fdbs.v]) (vs := [v37.v]) hs m rfl rfl ty26 s3 rfl rfl rfl rfl rfl ?_
    clear m w38; intro w39 m
    refine wpList_nil (n_block (n_then ?_))
    refine c_reg ?_
    refine r_ok hs m (ok_load_ag (vs := [vt_Routes.v, v37.v, vt_Fdbs.v]) rfl ty29 (bx_at r3) rfl rfl) rfl ?_
    clear hs a; intro a hs
    refine r_store (cs' := [vt_Routes.v, v37.v, vt_Fdbs.v]) (vs := [vt_Routes.v, v37.v, vt_Fdbs.v]) hs m rfl rfl ty29 s1 rfl rfl rfl rfl rfl ?_
    clear m w39; intro w40 m
    refine wpList_nil (n_then ?_)
    refine wp_ret ?_
    refine leave hs (vs := [.agg ⟨[vt_Routes.v, v37.v, vt_Fdbs.v]⟩]) rfl ⟨resv_cell (cs := [vt_Routes.v, v37.v, vt_Fdbs.v]) m rfl ty29 r1 rfl, trivial⟩ ?_
    have q41 : t_Routes = (afterT ⟨t_Routes, t_Neighs, t_Fdbs⟩ o).R := by first | exact afR1 (by omega) | exact afR2 (by omega) | exact afN1 (by omega) | exact afN2 (by omega) | exact afF1 (by omega) | exact afF2 (by omega)
    replace m := m.swp (q := Ro B 4 51 vt_Routes.v (((afterT ⟨t_Routes, t_Neighs, t_Fdbs⟩ o).R).map cRoute)) s4 (fun _ e => by rw [← q41]; exact e)
    replace m := m.toRo (B := B) r0
    have q43 : insB (fun e => decide (o.Neigh.IP.v < e.IP.v)) (fun e => e.IP.v == o.Neigh.IP.v) o.Neigh t_Neighs (o.Kind.v == 3) = (afterT ⟨t_Routes, t_Neighs, t_Fdbs⟩ o).N := by first | exact afR1 (by omega) | exact afR2 (by omega) | exact afN1 (by omega) | exact afN2 (by omega) | exact afF1 (by omega) | exact afF2 (by omega)
    rw [q43] at m
    have q44 : t_Fdbs = (afterT ⟨t_Routes, t_Neighs, t_Fdbs⟩ o).F := by first | exact afR1 (by omega) | exact afR2 (by omega) | exact afN1 (by omega) | exact afN2 (by omega) | exact afF1 (by omega) | exact afF2 (by omega)
    replace m := m.swp (q := Ro B 7 56 vt_Fdbs.v (((afterT ⟨t_Routes, t_Neighs, t_Fdbs⟩ o).F).map cFdb)) s6 (fun _ e => by rw [← q44]; exact e)
    refine ⟨_, rfl, vt_Routes, v37, vt_Fdbs, ?_, m.sub (.c r4 (.c r0 (.c r4 .n)))⟩
    rfl
  have h36p := ne_of_beq_false h36
  refine c_seq ?_
  refine c_reg ?_
  refine r_ok hs m (ok_bin rfl rfl rfl) rfl ?_
  clear hs a; intro a hs
  refine r_ok hs m (ok_assign rfl) rfl ?_
  clear hs a; intro a hs
  refine wpList_nil (n_then ?_)
  refine c_cond hs rfl (fun h45 => ?_) (fun h45 => ?_)
  · have h45p := eq_of_beq h45
    refine wp_skip ?_
    refine n_then ?_
    refine c_true hs rfl h45 ?_
    refine c_last ?_
    refine r_ok hs m (ok_fieldAddr (r := 2) rfl fd29_2 ty27 rfl) rfl ?_
    clear hs a; intro a hs
    refine r_ok hs m (ok_load_sc rfl ty27 (bx_at r2) rfl) rfl ?_
    clear hs a; intro a hs
    refine r_ok hs m (ok_fieldAddr (r := 12) rfl fd58_3 ty56 rfl) rfl ?_
    clear hs a; intro a hs
    refine r_ok hs m (ok_load_ag (vs := cFdb o.Fdb) rfl ty56 (bx_at r1) rfl rfl) rfl ?_
    clear hs a; intro a hs
    refine r_ok hs m (ok_fieldAddr (r := 0) rfl fd58_0 ty3 rfl) rfl ?_
    clear hs a; intro a hs
    refine r_ok hs m (ok_load_sc rfl ty3 (bx_at r1) rfl) rfl ?_
    clear hs a; intro a hs
    refine r_ok hs m (ok_bin rfl rfl rfl) rfl ?_
    clear hs a; intro a hs
    refine r_call hs rfl rfl ca70 rfl (fdbsAfter_c vt_Fdbs t_Fdbs o.Fdb (o.Kind.v == 5) _ (m.rdo hB r5) (by first | omega | rfl | exact bsI_le _ _ | assumption | decide)) rfl ?_
    clear hs a; rintro _ w48 ⟨v47, rfl, hm⟩ a hs
    replace m : Hp w0 R [Sv 7 56 v47.v ((insB (fun e => decide (weightM o.Fdb.MAC < weightM e.MAC)) (fun e => decide (e.MAC = o.Fdb.MAC)) o.Fdb t_Fdbs (o.Kind.v == 5)).map cFdb), Bx p5 29 [nilH.v, nilH.v, nilH.v], Bx p3 58 (cOp o), Bx p1 29 [vt_Routes.v, vt_Neighs.v, vt_Fdbs.v], Ro B 4 51 vt_Routes.v (t_Routes.map cRoute), Ro B 7 54 vt_Neighs.v (t_Neighs.map cNeigh), Ro B 7 56 vt_Fdbs.v (t_Fdbs.map cFdb)] w48 := m.after hm
    clear hm w6
    refine r_ok hs m (ok_fieldAddr (r := 2) rfl fd29_2 ty27 rfl) rfl ?_
    clear hs a; intro a hs
    refine r_store (cs' := [vt_Routes.v, vt_Neighs.v, v47.v]) (vs := [v47.v]) hs m rfl rfl ty27 s3 rfl rfl rfl rfl rfl ?_
    clear m w48; intro w49 m
    refine wpList_nil (n_block (n_then ?_))
    refine c_reg ?_
    refine r_ok hs m (ok_load_ag (vs := [vt_Routes.v, vt_Neighs.v, v47.v]) rfl ty29 (bx_at r3) rfl rfl) rfl ?_
    clear hs a; intro a hs
    refine r_store (cs' := [vt_Routes.v, vt_Neighs.v, v47.v]) (vs := [vt_Routes.v, vt_Neighs.v, v47.v]) hs m rfl rfl ty29 s1 rfl rfl rfl rfl rfl ?_
    clear m w49; intro w50 m
    refine wpList_nil (n_then ?_)
    refine wp_ret ?_
    refine leave hs (vs := [.agg ⟨[vt_Routes.v, vt_Neighs.v, v47.v]⟩]) rfl ⟨resv_cell (cs := [vt_Routes.v, vt_Neighs.v, v47.v]) m rfl ty29 r1 rfl, trivial⟩ ?_
    have q51 : t_Routes = (afterT ⟨t_Routes, t_Neighs, t_Fdbs⟩ o).R := by first | exact afR1 (by omega) | exact afR2 (by omega) | exact afN1 (by omega) | exact afN2 (by omega) | exact afF1 (by omega) | exact afF2 (by omega)
    replace m := m.swp (q := Ro B 4 51 vt_Routes.v (((afterT ⟨t_Routes, t_Neighs, t_Fdbs⟩ o).R).map cRoute)) s4 (fun _ e => by rw [← q51]; exact e)
    have q52 : t_Neighs = (afterT ⟨t_Routes, t_Neighs, t_Fdbs⟩ o).N := by first | exact afR1 (by omega) | exact afR2 (by omega) | exact afN1 (by omega) | exact afN2 (by omega) | exact afF1 (by omega) | exact afF2 (by omega)
    replace m := m.swp (q := Ro B 7 54 vt_Neighs.v (((afterT ⟨t_Routes, t_Neighs, t_Fdbs⟩ o).N).map cNeigh)) s5 (fun _ e => by rw [← q52]; exact e)
    replace m := m.toRo (B := B) r0
    have q54 : insB (fun e => decide (weightM o.Fdb.MAC < weightM e.MAC)) (fun e => decide (e.MAC = o.Fdb.MAC)) o.Fdb t_Fdbs (o.Kind.v == 5) = (afterT ⟨t_Routes, t_Neighs, t_Fdbs⟩ o).F := by first | exact afR1 (by omega) | exact afR2 (by omega) | exact afN1 (by omega) | exact afN2 (by omega) | exact afF1 (by omega) | exact afF2 (by omega)
    rw [q54] at m
    refine ⟨_, rfl, vt_Routes, vt_Neighs, v47, ?_, m.sub (.c r4 (.c r4 (.c r0 .n)))⟩
    rfl
  have h45p := ne_of_beq_false h45
  refine c_last ?_
  refine r_ok hs m (ok_bin rfl rfl rfl) rfl ?_
  clear hs a; intro a hs
  refine r_ok hs m (ok_assign rfl) rfl ?_
  clear hs a; intro a hs
  refine wpList_nil (n_then ?_)
  refine c_cond hs rfl (fun h55 => ?_) (fun h55 => ?_)
  · have h55p := eq_of_beq h55
    refine c_last ?_
    refine r_ok hs m (ok_fieldAddr (r := 2) rfl fd29_2 ty27 rfl) rfl ?_
    clear hs a; intro a hs
    refine r_ok hs m (ok_load_sc rfl ty27 (bx_at r2) rfl) rfl ?_
    clear hs a; intro a hs
    refine r_ok hs m (ok_fieldAddr (r := 12) rfl fd58_3 ty56 rfl) rfl ?_
    clear hs a; intro a hs
    refine r_ok hs m (ok_load_ag (vs := cFdb o.Fdb) rfl ty56 (bx_at r1) rfl rfl) rfl ?_
    clear hs a; intro a hs
    refine r_ok hs m (ok_fieldAddr (r := 0) rfl fd58_0 ty3 rfl) rfl ?_
    clear hs a; intro a hs
    refine r_ok hs m (ok_load_sc rfl ty3 (bx_at r1) rfl) rfl ?_
    clear hs a; intro a hs
    refine r_ok hs m (ok_bin rfl rfl rfl) rfl ?_
    clear hs a; intro a hs
    refine r_call hs rfl rfl ca70 rfl (fdbsAfter_c vt_Fdbs t_Fdbs o.Fdb (o.Kind.v == 5) _ (m.rdo hB r5) (by first | omega | rfl | exact bsI_le _ _ | assumption | decide)) rfl ?_
    clear hs a; rintro _ w57 ⟨v56, rfl, hm⟩ a hs
    replace m : Hp w0 R [Sv 7 56 v56.v ((insB (fun e => decide (weightM o.Fdb.MAC < weightM e.MAC)) (fun e => decide (e.MAC = o.Fdb.MAC)) o.Fdb t_Fdbs (o.Kind.v == 5)).map cFdb), Bx p5 29 [nilH.v, nilH.v, nilH.v], Bx p3 58 (cOp o), Bx p1 29 [vt_Routes.v, vt_Neighs.v, vt_Fdbs.v], Ro B 4 51 vt_Routes.v (t_Routes.map cRoute), Ro B 7 54 vt_Neighs.v (t_Neighs.map cNeigh), Ro B 7 56 vt_Fdbs.v (t_Fdbs.map cFdb)] w57 := m.after hm
    clear hm w6
    refine r_ok hs m (ok_fieldAddr (r := 2) rfl fd29_2 ty27 rfl) rfl ?_
    clear hs a; intro a hs
    refine r_store (cs' := [vt_Routes.v, vt_Neighs.v, v56.v]) (vs := [v56.v]) hs m rfl rfl ty27 s3 rfl rfl rfl rfl rfl ?_
    clear m w57; intro w58 m
    refine wpList_nil (n_block (n_then ?_))
    refine c_reg ?_
    refine r_ok hs m (ok_load_ag (vs := [vt_Routes.v, vt_Neighs.v, v56.v]) rfl ty29 (bx_at r3) rfl rfl) rfl ?_
    clear hs a; intro a hs
    refine r_store (cs' := [vt_Routes.v, vt_Neighs.v, v56.v]) (vs := [vt_Routes.v, vt_Neighs.v, v56.v]) hs m rfl rfl ty29 s1 rfl rfl rfl rfl rfl ?_
    clear m w58; intro w59 m
    refine wpList_nil (n_then ?_)
    refine wp_ret ?_
    refine leave hs (vs := [.agg ⟨[vt_Routes.v, vt_Neighs.v, v56.v]⟩]) rfl ⟨resv_cell (cs := [vt_Routes.v, vt_Neighs.v, v56.v]) m rfl ty29 r1 rfl, trivial⟩ ?_
    have q60 : t_Routes = (afterT ⟨t_Routes, t_Neighs, t_Fdbs⟩ o).R := by first | exact afR1 (by omega) | exact afR2 (by omega) | exact afN1 (by omega) | exact afN2 (by omega) | exact afF1 (by omega) | exact afF2 (by omega)
    replace m := m.swp (q := Ro B 4 51 vt_Routes.v (((afterT ⟨t_Routes, t_Neighs, t_Fdbs⟩ o).R).map cRoute)) s4 (fun _ e => by rw [← q60]; exact e)
    have q61 : t_Neighs = (afterT ⟨t_Routes, t_Neighs, t_Fdbs⟩ o).N := by first | exact afR1 (by omega) | exact afR2 (by omega) | exact afN1 (by omega) | exact afN2 (by omega) | exact afF1 (by omega) | exact afF2 (by omega)
    replace m := m.swp (q := Ro B 7 54 vt_Neighs.v (((afterT ⟨t_Routes, t_Neighs, t_Fdbs⟩ o).N).map cNeigh)) s5 (fun _ e => by rw [← q61]; exact e)
    replace m := m.toRo (B := B) r0
    have q63 : insB (fun e => decide (weightM o.Fdb.MAC < weightM e.MAC)) (fun e => decide (e.MAC = o.Fdb.MAC)) o.Fdb t_Fdbs (o.Kind.v == 5) = (afterT ⟨t_Routes, t_Neighs, t_Fdbs⟩ o).F := by first | exact afR1 (by omega) | exact afR2 (by omega) | exact afN1 (by omega) | exact afN2 (by omega) | exact afF1 (by omega) | exact afF2 (by omega)
    rw [q63] at m
    refine ⟨_, rfl, vt_Routes, vt_Neighs, v56, ?_, m.sub (.c r4 (.c r4 (.c r0 .n)))⟩
    rfl
  have h55p := ne_of_beq_false h55
  refine wp_skip ?_
  refine n_block (n_then ?_)
  refine c_reg ?_
  refine r_ok hs m (ok_load_ag (vs := [vt_Routes.v, vt_Neighs.v, vt_Fdbs.v]) rfl ty29 (bx_at r2) rfl rfl) rfl ?_
  clear hs a; intro a hs
  refine r_store (cs' := [vt_Routes.v, vt_Neighs.v, vt_Fdbs.v]) (vs := [vt_Routes.v, vt_Neighs.v, vt_Fdbs.v]) hs m rfl rfl ty29 s0 rfl rfl rfl rfl rfl ?_
  clear m w6; intro w64 m
  refine wpList_nil (n_then ?_)
  refine wp_ret ?_
  refine leave hs (vs := [.agg ⟨[vt_Routes.v, vt_Neighs.v, vt_Fdbs.v]⟩]) rfl ⟨resv_cell (cs := [vt_Routes.v, vt_Neighs.v, vt_Fdbs.v]) m rfl ty29 r0 rfl, trivial⟩ ?_
  have q65 : t_Routes = (afterT ⟨t_Routes, t_Neighs, t_Fdbs⟩ o).R := by first | exact afR1 (by omega) | exact afR2 (by omega) | exact afN1 (by omega) | exact afN2 (by omega) | exact afF1 (by omega) | exact afF2 (by omega)
  replace m := m.swp (q := Ro B 4 51 vt_Routes.v (((afterT ⟨t_Routes, t_Neighs, t_Fdbs⟩ o).R).map cRoute)) s3 (fun _ e => by rw [← q65]; exact e)
  have q66 : t_Neighs = (afterT ⟨t_Routes, t_Neighs, t_Fdbs⟩ o).N := by first | exact afR1 (by omega) | exact afR2 (by omega) | exact afN1 (by omega) | exact afN2 (by omega) | exact afF1 (by omega) | exact afF2 (by omega)
  replace m := m.swp (q := Ro B 7 54 vt_Neighs.v (((afterT ⟨t_Routes, t_Neighs, t_Fdbs⟩ o).N).map cNeigh)) s4 (fun _ e => by rw [← q66]; exact e)
  have q67 : t_Fdbs = (afterT ⟨t_Routes, t_Neighs, t_Fdbs⟩ o).F := by first | exact afR1 (by omega) | exact afR2 (by omega) | exact afN1 (by omega) | exact afN2 (by omega) | exact afF1 (by omega) | exact afF2 (by omega)
  replace m := m.swp (q := Ro B 7 56 vt_Fdbs.v (((afterT ⟨t_Routes, t_Neighs, t_Fdbs⟩ o).F).map cFdb)) s5 (fun _ e => by rw [← q67]; exact e)
  refine ⟨_, rfl, vt_Routes, vt_Neighs, vt_Fdbs, ?_, m.sub (.c r3 (.c r3 (.c r3 .n)))⟩
  rfl
end Go.Proofs.YtnbpodjbemfpbaaGreat.Fw
