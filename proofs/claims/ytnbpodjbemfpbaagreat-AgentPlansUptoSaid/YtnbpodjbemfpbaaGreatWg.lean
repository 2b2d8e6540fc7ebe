/-
  Walks: printed by wip/tool/agent.py.
-/
import Derived.Test.YtnbpodjbemfpbaaGreatWf
import Derived.Test.YtnbpodjbemfpbaaGreatWe
import Derived.KernelRfl
set_option linter.all false
set_option maxHeartbeats 4000000
set_option maxRecDepth 100000
namespace Go.Proofs.YtnbpodjbemfpbaaGreat.Fw
open Go

theorem delRoute_c (vx : SH) (x : List TRoute) (i : Nat) (j : Nat) (w0 : World) (R : Hh) (A1 : i < j) (A2 : j ≤ x.length) (m : Hp w0 R [Sv 4 51 vx.v (x.map cRoute)] w0) : Calls Tryz.prog 180 ⟨[vx.v, .int .i64 (i : Int), .int .i64 (j : Int)]⟩ w0 fun e w' => ∃ v, e = .returned v ∧ (∃ x0 : SH, v = (x0.v) ∧ Hp w0 R [Sv 4 51 x0.v ((x.take i ++ x.drop j).map cRoute)] w') := by
  have cx := m.ncapM r0
  have lvx := (m.rdv r0).bd
  refine enter (n := 33) Tryz.func180 rfl rfl rfl fun a (hs : St 33 [(0, vx.v), (1, .int .i64 (i : Int)), (2, .int .i64 (j : Int))] a) => ?_
  refine c_reg ?_
  refine r_ok hs m (ok_assign rfl) rfl ?_
  clear hs a; intro a hs
  refine wpList_nil (n_then ?_)
  refine c_reg ?_
  refine r_ok hs m (ok_move rfl) rfl ?_
  clear hs a; intro a hs
  refine r_ok hs m (ok_move rfl) rfl ?_
  clear hs a; intro a hs
  refine r_ok hs m (ok_move rfl) rfl ?_
  clear hs a; intro a hs
  refine r_ok hs m (ok_move rfl) rfl ?_
  clear hs a; intro a hs
  refine r_ok hs m (ok_len (r := (x.length : Int)) m rfl sl25 (rc_own r0) (by simp)) rfl ?_
  clear hs a; intro a hs
  have hc1 := ((m.rdv r0)).ncapM
  refine r_ok hs m (ok_sliceH (i := i) (j := j) (c := x.length) rfl sl25 ty51 ⟨_, rfl⟩ ⟨_, rfl⟩ ⟨_, rfl⟩ (fun h => by cases h) (by omega) (by omega) (by omega)) rfl ?_
  clear hs a; intro a hs
  refine wpList_nil (n_then ?_)
  refine c_seq ?_
  refine c_reg ?_
  refine r_ok hs m (ok_move rfl) rfl ?_
  clear hs a; intro a hs
  refine r_ok hs m (ok_move rfl) rfl ?_
  clear hs a; intro a hs
  refine r_ok hs m (ok_bin rfl rfl rfl) rfl ?_
  clear hs a; intro a hs
  refine wpList_nil (n_then ?_)
  refine c_false hs rfl (by simp; omega) ?_
  refine wp_skip ?_
  refine n_then ?_
  refine c_reg ?_
  refine r_ok hs m (ok_move rfl) rfl ?_
  clear hs a; intro a hs
  refine r_ok hs m (ok_len (r := (x.length : Int)) m rfl sl25 (rc_own r0) (by simp)) rfl ?_
  clear hs a; intro a hs
  refine r_ok hs m (ok_assign rfl) rfl ?_
  clear hs a; intro a hs
  refine wpList_nil (n_then ?_)
  refine c_drawH (Hp w0 R []) m mo ?_; clear m; intro w3 m
  refine h_ok (i := 0) rfl (by kernel_rfl) (by kernel_rfl) (by kernel_rfl) hs (m.sub .n) (ok_move rfl) rfl ?_
  clear hs a; intro a hs
  refine h_ok (i := 1) rfl (by kernel_rfl) (by kernel_rfl) (by kernel_rfl) hs (m.sub .n) (ok_move rfl) rfl ?_
  clear hs a; intro a hs
  have hc4 := ((m.rdv r0)).ncapM
  refine h_ok (i := 2) rfl (by kernel_rfl) (by kernel_rfl) (by kernel_rfl) hs (m.sub .n) (ok_sliceH (i := 0) (j := i) (c := vx.c) rfl sl25 ty51 rfl ⟨_, rfl⟩ rfl (fun h => by cases h) (by omega) (by omega) (by omega)) rfl ?_
  clear hs a; intro a hs
  rw [sub3_0] at hs
  refine h_ok (i := 3) rfl (by kernel_rfl) (by kernel_rfl) (by kernel_rfl) hs (m.sub .n) (ok_move rfl) rfl ?_
  clear hs a; intro a hs
  refine h_ok (i := 4) rfl (by kernel_rfl) (by kernel_rfl) (by kernel_rfl) hs (m.sub .n) (ok_move rfl) rfl ?_
  clear hs a; intro a hs
  have hc5 := ((m.rdv r0)).ncapM
  refine h_ok (i := 5) rfl (by kernel_rfl) (by kernel_rfl) (by kernel_rfl) hs (m.sub .n) (ok_sliceH (i := j) (j := x.length) (c := vx.c) rfl sl25 ty51 ⟨_, rfl⟩ (by show _ = _; omega) rfl (fun _ => rfl) (by omega) (by omega) (by omega)) rfl ?_
  clear hs a; intro a hs
  have hu6 := ((m.rdv r0).win (lo := j) (hi := x.length) (mx := vx.c) (ys := x.drop j) (by omega) (by omega) (by omega) (by omega) (by simp))
  refine h_eff (i := 6) (by kernel_rfl) rfl ?_
  replace m := m.shrinkM (hi := i) s0 (by omega)
  refine r_appendFitM (c := cRoute) (x := upH vx i) (xs := x.take i) (es := x.drop j) hs m rfl rfl sl25 ni25 ty51 r0 hu6 (fun _ => rfl) (by show _ ≤ vx.c; simp; omega) (by simp; omega) rfl ?_
  clear m hu6 hs a w3; intro w8 m a hs
  rw [upH_up] at m hs
  have hl7 : (x.take i ++ x.drop j).length = x.length - (j - i) := by simp; omega
  refine wpList_nil (n_then ⟨(m.sub .n), ?_⟩)
  refine h_ok (i := 7) rfl (by kernel_rfl) (by kernel_rfl) (by kernel_rfl) hs (m.sub .n) (ok_assign rfl) rfl ?_
  clear hs a; intro a hs
  refine h_done (by kernel_rfl) (n_then ?_)
  refine c_reg ?_
  refine r_ok hs m (ok_move rfl) rfl ?_
  clear hs a; intro a hs
  refine r_ok hs m (ok_move rfl) rfl ?_
  clear hs a; intro a hs
  refine r_ok hs m (ok_len (r := ((x.take i ++ x.drop j).length : Int)) m rfl sl25 (rc_own r0) (by simp)) rfl ?_
  clear hs a; intro a hs
  refine r_ok hs m (ok_move rfl) rfl ?_
  clear hs a; intro a hs
  have hc9 : (upH vx ((x.take i).length + (x.drop j).length)).n = ((x.take i).length + (x.drop j).length) ∧ (upH vx ((x.take i).length + (x.drop j).length)).c = vx.c := ⟨rfl, rfl⟩
  refine r_ok hs m (ok_sliceH (i := (x.take i ++ x.drop j).length) (j := x.length) (c := (upH vx ((x.take i).length + (x.drop j).length)).c) rfl sl25 ty51 ⟨_, rfl⟩ ⟨_, rfl⟩ rfl (fun h => by cases h) (by omega) (by omega) (by omega)) rfl ?_
  clear hs a; intro a hs
  refine r_clearRoomM (c := cRoute) (x := upH vx ((x.take i).length + (x.drop j).length)) (xs := x.take i ++ x.drop j) (lo := (x.take i ++ x.drop j).length) (z := x.length - (x.take i ++ x.drop j).length) hs m rfl sl25 ty51 ze51 rfl rfl r0 (sub3_lt (x := upH vx ((x.take i).length + (x.drop j).length)) (by show _ < vx.c; omega)) (Nat.le_refl _) (by show _ ≤ vx.c; omega) ?_
  clear m w8; intro w10 m
  refine wpList_nil (n_then ?_)
  refine c_reg ?_
  refine r_ok hs m (ok_move rfl) rfl ?_
  clear hs a; intro a hs
  refine r_ok hs m (ok_assign rfl) rfl ?_
  clear hs a; intro a hs
  refine wpList_nil (n_then ?_)
  refine wp_ret ?_
  refine leave hs (vs := [(upH vx ((x.take i).length + (x.drop j).length)).v]) rfl ⟨rfl, trivial⟩ ?_
  refine ⟨_, rfl, (upH vx ((x.take i).length + (x.drop j).length)), ?_, m.sub (.c r0 .n)⟩
  rfl

theorem delNeigh_c (vx : SH) (x : List TNeigh) (i : Nat) (j : Nat) (w0 : World) (R : Hh) (A1 : i < j) (A2 : j ≤ x.length) (m : Hp w0 R [Sv 7 54 vx.v (x.map cNeigh)] w0) : Calls Tryz.prog 181 ⟨[vx.v, .int .i64 (i : Int), .int .i64 (j : Int)]⟩ w0 fun e w' => ∃ v, e = .returned v ∧ (∃ x0 : SH, v = (x0.v) ∧ Hp w0 R [Sv 7 54 x0.v ((x.take i ++ x.drop j).map cNeigh)] w') := by
  have cx := m.ncapM r0
  have lvx := (m.rdv r0).bd
  refine enter (n := 33) Tryz.func181 rfl rfl rfl fun a (hs : St 33 [(0, vx.v), (1, .int .i64 (i : Int)), (2, .int .i64 (j : Int))] a) => ?_
  refine c_reg ?_
  refine r_ok hs m (ok_assign rfl) rfl ?_
  clear hs a; intro a hs
  refine wpList_nil (n_then ?_)
  refine c_reg ?_
  refine r_ok hs m (ok_move rfl) rfl ?_
  clear hs a; intro a hs
  refine r_ok hs m (ok_move rfl) rfl ?_
  clear hs a; intro a hs
  refine r_ok hs m (ok_move rfl) rfl ?_
  clear hs a; intro a hs
  refine r_ok hs m (ok_move rfl) rfl ?_
  clear hs a; intro a hs
  refine r_ok hs m (ok_len (r := (x.length : Int)) m rfl sl26 (rc_own r0) (by simp)) rfl ?_
  clear hs a; intro a hs
  have hc1 := ((m.rdv r0)).ncapM
  refine r_ok hs m (ok_sliceH (i := i) (j := j) (c := x.length) rfl sl26 ty54 ⟨_, rfl⟩ ⟨_, rfl⟩ ⟨_, rfl⟩ (fun h => by cases h) (by omega) (by omega) (by omega)) rfl ?_
  clear hs a; intro a hs
  refine wpList_nil (n_then ?_)
  refine c_seq ?_
  refine c_reg ?_
  refine r_ok hs m (ok_move rfl) rfl ?_
  clear hs a; intro a hs
  refine r_ok hs m (ok_move rfl) rfl ?_
  clear hs a; intro a hs
  refine r_ok hs m (ok_bin rfl rfl rfl) rfl ?_
  clear hs a; intro a hs
  refine wpList_nil (n_then ?_)
  refine c_false hs rfl (by simp; omega) ?_
  refine wp_skip ?_
  refine n_then ?_
  refine c_reg ?_
  refine r_ok hs m (ok_move rfl) rfl ?_
  clear hs a; intro a hs
  refine r_ok hs m (ok_len (r := (x.length : Int)) m rfl sl26 (rc_own r0) (by simp)) rfl ?_
  clear hs a; intro a hs
  refine r_ok hs m (ok_assign rfl) rfl ?_
  clear hs a; intro a hs
  refine wpList_nil (n_then ?_)
  refine c_drawH (Hp w0 R []) m mo ?_; clear m; intro w3 m
  refine h_ok (i := 0) rfl (by kernel_rfl) (by kernel_rfl) (by kernel_rfl) hs (m.sub .n) (ok_move rfl) rfl ?_
  clear hs a; intro a hs
  refine h_ok (i := 1) rfl (by kernel_rfl) (by kernel_rfl) (by kernel_rfl) hs (m.sub .n) (ok_move rfl) rfl ?_
  clear hs a; intro a hs
  have hc4 := ((m.rdv r0)).ncapM
  refine h_ok (i := 2) rfl (by kernel_rfl) (by kernel_rfl) (by kernel_rfl) hs (m.sub .n) (ok_sliceH (i := 0) (j := i) (c := vx.c) rfl sl26 ty54 rfl ⟨_, rfl⟩ rfl (fun h => by cases h) (by omega) (by omega) (by omega)) rfl ?_
  clear hs a; intro a hs
  rw [sub3_0] at hs
  refine h_ok (i := 3) rfl (by kernel_rfl) (by kernel_rfl) (by kernel_rfl) hs (m.sub .n) (ok_move rfl) rfl ?_
  clear hs a; intro a hs
  refine h_ok (i := 4) rfl (by kernel_rfl) (by kernel_rfl) (by kernel_rfl) hs (m.sub .n) (ok_move rfl) rfl ?_
  clear hs a; intro a hs
  have hc5 := ((m.rdv r0)).ncapM
  refine h_ok (i := 5) rfl (by kernel_rfl) (by kernel_rfl) (by kernel_rfl) hs (m.sub .n) (ok_sliceH (i := j) (j := x.length) (c := vx.c) rfl sl26 ty54 ⟨_, rfl⟩ (by show _ = _; omega) rfl (fun _ => rfl) (by omega) (by omega) (by omega)) rfl ?_
  clear hs a; intro a hs
  have hu6 := ((m.rdv r0).win (lo := j) (hi := x.length) (mx := vx.c) (ys := x.drop j) (by omega) (by omega) (by omega) (by omega) (by simp))
  refine h_eff (i := 6) (by kernel_rfl) rfl ?_
  replace m := m.shrinkM (hi := i) s0 (by omega)
  refine r_appendFitM (c := cNeigh) (x := upH vx i) (xs := x.take i) (es := x.drop j) hs m rfl rfl sl26 ni26 ty54 r0 hu6 (fun _ => rfl) (by show _ ≤ vx.c; simp; omega) (by simp; omega) rfl ?_
  clear m hu6 hs a w3; intro w8 m a hs
  rw [upH_up] at m hs
  have hl7 : (x.take i ++ x.drop j).length = x.length - (j - i) := by simp; omega
  refine wpList_nil (n_then ⟨(m.sub .n), ?_⟩)
  refine h_ok (i := 7) rfl (by kernel_rfl) (by kernel_rfl) (by kernel_rfl) hs (m.sub .n) (ok_assign rfl) rfl ?_
  clear hs a; intro a hs
  refine h_done (by kernel_rfl) (n_then ?_)
  refine c_reg ?_
  refine r_ok hs m (ok_move rfl) rfl ?_
  clear hs a; intro a hs
  refine r_ok hs m (ok_move rfl) rfl ?_
  clear hs a; intro a hs
  refine r_ok hs m (ok_len (r := ((x.take i ++ x.drop j).length : Int)) m rfl sl26 (rc_own r0) (by simp)) rfl ?_
  clear hs a; intro a hs
  refine r_ok hs m (ok_move rfl) rfl ?_
  clear hs a; intro a hs
  have hc9 : (upH vx ((x.take i).length + (x.drop j).length)).n = ((x.take i).length + (x.drop j).length) ∧ (upH vx ((x.take i).length + (x.drop j).length)).c = vx.c := ⟨rfl, rfl⟩
  refine r_ok hs m (ok_sliceH (i := (x.take i ++ x.drop j).length) (j := x.length) (c := (upH vx ((x.take i).length + (x.drop j).length)).c) rfl sl26 ty54 ⟨_, rfl⟩ ⟨_, rfl⟩ rfl (fun h => by cases h) (by omega) (by omega) (by omega)) rfl ?_
  clear hs a; intro a hs
  refine r_clearRoomM (c := cNeigh) (x := upH vx ((x.take i).length + (x.drop j).length)) (xs := x.take i ++ x.drop j) (lo := (x.take i ++ x.drop j).length) (z := x.length - (x.take i ++ x.drop j).length) hs m rfl sl26 ty54 ze54 rfl rfl r0 (sub3_lt (x := upH vx ((x.take i).length + (x.drop j).length)) (by show _ < vx.c; omega)) (Nat.le_refl _) (by show _ ≤ vx.c; omega) ?_
  clear m w8; intro w10 m
  refine wpList_nil (n_then ?_)
  refine c_reg ?_
  refine r_ok hs m (ok_move rfl) rfl ?_
  clear hs a; intro a hs
  refine r_ok hs m (ok_assign rfl) rfl ?_
  clear hs a; intro a hs
  refine wpList_nil (n_then ?_)
  refine wp_ret ?_
  refine leave hs (vs := [(upH vx ((x.take i).length + (x.drop j).length)).v]) rfl ⟨rfl, trivial⟩ ?_
  refine ⟨_, rfl, (upH vx ((x.take i).length + (x.drop j).length)), ?_, m.sub (.c r0 .n)⟩
  rfl

theorem delFdb_c (vx : SH) (x : List TFdb) (i : Nat) (j : Nat) (w0 : World) (R : Hh) (A1 : i < j) (A2 : j ≤ x.length) (m : Hp w0 R [Sv 7 56 vx.v (x.map cFdb)] w0) : Calls Tryz.prog 182 ⟨[vx.v, .int .i64 (i : Int), .int .i64 (j : Int)]⟩ w0 fun e w' => ∃ v, e = .returned v ∧ (∃ x0 : SH, v = (x0.v) ∧ Hp w0 R [Sv 7 56 x0.v ((x.take i ++ x.drop j).map cFdb)] w') := by
  have cx := m.ncapM r0
  have lvx := (m.rdv r0).bd
  refine enter (n := 33) Tryz.func182 rfl rfl rfl fun a (hs : St 33 [(0, vx.v), (1, .int .i64 (i : Int)), (2, .int .i64 (j : Int))] a) => ?_
  refine c_reg ?_
  refine r_ok hs m (ok_assign rfl) rfl ?_
  clear hs a; intro a hs
  refine wpList_nil (n_then ?_)
  refine c_reg ?_
  refine r_ok hs m (ok_move rfl) rfl ?_
  clear hs a; intro a hs
  refine r_ok hs m (ok_move rfl) rfl ?_
  clear hs a; intro a hs
  refine r_ok hs m (ok_move rfl) rfl ?_
  clear hs a; intro a hs
  refine r_ok hs m (ok_move rfl) rfl ?_
  clear hs a; intro a hs
  refine r_ok hs m (ok_len (r := (x.length : Int)) m rfl sl27 (rc_own r0) (by simp)) rfl ?_
  clear hs a; intro a hs
  have hc1 := ((m.rdv r0)).ncapM
  refine r_ok hs m (ok_sliceH (i := i) (j := j) (c := x.length) rfl sl27 ty56 ⟨_, rfl⟩ ⟨_, rfl⟩ ⟨_, rfl⟩ (fun h => by cases h) (by omega) (by omega) (by omega)) rfl ?_
  clear hs a; intro a hs
  refine wpList_nil (n_then ?_)
  refine c_seq ?_
  refine c_reg ?_
  refine r_ok hs m (ok_move rfl) rfl ?_
  clear hs a; intro a hs
  refine r_ok hs m (ok_move rfl) rfl ?_
  clear hs a; intro a hs
  refine r_ok hs m (ok_bin rfl rfl rfl) rfl ?_
  clear hs a; intro a hs
  refine wpList_nil (n_then ?_)
  refine c_false hs rfl (by simp; omega) ?_
  refine wp_skip ?_
  refine n_then ?_
  refine c_reg ?_
  refine r_ok hs m (ok_move rfl) rfl ?_
  clear hs a; intro a hs
  refine r_ok hs m (ok_len (r := (x.length : Int)) m rfl sl27 (rc_own r0) (by simp)) rfl ?_
  clear hs a; intro a hs
  refine r_ok hs m (ok_assign rfl) rfl ?_
  clear hs a; intro a hs
  refine wpList_nil (n_then ?_)
  refine c_drawH (Hp w0 R []) m mo ?_; clear m; intro w3 m
  refine h_ok (i := 0) rfl (by kernel_rfl) (by kernel_rfl) (by kernel_rfl) hs (m.sub .n) (ok_move rfl) rfl ?_
  clear hs a; intro a hs
  refine h_ok (i := 1) rfl (by kernel_rfl) (by kernel_rfl) (by kernel_rfl) hs (m.sub .n) (ok_move rfl) rfl ?_
  clear hs a; intro a hs
  have hc4 := ((m.rdv r0)).ncapM
  refine h_ok (i := 2) rfl (by kernel_rfl) (by kernel_rfl) (by kernel_rfl) hs (m.sub .n) (ok_sliceH (i := 0) (j := i) (c := vx.c) rfl sl27 ty56 rfl ⟨_, rfl⟩ rfl (fun h => by cases h) (by omega) (by omega) (by omega)) rfl ?_
  clear hs a; intro a hs
  rw [sub3_0] at hs
  refine h_ok (i := 3) rfl (by kernel_rfl) (by kernel_rfl) (by kernel_rfl) hs (m.sub .n) (ok_move rfl) rfl ?_
  clear hs a; intro a hs
  refine h_ok (i := 4) rfl (by kernel_rfl) (by kernel_rfl) (by kernel_rfl) hs (m.sub .n) (ok_move rfl) rfl ?_
  clear hs a; intro a hs
  have hc5 := ((m.rdv r0)).ncapM
  refine h_ok (i := 5) rfl (by kernel_rfl) (by kernel_rfl) (by kernel_rfl) hs (m.sub .n) (ok_sliceH (i := j) (j := x.length) (c := vx.c) rfl sl27 ty56 ⟨_, rfl⟩ (by show _ = _; omega) rfl (fun _ => rfl) (by omega) (by omega) (by omega)) rfl ?_
  clear hs a; intro a hs
  have hu6 := ((m.rdv r0).win (lo := j) (hi := x.length) (mx := vx.c) (ys := x.drop j) (by omega) (by omega) (by omega) (by omega) (by simp))
  refine h_eff (i := 6) (by kernel_rfl) rfl ?_
  replace m := m.shrinkM (hi := i) s0 (by omega)
  refine r_appendFitM (c := cFdb) (x := upH vx i) (xs := x.take i) (es := x.drop j) hs m rfl rfl sl27 ni27 ty56 r0 hu6 (fun _ => rfl) (by show _ ≤ vx.c; simp; omega) (by simp; omega) rfl ?_
  clear m hu6 hs a w3; intro w8 m a hs
  rw [upH_up] at m hs
  have hl7 : (x.take i ++ x.drop j).length = x.length - (j - i) := by simp; omega
  refine wpList_nil (n_then ⟨(m.sub .n), ?_⟩)
  refine h_ok (i := 7) rfl (by kernel_rfl) (by kernel_rfl) (by kernel_rfl) hs (m.sub .n) (ok_assign rfl) rfl ?_
  clear hs a; intro a hs
  refine h_done (by kernel_rfl) (n_then ?_)
  refine c_reg ?_
  refine r_ok hs m (ok_move rfl) rfl ?_
  clear hs a; intro a hs
  refine r_ok hs m (ok_move rfl) rfl ?_
  clear hs a; intro a hs
  refine r_ok hs m (ok_len (r := ((x.take i ++ x.drop j).length : Int)) m rfl sl27 (rc_own r0) (by simp)) rfl ?_
  clear hs a; intro a hs
  refine r_ok hs m (ok_move rfl) rfl ?_
  clear hs a; intro a hs
  have hc9 : (upH vx ((x.take i).length + (x.drop j).length)).n = ((x.take i).length + (x.drop j).length) ∧ (upH vx ((x.take i).length + (x.drop j).length)).c = vx.c := ⟨rfl, rfl⟩
  refine r_ok hs m (ok_sliceH (i := (x.take i ++ x.drop j).length) (j := x.length) (c := (upH vx ((x.take i).length + (x.drop j).length)).c) rfl sl27 ty56 ⟨_, rfl⟩ ⟨_, rfl⟩ rfl (fun h => by cases h) (by omega) (by omega) (by omega)) rfl ?_
  clear hs a; intro a hs
  refine r_clearRoomM (c := cFdb) (x := upH vx ((x.take i).length + (x.drop j).length)) (xs := x.take i ++ x.drop j) (lo := (x.take i ++ x.drop j).length) (z := x.length - (x.take i ++ x.drop j).length) hs m rfl sl27 ty56 ze56 rfl rfl r0 (sub3_lt (x := upH vx ((x.take i).length + (x.drop j).length)) (by show _ < vx.c; omega)) (Nat.le_refl _) (by show _ ≤ vx.c; omega) ?_
  clear m w8; intro w10 m
  refine wpList_nil (n_then ?_)
  refine c_reg ?_
  refine r_ok hs m (ok_move rfl) rfl ?_
  clear hs a; intro a hs
  refine r_ok hs m (ok_assign rfl) rfl ?_
  clear hs a; intro a hs
  refine wpList_nil (n_then ?_)
  refine wp_ret ?_
  refine leave hs (vs := [(upH vx ((x.take i).length + (x.drop j).length)).v]) rfl ⟨rfl, trivial⟩ ?_
  refine ⟨_, rfl, (upH vx ((x.take i).length + (x.drop j).length)), ?_, m.sub (.c r0 .n)⟩
  rfl

theorem delPrefix_c (vx : SH) (x : List TPrefix) (i : Nat) (j : Nat) (w0 : World) (R : Hh) (A1 : i < j) (A2 : j ≤ x.length) (m : Hp w0 R [Sv 2 44 vx.v (x.map cPrefix)] w0) : Calls Tryz.prog 170 ⟨[vx.v, .int .i64 (i : Int), .int .i64 (j : Int)]⟩ w0 fun e w' => ∃ v, e = .returned v ∧ (∃ x0 : SH, v = (x0.v) ∧ Hp w0 R [Sv 2 44 x0.v ((x.take i ++ x.drop j).map cPrefix)] w') := by
  have cx := m.ncapM r0
  have lvx := (m.rdv r0).bd
  refine enter (n := 33) Tryz.func170 rfl rfl rfl fun a (hs : St 33 [(0, vx.v), (1, .int .i64 (i : Int)), (2, .int .i64 (j : Int))] a) => ?_
  refine c_reg ?_
  refine r_ok hs m (ok_assign rfl) rfl ?_
  clear hs a; intro a hs
  refine wpList_nil (n_then ?_)
  refine c_reg ?_
  refine r_ok hs m (ok_move rfl) rfl ?_
  clear hs a; intro a hs
  refine r_ok hs m (ok_move rfl) rfl ?_
  clear hs a; intro a hs
  refine r_ok hs m (ok_move rfl) rfl ?_
  clear hs a; intro a hs
  refine r_ok hs m (ok_move rfl) rfl ?_
  clear hs a; intro a hs
  refine r_ok hs m (ok_len (r := (x.length : Int)) m rfl sl82 (rc_own r0) (by simp)) rfl ?_
  clear hs a; intro a hs
  have hc1 := ((m.rdv r0)).ncapM
  refine r_ok hs m (ok_sliceH (i := i) (j := j) (c := x.length) rfl sl82 ty44 ⟨_, rfl⟩ ⟨_, rfl⟩ ⟨_, rfl⟩ (fun h => by cases h) (by omega) (by omega) (by omega)) rfl ?_
  clear hs a; intro a hs
  refine wpList_nil (n_then ?_)
  refine c_seq ?_
  refine c_reg ?_
  refine r_ok hs m (ok_move rfl) rfl ?_
  clear hs a; intro a hs
  refine r_ok hs m (ok_move rfl) rfl ?_
  clear hs a; intro a hs
  refine r_ok hs m (ok_bin rfl rfl rfl) rfl ?_
  clear hs a; intro a hs
  refine wpList_nil (n_then ?_)
  refine c_false hs rfl (by simp; omega) ?_
  refine wp_skip ?_
  refine n_then ?_
  refine c_reg ?_
  refine r_ok hs m (ok_move rfl) rfl ?_
  clear hs a; intro a hs
  refine r_ok hs m (ok_len (r := (x.length : Int)) m rfl sl82 (rc_own r0) (by simp)) rfl ?_
  clear hs a; intro a hs
  refine r_ok hs m (ok_assign rfl) rfl ?_
  clear hs a; intro a hs
  refine wpList_nil (n_then ?_)
  refine c_drawH (Hp w0 R []) m mo ?_; clear m; intro w3 m
  refine h_ok (i := 0) rfl (by kernel_rfl) (by kernel_rfl) (by kernel_rfl) hs (m.sub .n) (ok_move rfl) rfl ?_
  clear hs a; intro a hs
  refine h_ok (i := 1) rfl (by kernel_rfl) (by kernel_rfl) (by kernel_rfl) hs (m.sub .n) (ok_move rfl) rfl ?_
  clear hs a; intro a hs
  have hc4 := ((m.rdv r0)).ncapM
  refine h_ok (i := 2) rfl (by kernel_rfl) (by kernel_rfl) (by kernel_rfl) hs (m.sub .n) (ok_sliceH (i := 0) (j := i) (c := vx.c) rfl sl82 ty44 rfl ⟨_, rfl⟩ rfl (fun h => by cases h) (by omega) (by omega) (by omega)) rfl ?_
  clear hs a; intro a hs
  rw [sub3_0] at hs
  refine h_ok (i := 3) rfl (by kernel_rfl) (by kernel_rfl) (by kernel_rfl) hs (m.sub .n) (ok_move rfl) rfl ?_
  clear hs a; intro a hs
  refine h_ok (i := 4) rfl (by kernel_rfl) (by kernel_rfl) (by kernel_rfl) hs (m.sub .n) (ok_move rfl) rfl ?_
  clear hs a; intro a hs
  have hc5 := ((m.rdv r0)).ncapM
  refine h_ok (i := 5) rfl (by kernel_rfl) (by kernel_rfl) (by kernel_rfl) hs (m.sub .n) (ok_sliceH (i := j) (j := x.length) (c := vx.c) rfl sl82 ty44 ⟨_, rfl⟩ (by show _ = _; omega) rfl (fun _ => rfl) (by omega) (by omega) (by omega)) rfl ?_
  clear hs a; intro a hs
  have hu6 := ((m.rdv r0).win (lo := j) (hi := x.length) (mx := vx.c) (ys := x.drop j) (by omega) (by omega) (by omega) (by omega) (by simp))
  refine h_eff (i := 6) (by kernel_rfl) rfl ?_
  replace m := m.shrinkM (hi := i) s0 (by omega)
  refine r_appendFitM (c := cPrefix) (x := upH vx i) (xs := x.take i) (es := x.drop j) hs m rfl rfl sl82 ni82 ty44 r0 hu6 (fun _ => rfl) (by show _ ≤ vx.c; simp; omega) (by simp; omega) rfl ?_
  clear m hu6 hs a w3; intro w8 m a hs
  rw [upH_up] at m hs
  have hl7 : (x.take i ++ x.drop j).length = x.length - (j - i) := by simp; omega
  refine wpList_nil (n_then ⟨(m.sub .n), ?_⟩)
  refine h_ok (i := 7) rfl (by kernel_rfl) (by kernel_rfl) (by kernel_rfl) hs (m.sub .n) (ok_assign rfl) rfl ?_
  clear hs a; intro a hs
  refine h_done (by kernel_rfl) (n_then ?_)
  refine c_reg ?_
  refine r_ok hs m (ok_move rfl) rfl ?_
  clear hs a; intro a hs
  refine r_ok hs m (ok_move rfl) rfl ?_
  clear hs a; intro a hs
  refine r_ok hs m (ok_len (r := ((x.take i ++ x.drop j).length : Int)) m rfl sl82 (rc_own r0) (by simp)) rfl ?_
  clear hs a; intro a hs
  refine r_ok hs m (ok_move rfl) rfl ?_
  clear hs a; intro a hs
  have hc9 : (upH vx ((x.take i).length + (x.drop j).length)).n = ((x.take i).length + (x.drop j).length) ∧ (upH vx ((x.take i).length + (x.drop j).length)).c = vx.c := ⟨rfl, rfl⟩
  refine r_ok hs m (ok_sliceH (i := (x.take i ++ x.drop j).length) (j := x.length) (c := (upH vx ((x.take i).length + (x.drop j).length)).c) rfl sl82 ty44 ⟨_, rfl⟩ ⟨_, rfl⟩ rfl (fun h => by cases h) (by omega) (by omega) (by omega)) rfl ?_
  clear hs a; intro a hs
  refine r_clearRoomM (c := cPrefix) (x := upH vx ((x.take i).length + (x.drop j).length)) (xs := x.take i ++ x.drop j) (lo := (x.take i ++ x.drop j).length) (z := x.length - (x.take i ++ x.drop j).length) hs m rfl sl82 ty44 ze44 rfl rfl r0 (sub3_lt (x := upH vx ((x.take i).length + (x.drop j).length)) (by show _ < vx.c; omega)) (Nat.le_refl _) (by show _ ≤ vx.c; omega) ?_
  clear m w8; intro w10 m
  refine wpList_nil (n_then ?_)
  refine c_reg ?_
  refine r_ok hs m (ok_move rfl) rfl ?_
  clear hs a; intro a hs
  refine r_ok hs m (ok_assign rfl) rfl ?_
  clear hs a; intro a hs
  refine wpList_nil (n_then ?_)
  refine wp_ret ?_
  refine leave hs (vs := [(upH vx ((x.take i).length + (x.drop j).length)).v]) rfl ⟨rfl, trivial⟩ ?_
  refine ⟨_, rfl, (upH vx ((x.take i).length + (x.drop j).length)), ?_, m.sub (.c r0 .n)⟩
  rfl

theorem delLease_c (vx : SH) (x : List TLease) (i : Nat) (j : Nat) (w0 : World) (R : Hh) (A1 : i < j) (A2 : j ≤ x.length) (m : Hp w0 R [Sv 12 48 vx.v (x.map cLease)] w0) : Calls Tryz.prog 169 ⟨[vx.v, .int .i64 (i : Int), .int .i64 (j : Int)]⟩ w0 fun e w' => ∃ v, e = .returned v ∧ (∃ x0 : SH, v = (x0.v) ∧ Hp w0 R [Sv 12 48 x0.v ((x.take i ++ x.drop j).map cLease)] w') := by
  have cx := m.ncapM r0
  have lvx := (m.rdv r0).bd
  refine enter (n := 33) Tryz.func169 rfl rfl rfl fun a (hs : St 33 [(0, vx.v), (1, .int .i64 (i : Int)), (2, .int .i64 (j : Int))] a) => ?_
  refine c_reg ?_
  refine r_ok hs m (ok_assign rfl) rfl ?_
  clear hs a; intro a hs
  refine wpList_nil (n_then ?_)
  refine c_reg ?_
  refine r_ok hs m (ok_move rfl) rfl ?_
  clear hs a; intro a hs
  refine r_ok hs m (ok_move rfl) rfl ?_
  clear hs a; intro a hs
  refine r_ok hs m (ok_move rfl) rfl ?_
  clear hs a; intro a hs
  refine r_ok hs m (ok_move rfl) rfl ?_
  clear hs a; intro a hs
  refine r_ok hs m (ok_len (r := (x.length : Int)) m rfl sl22 (rc_own r0) (by simp)) rfl ?_
  clear hs a; intro a hs
  have hc1 := ((m.rdv r0)).ncapM
  refine r_ok hs m (ok_sliceH (i := i) (j := j) (c := x.length) rfl sl22 ty48 ⟨_, rfl⟩ ⟨_, rfl⟩ ⟨_, rfl⟩ (fun h => by cases h) (by omega) (by omega) (by omega)) rfl ?_
  clear hs a; intro a hs
  refine wpList_nil (n_then ?_)
  refine c_seq ?_
  refine c_reg ?_
  refine r_ok hs m (ok_move rfl) rfl ?_
  clear hs a; intro a hs
  refine r_ok hs m (ok_move rfl) rfl ?_
  clear hs a; intro a hs
  refine r_ok hs m (ok_bin rfl rfl rfl) rfl ?_
  clear hs a; intro a hs
  refine wpList_nil (n_then ?_)
  refine c_false hs rfl (by simp; omega) ?_
  refine wp_skip ?_
  refine n_then ?_
  refine c_reg ?_
  refine r_ok hs m (ok_move rfl) rfl ?_
  clear hs a; intro a hs
  refine r_ok hs m (ok_len (r := (x.length : Int)) m rfl sl22 (rc_own r0) (by simp)) rfl ?_
  clear hs a; intro a hs
  refine r_ok hs m (ok_assign rfl) rfl ?_
  clear hs a; intro a hs
  refine wpList_nil (n_then ?_)
  refine c_drawH (Hp w0 R []) m mo ?_; clear m; intro w3 m
  refine h_ok (i := 0) rfl (by kernel_rfl) (by kernel_rfl) (by kernel_rfl) hs (m.sub .n) (ok_move rfl) rfl ?_
  clear hs a; intro a hs
  refine h_ok (i := 1) rfl (by kernel_rfl) (by kernel_rfl) (by kernel_rfl) hs (m.sub .n) (ok_move rfl) rfl ?_
  clear hs a; intro a hs
  have hc4 := ((m.rdv r0)).ncapM
  refine h_ok (i := 2) rfl (by kernel_rfl) (by kernel_rfl) (by kernel_rfl) hs (m.sub .n) (ok_sliceH (i := 0) (j := i) (c := vx.c) rfl sl22 ty48 rfl ⟨_, rfl⟩ rfl (fun h => by cases h) (by omega) (by omega) (by omega)) rfl ?_
  clear hs a; intro a hs
  rw [sub3_0] at hs
  refine h_ok (i := 3) rfl (by kernel_rfl) (by kernel_rfl) (by kernel_rfl) hs (m.sub .n) (ok_move rfl) rfl ?_
  clear hs a; intro a hs
  refine h_ok (i := 4) rfl (by kernel_rfl) (by kernel_rfl) (by kernel_rfl) hs (m.sub .n) (ok_move rfl) rfl ?_
  clear hs a; intro a hs
  have hc5 := ((m.rdv r0)).ncapM
  refine h_ok (i := 5) rfl (by kernel_rfl) (by kernel_rfl) (by kernel_rfl) hs (m.sub .n) (ok_sliceH (i := j) (j := x.length) (c := vx.c) rfl sl22 ty48 ⟨_, rfl⟩ (by show _ = _; omega) rfl (fun _ => rfl) (by omega) (by omega) (by omega)) rfl ?_
  clear hs a; intro a hs
  have hu6 := ((m.rdv r0).win (lo := j) (hi := x.length) (mx := vx.c) (ys := x.drop j) (by omega) (by omega) (by omega) (by omega) (by simp))
  refine h_eff (i := 6) (by kernel_rfl) rfl ?_
  replace m := m.shrinkM (hi := i) s0 (by omega)
  refine r_appendFitM (c := cLease) (x := upH vx i) (xs := x.take i) (es := x.drop j) hs m rfl rfl sl22 ni22 ty48 r0 hu6 (fun _ => rfl) (by show _ ≤ vx.c; simp; omega) (by simp; omega) rfl ?_
  clear m hu6 hs a w3; intro w8 m a hs
  rw [upH_up] at m hs
  have hl7 : (x.take i ++ x.drop j).length = x.length - (j - i) := by simp; omega
  refine wpList_nil (n_then ⟨(m.sub .n), ?_⟩)
  refine h_ok (i := 7) rfl (by kernel_rfl) (by kernel_rfl) (by kernel_rfl) hs (m.sub .n) (ok_assign rfl) rfl ?_
  clear hs a; intro a hs
  refine h_done (by kernel_rfl) (n_then ?_)
  refine c_reg ?_
  refine r_ok hs m (ok_move rfl) rfl ?_
  clear hs a; intro a hs
  refine r_ok hs m (ok_move rfl) rfl ?_
  clear hs a; intro a hs
  refine r_ok hs m (ok_len (r := ((x.take i ++ x.drop j).length : Int)) m rfl sl22 (rc_own r0) (by simp)) rfl ?_
  clear hs a; intro a hs
  refine r_ok hs m (ok_move rfl) rfl ?_
  clear hs a; intro a hs
  have hc9 : (upH vx ((x.take i).length + (x.drop j).length)).n = ((x.take i).length + (x.drop j).length) ∧ (upH vx ((x.take i).length + (x.drop j).length)).c = vx.c := ⟨rfl, rfl⟩
  refine r_ok hs m (ok_sliceH (i := (x.take i ++ x.drop j).length) (j := x.length) (c := (upH vx ((x.take i).length + (x.drop j).length)).c) rfl sl22 ty48 ⟨_, rfl⟩ ⟨_, rfl⟩ rfl (fun h => by cases h) (by omega) (by omega) (by omega)) rfl ?_
  clear hs a; intro a hs
  refine r_clearRoomM (c := cLease) (x := upH vx ((x.take i).length + (x.drop j).length)) (xs := x.take i ++ x.drop j) (lo := (x.take i ++ x.drop j).length) (z := x.length - (x.take i ++ x.drop j).length) hs m rfl sl22 ty48 ze48 rfl rfl r0 (sub3_lt (x := upH vx ((x.take i).length + (x.drop j).length)) (by show _ < vx.c; omega)) (Nat.le_refl _) (by show _ ≤ vx.c; omega) ?_
  clear m w8; intro w10 m
  refine wpList_nil (n_then ?_)
  refine c_reg ?_
  refine r_ok hs m (ok_move rfl) rfl ?_
  clear hs a; intro a hs
  refine r_ok hs m (ok_assign rfl) rfl ?_
  clear hs a; intro a hs
  refine wpList_nil (n_then ?_)
  refine wp_ret ?_
  refine leave hs (vs := [(upH vx ((x.take i).length + (x.drop j).length)).v]) rfl ⟨rfl, trivial⟩ ?_
  refine ⟨_, rfl, (upH vx ((x.take i).length + (x.drop j).length)), ?_, m.sub (.c r0 .n)⟩
  rfl

theorem cloneRoute_c (vx : SH) (x : List TRoute) (w0 : World) (hx : RdS (hh w0) 4 vx.v (x.map cRoute)) (A1 : x.length ≤ 4294967295) : Calls Tryz.prog 126 ⟨[vx.v]⟩ w0 fun e w' => ∃ v, e = .returned v ∧ (∃ x0 : SH, v = (x0.v) ∧ Hp w0 (hh w0) [Sv 4 51 x0.v (x.map cRoute)] w') := by
  have lvx := hx.bd
  refine enter (n := 8) Tryz.func126 rfl rfl rfl fun a (hs : St 8 [(0, vx.v)] a) => ?_
  have m := Hp.start w0
  refine c_reg ?_
  refine r_ok hs m (ok_assign rfl) rfl ?_
  clear hs a; intro a hs
  refine wpList_nil (n_then ?_)
  refine c_seq ?_
  refine c_reg ?_
  refine r_ok hs m (ok_move rfl) rfl ?_
  clear hs a; intro a hs
  refine r_ok hs m (ok_isNilS rfl rfl sl25) rfl ?_
  clear hs a; intro a hs
  refine wpList_nil (n_then ?_)
  refine c_cond hs rfl (fun h1 => ?_) (fun h1 => ?_)
  · refine c_reg ?_
    refine r_ok hs m (ok_assign rfl) rfl ?_
    clear hs a; intro a hs
    refine wpList_nil (n_then ?_)
    refine wp_ret ?_
    refine ret_then (leave hs (vs := [nilH.v]) rfl ⟨rfl, trivial⟩ ?_)
    replace m := m.nilSvM cRoute 4 51
    have q3 : ([] : List TRoute) = x := by first | rfl | exact (hx.isnil (by assumption)).symm
    rw [q3] at m
    refine ⟨_, rfl, nilH, ?_, m.sub (.c r0 .n)⟩
    rfl
  refine wp_skip ?_
  refine n_then ?_
  refine c_reg ?_
  refine r_buildM (c := cRoute) (ys := ([] : List TRoute)) hs m sl25 ty51 ze51 rfl rfl rfl rfl rfl (fun _ => rfl) rfl rfl rfl ?_
  clear m hs a; intro v4 w5 m a hs
  refine r_ok hs m (ok_move rfl) rfl ?_
  clear hs a; intro a hs
  refine r_appendM (c := cRoute) (xs := ([] : List TRoute)) (ys := x) hs m rfl rfl sl25 ni25 ty51 ze51 rfl by51 rfl r0 (m.rd hx) (fun _ => rfl) (by first | omega | (simp; done) | (simp; omega)) rfl ?_
  clear m hs a w5; intro v6 w7 m a hs
  refine r_ok hs m (ok_assign rfl) rfl ?_
  clear hs a; intro a hs
  refine wpList_nil (n_then ?_)
  refine wp_ret ?_
  refine leave hs (vs := [v6.v]) rfl ⟨rfl, trivial⟩ ?_
  refine ⟨_, rfl, v6, ?_, m.sub (.c r0 .n)⟩
  rfl

theorem cloneNeigh_c (vx : SH) (x : List TNeigh) (w0 : World) (hx : RdS (hh w0) 7 vx.v (x.map cNeigh)) (A1 : x.length ≤ 4294967295) : Calls Tryz.prog 127 ⟨[vx.v]⟩ w0 fun e w' => ∃ v, e = .returned v ∧ (∃ x0 : SH, v = (x0.v) ∧ Hp w0 (hh w0) [Sv 7 54 x0.v (x.map cNeigh)] w') := by
  have lvx := hx.bd
  refine enter (n := 8) Tryz.func127 rfl rfl rfl fun a (hs : St 8 [(0, vx.v)] a) => ?_
  have m := Hp.start w0
  refine c_reg ?_
  refine r_ok hs m (ok_assign rfl) rfl ?_
  clear hs a; intro a hs
  refine wpList_nil (n_then ?_)
  refine c_seq ?_
  refine c_reg ?_
  refine r_ok hs m (ok_move rfl) rfl ?_
  clear hs a; intro a hs
  refine r_ok hs m (ok_isNilS rfl rfl sl26) rfl ?_
  clear hs a; intro a hs
  refine wpList_nil (n_then ?_)
  refine c_cond hs rfl (fun h1 => ?_) (fun h1 => ?_)
  · refine c_reg ?_
    refine r_ok hs m (ok_assign rfl) rfl ?_
    clear hs a; intro a hs
    refine wpList_nil (n_then ?_)
    refine wp_ret ?_
    refine ret_then (leave hs (vs := [nilH.v]) rfl ⟨rfl, trivial⟩ ?_)
    replace m := m.nilSvM cNeigh 7 54
    have q3 : ([] : List TNeigh) = x := by first | rfl | exact (hx.isnil (by assumption)).symm
    rw [q3] at m
    refine ⟨_, rfl, nilH, ?_, m.sub (.c r0 .n)⟩
    rfl
  refine wp_skip ?_
  refine n_then ?_
  refine c_reg ?_
  refine r_buildM (c := cNeigh) (ys := ([] : List TNeigh)) hs m sl26 ty54 ze54 rfl rfl rfl rfl rfl (fun _ => rfl) rfl rfl rfl ?_
  clear m hs a; intro v4 w5 m a hs
  refine r_ok hs m (ok_move rfl) rfl ?_
  clear hs a; intro a hs
  refine r_appendM (c := cNeigh) (xs := ([] : List TNeigh)) (ys := x) hs m rfl rfl sl26 ni26 ty54 ze54 rfl by54 rfl r0 (m.rd hx) (fun _ => rfl) (by first | omega | (simp; done) | (simp; omega)) rfl ?_
  clear m hs a w5; intro v6 w7 m a hs
  refine r_ok hs m (ok_assign rfl) rfl ?_
  clear hs a; intro a hs
  refine wpList_nil (n_then ?_)
  refine wp_ret ?_
  refine leave hs (vs := [v6.v]) rfl ⟨rfl, trivial⟩ ?_
  refine ⟨_, rfl, v6, ?_, m.sub (.c r0 .n)⟩
  rfl

theorem cloneFdb_c (vx : SH) (x : List TFdb) (w0 : World) (hx : RdS (hh w0) 7 vx.v (x.map cFdb)) (A1 : x.length ≤ 4294967295) : Calls Tryz.prog 128 ⟨[vx.v]⟩ w0 fun e w' => ∃ v, e = .returned v ∧ (∃ x0 : SH, v = (x0.v) ∧ Hp w0 (hh w0) [Sv 7 56 x0.v (x.map cFdb)] w') := by
  have lvx := hx.bd
  refine enter (n := 8) Tryz.func128 rfl rfl rfl fun a (hs : St 8 [(0, vx.v)] a) => ?_
  have m := Hp.start w0
  refine c_reg ?_
  refine r_ok hs m (ok_assign rfl) rfl ?_
  clear hs a; intro a hs
  refine wpList_nil (n_then ?_)
  refine c_seq ?_
  refine c_reg ?_
  refine r_ok hs m (ok_move rfl) rfl ?_
  clear hs a; intro a hs
  refine r_ok hs m (ok_isNilS rfl rfl sl27) rfl ?_
  clear hs a; intro a hs
  refine wpList_nil (n_then ?_)
  refine c_cond hs rfl (fun h1 => ?_) (fun h1 => ?_)
  · refine c_reg ?_
    refine r_ok hs m (ok_assign rfl) rfl ?_
    clear hs a; intro a hs
    refine wpList_nil (n_then ?_)
    refine wp_ret ?_
    refine ret_then (leave hs (vs := [nilH.v]) rfl ⟨rfl, trivial⟩ ?_)
    replace m := m.nilSvM cFdb 7 56
    have q3 : ([] : List TFdb) = x := by first | rfl | exact (hx.isnil (by assumption)).symm
    rw [q3] at m
    refine ⟨_, rfl, nilH, ?_, m.sub (.c r0 .n)⟩
    rfl
  refine wp_skip ?_
  refine n_then ?_
  refine c_reg ?_
  refine r_buildM (c := cFdb) (ys := ([] : List TFdb)) hs m sl27 ty56 ze56 rfl rfl rfl rfl rfl (fun _ => rfl) rfl rfl rfl ?_
  clear m hs a; intro v4 w5 m a hs
  refine r_ok hs m (ok_move rfl) rfl ?_
  clear hs a; intro a hs
  refine r_appendM (c := cFdb) (xs := ([] : List TFdb)) (ys := x) hs m rfl rfl sl27 ni27 ty56 ze56 rfl by56 rfl r0 (m.rd hx) (fun _ => rfl) (by first | omega | (simp; done) | (simp; omega)) rfl ?_
  clear m hs a w5; intro v6 w7 m a hs
  refine r_ok hs m (ok_assign rfl) rfl ?_
  clear hs a; intro a hs
  refine wpList_nil (n_then ?_)
  refine wp_ret ?_
  refine leave hs (vs := [v6.v]) rfl ⟨rfl, trivial⟩ ?_
  refine ⟨_, rfl, v6, ?_, m.sub (.c r0 .n)⟩
  rfl

theorem clonePrefix_c (vx : SH) (x : List TPrefix) (w0 : World) (hx : RdS (hh w0) 2 vx.v (x.map cPrefix)) (A1 : x.length ≤ 4294967295) : Calls Tryz.prog 82 ⟨[vx.v]⟩ w0 fun e w' => ∃ v, e = .returned v ∧ (∃ x0 : SH, v = (x0.v) ∧ Hp w0 (hh w0) [Sv 2 44 x0.v (x.map cPrefix)] w') := by
  have lvx := hx.bd
  refine enter (n := 8) Tryz.func82 rfl rfl rfl fun a (hs : St 8 [(0, vx.v)] a) => ?_
  have m := Hp.start w0
  refine c_reg ?_
  refine r_ok hs m (ok_assign rfl) rfl ?_
  clear hs a; intro a hs
  refine wpList_nil (n_then ?_)
  refine c_seq ?_
  refine c_reg ?_
  refine r_ok hs m (ok_move rfl) rfl ?_
  clear hs a; intro a hs
  refine r_ok hs m (ok_isNilS rfl rfl sl82) rfl ?_
  clear hs a; intro a hs
  refine wpList_nil (n_then ?_)
  refine c_cond hs rfl (fun h1 => ?_) (fun h1 => ?_)
  · refine c_reg ?_
    refine r_ok hs m (ok_assign rfl) rfl ?_
    clear hs a; intro a hs
    refine wpList_nil (n_then ?_)
    refine wp_ret ?_
    refine ret_then (leave hs (vs := [nilH.v]) rfl ⟨rfl, trivial⟩ ?_)
    replace m := m.nilSvM cPrefix 2 44
    have q3 : ([] : List TPrefix) = x := by first | rfl | exact (hx.isnil (by assumption)).symm
    rw [q3] at m
    refine ⟨_, rfl, nilH, ?_, m.sub (.c r0 .n)⟩
    rfl
  refine wp_skip ?_
  refine n_then ?_
  refine c_reg ?_
  refine r_buildM (c := cPrefix) (ys := ([] : List TPrefix)) hs m sl82 ty44 ze44 rfl rfl rfl rfl rfl (fun _ => rfl) rfl rfl rfl ?_
  clear m hs a; intro v4 w5 m a hs
  refine r_ok hs m (ok_move rfl) rfl ?_
  clear hs a; intro a hs
  refine r_appendM (c := cPrefix) (xs := ([] : List TPrefix)) (ys := x) hs m rfl rfl sl82 ni82 ty44 ze44 rfl by44 rfl r0 (m.rd hx) (fun _ => rfl) (by first | omega | (simp; done) | (simp; omega)) rfl ?_
  clear m hs a w5; intro v6 w7 m a hs
  refine r_ok hs m (ok_assign rfl) rfl ?_
  clear hs a; intro a hs
  refine wpList_nil (n_then ?_)
  refine wp_ret ?_
  refine leave hs (vs := [v6.v]) rfl ⟨rfl, trivial⟩ ?_
  refine ⟨_, rfl, v6, ?_, m.sub (.c r0 .n)⟩
  rfl

theorem cloneLease_c (vx : SH) (x : List TLease) (w0 : World) (hx : RdS (hh w0) 12 vx.v (x.map cLease)) (A1 : x.length ≤ 4294967295) : Calls Tryz.prog 81 ⟨[vx.v]⟩ w0 fun e w' => ∃ v, e = .returned v ∧ (∃ x0 : SH, v = (x0.v) ∧ Hp w0 (hh w0) [Sv 12 48 x0.v (x.map cLease)] w') := by
  have lvx := hx.bd
  refine enter (n := 8) Tryz.func81 rfl rfl rfl fun a (hs : St 8 [(0, vx.v)] a) => ?_
  have m := Hp.start w0
  refine c_reg ?_
  refine r_ok hs m (ok_assign rfl) rfl ?_
  clear hs a; intro a hs
  refine wpList_nil (n_then ?_)
  refine c_seq ?_
  refine c_reg ?_
  refine r_ok hs m (ok_move rfl) rfl ?_
  clear hs a; intro a hs
  refine r_ok hs m (ok_isNilS rfl rfl sl22) rfl ?_
  clear hs a; intro a hs
  refine wpList_nil (n_then ?_)
  refine c_cond hs rfl (fun h1 => ?_) (fun h1 => ?_)
  · refine c_reg ?_
    refine r_ok hs m (ok_assign rfl) rfl ?_
    clear hs a; intro a hs
    refine wpList_nil (n_then ?_)
    refine wp_ret ?_
    refine ret_then (leave hs (vs := [nilH.v]) rfl ⟨rfl, trivial⟩ ?_)
    replace m := m.nilSvM cLease 12 48
    have q3 : ([] : List TLease) = x := by first | rfl | exact (hx.isnil (by assumption)).symm
    rw [q3] at m
    refine ⟨_, rfl, nilH, ?_, m.sub (.c r0 .n)⟩
    rfl
  refine wp_skip ?_
  refine n_then ?_
  refine c_reg ?_
  refine r_buildM (c := cLease) (ys := ([] : List TLease)) hs m sl22 ty48 ze48 rfl rfl rfl rfl rfl (fun _ => rfl) rfl rfl rfl ?_
  clear m hs a; intro v4 w5 m a hs
  refine r_ok hs m (ok_move rfl) rfl ?_
  clear hs a; intro a hs
  refine r_appendM (c := cLease) (xs := ([] : List TLease)) (ys := x) hs m rfl rfl sl22 ni22 ty48 ze48 rfl by48 rfl r0 (m.rd hx) (fun _ => rfl) (by first | omega | (simp; done) | (simp; omega)) rfl ?_
  clear m hs a w5; intro v6 w7 m a hs
  refine r_ok hs m (ok_assign rfl) rfl ?_
  clear hs a; intro a hs
  refine wpList_nil (n_then ?_)
  refine wp_ret ?_
  refine leave hs (vs := [v6.v]) rfl ⟨rfl, trivial⟩ ?_
  refine ⟨_, rfl, v6, ?_, m.sub (.c r0 .n)⟩
  rfl

end Go.Proofs.YtnbpodjbemfpbaaGreat.Fw
