/-
  Walks: printed by wip/tool/agent.py.
-/
import Derived.Test.YtnbpodjbemfpbaaGreatWf
import Derived.Test.YtnbpodjbemfpbaaGreatWe
import Derived.KernelRfl
set_option linter.all false
set_option maxHeartbeats 4000000
set_option maxRecDepth 100000
namespace Go.Proofs.YtnbpodjbemfpbaaGreat.Fw
open Go
theorem cloneRoute_c (vx : SH) (x : List TRoute) (w0 : World) (hx : RdS (hh w0) 4 vx.v (x.map cRoute)) (A1 : x.length ≤ 2600000000000) : Calls Tryz.prog 126 ⟨[vx.v]⟩ w0 fun e w' => ∃ v, e = .returned v ∧ (∃ x0 : SH, v = (x0.v) ∧ Hp w0 (hh w0) [Sv 4 51 x0.v (x.map cRoute)] w') := by
  have lvx := hx.bd
  refine enter (n := 8) Tryz.func126 rfl rfl rfl fun a (hs : St 8 [(0, vx.v)] a) => ?_
  have m := Hp.start w0
  refine c_reg ?_
  refine r_ok hs m (ok_assign rfl) rfl ?_
  clear hs a; intro a hs
  refine wpList_nil (n_then ?_)
  refine c_seq ?_
  refine c_reg ?_
  refine r_ok hs m (ok_move rfl) rfl ?_
  clear hs a; intro a hs
  refine r_ok hs m (ok_isNilS rfl rfl sl25) rfl ?_
  clear hs a; intro a hs
  refine wpList_nil (n_then ?_)
  refine c_cond hs rfl (fun h1 => ?_) (fun h1 => ?_)
  · refine c_reg ?_
    refine r_ok hs m (ok_assign rfl) rfl ?_
    clear hs a; intro a hs
    refine wpList_nil (n_then ?_)
    refine wp_ret ?_
    refine ret_then (leave hs (vs := [nilH.v]) rfl ⟨rfl, trivial⟩ ?_)
    replace m := m.nilSvM cRoute 4 51
    have q3 : ([] : List TRoute) = x := by first | rfl | exact (hx.isnil (by assumption)).symm
    rw [q3] at m
    refine ⟨_, rfl, nilH, ?_, m.sub (.c r0 .n)⟩
    rfl
  refine wp_skip ?_
  refine n_then ?_
  refine c_reg ?_
  refine r_buildM (c := cRoute) (ys := ([] : List TRoute)) hs m sl25 ty51 ze51 rfl rfl rfl rfl rfl (fun _ => rfl) rfl rfl rfl ?_
  clear m hs a; intro v4 w5 m a hs
  refine r_ok hs m (ok_move rfl) rfl ?_
  clear hs a; intro a hs
  refine r_appendM (c := cRoute) (xs := ([] : List TRoute)) (ys := x) hs m rfl rfl sl25 ni25 ty51 ze51 rfl by51 rfl r0 (m.rd hx) (fun _ => rfl) (by first | omega | (simp; done) | (simp; omega)) rfl ?_
  clear m hs a w5; intro v6 w7 m a hs
  refine r_ok hs m (ok_assign rfl) rfl ?_
  clear hs a; intro a hs
  refine wpList_nil (n_then ?_)
  refine wp_ret ?_
  refine leave hs (vs := [v6.v]) rfl ⟨rfl, trivial⟩ ?_
  refine ⟨_, rfl, v6, ?_, m.sub (.c r0 .n)⟩
  rfl
theorem cloneNeigh_c (vx : SH) (x : List TNeigh) (w0 : World) (hx : RdS (hh w0) 7 vx.v (x.map cNeigh)) (A1 : x.length ≤ 2600000000000) : Calls Tryz.prog 127 ⟨[vx.v]⟩ w0 fun e w' => ∃ v, e = .returned v ∧ (∃ x0 : SH, v = (x0.v) ∧ Hp w0 (hh w0) [Sv 7 54 x0.v (x.map cNeigh)] w') := by
  have lvx := hx.bd
  refine enter (n := 8) Tryz.func127 rfl rfl rfl fun a (hs : St 8 [(0, vx.v)] a) => ?_
  have m := Hp.start w0
  refine c_reg ?_
  refine r_ok hs m (ok_assign rfl) rfl ?_
  clear hs a; intro a hs
  refine wpList_nil (n_then ?_)
  refine c_seq ?_
  refine c_reg ?_
  refine r_ok hs m (ok_move rfl) rfl ?_
  clear hs a; intro a hs
  refine r_ok hs m (ok_isNilS rfl rfl sl26) rfl ?_
  clear hs a; intro a hs
  refine wpList_nil (n_then ?_)
  refine c_cond hs rfl (fun h1 => ?_) (fun h1 => ?_)
  · refine c_reg ?_
    refine r_ok hs m (ok_assign rfl) rfl ?_
    clear hs a; intro a hs
    refine wpList_nil (n_then ?_)
    refine wp_ret ?_
    refine ret_then (leave hs (vs := [nilH.v]) rfl ⟨rfl, trivial⟩ ?_)
    replace m := m.nilSvM cNeigh 7 54
    have q3 : ([] : List TNeigh) = x := by first | rfl | exact (hx.isnil (by assumption)).symm
    rw [q3] at m
    refine ⟨_, rfl, nilH, ?_, m.sub (.c r0 .n)⟩
    rfl
  refine wp_skip ?_
  refine n_then ?_
  refine c_reg ?_
  refine r_buildM (c := cNeigh) (ys := ([] : List TNeigh)) hs m sl26 ty54 ze54 rfl rfl rfl rfl rfl (fun _ => rfl) rfl rfl rfl ?_
  clear m hs a; intro v4 w5 m a hs
  refine r_ok hs m (ok_move rfl) rfl ?_
  clear hs a; intro a hs
  refine r_appendM (c := cNeigh) (xs := ([] : List TNeigh)) (ys := x) hs m rfl rfl sl26 ni26 ty54 ze54 rfl by54 rfl r0 (m.rd hx) (fun _ => rfl) (by first | omega | (simp; done) | (simp; omega)) rfl ?_
  clear m hs a w5; intro v6 w7 m a hs
  refine r_ok hs m (ok_assign rfl) rfl ?_
  clear hs a; intro a hs
  refine wpList_nil (n_then ?_)
  refine wp_ret ?_
  refine leave hs (vs := [v6.v]) rfl ⟨rfl, trivial⟩ ?_
  refine ⟨_, rfl, v6, ?_, m.sub (.c r0 .n)⟩
  rfl
theorem cloneFdb_c (vx : SH) (x : List TFdb) (w0 : World) (hx : RdS (hh w0) 7 vx.v (x.map cFdb)) (A1 : x.length ≤ 2600000000000) : Calls Tryz.prog 128 ⟨[vx.v]⟩ w0 fun e w' => ∃ v, e = .returned v ∧ (∃ x0 : SH, v = (x0.v) ∧ Hp w0 (hh w0) [Sv 7 56 x0.v (x.map cFdb)] w') := by
  have lvx := hx.bd
  refine enter (n := 8) Tryz.func128 rfl rfl rfl fun a (hs : St 8 [(0, vx.v)] a) => ?_
  have m := Hp.start w0
  refine c_reg ?_
  refine r_ok hs m (ok_assign rfl) rfl ?_
  clear hs a; intro a hs
  refine wpList_nil (n_then ?_)
  refine c_seq ?_
  refine c_reg ?_
  refine r_ok hs m (ok_move rfl) rfl ?_
  clear hs a; intro a hs
  refine r_ok hs m (ok_isNilS rfl rfl sl27) rfl ?_
  clear hs a; intro a hs
  refine wpList_nil (n_then ?_)
  refine c_cond hs rfl (fun h1 => ?_) (fun h1 => ?_)
  · refine c_reg ?_
    refine r_ok hs m (ok_assign rfl) rfl ?_
    clear hs a; intro a hs
    refine wpList_nil (n_then ?_)
    refine wp_ret ?_
    refine ret_then (leave hs (vs := [nilH.v]) rfl ⟨rfl, trivial⟩ ?_)
    replace m := m.nilSvM cFdb 7 56
    have q3 : ([] : List TFdb) = x := by first | rfl | exact (hx.isnil (by assumption)).symm
    rw [q3] at m
    refine ⟨_, rfl, nilH, ?_, m.sub (.c r0 .n)⟩
    rfl
  refine wp_skip ?_
  refine n_then ?_
  refine c_reg ?_
  refine r_buildM (c := cFdb) (ys := ([] : List TFdb)) hs m sl27 ty56 ze56 rfl rfl rfl rfl rfl (fun _ => rfl) rfl rfl rfl ?_
  clear m hs a; intro v4 w5 m a hs
  refine r_ok hs m (ok_move rfl) rfl ?_
  clear hs a; intro a hs
  refine r_appendM (c := cFdb) (xs := ([] : List TFdb)) (ys := x) hs m rfl rfl sl27 ni27 ty56 ze56 rfl by56 rfl r0 (m.rd hx) (fun _ => rfl) (by first | omega | (simp; done) | (simp; omega)) rfl ?_
  clear m hs a w5; intro v6 w7 m a hs
  refine r_ok hs m (ok_assign rfl) rfl ?_
  clear hs a; intro a hs
  refine wpList_nil (n_then ?_)
  refine wp_ret ?_
  refine leave hs (vs := [v6.v]) rfl ⟨rfl, trivial⟩ ?_
  refine ⟨_, rfl, v6, ?_, m.sub (.c r0 .n)⟩
  rfl
theorem cloneLease_c (vx : SH) (x : List TLease) (w0 : World) (hx : RdS (hh w0) 12 vx.v (x.map cLease)) (A1 : x.length ≤ 2500000000000) : Calls Tryz.prog 81 ⟨[vx.v]⟩ w0 fun e w' => ∃ v, e = .returned v ∧ (∃ x0 : SH, v = (x0.v) ∧ Hp w0 (hh w0) [Sv 12 48 x0.v (x.map cLease)] w') := by
  have lvx := hx.bd
  refine enter (n := 8) Tryz.func81 rfl rfl rfl fun a (hs : St 8 [(0, vx.v)] a) => ?_
  have m := Hp.start w0
  refine c_reg ?_
  refine r_ok hs m (ok_assign rfl) rfl ?_
  clear hs a; intro a hs
  refine wpList_nil (n_then ?_)
  refine c_seq ?_
  refine c_reg ?_
  refine r_ok hs m (ok_move rfl) rfl ?_
  clear hs a; intro a hs
  refine r_ok hs m (ok_isNilS rfl rfl sl22) rfl ?_
  clear hs a; intro a hs
  refine wpList_nil (n_then ?_)
  refine c_cond hs rfl (fun h1 => ?_) (fun h1 => ?_)
  · refine c_reg ?_
    refine r_ok hs m (ok_assign rfl) rfl ?_
    clear hs a; intro a hs
    refine wpList_nil (n_then ?_)
    refine wp_ret ?_
    refine ret_then (leave hs (vs := [nilH.v]) rfl ⟨rfl, trivial⟩ ?_)
    replace m := m.nilSvM cLease 12 48
    have q3 : ([] : List TLease) = x := by first | rfl | exact (hx.isnil (by assumption)).symm
    rw [q3] at m
    refine ⟨_, rfl, nilH, ?_, m.sub (.c r0 .n)⟩
    rfl
  refine wp_skip ?_
  refine n_then ?_
  refine c_reg ?_
  refine r_buildM (c := cLease) (ys := ([] : List TLease)) hs m sl22 ty48 ze48 rfl rfl rfl rfl rfl (fun _ => rfl) rfl rfl rfl ?_
  clear m hs a; intro v4 w5 m a hs
  refine r_ok hs m (ok_move rfl) rfl ?_
  clear hs a; intro a hs
  refine r_appendM (c := cLease) (xs := ([] : List TLease)) (ys := x) hs m rfl rfl sl22 ni22 ty48 ze48 rfl by48 rfl r0 (m.rd hx) (fun _ => rfl) (by first | omega | (simp; done) | (simp; omega)) rfl ?_
  clear m hs a w5; intro v6 w7 m a hs
  refine r_ok hs m (ok_assign rfl) rfl ?_
  clear hs a; intro a hs
  refine wpList_nil (n_then ?_)
  refine wp_ret ?_
  refine leave hs (vs := [v6.v]) rfl ⟨rfl, trivial⟩ ?_
  refine ⟨_, rfl, v6, ?_, m.sub (.c r0 .n)⟩
  rfl
end Go.Proofs.YtnbpodjbemfpbaaGreat.Fw
