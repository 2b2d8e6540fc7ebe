/-
  Walks: printed by wip/tool/agent.py.
-/
import Derived.Test.YtnbpodjbemfpbaaGreatWc
import Derived.KernelRfl
set_option linter.all false
set_option maxHeartbeats 4000000
set_option maxRecDepth 100000
namespace Go.Proofs.YtnbpodjbemfpbaaGreat.Fw
open Go
theorem en154 : entry Tryz.prog 154 Extern.BytealgCompare.compare := ⟨_, Tryz.func154, by kernel_rfl, by kernel_rfl, by kernel_rfl, by kernel_rfl⟩
theorem bcompare_c (vx : SH) (x : List (Fx .u8)) (vy : SH) (y : List (Fx .u8)) (w0 : World) (hx : RdS (hh w0) 1 vx.v (x.map cI)) (hy : RdS (hh w0) 1 vy.v (y.map cI)) : Pure Tryz.prog 105 [vx.v, vy.v] (.int .i64 ((cmpBF x y).v)) w0 := by
  have lvx := hx.bd
  have lvy := hy.bd
  refine enter (n := 8) Tryz.func105 rfl rfl rfl fun a (hs : St 8 [(0, vx.v), (1, vy.v)] a) => ?_
  have m := Hp.start w0
  refine c_reg ?_
  refine r_ok hs m (ok_assign rfl) rfl ?_
  clear hs a; intro a hs
  refine wpList_nil (n_then ?_)
  refine c_reg ?_
  refine r_ok hs m (ok_move rfl) rfl ?_
  clear hs a; intro a hs
  refine r_ok hs m (ok_move rfl) rfl ?_
  clear hs a; intro a hs
  refine r_ok hs m (ok_entry en154 rfl (fun w m => run_compare (m.rd hx) (m.rd hy))) rfl ?_
  clear hs a; intro a hs
  refine r_ok hs m (ok_assign rfl) rfl ?_
  clear hs a; intro a hs
  refine wpList_nil (n_then ?_)
  refine wp_ret ?_
  refine leave hs (vs := [.int .i64 ((cmpBF x y).v)]) rfl ⟨rfl, trivial⟩ ?_
  refine ⟨?_, m.sub .n⟩
  rfl
theorem cfdb_c (x : TFdb) (y : TFdb) (w0 : World) : Pure Tryz.prog 49 [.agg ⟨cFdb x⟩, .agg ⟨cFdb y⟩] (.int .i64 ((cmpFdb x y).v)) w0 := by
  refine enter (n := 10) Tryz.func49 rfl rfl rfl fun a (hs : St 10 [(0, .agg ⟨cFdb x⟩), (1, .agg ⟨cFdb y⟩)] a) => ?_
  have m := Hp.start w0
  refine c_reg ?_
  refine r_box (cs := cFdb x) hs m rfl rfl rfl ?_
  clear m hs a; intro p1 w2 m a hs
  refine r_box (cs := cFdb y) hs m rfl rfl rfl ?_
  clear m hs a w2; intro p3 w4 m a hs
  refine r_ok hs m (ok_assign rfl) rfl ?_
  clear hs a; intro a hs
  refine wpList_nil (n_then ?_)
  refine c_draw m mo (by kernel_rfl) ?_
  refine q_ok hs (ok_fieldAddr (r := 0) rfl fd56_0 ty46 rfl) rfl ?_
  clear hs a; intro a hs
  refine q_ok hs (ok_sliceArr rfl ar46 ty5) rfl ?_
  clear hs a; intro a hs
  refine q_ok hs (ok_fieldAddr (r := 0) rfl fd56_0 ty46 rfl) rfl ?_
  clear hs a; intro a hs
  refine q_ok hs (ok_sliceArr rfl ar46 ty5) rfl ?_
  clear hs a; intro a hs
  refine q_callP hs rfl rfl ca105 rfl (fun w m => bcompare_c (⟨some (padd p1 0), 6, 6⟩ : SH) [x.MAC.b0, x.MAC.b1, x.MAC.b2, x.MAC.b3, x.MAC.b4, x.MAC.b5] (⟨some (padd p3 0), 6, 6⟩ : SH) [y.MAC.b0, y.MAC.b1, y.MAC.b2, y.MAC.b3, y.MAC.b4, y.MAC.b5] w (rd_boxM (c := cI) (bx_at r1 _ m) rfl rfl rfl) (rd_boxM (c := cI) (bx_at r0 _ m) rfl rfl rfl) ) rfl ?_
  clear hs a; intro a hs
  refine q_ok hs (ok_assign rfl) rfl ?_
  clear hs a; intro a hs
  refine wpQuiet_nil ?_; clear m w4; intro w5 m
  refine wp_ret ?_
  refine leave hs (vs := [.int .i64 ((cmpBF [x.MAC.b0, x.MAC.b1, x.MAC.b2, x.MAC.b3, x.MAC.b4, x.MAC.b5] [y.MAC.b0, y.MAC.b1, y.MAC.b2, y.MAC.b3, y.MAC.b4, y.MAC.b5]).v)]) rfl ⟨rfl, trivial⟩ ?_
  refine ⟨?_, m.sub .n⟩
  have q6 : ((cmpBF [x.MAC.b0, x.MAC.b1, x.MAC.b2, x.MAC.b3, x.MAC.b4, x.MAC.b5] [y.MAC.b0, y.MAC.b1, y.MAC.b2, y.MAC.b3, y.MAC.b4, y.MAC.b5]).v : Int) = (cmpFdb x y).v := by clear hs m; rfl
  first | (rw [q6]; done) | (rw [q6]; rfl) | (rw [q6]; rfl) | (simp only [q6, pack]; done)
end Go.Proofs.YtnbpodjbemfpbaaGreat.Fw
