/-
  Own work: walks and laws, joined by wip/tool/compact.py.
-/
import Derived.Test.YtdallmabajeajaaGreatDoorG8

set_option linter.all false
set_option linter.all false
set_option maxHeartbeats 4000000
set_option maxRecDepth 100000
namespace Go.Proofs.YtdallmabajeajaaGreatDoor.Fw
open Go
section
variable (c0 c1 : QConfig) (rs0 rs1 : List QReserve) (X : SH) (R : Hh) (hC : ClsR R X) (a0 : ArgC R c0 rs0) (a1 : ArgC R c1 rs1) (ov : SH) (os : List Qweftlaw11_Op) (hO : RdS R 17 ov.v (os.map cweftlaw11_Op)) (hoq : ∀ x ∈ os, Rweftlaw11_Op x)
include hC a0 a1 hO hoq
theorem leaseImages_c : Ctp Tryz.prog 14 [.agg ⟨cConfig c0 ++ cConfig c1⟩, ov.v] R [] (.bool true) := by
  refine in_ Tryz.func14 fun w0 => ?_
  refine bo_' fun b2 => ?_
  refine cp_ (fun R' q1 q2 => play_c c0 c1 rs0 rs1 X R' (hC.le q1) ⟨a0.hr, a0.rr, a0.hl, a0.rd.le q1⟩ ⟨a1.hr, a1.rr, a1.hl, a1.rd.le q1⟩ ov os (hO.le q1) hoq 5 5 (by decide)) ?_
  exact re_ rfl
end
end Go.Proofs.YtdallmabajeajaaGreatDoor.Fw
set_option linter.all false
set_option maxRecDepth 100000
namespace Go.Proofs.YtdallmabajeajaaGreatDoor.Fw
open Go
section
variable {H : Type} {enc : TypeId × Value → H} {w : World} {base : Nat} {spare : Nat → Bool} {held : Bool} {fuel : Nat} {cs : List Value} {x : DataW H × List MemPlace}
theorem o_weftlaw11_Op (h : DataW.trod enc Tryz.prog w base spare held fuel 97 cs = some x) : ∃ y : Qweftlaw11_Op, cs = cweftlaw11_Op y ∧ Rweftlaw11_Op y := by
  have hl := trod_len (stt rfl) (tt rfl) h
  obtain ⟨m0, x0, h0⟩ := trod_fd (i := 0) (ft rfl rfl) (tt rfl) h
  obtain ⟨y0, e0, g0⟩ := trod_i (int_ rfl) h0
  obtain ⟨m1, x1, h1⟩ := trod_fd (i := 1) (ft rfl rfl) (tt rfl) h
  obtain ⟨y1, e1, g1⟩ := trod_i (int_ rfl) h1
  obtain ⟨m2, x2, h2⟩ := trod_fd (i := 2) (ft rfl rfl) (tt rfl) h
  obtain ⟨y2, e2, g2⟩ := o_Cmd h2
  obtain ⟨m3, x3, h3⟩ := trod_fd (i := 3) (ft rfl rfl) (tt rfl) h
  obtain ⟨y3, e3, g3⟩ := trod_i (int_ rfl) h3
  obtain ⟨m4, x4, h4⟩ := trod_fd (i := 4) (ft rfl rfl) (tt rfl) h
  obtain ⟨y4, e4, g4⟩ := trod_i (int_ rfl) h4
  obtain ⟨m5, x5, h5⟩ := trod_fd (i := 5) (ft rfl rfl) (tt rfl) h
  obtain ⟨y5, e5, g5⟩ := trod_i (int_ rfl) h5
  match cs, hl with
  | [a0, a1, a2, a3, a4, a5, a6, a7, a8, a9, a10, a11, a12, a13, a14, a15, a16], _ =>
    simp only [List.drop, List.take, cCmd, List.cons.injEq, and_true] at e0 e1 e2 e3 e4 e5
    exact ⟨⟨y0, y1, y2, y3, y4, y5⟩, by simp [cweftlaw11_Op, e0, e1, e2, e3, e4, e5], (And.intro g0 (And.intro g1 (And.intro g2 (And.intro g3 (And.intro g4 g5)))))⟩
end
end Go.Proofs.YtdallmabajeajaaGreatDoor.Fw
set_option linter.all false
set_option maxRecDepth 100000
namespace Go.Proofs.YtdallmabajeajaaGreatDoor.Fw
open Go Go.WideShapes
section
variable {H : Type} {P : Program}
theorem w_all {e : TypeId} {d : DataW H} {n : Nat} : ∀ {ds : List (DataW H)} {i : Nat}, ds[i]? = some d → n ∈ DataW.weights P e d → n ∈ DataW.weightsAll P e ds
  | d0 :: ds, 0, h2, h3 => by
    simp only [List.getElem?_cons_zero, Option.some.injEq] at h2
    subst h2
    simp only [DataW.weightsAll, List.mem_append]
    exact .inl h3
  | d0 :: ds, i + 1, h2, h3 => by
    simp only [List.getElem?_cons_succ] at h2
    simp only [DataW.weightsAll, List.mem_append]
    exact .inr (w_all h2 h3)
  | [], _, h2, _ => by simp at h2
variable {enc : TypeId × Value → H} {w : World} {base : Nat} {spare : Nat → Bool} {held : Bool} {fuel : Nat} {t : TypeId} {cs : List Value} {x : DataW H × List MemPlace}
theorem okWide_arr {n : Nat} {e : TypeId} {r : Reach} {v : Value} (ht : P.underlying t = some (.array n e)) (h : Value.okWide P w r base t v) : ∃ cs, v = .agg cs ∧ cs.size = P.cellsOf t := by
  simp only [Value.okWide, ht] at h
  obtain ⟨cs, h1, h2, _⟩ := h
  exact ⟨cs, h1, h2⟩
theorem trod_elW {i m n : Nat} {E : TypeId} {ag : Bool} (hs : arI P t = some (m, E)) (hu : tyI P E = some (ag, n)) (hi : Nat.blt i m = true) (h : DataW.trod enc P w base spare held fuel t cs = some x) : ∃ q y, DataW.trod enc P w base spare held q E ((cs.drop (i * n)).take n) = some y ∧ ∀ k ∈ DataW.weights P E y.1, k ∈ DataW.weights P t x.1 := by
  obtain ⟨xs, q, _, hx1, _, hx, hall⟩ := DataW.trod_array (arI_spec hs) h
  have hlt : i < m := Nat.le_of_ble_eq_true hi
  have h2 := hall i hlt
  rw [cellsOf_ty hu] at h2
  refine ⟨q, xs[i], by rw [h2, List.getElem?_eq_getElem (by omega)], fun k hk => ?_⟩
  rw [hx1]
  simp only [DataW.weights, arI_spec hs]
  exact w_all (i := i) (by simp [show i < xs.length by omega]) hk
theorem rd_slB {α : Type} {c : α → List Value} {q : α → Prop} {E : TypeId} {ag : Bool} {k z : Nat} (ht : slI P t = some E) (hE : tyI P E = some (ag, k)) (hby : byI P E = some z) (hz : Nat.ble 1 z = true) (hk : Nat.ble 1 k = true)
    (hel : ∀ (m : Nat) (es : List Value) (y : DataW H × List MemPlace), DataW.trod enc P w base spare held m E es = some y → ∃ z : α, es = c z ∧ q z) (hck : ∀ z : α, (c z).length = k)
    (h : DataW.trod enc P w base spare held fuel t cs = some x) :
    ∃ (v : SH) (xs : List α), cs = [v.v] ∧ (xs = [] ∨ ∃ n ∈ DataW.weights P t x.1, xs.length * z ≤ n) ∧ (∀ z ∈ xs, q z) ∧ (xs.length ≤ 140737488355328 → RdS (hh w) k v.v (xs.map c)) := by
  obtain ⟨v, xs, h1, h2, h3⟩ := rd_sliceQ (c := c) (q := fun _ => q) ht hE hk (fun m es y h => hel m es y h) hck h
  refine ⟨v, xs, h1, ?_, ?_, h3⟩
  · rcases h2 with ⟨_, rfl⟩ | ⟨els, sp, h4, h5, _⟩
    · exact .inl rfl
    · refine .inr ⟨(els.length + sp.length) * P.bytesOf E, ?_, ?_⟩
      · rw [h4]; simp only [DataW.weights, slI_spec ht]; exact List.mem_cons_self
      · rw [bytes_by hby, ← h5]
        exact Nat.mul_le_mul_right _ (Nat.le_add_right _ _)
  · rcases h2 with ⟨_, rfl⟩ | ⟨els, sp, h4, h5, h6⟩
    · simp
    · intro z hz
      obtain ⟨i, hi⟩ := List.getElem?_of_mem hz
      obtain ⟨_, _, hq⟩ := h6 i z hi
      exact hq
theorem rd_fdB {α : Type} {c : α → List Value} {q : α → Prop} {i o n k z : Nat} {U E : TypeId} {ag ag2 : Bool} (hf : fdI P t i = some (o, U)) (hu : tyI P U = some (ag, n)) (ht : slI P U = some E) (hE : tyI P E = some (ag2, k)) (hby : byI P E = some z) (hz : Nat.ble 1 z = true) (hk : Nat.ble 1 k = true)
    (hel : ∀ (m : Nat) (es : List Value) (y : DataW H × List MemPlace), DataW.trod enc P w base spare held m E es = some y → ∃ z : α, es = c z ∧ q z) (hck : ∀ z : α, (c z).length = k)
    (h : DataW.trod enc P w base spare held fuel t cs = some x) :
    ∃ (v : SH) (xs : List α), (cs.drop o).take n = [v.v] ∧ (xs = [] ∨ ∃ n ∈ DataW.weights P t x.1, xs.length * z ≤ n) ∧ (∀ z ∈ xs, q z) ∧ (xs.length ≤ 140737488355328 → RdS (hh w) k v.v (xs.map c)) := by
  obtain ⟨m, y, h1, _, h2⟩ := trod_fdD hf hu h
  obtain ⟨v, xs, e1, e2, e3, e4⟩ := rd_slB ht hE hby hz hk hel hck h1
  refine ⟨v, xs, e1, ?_, e3, e4⟩
  rcases e2 with e2 | ⟨n, hn, hl⟩
  · exact .inl e2
  · exact .inr ⟨n, h2 n hn, hl⟩
end
section
variable {H : Type} {enc : TypeId × Value → H} {w : World} {base : Nat} {spare : Nat → Bool} {held : Bool} {fuel : Nat} {cs : List Value} {x : DataW H × List MemPlace}
theorem o_ConfigB (h : DataW.trod enc Tryz.prog w base spare held fuel 28 cs = some x) : ∃ (y : QConfig) (rs : List QReserve), cs = cConfig y ∧ RConfig y ∧ (∀ r ∈ rs, RReserve r) ∧ (rs = [] ∨ ∃ n ∈ DataW.weights Tryz.prog 28 x.1, rs.length * 24 ≤ n) ∧ (rs.length ≤ 140737488355328 → RdS (hh w) 3 y.Reserved.v (rs.map cReserve)) := by
  have hl := trod_len (stt rfl) (tt rfl) h
  obtain ⟨m0, x0, h0⟩ := trod_fd (i := 0) (ft rfl rfl) (tt rfl) h
  obtain ⟨y0, e0, g0⟩ := o_Prefix h0
  obtain ⟨m1, x1, h1⟩ := trod_fd (i := 1) (ft rfl rfl) (tt rfl) h
  obtain ⟨y1, e1, g1⟩ := trod_i (int_ rfl) h1
  obtain ⟨m2, x2, h2⟩ := trod_fd (i := 2) (ft rfl rfl) (tt rfl) h
  obtain ⟨y2, e2, g2⟩ := trod_i (int_ rfl) h2
  obtain ⟨m3, x3, h3⟩ := trod_fd (i := 3) (ft rfl rfl) (tt rfl) h
  obtain ⟨y3, e3, g3⟩ := trod_i (int_ rfl) h3
  obtain ⟨m4, x4, h4⟩ := trod_fd (i := 4) (ft rfl rfl) (tt rfl) h
  obtain ⟨y4, e4, g4⟩ := trod_i (int_ rfl) h4
  obtain ⟨m5, x5, h5⟩ := trod_fd (i := 5) (ft rfl rfl) (tt rfl) h
  obtain ⟨y5, e5, g5⟩ := trod_i (int_ rfl) h5
  obtain ⟨m6, x6, h6⟩ := trod_fd (i := 6) (ft rfl rfl) (tt rfl) h
  obtain ⟨y6, e6, g6⟩ := trod_i (int_ rfl) h6
  obtain ⟨m7, x7, h7⟩ := trod_fd (i := 7) (ft rfl rfl) (tt rfl) h
  obtain ⟨y7, e7, g7⟩ := trod_i (int_ rfl) h7
  obtain ⟨m8, x8, h8⟩ := trod_fd (i := 8) (ft rfl rfl) (tt rfl) h
  obtain ⟨y8, e8, g8⟩ := trod_i (int_ rfl) h8
  obtain ⟨m9, x9, h9⟩ := trod_fd (i := 9) (ft rfl rfl) (tt rfl) h
  obtain ⟨y9, e9, g9⟩ := trod_i (int_ rfl) h9
  obtain ⟨m10, x10, h10⟩ := trod_fd (i := 10) (ft rfl rfl) (tt rfl) h
  obtain ⟨y10, e10, g10⟩ := trod_i (int_ rfl) h10
  obtain ⟨m11, x11, h11⟩ := trod_fd (i := 11) (ft rfl rfl) (tt rfl) h
  obtain ⟨y11, e11, g11⟩ := trod_i (int_ rfl) h11
  obtain ⟨m12, x12, h12⟩ := trod_fd (i := 12) (ft rfl rfl) (tt rfl) h
  obtain ⟨y12, e12, g12⟩ := trod_i (int_ rfl) h12
  obtain ⟨m13, x13, h13⟩ := trod_fd (i := 13) (ft rfl rfl) (tt rfl) h
  obtain ⟨y13, e13, g13⟩ := trod_i (int_ rfl) h13
  obtain ⟨m14, x14, h14⟩ := trod_fd (i := 14) (ft rfl rfl) (tt rfl) h
  obtain ⟨y14, e14, g14⟩ := trod_i (int_ rfl) h14
  obtain ⟨m15, x15, h15⟩ := trod_fd (i := 15) (ft rfl rfl) (tt rfl) h
  obtain ⟨y15, e15, g15⟩ := trod_i (int_ rfl) h15
  obtain ⟨v16, rs, e16, q1, q2, q3⟩ := rd_fdB (i := 16) (ft rfl rfl) (tt rfl) (slt rfl) (tt rfl) (byt rfl) (by kernel_rfl) (by kernel_rfl) (fun m es y h => o_Reserve h) (fun _ => rfl) h
  match cs, hl with
  | [a0, a1, a2, a3, a4, a5, a6, a7, a8, a9, a10, a11, a12, a13, a14, a15, a16, a17], _ =>
    simp only [List.drop, List.take, cPrefix, List.cons.injEq, and_true] at e0 e1 e2 e3 e4 e5 e6 e7 e8 e9 e10 e11 e12 e13 e14 e15 e16
    exact ⟨⟨y0, y1, y2, y3, y4, y5, y6, y7, y8, y9, y10, y11, y12, y13, y14, y15, v16⟩, rs, by simp [cConfig, e0, e1, e2, e3, e4, e5, e6, e7, e8, e9, e10, e11, e12, e13, e14, e15, e16], (And.intro g0 (And.intro g1 (And.intro g2 (And.intro g3 (And.intro g4 (And.intro g5 (And.intro g6 (And.intro g7 (And.intro g8 (And.intro g9 (And.intro g10 (And.intro g11 (And.intro g12 (And.intro g13 (And.intro g14 g15))))))))))))))), q2, q1, q3⟩
theorem o_two (h : DataW.trod enc Tryz.prog w base spare held fuel 79 cs = some x) : ∃ (y0 y1 : QConfig) (rs0 rs1 : List QReserve), cs = cConfig y0 ++ cConfig y1 ∧
    (RConfig y0 ∧ (∀ r ∈ rs0, RReserve r) ∧ (rs0 = [] ∨ ∃ n ∈ DataW.weights Tryz.prog 79 x.1, rs0.length * 24 ≤ n) ∧ (rs0.length ≤ 140737488355328 → RdS (hh w) 3 y0.Reserved.v (rs0.map cReserve))) ∧
    (RConfig y1 ∧ (∀ r ∈ rs1, RReserve r) ∧ (rs1 = [] ∨ ∃ n ∈ DataW.weights Tryz.prog 79 x.1, rs1.length * 24 ≤ n) ∧ (rs1.length ≤ 140737488355328 → RdS (hh w) 3 y1.Reserved.v (rs1.map cReserve))) := by
  have hl := trod_lenA (art rfl) (tt rfl) h
  obtain ⟨m0, x0, h0, w0⟩ := trod_elW (i := 0) (art rfl) (tt rfl) rfl h
  obtain ⟨m1, x1, h1, w1⟩ := trod_elW (i := 1) (art rfl) (tt rfl) rfl h
  obtain ⟨y0, rs0, e0, a1, a2, a3, a4⟩ := o_ConfigB h0
  obtain ⟨y1, rs1, e1, b1, b2, b3, b4⟩ := o_ConfigB h1
  refine ⟨y0, y1, rs0, rs1, ?_, ⟨a1, a2, a3.imp id fun ⟨n, h, k⟩ => ⟨n, w0 n h, k⟩, a4⟩, ⟨b1, b2, b3.imp id fun ⟨n, h, k⟩ => ⟨n, w1 n h, k⟩, b4⟩⟩
  rw [← e0, ← e1]
  have hl : cs.length = 36 := hl
  have e2 : (cs.drop (1 * 18)).take 18 = cs.drop 18 := List.take_of_length_le (by rw [List.length_drop]; omega)
  rw [e2]
  exact (List.take_append_drop 18 cs).symm
end
end Go.Proofs.YtdallmabajeajaaGreatDoor.Fw
