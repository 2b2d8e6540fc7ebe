/-
  The walker's own words, second part: what a program's tables say of a type, pieces for variables and slices, and one lemma for each kind of operation. By the session; nothing here is trusted.
-/
import Derived.Test.YtnbpodjbemfpbaaGreatFw
import Derived.WalkLawsBesides
set_option linter.unusedVariables false
set_option linter.all false
namespace Go.Proofs.YtnbpodjbemfpbaaGreat.Fw
open Go
/-! ### 4. Types, as the tables have them -/
def aggD : TypeDesc → Bool
  | .struct _ | .array _ _ => true
  | _ => false
def tyI (P : Program) (T : TypeId) : Option (Bool × Nat) :=
  match P.underlying T, P.info? T with
  | some d, some i => some (aggD d, i.size)
  | _, _ => none
def fdI (P : Program) (T : TypeId) (i : Nat) : Option (Nat × TypeId) :=
  match P.underlying T with
  | some (.struct fs) => (fs[i]?).map fun f => (f.offset, f.type)
  | _ => none
def slI (P : Program) (T : TypeId) : Option TypeId :=
  match P.underlying T with
  | some (.slice e) => some e
  | _ => none
def arI (P : Program) (T : TypeId) : Option (Nat × TypeId) :=
  match P.underlying T with
  | some (.array n e) => some (n, e)
  | _ => none
def inI (P : Program) (T : TypeId) : Option IntKind :=
  match P.underlying T with
  | some (.int k) => some k
  | _ => none
section
variable {P : Program} {w : World} {T : TypeId} {ag : Bool} {n : Nat}
theorem tyI_spec (h : tyI P T = some (ag, n)) : ∃ d i, P.underlying T = some d ∧ P.info? T = some i ∧ aggD d = ag ∧ i.size = n := by
  unfold tyI at h
  split at h
  · rename_i d i h1 h2
    simp only [Option.some.injEq, Prod.mk.injEq] at h
    exact ⟨d, i, h1, h2, h.1, h.2⟩
  · cases h
theorem fdI_spec {i o : Nat} {U : TypeId} (h : fdI P T i = some (o, U)) : ∃ fs f, P.underlying T = some (.struct fs) ∧ fs[i]? = some f ∧ f.offset = o ∧ f.type = U := by
  unfold fdI at h
  split at h
  · rename_i fs h1
    cases hf : fs[i]? with
    | none => simp [hf] at h
    | some f =>
      simp only [hf, Option.map_some, Option.some.injEq, Prod.mk.injEq] at h
      exact ⟨fs, f, h1, hf, h.1, h.2⟩
  · cases h
theorem slI_spec {E : TypeId} (h : slI P T = some E) : P.underlying T = some (.slice E) := by
  unfold slI at h
  split at h
  · rename_i h1
    simp only [Option.some.injEq] at h
    rw [h1, h]
  · cases h
theorem arI_spec {E : TypeId} (h : arI P T = some (n, E)) : P.underlying T = some (.array n E) := by
  unfold arI at h
  split at h
  · rename_i h1
    simp only [Option.some.injEq, Prod.mk.injEq] at h
    rw [h1, h.1, h.2]
  · cases h
theorem inI_spec {k : IntKind} (h : inI P T = some k) : P.underlying T = some (.int k) := by
  unfold inI at h
  split at h
  · rename_i h1
    simp only [Option.some.injEq] at h
    rw [h1, h]
  · cases h
theorem run_isAgg' (h : tyI P T = some (ag, n)) (w : World) : (isAgg T).run P w = .ok ag w := by
  obtain ⟨d, i, h1, h2, h3, h4⟩ := tyI_spec h
  cases d <;> simp [isAgg, go_sem, run_underlying h1] <;> simp_all [aggD]
theorem run_sizeOf' (h : tyI P T = some (ag, n)) (w : World) : (sizeOf T).run P w = .ok n w := by
  obtain ⟨d, i, h1, h2, h3, h4⟩ := tyI_spec h
  simp [sizeOf, typeInfo, go_sem, h2, h4]
end
/-! ### 5. Addresses and cells -/
def padd (p : Addr) (o : Nat) : Addr := ⟨p.block, p.off + o, none⟩
theorem padd_add (p : Addr) (o n : Nat) : (padd p o).add n = padd p (o + n) := by
  unfold Addr.add padd
  by_cases h : n = 0
  · simp [h]
  · simp [h, Nat.add_assoc]
theorem padd_padd (p : Addr) (o n : Nat) : padd (padd p o) n = padd p (o + n) := by simp [padd, Nat.add_assoc]
def CellsAt (h : Hh) (p : Addr) (cs : List Value) : Prop := ∃ arr T fz, h p.block = some (.cells arr T fz) ∧ (arr.toList.drop p.off).take cs.length = cs
theorem CellsAt.le {h g : Hh} {p : Addr} {cs : List Value} (c : CellsAt h p cs) (l : hle h g) : CellsAt g p cs :=
  let ⟨arr, T, fz, a, b⟩ := c
  ⟨arr, T, fz, l _ _ a, b⟩
theorem CellsAt.cell {w : World} {p : Addr} {cs : List Value} (c : CellsAt (hh w) p cs) {o : Nat} {v : Value} (h : cs[o]? = some v) : w.cell? (padd p o) = some v := by
  obtain ⟨arr, T, fz, a, b⟩ := c
  have hlt : o < cs.length := (List.getElem?_eq_some_iff.1 h).1
  have : (arr.toList.drop p.off)[o]? = some v := by
    rw [← b, List.getElem?_take_of_lt hlt] at h
    exact h
  rw [List.getElem?_drop] at this
  simp only [hh] at a
  simp only [World.cell?, padd, a]
  simpa using this
def CAt (C : World → Prop) (p : Addr) (cs : List Value) : Prop := ∀ w, C w → CellsAt (hh w) p cs
theorem run_loadCellsFrom {P : Program} {w : World} {a : Addr} : ∀ (n i : Nat) (vs : List Value) (acc : Array Value), vs.length = n → (∀ j v, vs[j]? = some v → w.cell? (a.add (i + j)) = some v) →
    (loadCellsFrom a i n acc).run P w = .ok (acc ++ vs.toArray) w
  | 0, i, vs, acc, hl, _ => by
    have : vs = [] := List.eq_nil_of_length_eq_zero hl
    subst this
    simp [loadCellsFrom, go_sem]
  | n + 1, i, vs, acc, hl, h => by
    match vs, hl with
    | v :: vs, hl =>
      have h0 := h 0 v rfl
      simp only [Nat.add_zero] at h0
      have ih := run_loadCellsFrom (P := P) (w := w) (a := a) n (i + 1) vs (acc.push v) (by simpa using hl) (fun j u hj => by
        have := h (j + 1) u (by simpa using hj)
        rw [show i + (j + 1) = i + 1 + j from by omega] at this
        exact this)
      simp only [loadCellsFrom, load, bind, Sem.bind, Sem.run, h0]
      rw [ih]
      simp
theorem run_loadVar_ag {P : Program} {w : World} {T : TypeId} {n : Nat} (ht : tyI P T = some (true, n)) {p : Addr} {o : Nat} {cs vs : List Value} (c : CellsAt (hh w) p cs) (hv : (cs.drop o).take n = vs) (hl : vs.length = n) :
    (loadVar T (padd p o)).run P w = .ok (.agg ⟨vs⟩) w := by
  have hL := run_loadCellsFrom (P := P) (w := w) (a := padd p o) n 0 vs #[] hl (fun j v hj => by
    rw [padd_add]
    refine c.cell ?_
    have hlt : j < vs.length := (List.getElem?_eq_some_iff.1 hj).1
    rw [← hv, List.getElem?_take_of_lt (by omega), List.getElem?_drop] at hj
    simpa using hj)
  unfold loadVar
  simp only [bind, Sem.run_bind', Result.andThen, run_isAgg' ht, if_true, run_sizeOf' ht, loadCells]
  rw [hL]
  simp [pure]
theorem run_loadVar_sc {P : Program} {w : World} {T : TypeId} {n : Nat} (ht : tyI P T = some (false, n)) {p : Addr} {o : Nat} {cs : List Value} {v : Value} (c : CellsAt (hh w) p cs) (hv : cs[o]? = some v) :
    (loadVar T (padd p o)).run P w = .ok v w := by
  unfold loadVar
  simp [bind, Sem.run_bind', Result.andThen, run_isAgg' ht, load, Sem.run, c.cell hv]
/-! ### 6. Operations that leave the world alone -/
def Ok (P : Program) (C : World → Prop) (L : List (Nat × Value)) (o : Oper) (v : Value) : Prop :=
  ∀ a : Operand → Value, (∀ x u, ev L x = some u → a x = u) → ∀ w, C w → (execOp a o).run P w = .ok (.value v) w
def bAnd (k : IntKind) (m n : Int) : Int := k.wrap (BitVec.ofInt k.bits m &&& BitVec.ofInt k.bits n).toNat
def bOr (k : IntKind) (m n : Int) : Int := k.wrap (BitVec.ofInt k.bits m ||| BitVec.ofInt k.bits n).toNat
def bXor (k : IntKind) (m n : Int) : Int := k.wrap (BitVec.ofInt k.bits m ^^^ BitVec.ofInt k.bits n).toNat
def bAndNot (k : IntKind) (m n : Int) : Int := k.wrap (BitVec.ofInt k.bits m &&& ~~~BitVec.ofInt k.bits n).toNat
def ib : BinOp → IntKind → Int → Int → Option Value
  | .add, k, m, n => some (.int k (k.wrap (m + n)))
  | .sub, k, m, n => some (.int k (k.wrap (m - n)))
  | .mul, k, m, n => some (.int k (k.wrap (m * n)))
  | .and, k, m, n => some (.int k (bAnd k m n))
  | .or, k, m, n => some (.int k (bOr k m n))
  | .xor, k, m, n => some (.int k (bXor k m n))
  | .andNot, k, m, n => some (.int k (bAndNot k m n))
  | .eql, _, m, n => some (.bool (m == n))
  | .neq, _, m, n => some (.bool (m != n))
  | .lss, _, m, n => some (.bool (decide (m < n)))
  | .leq, _, m, n => some (.bool (decide (m ≤ n)))
  | .gtr, _, m, n => some (.bool (decide (m > n)))
  | .geq, _, m, n => some (.bool (decide (m ≥ n)))
  | _, _, _, _ => none
section
variable {P : Program} {C : World → Prop} {L : List (Nat × Value)} {d : Option Tmp} {ty : TypeId} {pos : String} {aft : Array Edge} {g : Option (Nat × Bool)}
theorem ok_move {x : Operand} {v : Value} (hx : ev L x = some v) : Ok P C L ⟨d, .move x, ty, pos, aft, g⟩ v := fun a ha w _ => by
  simp [execOp, ha x v hx, pure, Sem.run]
theorem ok_assign {x : Operand} {v : Value} (hx : ev L x = some v) : Ok P C L ⟨d, .assign x, ty, pos, aft, g⟩ v := fun a ha w _ => by
  simp [execOp, ha x v hx, pure, Sem.run]
theorem run_eqGuard_int (op : BinOp) (T : TypeId) (x y : Operand) (k k' : IntKind) (m n : Int) (w : World) : (eqGuard op T x y (.int k m) (.int k' n)).run P w = .ok () w := by
  unfold eqGuard
  cases op <;> simp [go_sem]
theorem run_ib {op : BinOp} {T : TypeId} {k : IntKind} {m n : Int} {v : Value} (hv : ib op k m n = some v) (w : World) : (binOp op T (.int k m) (.int k n)).run P w = .ok v w := by
  cases op <;> simp only [ib, Option.some.injEq, reduceCtorEq] at hv <;> subst hv <;>
    simp [binOp, Op.intArith, Op.intBits, Op.intCmp, pure, Sem.run, bAnd, bOr, bXor, bAndNot]
theorem ok_bin {op : BinOp} {T T' : TypeId} {x y : Operand} {k : IntKind} {m n : Int} {v : Value} (hx : ev L x = some (.int k m)) (hy : ev L y = some (.int k n)) (hv : ib op k m n = some v) :
    Ok P C L ⟨d, .binOp op T x y T', ty, pos, aft, g⟩ v := fun a ha w _ => by
  have h1 := run_eqGuard_int (P := P) op T x y k k m n w
  have h2 := run_ib (P := P) (T := T) hv w
  simp [execOp, ha x _ hx, ha y _ hy, bind, Sem.run_bind', h1, h2, pure, Sem.run, Result.andThen]
theorem ok_add {T T' : TypeId} {x y : Operand} {k : IntKind} {m n r : Int} (hx : ev L x = some (.int k m)) (hy : ev L y = some (.int k n)) (hr : k.wrap (m + n) = r) :
    Ok P C L ⟨d, .binOp .add T x y T', ty, pos, aft, g⟩ (.int k r) := ok_bin hx hy (by rw [← hr]; rfl)
theorem ok_sub {T T' : TypeId} {x y : Operand} {k : IntKind} {m n r : Int} (hx : ev L x = some (.int k m)) (hy : ev L y = some (.int k n)) (hr : k.wrap (m - n) = r) :
    Ok P C L ⟨d, .binOp .sub T x y T', ty, pos, aft, g⟩ (.int k r) := ok_bin hx hy (by rw [← hr]; rfl)
theorem ok_mul {T T' : TypeId} {x y : Operand} {k : IntKind} {m n r : Int} (hx : ev L x = some (.int k m)) (hy : ev L y = some (.int k n)) (hr : k.wrap (m * n) = r) :
    Ok P C L ⟨d, .binOp .mul T x y T', ty, pos, aft, g⟩ (.int k r) := ok_bin hx hy (by rw [← hr]; rfl)
theorem ok_rem {T T' : TypeId} {x y : Operand} {k : IntKind} {m n r : Int} (hx : ev L x = some (.int k m)) (hy : ev L y = some (.int k n)) (hn : n ≠ 0) (hr : m.tmod n = r) :
    Ok P C L ⟨d, .binOp .rem T x y T', ty, pos, aft, g⟩ (.int k r) := fun a ha w _ => by
  have h1 := run_eqGuard_int (P := P) .rem T x y k k m n w
  subst hr
  simp [execOp, ha x _ hx, ha y _ hy, bind, Sem.run_bind', h1, binOp, Op.intDiv, hn, pure, Sem.run, Result.andThen]
theorem ok_shl {T T' : TypeId} {x y : Operand} {k k' : IntKind} {m n r : Int} (hx : ev L x = some (.int k m)) (hy : ev L y = some (.int k' n)) (hn : 0 ≤ n) (hr : k.wrap (m * 2 ^ (min n.toNat k.bits)) = r) :
    Ok P C L ⟨d, .binOp .shl T x y T', ty, pos, aft, g⟩ (.int k r) := fun a ha w _ => by
  have h1 := run_eqGuard_int (P := P) .shl T x y k k' m n w
  have hn' : ¬ n < 0 := by omega
  subst hr
  simp [execOp, ha x _ hx, ha y _ hy, bind, Sem.run_bind', h1, binOp, Op.shift, hn', pure, Sem.run, Result.andThen]
theorem ok_shr {T T' : TypeId} {x y : Operand} {k k' : IntKind} {m n r : Int} (hx : ev L x = some (.int k m)) (hy : ev L y = some (.int k' n)) (hn : 0 ≤ n) (hr : m.fdiv (2 ^ (min n.toNat k.bits)) = r) :
    Ok P C L ⟨d, .binOp .shr T x y T', ty, pos, aft, g⟩ (.int k r) := fun a ha w _ => by
  have h1 := run_eqGuard_int (P := P) .shr T x y k k' m n w
  have hn' : ¬ n < 0 := by omega
  subst hr
  simp [execOp, ha x _ hx, ha y _ hy, bind, Sem.run_bind', h1, binOp, Op.shift, hn', pure, Sem.run, Result.andThen]
theorem ok_not {T : TypeId} {x : Operand} {b : Bool} (hx : ev L x = some (.bool b)) : Ok P C L ⟨d, .unOp .not T x, ty, pos, aft, g⟩ (.bool (!b)) := fun a ha w _ => by
  simp [execOp, ha x _ hx, Op.unary, bind, Sem.run_bind', pure, Sem.run, Result.andThen]
theorem ok_conv {src dst : TypeId} {x : Operand} {k k' : IntKind} {n r : Int} (hx : ev L x = some (.int k n)) (hs : inI P src = some k) (ht : inI P dst = some k') (hr : k'.wrap n = r) :
    Ok P C L ⟨d, .convert src dst x, ty, pos, aft, g⟩ (.int k' r) := fun a ha w _ => by
  subst hr
  have h1 := inI_spec hs
  have h2 := inI_spec ht
  simp [execOp, ha x _ hx, convert, Conv.intToInt, bind, Sem.run_bind', run_underlying h1, run_underlying h2, pure, Sem.run, Result.andThen]
theorem ok_pick {c x y : Operand} {b : Bool} {v u r : Value} (hc : ev L c = some (.bool b)) (hx : ev L x = some v) (hy : ev L y = some u) (hr : (bif b then v else u) = r) :
    Ok P C L ⟨d, .pick c x y, ty, pos, aft, g⟩ r := fun a ha w _ => by
  subst hr
  cases b <;> simp [execOp, ha c _ hc, ha x _ hx, ha y _ hy, asBool, bind, Sem.run_bind', pure, Sem.run, Result.andThen]
theorem ok_extract {x : Operand} {l : List Value} {i : Nat} {v : Value} (hx : ev L x = some (.tuple ⟨l⟩)) (hv : l[i]? = some v) : Ok P C L ⟨d, .extract x i, ty, pos, aft, g⟩ v := fun a ha w _ => by
  simp [execOp, ha x _ hx, Instr.extract, hv, bind, Sem.run_bind', pure, Sem.run, Result.andThen]
theorem ok_fieldAddr {T U : TypeId} {x : Operand} {i o o' r n : Nat} {ag : Bool} {p : Addr} (hx : ev L x = some (.pointer (some (padd p o)))) (hf : fdI P T i = some (o', U)) (ht : tyI P U = some (ag, n + 1)) (hr : o + o' = r) :
    Ok P C L ⟨d, .fieldAddr T x i, ty, pos, aft, g⟩ (.pointer (some (padd p r))) := fun a ha w _ => by
  obtain ⟨fs, f, h1, h2, rfl, rfl⟩ := fdI_spec hf
  subst hr
  simp [execOp, ha x _ hx, Instr.fieldAt, Instr.sureAddr, fieldPlace, bind, Sem.run_bind', run_underlying h1, h2, run_sizeOf' ht, pure, Sem.run, Result.andThen, padd_add]
theorem ok_load_ag {T : TypeId} {x : Operand} {p : Addr} {o n : Nat} {cs vs : List Value} (hx : ev L x = some (.pointer (some (padd p o)))) (ht : tyI P T = some (true, n)) (hc : CAt C p cs) (hv : (cs.drop o).take n = vs) (hl : vs.length = n) :
    Ok P C L ⟨d, .load T x, ty, pos, aft, g⟩ (.agg ⟨vs⟩) := fun a ha w hw => by
  simp [execOp, ha x _ hx, Instr.loadAt, Instr.sureAddr, bind, Sem.run_bind', pure, Sem.run, Result.andThen, run_loadVar_ag ht (hc w hw) hv hl]
theorem ok_load_sc {T : TypeId} {x : Operand} {p : Addr} {o n : Nat} {cs : List Value} {v : Value} (hx : ev L x = some (.pointer (some (padd p o)))) (ht : tyI P T = some (false, n)) (hc : CAt C p cs) (hv : cs[o]? = some v) :
    Ok P C L ⟨d, .load T x, ty, pos, aft, g⟩ v := fun a ha w hw => by
  simp [execOp, ha x _ hx, Instr.loadAt, Instr.sureAddr, bind, Sem.run_bind', pure, Sem.run, Result.andThen, run_loadVar_sc ht (hc w hw) hv]
theorem ok_nilCheck {x : Operand} {p : Addr} (hx : ev L x = some (.pointer (some p))) : Ok P C L ⟨d, .nilCheck x, ty, pos, aft, g⟩ (.pointer (some p)) := fun a ha w _ => by
  simp [execOp, ha x _ hx, pure, Sem.run]
end
end Go.Proofs.YtnbpodjbemfpbaaGreat.Fw
