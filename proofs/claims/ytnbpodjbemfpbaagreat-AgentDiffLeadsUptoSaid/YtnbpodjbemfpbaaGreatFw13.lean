/-
  The walker's own words, thirteenth part: comparisons with nil, elements of arrays that are values, bytes.Compare's entry. By the session; nothing here is trusted.
-/
import Derived.Test.YtnbpodjbemfpbaaGreatFw12
set_option linter.unusedVariables false
set_option linter.all false
namespace Go.Proofs.YtnbpodjbemfpbaaGreat.Fw
open Go
section
variable {P : Program} {C : World → Prop} {L : List (Nat × Value)} {d : Option Tmp} {ty : TypeId} {pos : String} {aft : Array Edge} {g : Option (Nat × Bool)}
def ptI (P : Program) (T : TypeId) : Option TypeId := match P.underlying T with
  | some (.pointer e) => some e
  | _ => none
theorem ptI_spec {T E : TypeId} (h : ptI P T = some E) : P.underlying T = some (.pointer E) := by
  unfold ptI at h
  split at h
  · rename_i h1
    simp only [Option.some.injEq] at h
    rw [h1, h]
  · cases h
theorem run_nilS {T E : TypeId} (h : slI P T = some E) (x : SH) (w : World) : (Op.equal T x.v (.slice none 0 0)).run P w = .ok x.a.isNone w := by
  show (Op.equalIn (9999 + 1) T x.v (.slice none 0 0)).run P w = _
  obtain ⟨xa, n, c⟩ := x
  unfold Op.equalIn
  rw [Sem.run_bind, run_underlying (slI_spec h)]
  cases xa <;> rfl
theorem ok_isNilS {T T' E : TypeId} {x y : Operand} {v : SH} (hx : ev L x = some v.v) (hy : ev L y = some (.slice none 0 0)) (h : slI P T = some E) : Ok P C L ⟨d, .binOp .eql T x y T', ty, pos, aft, g⟩ (.bool v.a.isNone) := fun ρ ha w _ => by
  have r2 := run_nilS h v w
  simp only [SH.v] at r2 hx
  simp [execOp, ha x _ hx, ha y _ hy, bind, Sem.run_bind', eqGuard, binOp, r2, pure, Sem.run, Result.andThen]
theorem run_nilP {T E : TypeId} (h : ptI P T = some E) (p : Addr) (w : World) : (Op.equal T (.pointer (some p)) (.pointer none)).run P w = .ok false w := by
  show (Op.equalIn (9999 + 1) T (.pointer (some p)) (.pointer none)).run P w = _
  unfold Op.equalIn
  rw [Sem.run_bind, run_underlying (ptI_spec h)]
  rfl
theorem ok_isNilP {T T' E : TypeId} {x y : Operand} {p : Addr} (hx : ev L x = some (.pointer (some p))) (hy : ev L y = some (.pointer none)) (h : ptI P T = some E) : Ok P C L ⟨d, .binOp .eql T x y T', ty, pos, aft, g⟩ (.bool false) := fun ρ ha w _ => by
  have r2 := run_nilP h p w
  simp [execOp, ha x _ hx, ha y _ hy, bind, Sem.run_bind', eqGuard, binOp, r2, pure, Sem.run, Result.andThen]
theorem ok_index_sc {T E : TypeId} {x ix : Operand} {K : IntKind} {i : Int} {n k : Nat} {cs : List Value} {v : Value} (hx : ev L x = some (.agg ⟨cs⟩)) (hi : ev L ix = some (.int K i)) (hT : arI P T = some (n, E)) (hE : tyI P E = some (false, k)) (h0 : 0 ≤ i) (h1 : i < n) (hv : cs[i.toNat * k]? = some v) :
    Ok P C L ⟨d, .index T x ix, ty, pos, aft, g⟩ v := fun ρ ha w _ => by
  simp [execOp, ha x _ hx, ha ix _ hi, Instr.index, asIntOf, bind, Sem.run_bind', run_underlying (arI_spec hT), h0, h1, part, asAgg, run_isAgg' hE, run_sizeOf' hE, pure, Sem.run, Result.andThen, hv]
end
def bytesL (xs : List (Fx .u8)) : List UInt8 := xs.map fun b => b.v.toNat.toUInt8
theorem run_loadBytes {P : Program} {w : World} : ∀ (xs : List (Fx .u8)) (a : Addr) (acc : ByteArray), a.spot = none → (∀ i, i < xs.length → w.cell? (a.add i) = (xs[i]?).map fun b => .int .u8 b.v) →
    (Extern.Bytes.loadBytes a xs.length acc).run P w = .ok ⟨acc.data ++ (bytesL xs).toArray⟩ w
  | [], a, acc, _, _ => by simp [Extern.Bytes.loadBytes, bytesL, pure, Sem.run]
  | x :: xs, a, acc, hs, h => by
    have h0 := h 0 (by simp)
    have ih := run_loadBytes (P := P) (w := w) xs (a.add 1) (acc.push x.v.toNat.toUInt8) (by simp [Addr.add, hs]) (fun i hi => by
      have := h (i + 1) (by simp; omega)
      have e : (a.add 1).add i = a.add (i + 1) := by
        obtain ⟨b, off, spot⟩ := a
        simp only at hs
        subst hs
        rw [add_flat, add_flat, add_flat]
        congr 1; omega
      rw [e, this]
      simp)
    rw [add_zero'] at h0
    simp only [List.getElem?_cons_zero, Option.map_some] at h0
    simp only [List.length_cons, Extern.Bytes.loadBytes, bind, Sem.run_bind', load, Sem.run, h0, Result.andThen, ih]
    simp [bytesL]
def cmpB (xs ys : List (Fx .u8)) : Int := Extern.BytealgCompare.cmp ⟨(bytesL xs).toArray⟩ ⟨(bytesL ys).toArray⟩
theorem run_bytesOf {P : Program} {w : World} {v : Value} {xs : List (Fx .u8)} (r : RdS (hh w) 1 v (xs.map cI)) : (Extern.Bytes.bytesOf v).run P w = .ok ⟨(bytesL xs).toArray⟩ w := by
  obtain ⟨hk, hb, a, c, rfl, hc, hr⟩ := r
  cases xs with
  | nil => cases a <;> simp [Extern.Bytes.bytesOf, Extern.Bytes.loadBytes, bytesL, pure, Sem.run] <;> rfl
  | cons x xs =>
    obtain ⟨b, off, arr, T, fz, rfl, e2, e3⟩ := hr (by simp)
    have hfl : ((x :: xs).map cI).flatten = (x :: xs).map fun b => Value.int .u8 b.v := by
      generalize x :: xs = l
      induction l with
      | nil => rfl
      | cons a l ih => simp [cI, ih]
    have := run_loadBytes (P := P) (w := w) (x :: xs) ⟨b, off, none⟩ .empty rfl (fun i hi => by
      rw [add_flat]
      have h1 := congrArg (·[i]?) e3
      simp only [List.length_map, Nat.mul_one] at h1
      rw [hfl, List.getElem?_take_of_lt hi, List.getElem?_drop] at h1
      simp only [hh] at e2
      simp only [World.cell?, e2]
      rw [← List.getElem?_map, ← h1]
      simp)
    simp only [Extern.Bytes.bytesOf, List.length_map]
    rw [this]
    simp
theorem run_compare {P : Program} {w : World} {u v : Value} {xs ys : List (Fx .u8)} (r : RdS (hh w) 1 u (xs.map cI)) (s : RdS (hh w) 1 v (ys.map cI)) : (Extern.BytealgCompare.compare #[u, v]).run P w = .ok (.int .i64 (cmpB xs ys)) w := by
  have h1 := run_bytesOf (P := P) r
  have h2 := run_bytesOf (P := P) s
  show Sem.run P (do pure (goInt (Extern.BytealgCompare.cmp (← Extern.Bytes.bytesOf u) (← Extern.Bytes.bytesOf v)))) w = _
  simp [bind, Sem.run_bind', h1, h2, Result.andThen, pure, Sem.run, goInt, cmpB]
theorem cmpB_cases (xs ys : List (Fx .u8)) : cmpB xs ys = -1 ∨ cmpB xs ys = 0 ∨ cmpB xs ys = 1 := by
  unfold cmpB Extern.BytealgCompare.cmp
  split
  · split <;> simp
  · split
    · simp
    · split <;> simp
def cmpBF (xs ys : List (Fx .u8)) : Fx .i64 := ⟨cmpB xs ys, by rcases cmpB_cases xs ys with h | h | h <;> rw [h] <;> rfl⟩
theorem rd_boxM {α : Type} {c : α → List Value} {h : Hh} {p : Addr} {off n : Nat} {cs : List Value} {xs : List α} (hc : CellsAt h p cs) (hl : Nat.ble (off + n) cs.length = true) (hb : Nat.ble n 140737488355328 = true) (hx : ((cs.drop off).take n).map (fun v => [v]) = xs.map c) : RdS h 1 (SH.v ⟨some (padd p off), n, n⟩) (xs.map c) := by
  rw [← hx]
  exact rd_box hc (Nat.le_of_ble_eq_true hl) (Nat.le_of_ble_eq_true hb)
end Go.Proofs.YtnbpodjbemfpbaaGreat.Fw
