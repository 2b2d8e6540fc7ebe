/-
  The walker's own words, sixth part: steps for append and new slices; statements; a function's begin and end. By the session; nothing here is trusted.
-/
import Derived.Test.YtnbpodjbemfpbaaGreatFw5
set_option linter.unusedVariables false
set_option linter.all false
namespace Go.Proofs.YtnbpodjbemfpbaaGreat.Fw
open Go
theorem Hp.nilSv {w0 w : World} {R : Hh} {Ps : List HP} (m : Hp w0 R Ps w) (k : Nat) (E : TypeId) : Hp w0 R (Sv k E (.slice none 0 0) [] :: Ps) w := by
  refine m.map fun h s => ⟨hnil, h, ⟨⟨by simp, by simp⟩, .inl ⟨rfl, rfl, rfl⟩⟩, s, hd_nil _, (hu_nil _).symm⟩
section
variable {P : Program} {ops : Array Oper} {Q : Exit → Act → World → Prop} {rest : List Oper} {n : Nat} {L : List (Nat × Value)} {a : Act} {w w0 : World} {R : Hh} {Ps Qs : List HP}
  {d : Nat} {ty : TypeId} {pos : String} {aft : Array Edge}
theorem r_append {T T2 E : TypeId} {ag : Bool} {k bytes : Nat} {x y : Operand} {v u : Value} {ds es : List (List Value)} {zs : List Value} (hs : St n L a) (m : Hp w0 R Ps w) (hx : ev L x = some v) (hy : ev L y = some u)
    (hT : slI P T = some E) (hT2 : notInt P T2 = true) (hE : tyI P E = some (ag, k)) (hz : zeI P E = some zs) (hzl : zs.length = k) (hb : byI P E = some bytes) (hbb : Nat.ble bytes 4096 = true)
    (hP : Rem Ps (Sv k E v ds) Qs) (hu : RdS (hh w) k u es) (ho : ∀ e ∈ es, ones e = true) (hlen : ds.length + es.length ≤ 140737488355328 ∧ (2 * (ds.length + es.length) + 192) * bytes ≤ 281474976710656) (hd : Nat.blt d n = true)
    (kk : ∀ v' w', Hp w0 R (Sv k E v' (ds ++ es) :: Qs) w' → ∀ a', St n ((d, v') :: L) a' → wpList P ops Q rest a' w') :
    wpList P ops Q (⟨some d, .call ⟨.builtin .append, #[x, y], #[T, T2]⟩, ty, pos, aft, none⟩ :: rest) a w := by
  obtain ⟨v', w', h1, h2⟩ := m.append (ty := ty) hT hT2 hE hz hzl hb hbb hP hu ho hlen
  refine step_val rfl rfl hs hd (v := v') (w' := w') ?_ (kk v' w' h2)
  simp [execOp, resolve, invoke, builtin, hs.evs x _ hx, hs.evs y _ hy, bind, Sem.run_bind', h1, pure, Sem.run, Result.andThen]
def fromI : Nat → List (Nat × Value) → Bool
  | _, [] => true
  | i, (j, _) :: r => match Nat.beq i j with | true => fromI (i + 1) r | false => false
theorem fill_from {k : Nat} : ∀ (vs : List (Nat × Value)) (pre post : List Value) (i : Nat), fromI i vs = true → (∀ x ∈ vs, x.2.cells.toList.length = k) → pre.length = i * k → post.length = vs.length * k →
    Instr.fill (fun i => some (i * k, k)) ⟨pre ++ post⟩ vs = some ⟨pre ++ (vs.map fun x => x.2.cells.toList).flatten⟩
  | [], pre, post, i, _, _, _, hq => by
    have : post = [] := List.eq_nil_of_length_eq_zero (by simpa using hq)
    simp [Instr.fill, this]
  | (j, v) :: r, pre, post, i, hf, hc, hp, hq => by
    simp only [fromI] at hf
    cases hj : Nat.beq i j with
    | false => rw [hj] at hf; cases hf
    | true =>
      rw [hj] at hf
      have e := Nat.eq_of_beq_eq_true hj
      subst e
      have hv : v.cells.toList.length = k := hc (i, v) (by simp)
      have hv' : v.cells.size = k := by simpa using hv
      simp only [List.length_cons, Nat.add_mul, Nat.one_mul] at hq
      simp only [Instr.fill]
      rw [if_neg (by simp [hv']; omega)]
      have e3 : v.cells.zipIdx.foldl (fun (cs : Array Value) (x : Value × Nat) => cs.setIfInBounds (i * k + x.2) x.1) ⟨pre ++ post⟩ = ⟨pre ++ v.cells.toList ++ post.drop k⟩ := by
        rw [← Array.foldl_toList, Array.toList_zipIdx]
        have := foldl_put v.cells.toList ⟨pre ++ post⟩ (i * k) 0
        rw [this, Nat.add_zero, putAt_eq _ _ _ (by simp [hv]; omega)]
        congr 1
        rw [← hp, List.take_left]
        congr 1
        rw [hv, ← List.drop_drop, List.drop_left]
      have ih := fill_from (k := k) r (pre ++ v.cells.toList) (post.drop k) (i + 1) hf (fun x hx => hc x (by simp [hx])) (by simp [hv', hp, Nat.add_mul]) (by simp; omega)
      simp only [e3]
      rw [ih]
      simp
theorem r_buildSlice {T E : TypeId} {ag : Bool} {k len : Nat} {ps : List (Nat × Operand)} {vs : List (Nat × Value)} {ds : List (List Value)} {zs : List Value} (hs : St n L a) (m : Hp w0 R Ps w) (hT : slI P T = some E) (hE : tyI P E = some (ag, k)) (hz : zeI P E = some zs) (hzl : zs.length = k)
    (hx : partsOf L ps = some vs) (hf : fromI 0 vs = true) (hl : vs.length = len) (hd' : vs.map (fun x => x.2.cells.toList) = ds) (hk : ∀ d ∈ ds, d.length = k) (hsz : Nat.ble (len * k) 16777216 = true) (hsl : Nat.ble len 16777216 = true) (hd : Nat.blt d n = true)
    (kk : ∀ v' w', Hp w0 R (Sv k E v' ds :: Ps) w' → ∀ a', St n ((d, v') :: L) a' → wpList P ops Q rest a' w') :
    wpList P ops Q (⟨some d, .buildSlice T len ⟨ps⟩, ty, pos, aft, none⟩ :: rest) a w := by
  subst hd'
  obtain ⟨z, h1, h2⟩ := zeI_spec hz w
  have h7 := parts_map hs.evs ps vs hx
  have hck : ∀ x ∈ vs, x.2.cells.toList.length = k := fun x hx => hk _ (List.mem_map.2 ⟨x, hx, rfl⟩)
  have hsz' : ¬ len * k > 2 ^ 24 := by have := Nat.le_of_ble_eq_true hsz; omega
  let zero : Array Value := if len * k = 0 then #[] else z.cells
  have hzero : (if len * k = 0 then pure #[] else do pure (← zeroValue E).cells : Sem (Array Value)).run P w = .ok zero w := by
    by_cases h : len * k = 0
    · simp [h, zero, pure, Sem.run]
    · simp [h, zero, bind, Sem.run_bind', h1, pure, Sem.run, Result.andThen]
  have hfill := fill_from (k := k) vs [] ((Array.range (len * k)).map fun i => zero[i % zero.size]!).toList 0 hf hck (by simp) (by simp [hl])
  simp only [List.nil_append] at hfill
  refine step_val rfl rfl hs hd (v := .slice (some ⟨w.heap.size, 0, none⟩) len len) (w' := w.alloc (.cells ⟨(vs.map fun x => x.2.cells.toList).flatten⟩ E)) ?_ (kk _ _ ?_)
  · have hrow : ∀ w' (cs : Array Value), (newRow E cs).run P w' = .ok ⟨w'.heap.size, 0, none⟩ (w'.alloc (.cells cs E)) := fun w' cs => rfl
    have hfill' : Instr.fill (fun i => some (i * k, k)) (Array.map (fun x => zero[x % zero.size]!) (Array.range (len * k))) vs = some ⟨(vs.map fun x => x.2.cells.toList).flatten⟩ := hfill
    have hrun : (Instr.buildSlice T len ((⟨ps⟩ : Array (Nat × Operand)).map fun (i, x) => (i, a.eval x))).run P w = .ok (.slice (some ⟨w.heap.size, 0, none⟩) len len) (w.alloc (.cells ⟨(vs.map fun x => x.2.cells.toList).flatten⟩ E)) := by
      unfold Instr.buildSlice
      rw [Sem.run_bind, run_underlying (slI_spec hT)]
      simp only [Result.andThen]
      rw [Sem.run_bind, run_sizeOf' hE]
      simp only [Result.andThen, if_neg hsz']
      have h7' : (((⟨ps⟩ : Array (Nat × Operand)).map fun (i, x) => (i, a.eval x)).toList) = vs := by simpa using h7
      have hrow : ∀ w' (cs : Array Value), (newRow E cs).run P w' = .ok ⟨w'.heap.size, 0, none⟩ (w'.alloc (.cells cs E)) := fun w' cs => rfl
      simp only [pure, bind, Sem.bind, Sem.run]
      by_cases h : len * k = 0
      · have hz0 : zero = #[] := by simp [zero, h]
        rw [hz0] at hfill'
        simp only [if_pos h, h7', hfill', Sem.run_bind', hrow, Result.andThen, Sem.run]
      · have hz0 : zero = z.cells := by simp [zero, h]
        rw [hz0] at hfill'
        simp only [if_neg h, Sem.run_bind', h1, Result.andThen, h7', hfill', hrow, Sem.run]
    simp only [execOp, bind, Sem.run_bind', hrun, Result.andThen, pure, Sem.run]
  · have hln : len ≤ 140737488355328 := by have := Nat.le_of_ble_eq_true hsl; omega
    refine (m.alloc _).swp s0 fun h hh => ⟨⟨hk, by simpa [hl] using hln⟩, .inr ⟨w.heap.size, 0, len, _, by simp [hl], by simp [hl], ?_, ?_, hh⟩⟩
    · rw [flat_len hk]; simp [hl]
    · rw [List.drop_zero, List.take_of_length_le (by rw [flat_len hk]; exact Nat.le_refl _)]
end
/-! ### 14. Slices of slices -/
def subS (k : Nat) (v : Value) (lo hi : Nat) : Value := match v with
  | .slice a _ c => .slice (if c = lo then a else a.map (·.add (lo * k))) (hi - lo) (c - lo)
  | _ => v
theorem add_flat {b off n : Nat} : (⟨b, off, none⟩ : Addr).add n = ⟨b, off + n, none⟩ := by
  unfold Addr.add
  by_cases h : n = 0
  · simp [h]
  · simp [h]
theorem RdS.subS {h : Hh} {k : Nat} {v : Value} {ds : List (List Value)} (r : RdS h k v ds) {lo hi : Nat} (h1 : lo ≤ hi) (h2 : hi ≤ ds.length) : RdS h k (subS k v lo hi) ((ds.take hi).drop lo) := by
  obtain ⟨hk, hb, a, cap, rfl, hc, hr⟩ := r
  refine ⟨fun d hd => hk d (List.mem_of_mem_take (List.mem_of_mem_drop hd)), by simp; omega, if cap = lo then a else a.map (·.add (lo * k)), cap - lo, ?_, ?_, fun hn => ?_⟩
  · simp only [Fw.subS]
    congr 1
    simp; omega
  · simp; omega
  · have hlt : lo < hi := by
      rcases Nat.lt_or_ge lo hi with h | h
      · exact h
      · exact absurd (List.eq_nil_of_length_eq_zero (by simp; omega)) hn
    obtain ⟨b, off, arr, T, fz, rfl, e2, e3⟩ := hr (by intro e; subst e; simp at h2; omega)
    refine ⟨b, off + lo * k, arr, T, fz, ?_, e2, ?_⟩
    · rw [if_neg (by omega)]
      simp [add_flat]
    · have hfl : ((ds.take hi).drop lo).flatten = (ds.flatten.drop (lo * k)).take ((hi - lo) * k) := by
        have hkt : ∀ d ∈ ds.take hi, d.length = k := fun d hd => hk d (List.mem_of_mem_take hd)
        have s1 : ds = (ds.take hi).take lo ++ ((ds.take hi).drop lo ++ ds.drop hi) := by
          rw [← List.append_assoc, List.take_append_drop, List.take_append_drop]
        have l1 : ((ds.take hi).take lo).flatten.length = lo * k := by
          rw [flat_len (fun d hd => hkt d (List.mem_of_mem_take hd))]
          congr 1; simp; omega
        have l2 : ((ds.take hi).drop lo).flatten.length = (hi - lo) * k := by
          rw [flat_len (fun d hd => hkt d (List.mem_of_mem_drop hd))]
          congr 1; simp; omega
        conv => rhs; rw [s1]
        rw [List.flatten_append, ← l1, List.drop_left, List.flatten_append, ← l2, List.take_left]
      have hlen : ((ds.take hi).drop lo).length = hi - lo := by simp; omega
      rw [hfl, hlen, ← e3, List.drop_take, List.drop_drop, List.take_take]
      have h3 : (hi - lo) * k ≤ ds.length * k - lo * k := by
        rw [← Nat.sub_mul]
        exact Nat.mul_le_mul_right k (by omega)
      rw [Nat.min_eq_left h3]
section
variable {P : Program} {C : World → Prop} {L : List (Nat × Value)} {d : Option Tmp} {ty : TypeId} {pos : String} {aft : Array Edge} {g : Option (Nat × Bool)}
def bnd (L : List (Nat × Value)) (x : Option Operand) (dflt r : Nat) : Prop := match x with
  | some o => ∃ K, ev L o = some (.int K (r : Int))
  | none => r = dflt
end
end Go.Proofs.YtnbpodjbemfpbaaGreat.Fw
