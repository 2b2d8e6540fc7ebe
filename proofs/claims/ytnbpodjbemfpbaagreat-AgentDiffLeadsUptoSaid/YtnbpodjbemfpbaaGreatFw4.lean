/-
  The walker's own words, fourth part: operations that make or write memory; statements; a function's begin and end. By the session; nothing here is trusted.
-/
import Derived.Test.YtnbpodjbemfpbaaGreatFw3
set_option linter.unusedVariables false
set_option linter.all false
namespace Go.Proofs.YtnbpodjbemfpbaaGreat.Fw
open Go
/-! ### 10. New variables -/
def zeI (P : Program) (T : TypeId) : Option (List Value) := ((P.info? T).bind fun i => i.zero).map fun v => v.cells.toList
theorem zeI_spec {P : Program} {T : TypeId} {zs : List Value} (h : zeI P T = some zs) (w : World) : ∃ z, (zeroValue T).run P w = .ok z w ∧ z.cells = ⟨zs⟩ := by
  unfold zeI at h
  cases hi : P.info? T with
  | none => simp [hi] at h
  | some i =>
    cases hz : i.zero with
    | none => simp [hi, hz] at h
    | some z =>
      simp only [hi, hz, Option.bind_some, Option.map_some, Option.some.injEq] at h
      refine ⟨z, by simp [zeroValue, typeInfo, program, bind, Sem.bind, Sem.run, hi, hz, pure], ?_⟩
      rw [← h]
theorem alloc_run {P : Program} {w : World} (o : Obj) : (newObj o).run P w = .ok w.heap.size (w.alloc o) := rfl
theorem Hp.newBx {w0 w : World} {R : Hh} {Ps : List HP} (m : Hp w0 R Ps w) (E : TypeId) (cs : List Value) : Hp w0 R (Bx ⟨w.heap.size, 0, none⟩ E cs :: Ps) (w.alloc (.cells ⟨cs⟩ E)) :=
  (m.alloc _).swp s0 fun h e => ⟨rfl, e⟩
section
variable {P : Program} {ops : Array Oper} {Q : Exit → Act → World → Prop} {rest : List Oper} {n : Nat} {L : List (Nat × Value)} {a : Act} {w w0 : World} {R : Hh} {Ps Qs : List HP}
  {d : Nat} {ty : TypeId} {pos : String} {aft : Array Edge}
theorem r_box {E : TypeId} {x : Operand} {v : Value} {cs : List Value} (hs : St n L a) (m : Hp w0 R Ps w) (hx : ev L x = some v) (hc : v.cells = ⟨cs⟩) (hd : Nat.blt d n = true)
    (k : ∀ p w', Hp w0 R (Bx p E cs :: Ps) w' → ∀ a', St n ((d, .pointer (some (padd p 0))) :: L) a' → wpList P ops Q rest a' w') : wpList P ops Q (⟨some d, .box E x, ty, pos, aft, none⟩ :: rest) a w := by
  refine step_val rfl rfl hs hd (v := .pointer (some ⟨w.heap.size, 0, none⟩)) (w' := w.alloc (.cells ⟨cs⟩ E)) ?_ (k ⟨w.heap.size, 0, none⟩ _ (m.newBx E cs))
  simp [execOp, hs.evs x _ hx, Instr.box, newVar, newRow, bind, Sem.run_bind', alloc_run, pure, Sem.run, Result.andThen, hc]
theorem r_alloc {E : TypeId} {cs : List Value} (hs : St n L a) (m : Hp w0 R Ps w) (hz : zeI P E = some cs) (hd : Nat.blt d n = true)
    (k : ∀ p w', Hp w0 R (Bx p E cs :: Ps) w' → ∀ a', St n ((d, .pointer (some (padd p 0))) :: L) a' → wpList P ops Q rest a' w') : wpList P ops Q (⟨some d, .alloc E, ty, pos, aft, none⟩ :: rest) a w := by
  obtain ⟨z, h1, h2⟩ := zeI_spec hz w
  refine step_val rfl rfl hs hd (v := .pointer (some ⟨w.heap.size, 0, none⟩)) (w' := w.alloc (.cells ⟨cs⟩ E)) ?_ (k ⟨w.heap.size, 0, none⟩ _ (m.newBx E cs))
  simp [execOp, Instr.alloc, newVar, newRow, bind, Sem.run_bind', alloc_run, h1, pure, Sem.run, Result.andThen, h2]
end
/-! ### 11. Stores -/
def putAt (cs : List Value) (o : Nat) (vs : List Value) : List Value := match vs with
  | [] => cs
  | v :: r => putAt (cs.set o v) (o + 1) r
theorem putAt_length : ∀ (vs cs : List Value) (o : Nat), (putAt cs o vs).length = cs.length
  | [], _, _ => rfl
  | v :: r, cs, o => by simp [putAt, putAt_length r]
def one : Value → Bool
  | .agg _ | .tuple _ => false
  | _ => true
def ones (vs : List Value) : Bool := vs.all one
theorem run_store1 {P : Program} {w : World} {b off : Nat} {arr : Array Value} {T : TypeId} (hb : w.heap[b]? = some (.cells arr T (0, 0))) (ho : off < arr.size) {v : Value} (h1 : one v = true) :
    (store ⟨b, off, none⟩ v).run P w = .ok () (w.setCell ⟨b, off, none⟩ v) := by
  have hc : w.cell? ⟨b, off, none⟩ = some arr[off] := by
    simp [World.cell?, hb, ho]
  have hf : w.frozen? ⟨b, off, none⟩ = false := by
    simp [World.frozen?, hb]
  cases v <;> first
    | (simp [one] at h1; done)
    | simp [store, Sem.run, hc, hf]
theorem setCell_heap {w : World} {b off : Nat} {arr : Array Value} {T : TypeId} (hb : w.heap[b]? = some (.cells arr T (0, 0))) (v : Value) :
    (w.setCell ⟨b, off, none⟩ v).heap = w.heap.setIfInBounds b (.cells (arr.setIfInBounds off v) T (0, 0)) := by
  apply Array.ext_getElem?
  intro i
  simp only [World.setCell, Array.getElem?_modify, Array.getElem?_setIfInBounds]
  by_cases h : b = i
  · subst h
    have hlt : b < w.heap.size := (Array.getElem?_eq_some_iff.1 hb).1
    simp only [if_true, hb, Option.map_some, hlt]
    simp
  · simp [h]
theorem run_storeCells {P : Program} : ∀ (vs : List Value) (w : World) (b off i : Nat) (cs : List Value) (T : TypeId), w.heap[b]? = some (.cells ⟨cs⟩ T (0, 0)) → off + i + vs.length ≤ cs.length → ones vs = true →
    ∃ w', (storeCells ⟨b, off, none⟩ vs i).run P w = .ok () w' ∧ w'.heap = w.heap.setIfInBounds b (.cells ⟨putAt cs (off + i) vs⟩ T (0, 0)) ∧ w'.os = w.os ∧ w'.tape = w.tape ∧ w'.output = w.output
  | [], w, b, off, i, cs, T, hb, _, _ => by
    refine ⟨w, by simp [storeCells, pure, Sem.run], ?_, rfl, rfl, rfl⟩
    apply Array.ext_getElem?
    intro j
    rw [Array.getElem?_setIfInBounds]
    by_cases h : b = j
    · subst h
      have hlt : b < w.heap.size := (Array.getElem?_eq_some_iff.1 hb).1
      simp only [if_true, hlt, hb, putAt]
    · simp [h]
  | v :: r, w, b, off, i, cs, T, hb, hl, ho => by
    simp only [ones, List.all_cons, Bool.and_eq_true] at ho
    simp only [List.length_cons] at hl
    have e : (⟨b, off, none⟩ : Addr).add i = ⟨b, off + i, none⟩ := by
      unfold Addr.add
      by_cases h : i = 0
      · simp [h]
      · simp [h]
    have h1 := run_store1 (P := P) (off := off + i) hb (by simp; omega) ho.1
    have hh := setCell_heap (off := off + i) hb v
    have hb' : (w.setCell ⟨b, off + i, none⟩ v).heap[b]? = some (.cells ⟨cs.set (off + i) v⟩ T (0, 0)) := by
      rw [hh, Array.getElem?_setIfInBounds_self_of_lt]
      · simp
      · exact (Array.getElem?_eq_some_iff.1 hb).1
    obtain ⟨w', k1, k2, k3, k4, k5⟩ := run_storeCells r (w.setCell ⟨b, off + i, none⟩ v) b off (i + 1) (cs.set (off + i) v) T hb' (by simp; omega) ho.2
    refine ⟨w', ?_, ?_, k3, k4, k5⟩
    · simp only [storeCells, bind, Sem.run_bind', e, h1, Result.andThen]
      exact k1
    · rw [k2, hh]
      apply Array.ext_getElem?
      intro j
      simp only [Array.getElem?_setIfInBounds, Array.size_setIfInBounds]
      by_cases h : b = j
      · simp [h, putAt, Nat.add_assoc]
      · simp [h]
theorem run_storeVar {P : Program} {w : World} {T : TypeId} {ag : Bool} {n : Nat} (ht : tyI P T = some (ag, n)) {b off : Nat} {cs vs : List Value} {E : TypeId} {v : Value} (hb : w.heap[b]? = some (.cells ⟨cs⟩ E (0, 0))) (hv : v.cells = ⟨vs⟩) (hn : vs.length = n) (hl : off + n ≤ cs.length) (ho : ones vs = true) :
    ∃ w', (storeVar T ⟨b, off, none⟩ v).run P w = .ok () w' ∧ w'.heap = w.heap.setIfInBounds b (.cells ⟨putAt cs off vs⟩ E (0, 0)) ∧ w'.os = w.os ∧ w'.tape = w.tape ∧ w'.output = w.output := by
  obtain ⟨w', h1, h2, h3, h4, h5⟩ := run_storeCells (P := P) vs w b off 0 cs E hb (by omega) ho
  refine ⟨w', ?_, by simpa using h2, h3, h4, h5⟩
  simp [storeVar, bind, Sem.run_bind', run_sizeOf' ht, Result.andThen, hv, hn, h1]
section
variable {P : Program} {ops : Array Oper} {Q : Exit → Act → World → Prop} {rest : List Oper} {n : Nat} {L : List (Nat × Value)} {a : Act} {w w0 : World} {R : Hh} {Ps Qs : List HP}
  {d : Nat} {ty : TypeId} {pos : String} {aft : Array Edge}
theorem r_store {T E : TypeId} {ag : Bool} {x y : Operand} {p : Addr} {o s : Nat} {cs vs cs' : List Value} {v : Value} (hs : St n L a) (m : Hp w0 R Ps w) (hx : ev L x = some (.pointer (some (padd p o)))) (hy : ev L y = some v) (ht : tyI P T = some (ag, s)) (hP : Swp Ps (Bx p E cs) (Bx p E cs') Qs)
    (hv : v.cells = ⟨vs⟩) (hn : vs.length = s) (hl : Nat.ble (o + s) cs.length = true) (ho : ones vs = true) (hc : putAt cs o vs = cs')
    (k : ∀ w', Hp w0 R Qs w' → wpList P ops Q rest a w') : wpList P ops Q (⟨none, .store T x y, ty, pos, aft, none⟩ :: rest) a w := by
  subst hc
  obtain ⟨l, p1, p2⟩ := hP.rem
  have m1 := m.perm p1
  obtain ⟨lo, hlo⟩ := hP.out
  obtain ⟨g, ⟨g1, g2⟩, gl⟩ := m.look hlo
  have hb : w.heap[p.block]? = some (.cells ⟨cs⟩ E (0, 0)) := gl _ _ (by rw [g2]; simp [hone])
  obtain ⟨w', h1, h2, h3, h4, h5⟩ := run_storeVar (P := P) ht (off := p.off + o) hb hv hn (by have := Nat.le_of_ble_eq_true hl; omega) ho
  refine step_skip rfl rfl hs (w' := w') ?_ (k w' ?_)
  · simp [execOp, hs.evs x _ hx, hs.evs y _ hy, Instr.storeAt, Instr.sureAddr, bind, Sem.run_bind', pure, Sem.run, Result.andThen, padd, h1]
  · have m2 : Hp w0 R ((fun h => h = hone p.block (.cells ⟨cs⟩ E (0, 0))) :: l) w := m1.swp s0 fun h e => e.2
    have m3 := m2.block h2 h3 h4 h5
    refine (m3.swp s0 (q := Bx p E (putAt cs o vs)) fun h e => ⟨g1, ?_⟩).perm p2
    rw [e, g1, Nat.zero_add]
end
/-! ### 12. Aggregates -/
def stI (P : Program) (T : TypeId) : Option (List (Nat × Nat)) :=
  match P.underlying T with
  | some (.struct fs) => fs.toList.mapM fun f => match tyI P f.type with
    | some (_, n) => some (f.offset, n)
    | none => none
  | _ => none
def partsOf (L : List (Nat × Value)) : List (Nat × Operand) → Option (List (Nat × Value))
  | [] => some []
  | (i, x) :: r => match ev L x, partsOf L r with
    | some v, some vs => some ((i, v) :: vs)
    | _, _ => none
def fillL (fs : List (Nat × Nat)) : List Value → List (Nat × Value) → Option (List Value)
  | cs, [] => some cs
  | cs, (i, v) :: r => match fs[i]? with
    | some (o, n) => match Nat.beq v.cells.toList.length n, Nat.ble (o + n) cs.length with
      | true, true => fillL fs (putAt cs o v.cells.toList) r
      | _, _ => none
    | none => none
theorem foldl_put (vs : List Value) : ∀ (cs : Array Value) (o k : Nat), ((vs.zipIdx k).foldl (fun (cs : Array Value) (x : Value × Nat) => cs.setIfInBounds (o + x.2) x.1) cs) = ⟨putAt cs.toList (o + k) vs⟩ := by
  induction vs with
  | nil => intro cs o k; simp [putAt]
  | cons v r ih =>
    intro cs o k
    simp only [List.zipIdx_cons, List.foldl_cons]
    rw [ih]
    simp [putAt, Nat.add_assoc]
theorem fill_eq {fs : List (Nat × Nat)} {place : Nat → Option (Nat × Nat)} (hp : ∀ i, place i = fs[i]?) : ∀ (ps : List (Nat × Value)) (cs : List Value) (out : List Value), fillL fs cs ps = some out → Instr.fill place ⟨cs⟩ ps = some ⟨out⟩
  | [], cs, out, h => by simp [fillL] at h; simp [Instr.fill, h]
  | (i, v) :: r, cs, out, h => by
    simp only [fillL] at h
    cases hf : fs[i]? with
    | none => simp [hf] at h
    | some on =>
      obtain ⟨o, n⟩ := on
      simp only [hf] at h
      cases h1 : Nat.beq v.cells.toList.length n with
      | false => simp only [h1] at h; cases h
      | true =>
        cases h2 : Nat.ble (o + n) cs.length with
        | false => simp only [h1, h2] at h; cases h
        | true =>
          simp only [h1, h2] at h
          have e1 := Nat.eq_of_beq_eq_true h1
          have e2 := Nat.le_of_ble_eq_true h2
          simp only [Instr.fill, hp, hf]
          have e1' : v.cells.size = n := by simpa using e1
          have hcond : ((v.cells.size != n) || decide (o + v.cells.size > (⟨cs⟩ : Array Value).size)) = false := by
            simp [e1']
            omega
          rw [if_neg (by simp [e1']; omega)]
          have := foldl_put v.cells.toList ⟨cs⟩ o 0
          have ih := fill_eq hp r (putAt cs o v.cells.toList) out h
          simp only [Nat.add_zero] at this
          rw [← ih]
          congr 1
          rw [← Array.foldl_toList, Array.toList_zipIdx]
          exact this
theorem stI_spec {P : Program} {T : TypeId} {fs : List (Nat × Nat)} (h : stI P T = some fs) : ∃ fds, P.underlying T = some (.struct fds) ∧ fds.toList.mapM (fun f => match tyI P f.type with
    | some (_, n) => some (f.offset, n)
    | none => none) = some fs := by
  unfold stI at h
  split at h
  · rename_i fds h1
    exact ⟨fds, h1, h⟩
  · cases h
theorem mapM_places {P : Program} {w : World} : ∀ (l : List Field) (fs : List (Nat × Nat)), l.mapM (fun f => match tyI P f.type with
    | some (_, n) => some (f.offset, n)
    | none => none) = some fs → (l.mapM fun f => do pure (f.offset, ← sizeOf f.type) : Sem (List (Nat × Nat))).run P w = .ok fs w
  | [], fs, h => by
    simp at h
    subst h
    simp [pure, Sem.run]
  | f :: l, fs, h => by
    simp only [List.mapM_cons] at h
    cases ht : tyI P f.type with
    | none => simp [ht] at h
    | some an =>
      obtain ⟨ag, k⟩ := an
      simp only [ht, Option.bind_eq_bind, Option.bind_some] at h
      cases hr : l.mapM (fun f => match tyI P f.type with
          | some (_, n) => some (f.offset, n)
          | none => none) with
      | none => simp [hr] at h
      | some rs =>
        simp only [hr, Option.bind_some, Option.pure_def, Option.some.injEq] at h
        subst h
        have ih := mapM_places (P := P) (w := w) l rs hr
        simp only [List.mapM_cons, bind, Sem.run_bind', run_sizeOf' ht, Result.andThen, pure, Sem.run]
        simp only [bind, pure] at ih
        rw [ih]
theorem parts_map {L : List (Nat × Value)} {ρ : Operand → Value} (ha : ∀ x u, ev L x = some u → ρ x = u) : ∀ (ps : List (Nat × Operand)) (vs : List (Nat × Value)), partsOf L ps = some vs → ps.map (fun x => (x.1, ρ x.2)) = vs
  | [], vs, h => by simpa [partsOf] using h
  | (i, x) :: r, vs, h => by
    simp only [partsOf] at h
    cases h1 : ev L x with
    | none => simp [h1] at h
    | some v =>
      cases h2 : partsOf L r with
      | none => simp [h1, h2] at h
      | some us =>
        simp only [h1, h2, Option.some.injEq] at h
        subst h
        simp [ha x v h1, parts_map ha r us h2]
section
variable {P : Program} {C : World → Prop} {L : List (Nat × Value)} {d : Option Tmp} {ty : TypeId} {pos : String} {aft : Array Edge} {g : Option (Nat × Bool)}
theorem ok_build {T : TypeId} {ps : List (Nat × Operand)} {fs : List (Nat × Nat)} {zs cs : List Value} {vs : List (Nat × Value)} (hf : stI P T = some fs) (hz : zeI P T = some zs) (hx : partsOf L ps = some vs) (hc : fillL fs zs vs = some cs) :
    Ok P C L ⟨d, .build T ⟨ps⟩, ty, pos, aft, g⟩ (.agg ⟨cs⟩) := fun ρ ha w _ => by
  obtain ⟨z, h1, h2⟩ := zeI_spec hz w
  obtain ⟨fds, h3, h4⟩ := stI_spec hf
  have h5 := mapM_places (P := P) (w := w) fds.toList fs h4
  have h6 := fill_eq (fs := fs) (place := fun i => (⟨fs⟩ : Array (Nat × Nat))[i]?) (fun i => by simp) vs zs cs hc
  have h7 := parts_map ha ps vs hx
  have h8 : (fds.mapM fun f => do pure (f.offset, ← sizeOf f.type) : Sem (Array (Nat × Nat))).run P w = .ok ⟨fs⟩ w := by
    rw [Array.mapM_eq_mapM_toList]
    have e : ∀ m : Sem (List (Nat × Nat)), (List.toArray <$> m) = m.bind (fun l => Sem.pure l.toArray) := fun _ => rfl
    rw [e, Sem.run_bind', h5]
    rfl
  simp [execOp, Instr.build, bind, Sem.run_bind', h1, Result.andThen, run_underlying h3, h8, h2, h7, pure, Sem.run]
  have h9 : Sem.run P (Array.mapM (fun f => (sizeOf f.type).bind fun x => Sem.pure (f.offset, x)) fds) w = Result.ok (⟨fs⟩ : Array (Nat × Nat)) w := h8
  rw [h9]
  simp only [h6, Sem.run]
end
end Go.Proofs.YtnbpodjbemfpbaaGreat.Fw
