/-
  The walker's own words, fifth part: append, make, slices of slices; statements; a function's begin and end. By the session; nothing here is trusted.
-/
import Derived.Test.YtnbpodjbemfpbaaGreatFw4
import Derived.Deep.LoopGhost
set_option linter.unusedVariables false
set_option linter.all false
namespace Go.Proofs.YtnbpodjbemfpbaaGreat.Fw
open Go
/-! ### 13. append -/
theorem putAt_eq : ∀ (vs cs : List Value) (o : Nat), o + vs.length ≤ cs.length → putAt cs o vs = cs.take o ++ vs ++ cs.drop (o + vs.length)
  | [], cs, o, _ => by simp [putAt]
  | v :: r, cs, o, h => by
    simp only [List.length_cons] at h
    rw [putAt, putAt_eq r (cs.set o v) (o + 1) (by simp; omega)]
    have e1 : (cs.set o v).take (o + 1) = cs.take o ++ [v] := by
      rw [List.take_succ_eq_append_getElem (by simp; omega)]
      simp [List.take_set_of_le]
    have e2 : (cs.set o v).drop (o + 1 + r.length) = cs.drop (o + (v :: r).length) := by
      rw [List.drop_set_of_lt (by omega)]
      congr 1
      simp only [List.length_cons]; omega
    rw [e1, e2]
    simp
def byI (P : Program) (T : TypeId) : Option Nat := (P.info? T).map fun i => i.bytes
def notInt (P : Program) (T : TypeId) : Bool := match P.underlying T with
  | some (.int _) => false
  | some _ => true
  | none => false
theorem notInt_spec {P : Program} {T : TypeId} (h : notInt P T = true) : ∃ d, P.underlying T = some d ∧ ∀ k, d ≠ .int k := by
  unfold notInt at h
  split at h
  · cases h
  · rename_i d hn hd
    exact ⟨d, hd, fun k e => hn k e⟩
  · cases h
theorem growBy_le (need : Nat) : ∀ (r c : Nat), c ≤ need + need / 4 + 192 → Builtin.growBy need r c ≤ need + need / 4 + 192
  | 0, c, h => by simpa [Builtin.growBy] using h
  | r + 1, c, h => by
    simp only [Builtin.growBy]
    split
    · exact h
    · exact growBy_le need r _ (by omega)
theorem next_le {need cap : Nat} (h : cap < need) : Builtin.nextslicecap need cap ≤ 2 * need + 192 := by
  unfold Builtin.nextslicecap
  split
  · omega
  · split
    · omega
    · have := growBy_le need 4 cap (by omega)
      omega
theorem run_firstCells {P : Program} {w : World} {k : Nat} {v : Value} {ds : List (List Value)} (r : RdS (hh w) k v ds) : (Builtin.firstCells k ds.length v).run P w = .ok ⟨ds.flatten⟩ w := by
  obtain ⟨h1, _, a, cap, rfl, h3, h4⟩ := r
  by_cases hn : ds = []
  · subst hn
    cases a <;> simp [Builtin.firstCells, loadCells, loadCellsFrom, pure, Sem.run]
  · obtain ⟨b, off, arr, T, fz, rfl, e2, e3⟩ := h4 hn
    simp only [Builtin.firstCells, loadCells]
    have := run_loadCellsFrom (P := P) (w := w) (a := ⟨b, off, none⟩) (ds.length * k) 0 ds.flatten #[] (flat_len h1) (fun j u hj => by
      have hlt : j < ds.length * k := by have := (List.getElem?_eq_some_iff.1 hj).1; rw [flat_len h1] at this; exact this
      have e : (⟨b, off, none⟩ : Addr).add (0 + j) = ⟨b, off + j, none⟩ := by
        unfold Addr.add
        by_cases h : j = 0
        · subst h; simp
        · simp [h]
      rw [e, ← e3, List.getElem?_take_of_lt hlt, List.getElem?_drop] at *
      simp only [hh] at e2
      simp only [World.cell?, e2]
      simpa using hj)
    rw [this]
    simp
theorem run_askRoom {P : Program} {w : World} (n : Nat) : (askRoom n).run P w = .ok () w := by
  unfold askRoom
  split <;> simp [mark, pure, Sem.run]
theorem run_append_fit {P : Program} {w : World} {T T2 E ty : TypeId} {k n m cap : Nat} {base : Option Addr} {u : Value} {ag : Bool} {D2 : TypeDesc} {es : Array Value}
    (hT : P.underlying T = some (.slice E)) (hD2 : P.underlying T2 = some D2) (hD2n : ∀ k, D2 ≠ .int k) (hE : tyI P E = some (ag, k)) (hlu : (Builtin.lenOf u).run P w = .ok m w) (hfu : (Builtin.firstCells k m u).run P w = .ok es w)
    (hc : n + m ≤ cap) : (Builtin.append_ #[T, T2] ty #[.slice base n cap, u]).run P w = (match base with
      | some a => (storeCells (a.add (n * k)) es.toList).bind fun _ => Sem.pure (Value.slice base (n + m) cap)
      | none => Sem.pure (Value.slice base (n + m) cap)).run P w := by
  cases base <;> simp [Builtin.append_, bind, Sem.run_bind', run_underlying hT, run_underlying hD2, Result.andThen, run_sizeOf' hE, pure, Sem.run, hlu, hc, hfu]
theorem run_append_grow {P : Program} {w : World} {T T2 E ty : TypeId} {k n m cap : Nat} {base : Option Addr} {u z : Value} {ag : Bool} {D2 : TypeDesc} {i : TypeInfo} {ds es : Array Value}
    (hT : P.underlying T = some (.slice E)) (hD2 : P.underlying T2 = some D2) (hD2n : ∀ k, D2 ≠ .int k) (hE : tyI P E = some (ag, k)) (hi : P.info? E = some i) (hz : i.zero = some z) (hlu : (Builtin.lenOf u).run P w = .ok m w)
    (hfu : (Builtin.firstCells k m u).run P w.drew = .ok es w.drew) (hfv : (Builtin.firstCells k n (.slice base n cap)).run P w.drew = .ok ds w.drew)
    (hc : ¬ n + m ≤ cap) (hlen : n + m ≤ 140737488355328 ∧ (2 * (n + m) + 192) * i.bytes ≤ 281474976710656) : ∃ c, n + m ≤ c ∧ (Builtin.append_ #[T, T2] ty #[.slice base n cap, u]).run P w =
      .ok (.slice (some ⟨w.heap.size, 0, none⟩) (n + m) c) (w.drew.alloc (.cells (ds ++ es ++ Builtin.zeroCells z.cells (c - (n + m))) E)) := by
  have hnext := next_le (need := n + m) (cap := cap) (by omega)
  have h1 : ¬ 281474976710656 < Builtin.nextslicecap (n + m) cap * i.bytes := by
    have : Builtin.nextslicecap (n + m) cap * i.bytes ≤ (2 * (n + m) + 192) * i.bytes := Nat.mul_le_mul hnext (Nat.le_refl _)
    omega
  have h2 : ¬ ((9223372036854775807 : Int) < (n : Int) + (m : Int)) := by omega
  have hno : ∀ c w', (askRoom c).run P w' = .ok () w' := fun c w' => run_askRoom c
  refine ⟨(Question.appendCap (n + m) cap E).cut (w.tape w.drawn (Question.appendCap (n + m) cap E)), by simp [Question.cut], ?_⟩
  have hty : (typeInfo E).run P w = .ok i w := by simp [typeInfo, program, bind, Sem.bind, Sem.run, hi, pure]
  have hty2 : (typeInfo E).run P w.drew = .ok i w.drew := by simp [typeInfo, program, bind, Sem.bind, Sem.run, hi, pure]
  have hze : (zeroValue E).run P w.drew = .ok z w.drew := by simp [zeroValue, typeInfo, program, bind, Sem.bind, Sem.run, hi, hz, pure]
  have hrow : ∀ w' (cs : Array Value), (newRow E cs).run P w' = .ok ⟨w'.heap.size, 0, none⟩ (w'.alloc (.cells cs E)) := fun w' cs => rfl
  simp [Builtin.append_, bind, Sem.run_bind', run_underlying hT, run_underlying hD2, Result.andThen, run_sizeOf' hE, pure, Sem.run, hlu, hc, hfu, hty, hty2, h1, h2, hno, hfv, hze, hrow, Question.forced]
section
variable {P : Program} {w0 w : World} {R : Hh} {Ps Qs : List HP}
theorem Sv.shape {k : Nat} {E : TypeId} {v : Value} {ds : List (List Value)} {h : Hh} (s : Sv k E v ds h) : ∃ base cap, v = .slice base ds.length cap ∧ ds.length ≤ cap := by
  obtain ⟨_, ⟨rfl, rfl, _⟩ | ⟨b, off, cap, cs, e, h, _⟩⟩ := s
  · exact ⟨none, 0, rfl, Nat.le_refl _⟩
  · exact ⟨_, cap, e, h⟩
theorem Hp.append (m : Hp w0 R Ps w) {T T2 E : TypeId} {ag : Bool} {k bytes : Nat} {v u : Value} {ds es : List (List Value)} {ty : TypeId} {zs : List Value}
    (hT : slI P T = some E) (hT2 : notInt P T2 = true) (hE : tyI P E = some (ag, k)) (hz : zeI P E = some zs) (hzl : zs.length = k) (hb : byI P E = some bytes) (hbb : Nat.ble bytes 4096 = true)
    (hP : Rem Ps (Sv k E v ds) Qs) (hu : RdS (hh w) k u es) (ho : ∀ e ∈ es, ones e = true) (hlen : ds.length + es.length ≤ 140737488355328 ∧ (2 * (ds.length + es.length) + 192) * bytes ≤ 281474976710656) :
    ∃ v' w', (Builtin.append_ #[T, T2] ty #[v, u]).run P w = .ok v' w' ∧ Hp w0 R (Sv k E v' (ds ++ es) :: Qs) w' := by
  obtain ⟨i, hi, z, hz1, hz2, hbi⟩ : ∃ i, P.info? E = some i ∧ ∃ z, i.zero = some z ∧ z.cells = ⟨zs⟩ ∧ i.bytes = bytes := by
    unfold byI at hb
    unfold zeI at hz
    cases hi : P.info? E with
    | none => simp [hi] at hb
    | some i =>
      cases hz1 : i.zero with
      | none => simp [hi, hz1] at hz
      | some z =>
        simp only [hi, hz1, Option.bind_some, Option.map_some, Option.some.injEq] at hz
        exact ⟨i, rfl, z, hz1, by rw [← hz], by simpa [hi] using hb⟩
  obtain ⟨D2, hD2, hD2n⟩ := notInt_spec hT2
  obtain ⟨g, hg, gl, m1⟩ := (m.front hP).exact
  have hrd := hg.reads
  have hrv := hrd.le gl
  have hlu : (Builtin.lenOf u).run P w = .ok es.length w := by
    obtain ⟨_, _, a, cap, rfl, _⟩ := hu
    simp [Builtin.lenOf, pure, Sem.run]
  have hesl : es.flatten.length = es.length * k := flat_len hu.1
  have hdsl : ds.flatten.length = ds.length * k := flat_len hrd.1
  have hall' : ∀ d ∈ ds ++ es, d.length = k := by
    intro d hd
    rcases List.mem_append.1 hd with h | h
    · exact hrd.1 d h
    · exact hu.1 d h
  have hall : (∀ d ∈ ds ++ es, d.length = k) ∧ (ds ++ es).length ≤ 140737488355328 := ⟨hall', by simp; omega⟩
  have hones : ones es.flatten = true := by
    simp only [ones, List.all_eq_true, List.mem_flatten]
    rintro x ⟨e, he, hx⟩
    have := ho e he
    simp only [ones, List.all_eq_true] at this
    exact this x hx
  obtain ⟨base, cap, rfl, hcap⟩ := hg.shape
  by_cases hc : ds.length + es.length ≤ cap
  · -- there is room
    rw [run_append_fit (P := P) (w := w) (T := T) (T2 := T2) (ty := ty) (n := ds.length) (cap := cap) (base := base) (slI_spec hT) hD2 hD2n hE hlu (run_firstCells hu) hc]
    obtain ⟨h1, ⟨h2, rfl, rfl⟩ | ⟨b, off, cap', cs, e, h3, h4, h5, rfl⟩⟩ := hg
    · simp only [Value.slice.injEq] at h2
      obtain ⟨rfl, _, rfl⟩ := h2
      have : es = [] := by simpa using hc
      subst this
      exact ⟨_, w, rfl, m1.swp s0 fun h hs => ⟨⟨by simp, by simp⟩, .inl ⟨by simp, rfl, hs⟩⟩⟩
    · simp only [Value.slice.injEq] at e
      obtain ⟨rfl, _, rfl⟩ := e
      have hadd : (⟨b, off, none⟩ : Addr).add (ds.length * k) = ⟨b, off + ds.length * k, none⟩ := by
        unfold Addr.add
        by_cases h : ds.length * k = 0
        · simp [h]
        · simp [h]
      have hbk : w.heap[b]? = some (.cells ⟨cs⟩ E (0, 0)) := gl _ _ (by simp [hone])
      have hmul := Nat.mul_le_mul_right k hc
      rw [Nat.add_mul] at hmul
      have hfit : off + ds.length * k + es.flatten.length ≤ cs.length := by
        rw [hesl]
        omega
      obtain ⟨w', k1, k2, k3, k4, k5⟩ := run_storeCells (P := P) es.flatten w b (off + ds.length * k) 0 cs E hbk (by omega) hones
      refine ⟨.slice (some ⟨b, off, none⟩) (ds.length + es.length) cap, w', ?_, ?_⟩
      · simp only [hadd, Sem.run_bind', k1, Result.andThen, Sem.run]
      · have m3 := m1.block k2 k3 k4 k5
        refine m3.swp s0 fun h hs => ⟨hall, .inr ⟨b, off, cap, putAt cs (off + ds.length * k) es.flatten, by simp, by simpa using hc, by rw [putAt_length]; exact h4, ?_, by simpa using hs⟩⟩
        rw [putAt_eq _ _ _ hfit, List.length_append, Nat.add_mul, List.flatten_append, ← h5, ← hesl]
        have e1 : (cs.take (off + ds.length * k)).drop off = (cs.drop off).take (ds.length * k) := by
          rw [List.drop_take]; congr 1; omega
        rw [List.append_assoc, List.drop_append_of_le_length (by simp; omega), e1, ← List.append_assoc, List.take_append_of_le_length (by simp; omega), List.take_of_length_le (by simp; omega)]
  · -- a new array
    have gl' : hle g (hh w.drew) := gl
    have hfv := run_firstCells (P := P) (w := w.drew) (hrd.le gl')
    have hfu := run_firstCells (P := P) (w := w.drew) (k := k) (v := u) (ds := es) hu
    obtain ⟨c, hc1, hrun⟩ := run_append_grow (P := P) (w := w) (T := T) (T2 := T2) (ty := ty) (n := ds.length) (cap := cap) (base := base) (slI_spec hT) hD2 hD2n hE hi hz1 hlu hfu hfv hc (by rw [hbi]; exact hlen)
    refine ⟨_, _, hrun, ?_⟩
    have m2 := (m1.drop.drew).alloc (.cells ((⟨ds.flatten⟩ : Array Value) ++ ⟨es.flatten⟩ ++ Builtin.zeroCells z.cells (c - (ds.length + es.length))) E)
    refine m2.swp s0 fun h hs => ⟨hall, .inr ⟨w.heap.size, 0, c, ds.flatten ++ es.flatten ++ (Builtin.zeroCells z.cells (c - (ds.length + es.length))).toList, by simp, by simpa using hc1, ?_, ?_, ?_⟩⟩
    · have : (Builtin.zeroCells z.cells (c - (ds.length + es.length))).size = (c - (ds.length + es.length)) * k := by
        simp [Builtin.zeroCells, hz2, hzl]
      simp only [List.length_append, Array.length_toList, this, hdsl, hesl, Nat.zero_add]
      rw [← Nat.add_mul, ← Nat.add_mul]
      exact Nat.mul_le_mul_right k (by omega)
    · rw [List.drop_zero, List.length_append, List.flatten_append, List.take_append_of_le_length (by rw [List.length_append, hdsl, hesl, Nat.add_mul]; exact Nat.le_refl _), List.take_of_length_le (by rw [List.length_append, hdsl, hesl, Nat.add_mul]; exact Nat.le_refl _)]
    · rw [hs]
      have : (⟨ds.flatten⟩ : Array Value) ++ ⟨es.flatten⟩ ++ Builtin.zeroCells z.cells (c - (ds.length + es.length)) = ⟨ds.flatten ++ es.flatten ++ (Builtin.zeroCells z.cells (c - (ds.length + es.length))).toList⟩ := by
        apply Array.ext'
        simp
      rw [this]
      rfl
end
end Go.Proofs.YtnbpodjbemfpbaaGreat.Fw
