/-
  The walker's own words, tenth part: writes into slices of the walk's own: elements, copies, spare room, windows. By the session; nothing here is trusted.
-/
import Derived.Test.YtnbpodjbemfpbaaGreatFw9
set_option linter.unusedVariables false
set_option linter.all false
namespace Go.Proofs.YtnbpodjbemfpbaaGreat.Fw
open Go
/-! ### 20. The header turned -/
def upH (x : SH) (n : Nat) : SH := ⟨x.a, n, x.c⟩
theorem upH_c (x : SH) (n : Nat) : (upH x n).c = x.c := rfl
theorem Sv.un {k : Nat} {E : TypeId} {x : SH} {ds : List (List Value)} {h : Hh} (s : Sv k E x.v ds h) : ((∀ d ∈ ds, d.length = k) ∧ ds.length ≤ 140737488355328) ∧ x.n = ds.length ∧
    ((x = nilH ∧ ds = [] ∧ h = hnil) ∨ ∃ b off cs, x.a = some ⟨b, off, none⟩ ∧ ds.length ≤ x.c ∧ off + x.c * k ≤ cs.length ∧ (cs.drop off).take (ds.length * k) = ds.flatten ∧ h = hone b (.cells ⟨cs⟩ E (0, 0))) := by
  obtain ⟨h1, ⟨e, rfl, rfl⟩ | ⟨b, off, cap, cs, e, h3, h4, h5, h6⟩⟩ := s
  · obtain ⟨xa, xn, xc⟩ := x
    simp only [SH.v, Value.slice.injEq] at e
    obtain ⟨rfl, rfl, rfl⟩ := e
    exact ⟨h1, rfl, .inl ⟨rfl, rfl, rfl⟩⟩
  · obtain ⟨xa, xn, xc⟩ := x
    simp only [SH.v, Value.slice.injEq] at e
    obtain ⟨rfl, rfl, rfl⟩ := e
    exact ⟨h1, rfl, .inr ⟨b, off, cs, rfl, h3, h4, h5, h6⟩⟩
theorem Sv.mk' {k : Nat} {E : TypeId} {x : SH} {ds : List (List Value)} {h : Hh} {b off : Nat} {cs : List Value} (h1 : (∀ d ∈ ds, d.length = k) ∧ ds.length ≤ 140737488355328) (hn : x.n = ds.length) (ha : x.a = some ⟨b, off, none⟩) (h2 : ds.length ≤ x.c) (h3 : off + x.c * k ≤ cs.length)
    (h4 : (cs.drop off).take (ds.length * k) = ds.flatten) (h5 : h = hone b (.cells ⟨cs⟩ E (0, 0))) : Sv k E x.v ds h :=
  ⟨h1, .inr ⟨b, off, x.c, cs, by simp [SH.v, ha, hn], h2, h3, h4, h5⟩⟩
theorem flat_take {k : Nat} {ds : List (List Value)} (hk : ∀ d ∈ ds, d.length = k) {i : Nat} (hi : i ≤ ds.length) : (ds.take i).flatten = ds.flatten.take (i * k) := by
  conv => rhs; rw [← List.take_append_drop i ds, List.flatten_append]
  have l1 : (ds.take i).flatten.length = i * k := by
    rw [flat_len (fun d hd => hk d (List.mem_of_mem_take hd))]; congr 1; simp; omega
  rw [← l1, List.take_left]
theorem flat_drop {k : Nat} {ds : List (List Value)} (hk : ∀ d ∈ ds, d.length = k) {i : Nat} (hi : i ≤ ds.length) : (ds.drop i).flatten = ds.flatten.drop (i * k) := by
  conv => rhs; rw [← List.take_append_drop i ds, List.flatten_append]
  have l1 : (ds.take i).flatten.length = i * k := by
    rw [flat_len (fun d hd => hk d (List.mem_of_mem_take hd))]; congr 1; simp; omega
  rw [← l1, List.drop_left]
section
variable {P : Program} {w0 w : World} {R : Hh} {Ps Qs : List HP} {k : Nat} {E : TypeId} {x : SH} {ds es : List (List Value)}
theorem Hp.putOwn (m : Hp w0 R (Sv k E x.v ds :: Ps) w) {ad : Addr} (ha : x.a = some ad) {lo : Nat} (hes : ∀ e ∈ es, e.length = k) (ho : ∀ e ∈ es, ones e = true) (hlo : lo ≤ ds.length) (hhi : lo + es.length ≤ x.c) (hb : lo + es.length ≤ 140737488355328) :
    ∃ w', (storeCells (ad.add (lo * k)) es.flatten).run P w = .ok () w' ∧ Hp w0 R (Sv k E (upH x (max ds.length (lo + es.length))).v (ds.take lo ++ es ++ ds.drop (lo + es.length)) :: Ps) w' := by
  obtain ⟨g, hg, gl, m1⟩ := m.exact
  obtain ⟨h1, hn, ⟨rfl, _, _⟩ | ⟨b, off, cs, ha', h2, h3, h4, rfl⟩⟩ := hg.un
  · cases ha
  rw [ha] at ha'
  simp only [Option.some.injEq] at ha'
  subst ha'
  have hbk : w.heap[b]? = some (.cells ⟨cs⟩ E (0, 0)) := gl _ _ (by simp [hone])
  have hesl : es.flatten.length = es.length * k := flat_len hes
  have hdsl : ds.flatten.length = ds.length * k := flat_len h1.1
  have hones : ones es.flatten = true := by
    simp only [ones, List.all_eq_true, List.mem_flatten]
    rintro x ⟨e, he, hx⟩
    have := ho e he
    simp only [ones, List.all_eq_true] at this
    exact this x hx
  have hmul := Nat.mul_le_mul_right k hhi
  rw [Nat.add_mul] at hmul
  have hfit : off + lo * k + es.flatten.length ≤ cs.length := by rw [hesl]; omega
  obtain ⟨w', k1, k2, k3, k4, k5⟩ := run_storeCells (P := P) es.flatten w b (off + lo * k) 0 cs E hbk (by omega) hones
  refine ⟨w', by rw [add_flat]; exact k1, ?_⟩
  have m3 := m1.block k2 k3 k4 k5
  have hlen : (ds.take lo ++ es ++ ds.drop (lo + es.length)).length = max ds.length (lo + es.length) := by
    simp; omega
  have hall : ∀ d ∈ ds.take lo ++ es ++ ds.drop (lo + es.length), d.length = k := by
    intro d hd
    simp only [List.mem_append] at hd
    rcases hd with (hd | hd) | hd
    · exact h1.1 d (List.mem_of_mem_take hd)
    · exact hes d hd
    · exact h1.1 d (List.mem_of_mem_drop hd)
  refine m3.swp s0 fun h hs => Sv.mk' (off := off) (cs := putAt cs (off + lo * k) es.flatten) (b := b) ⟨hall, by rw [hlen]; have := h1.2; omega⟩ (by rw [hlen]; rfl) ha (by rw [hlen]; simp only [upH_c]; omega) (by rw [putAt_length]; exact h3) ?_ (by simpa using hs)
  rw [putAt_eq _ _ _ hfit, hlen]
  have e1 : (cs.take (off + lo * k)).drop off = (ds.take lo).flatten := by
    rw [List.drop_take, flat_take h1.1 hlo, ← h4, List.take_take, Nat.min_eq_left (Nat.mul_le_mul_right k hlo)]
    congr 1; omega
  have e0 : off ≤ (cs.take (off + lo * k)).length := by simp; omega
  rw [List.append_assoc, List.drop_append_of_le_length e0, e1, List.flatten_append, List.flatten_append, ← List.append_assoc]
  have l1 : ((ds.take lo).flatten ++ es.flatten).length = (lo + es.length) * k := by
    rw [List.length_append, flat_len (fun d hd => h1.1 d (List.mem_of_mem_take hd)), hesl, Nat.add_mul, List.length_take, Nat.min_eq_left hlo]
  have hN : (lo + es.length) * k ≤ max ds.length (lo + es.length) * k := Nat.mul_le_mul_right k (by omega)
  rw [List.take_append, l1, List.take_of_length_le (by rw [l1]; exact hN)]
  congr 1
  rw [hesl, ← Nat.sub_mul]
  by_cases hc : lo + es.length ≤ ds.length
  · rw [flat_drop h1.1 hc, ← h4, List.drop_take, List.drop_drop, Nat.max_eq_left hc, Nat.sub_mul]
    congr 2
    rw [Nat.add_mul]; omega
  · rw [Nat.max_eq_right (by omega), List.drop_eq_nil_of_le (as := ds) (i := lo + es.length) (by omega), Nat.sub_self]
    simp
end
/-! ### 21. Copies, clears, appends that fit -/
theorem run_firstCellsN {P : Program} {w : World} {k n : Nat} {v : Value} {es : List (List Value)} (r : ∃ a lu c, v = .slice a lu c ∧ RdS (hh w) k (.slice a es.length c) es) (hn : n = es.length) : (Builtin.firstCells k n v).run P w = .ok ⟨es.flatten⟩ w := by
  obtain ⟨a, lu, c, rfl, r⟩ := r
  subst hn
  have := run_firstCells (P := P) r
  cases a <;> simpa [Builtin.firstCells] using this
section
variable {P : Program} {ops : Array Oper} {Q : Exit → Act → World → Prop} {rest : List Oper} {n : Nat} {L : List (Nat × Value)} {a : Act} {w w0 : World} {R : Hh} {Ps Qs : List HP}
  {d : Nat} {ty : TypeId} {pos : String} {aft : Array Edge} {k : Nat} {E : TypeId} {x : SH} {ds es : List (List Value)}
theorem Hp.copyInto (m : Hp w0 R (Sv k E x.v ds :: Ps) w) {T T2 : TypeId} {ag : Bool} {v u : Value} {lo dl : Nat} (hT : slI P T = some E) (hE : tyI P E = some (ag, k)) (hv : v = .slice (x.a.map (·.add (lo * k))) dl (x.c - lo))
    (hu : ∃ a lu c, u = .slice a lu c ∧ es.length = min lu dl ∧ RdS (hh w) k (.slice a es.length c) es) (ho : ∀ e ∈ es, ones e = true) (hlo : lo ≤ ds.length) (hhi : lo + es.length ≤ x.c) (hb : lo + es.length ≤ 140737488355328) :
    ∃ w', (Builtin.copy_ #[T, T2] ty #[v, u]).run P w = .ok (.int .i64 es.length) w' ∧ Hp w0 R (Sv k E (upH x (max ds.length (lo + es.length))).v (ds.take lo ++ es ++ ds.drop (lo + es.length)) :: Ps) w' := by
  obtain ⟨ua, lu, uc, rfl, hl, hr⟩ := hu
  subst hv
  have hfc := run_firstCellsN (P := P) (w := w) (k := k) (n := min lu dl) (v := .slice ua lu uc) ⟨ua, lu, uc, rfl, hr⟩ hl.symm
  have hlen : (Builtin.lenOf (.slice ua lu uc)).run P w = .ok lu w := by simp [Builtin.lenOf, pure, Sem.run]
  cases hxa : x.a with
  | none =>
    obtain ⟨g, hg, gl, m1⟩ := m.exact
    obtain ⟨h1, hn, ⟨rfl, rfl, rfl⟩ | ⟨b, off, cs, ha', h2, h3, h4, rfl⟩⟩ := hg.un
    · simp only [List.length_nil, Nat.le_zero] at hlo
      subst hlo
      have he : es = [] := List.eq_nil_of_length_eq_zero (by have : nilH.c = 0 := rfl; omega)
      subst he
      have hz : min lu dl = 0 := by simpa using hl.symm
      have hz' : Nat.min lu dl = 0 := hz
      refine ⟨w, ?_, by simpa [upH, nilH] using m⟩
      rw [hz] at hfc
      simp [Builtin.copy_, bind, Sem.run_bind', run_underlying (slI_spec hT), Result.andThen, pure, Sem.run, hlen, run_sizeOf' hE, hfc, hz', goInt]
    · rw [hxa] at ha'; cases ha'
  | some ad =>
    obtain ⟨w', k1, k2⟩ := m.putOwn (P := P) hxa (fun e he => hr.1 e he) ho hlo hhi hb
    refine ⟨w', ?_, k2⟩
    have hl' : Nat.min lu dl = es.length := hl.symm
    rw [← hl] at hfc
    simp [Builtin.copy_, bind, Sem.run_bind', run_underlying (slI_spec hT), Result.andThen, pure, Sem.run, hlen, run_sizeOf' hE, hl', hfc, goInt, k1]
theorem r_copy {T T2 : TypeId} {ag : Bool} {o1 o2 : Operand} {v u : Value} {lo dl : Nat} (hs : St n L a) (m : Hp w0 R Ps w) (hx : ev L o1 = some v) (hy : ev L o2 = some u) (hT : slI P T = some E) (hE : tyI P E = some (ag, k)) (hP : Rem Ps (Sv k E x.v ds) Qs)
    (hv : v = .slice (x.a.map (·.add (lo * k))) dl (x.c - lo)) (hu : ∃ a lu c, u = .slice a lu c ∧ es.length = min lu dl ∧ RdS (hh w) k (.slice a es.length c) es) (ho : ∀ e ∈ es, ones e = true) (hlo : lo ≤ ds.length) (hhi : lo + es.length ≤ x.c) (hb : lo + es.length ≤ 140737488355328) (hd : Nat.blt d n = true)
    (kk : ∀ w', Hp w0 R (Sv k E (upH x (max ds.length (lo + es.length))).v (ds.take lo ++ es ++ ds.drop (lo + es.length)) :: Qs) w' → ∀ a', St n ((d, .int .i64 es.length) :: L) a' → wpList P ops Q rest a' w') :
    wpList P ops Q (⟨some d, .call ⟨.builtin .copy, #[o1, o2], #[T, T2]⟩, ty, pos, aft, none⟩ :: rest) a w := by
  obtain ⟨w', h1, h2⟩ := (m.front hP).copyInto (P := P) (T := T) (T2 := T2) (ty := ty) hT hE hv hu ho hlo hhi hb
  refine step_val rfl rfl hs hd (v := .int .i64 es.length) (w' := w') ?_ (kk w' h2)
  simp [execOp, resolve, invoke, builtin, hs.evs o1 _ hx, hs.evs o2 _ hy, bind, Sem.run_bind', h1, pure, Sem.run, Result.andThen]
theorem zeroCells_len {z : Array Value} {k n : Nat} (h : z.size = k) : (Builtin.zeroCells z n).toList.length = n * k := by
  simp [Builtin.zeroCells, h]
end
end Go.Proofs.YtnbpodjbemfpbaaGreat.Fw
