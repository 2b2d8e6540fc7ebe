/-
  The walker's own words, twelfth part: append(s, make([]T, n)...); stores into elements; strings of the walk; more. By the session; nothing here is trusted.
-/
import Derived.Test.YtnbpodjbemfpbaaGreatFw11
set_option linter.unusedVariables false
set_option linter.all false
namespace Go.Proofs.YtnbpodjbemfpbaaGreat.Fw
open Go
theorem info_of {P : Program} {E : TypeId} {zs : List Value} {bytes : Nat} (hz : zeI P E = some zs) (hb : byI P E = some bytes) : ∃ i, P.info? E = some i ∧ ∃ z, i.zero = some z ∧ z.cells = ⟨zs⟩ ∧ i.bytes = bytes := by
  unfold byI at hb
  unfold zeI at hz
  cases hi : P.info? E with
  | none => simp [hi] at hb
  | some i =>
    cases hz1 : i.zero with
    | none => simp [hi, hz1] at hz
    | some z =>
      simp only [hi, hz1, Option.bind_some, Option.map_some, Option.some.injEq] at hz
      exact ⟨i, rfl, z, hz1, by rw [← hz], by simpa [hi] using hb⟩
theorem run_append_zeros {P : Program} {w : World} {T T2 E ty : TypeId} {K : IntKind} {k n m cap : Nat} {base : Option Addr} {z : Value} {ag : Bool} {i : TypeInfo} {ds : Array Value}
    (hT : P.underlying T = some (.slice E)) (hT2 : P.underlying T2 = some (.int K)) (hE : tyI P E = some (ag, k)) (hi : P.info? E = some i) (hz : i.zero = some z)
    (hfv : (Builtin.firstCells k n (.slice base n cap)).run P w.drew = .ok ds w.drew)
    (hc : ¬ n + m ≤ cap) (hm : 0 < m) (hk : 0 < k) (hlen : n + m ≤ 140737488355328 ∧ (2 * (n + m) + 192) * i.bytes ≤ 281474976710656) : ∃ c, n + m ≤ c ∧ (Builtin.append_ #[T, T2] ty #[.slice base n cap, .int .i64 (m : Int)]).run P w =
      .ok (.slice (some ⟨w.heap.size, 0, none⟩) (n + m) c) (w.drew.alloc (.cells (ds ++ Builtin.zeroCells z.cells m ++ Builtin.zeroCells z.cells (c - (n + m))) E)) := by
  have hnext := next_le (need := n + m) (cap := cap) (by omega)
  have h1 : ¬ 281474976710656 < Builtin.nextslicecap (n + m) cap * i.bytes := by
    have : Builtin.nextslicecap (n + m) cap * i.bytes ≤ (2 * (n + m) + 192) * i.bytes := Nat.mul_le_mul hnext (Nat.le_refl _)
    omega
  have h2 : ¬ ((9223372036854775807 : Int) < (n : Int) + (m : Int)) := by omega
  have hno : ∀ c w', (askRoom c).run P w' = .ok () w' := fun c w' => run_askRoom c
  refine ⟨(Question.appendCap (n + m) cap E).cut (w.tape w.drawn (Question.appendCap (n + m) cap E)), by simp [Question.cut], ?_⟩
  have hty : ∀ w, (typeInfo E).run P w = .ok i w := fun w => by simp [typeInfo, program, bind, Sem.bind, Sem.run, hi, pure]
  have hze : ∀ w, (zeroValue E).run P w = .ok z w := fun w => by simp [zeroValue, typeInfo, program, bind, Sem.bind, Sem.run, hi, hz, pure]
  have hrow : ∀ w' (cs : Array Value), (newRow E cs).run P w' = .ok ⟨w'.heap.size, 0, none⟩ (w'.alloc (.cells cs E)) := fun w' cs => rfl
  have hwr : IntKind.i64.wrap (m : Int) = (m : Int) := wrap_i64 (by omega) (by omega)
  have h3 : ¬ ((m : Int) * (i.bytes : Int) > 281474976710656) := by
    have h0 : m * i.bytes ≤ (2 * (n + m) + 192) * i.bytes := Nat.mul_le_mul (by omega) (Nat.le_refl _)
    have h0' : (m : Int) * (i.bytes : Int) = ((m * i.bytes : Nat) : Int) := by simp
    omega
  have h4 : ¬ (m * k = 0) := by
    have := Nat.mul_pos hm hk
    omega
  have h5 : ¬ (m = 0 ∨ k = 0) := by omega
  have h6 : ¬ ((m : Int) < 0) := by omega
  simp only [gt_iff_lt, Int.not_lt] at h3
  simp [Builtin.append_, bind, Sem.run_bind', run_underlying hT, run_underlying hT2, Result.andThen, run_sizeOf' hE, pure, Sem.run, hc, hty, h1, h2, hno, hfv, hze, hrow, Question.forced, asInt, asIntOf, hwr, h3, h4, h5, h6, Array.append_assoc]
  exact fun h => absurd h (Int.not_lt.2 h3)
theorem zeroCells_flat {zs : List Value} {n : Nat} : (Builtin.zeroCells ⟨zs⟩ n).toList = (List.replicate n zs).flatten := by
  induction n with
  | zero => simp [Builtin.zeroCells]
  | succ n ih =>
    rw [List.replicate_succ', List.flatten_append, ← ih]
    simp only [Builtin.zeroCells, List.flatten_cons, List.flatten_nil, List.append_nil, Array.toList_map, Array.toList_range, List.size_toArray, Nat.add_mul, Nat.one_mul, List.range_add, List.map_append, List.map_map]
    congr 1
    apply List.ext_getElem
    · simp
    · intro i h1 h2
      have hlt : i < zs.length := by simpa using h1
      simp [getElem!_def, Nat.add_mod, Nat.mod_eq_of_lt hlt, hlt]
section
variable {P : Program} {ops : Array Oper} {Q : Exit → Act → World → Prop} {rest : List Oper} {n : Nat} {L : List (Nat × Value)} {a : Act} {w w0 : World} {R : Hh} {Ps Qs : List HP}
  {d : Nat} {ty : TypeId} {pos : String} {aft : Array Edge} {k : Nat} {E : TypeId} {x : SH} {ds es : List (List Value)}
theorem r_appendZ {T T2 : TypeId} {K : IntKind} {ag : Bool} {bytes i c : Nat} {o1 o2 : Operand} {zs : List Value} (hs : St n L a) (m : Hp w0 R Ps w) (hx : ev L o1 = some (upH x i).v) (hy : ev L o2 = some (.int .i64 (c : Int))) (hT : slI P T = some E) (hT2 : inI P T2 = some K) (hE : tyI P E = some (ag, k))
    (hz : zeI P E = some zs) (hzl : zs.length = k) (hb : byI P E = some bytes) (hbb : Nat.ble bytes 4096 = true) (hk : Nat.ble 1 k = true) (hP : Rem Ps (Sv k E x.v ds) Qs)
    (hi : i ≤ ds.length) (hc : 0 < c) (hcap : x.c < i + c) (hlen : i + c ≤ 140737488355328 ∧ (2 * (i + c) + 192) * bytes ≤ 281474976710656) (hd : Nat.blt d n = true)
    (kk : ∀ (y : SH) w', y.n = i + c → i + c ≤ y.c → Hp w0 R (Sv k E y.v (ds.take i ++ List.replicate c zs) :: Ps) w' → ∀ a', St n ((d, y.v) :: L) a' → wpList P ops Q rest a' w') :
    wpList P ops Q (⟨some d, .call ⟨.builtin .append, #[o1, o2], #[T, T2]⟩, ty, pos, aft, none⟩ :: rest) a w := by
  obtain ⟨ii, hii, z, hz1, hz2, hbi⟩ := info_of hz hb
  have hrd : RdS (hh w.drew) k x.v ds := (m.rdv hP).le (hle_refl _)
  have hrd' : RdS (hh w.drew) k (upH x i).v (ds.take i) := by
    have := hrd.subS (lo := 0) (hi := i) (Nat.zero_le _) hi
    rw [← subH_v, subH_0] at this
    simpa using this
  have hl : (ds.take i).length = i := by simp; omega
  have hfv := run_firstCells (P := P) (w := w.drew) hrd'
  rw [hl] at hfv
  obtain ⟨cc, hc1, hrun⟩ := run_append_zeros (P := P) (w := w) (ty := ty) (m := c) (slI_spec hT) (inI_spec hT2) hE hii hz1 hfv (by rw [upH_c]; omega) hc (Nat.le_of_ble_eq_true hk) (by rw [hbi]; exact hlen)
  have m2 := (m.drew).alloc (.cells ((⟨(ds.take i).flatten⟩ : Array Value) ++ Builtin.zeroCells z.cells c ++ Builtin.zeroCells z.cells (cc - (i + c))) E)
  refine step_val rfl rfl hs hd (v := SH.v ⟨some ⟨w.heap.size, 0, none⟩, i + c, cc⟩) (w' := w.drew.alloc (.cells ((⟨(ds.take i).flatten⟩ : Array Value) ++ Builtin.zeroCells z.cells c ++ Builtin.zeroCells z.cells (cc - (i + c))) E)) ?_ (kk ⟨some ⟨w.heap.size, 0, none⟩, i + c, cc⟩ _ rfl hc1 (m2.swp s0 fun h hs => ?_))
  · have e1 : (upH x i).v = .slice x.a i x.c := rfl
    have e2 : (upH x i).a = x.a ∧ (upH x i).n = i ∧ (upH x i).c = x.c := ⟨rfl, rfl, rfl⟩
    rw [e1] at hx
    rw [e2.1, e2.2.2] at hrun
    simp [execOp, resolve, invoke, builtin, hs.evs o1 _ hx, hs.evs o2 _ hy, bind, Sem.run_bind', pure, Sem.run, Result.andThen, SH.v, hrun]
  · have hk1 := hrd.1
    have hall : ∀ d ∈ ds.take i ++ List.replicate c zs, d.length = k := by
      intro d hd
      rcases List.mem_append.1 hd with hd | hd
      · exact hk1 d (List.mem_of_mem_take hd)
      · rw [(List.mem_replicate.1 hd).2]; exact hzl
    have hN : (ds.take i ++ List.replicate c zs).length = i + c := by simp; omega
    have hfl : (ds.take i ++ List.replicate c zs).flatten.length = (i + c) * k := by rw [flat_len hall, hN]
    refine Sv.mk' (b := w.heap.size) (off := 0) (cs := (ds.take i ++ List.replicate c zs).flatten ++ (Builtin.zeroCells z.cells (cc - (i + c))).toList) ⟨hall, by rw [hN]; omega⟩ (by rw [hN]) rfl (by rw [hN]; exact hc1) ?_ ?_ ?_
    · rw [List.length_append, hfl, zeroCells_len (k := k) (by rw [hz2]; exact hzl), Nat.zero_add, ← Nat.add_mul]
      exact Nat.mul_le_mul_right k (by show cc ≤ _; omega)
    · rw [List.drop_zero, hN, ← hfl, List.take_left]
    · rw [hs]
      have : (⟨(ds.take i).flatten⟩ : Array Value) ++ Builtin.zeroCells z.cells c ++ Builtin.zeroCells z.cells (cc - (i + c)) = ⟨(ds.take i ++ List.replicate c zs).flatten ++ (Builtin.zeroCells z.cells (cc - (i + c))).toList⟩ := by
        apply Array.ext'
        rw [List.flatten_append, hz2, ← zeroCells_flat]
        simp
      rw [this]
      rfl
end
/-! ### 24. Stores into elements of a slice of the walk's own -/
theorem flat_set {k : Nat} : ∀ {ds : List (List Value)} {i : Nat} {d d' : List Value}, (∀ d ∈ ds, d.length = k) → ds[i]? = some d → d'.length = k → (ds.set i d').flatten = ds.flatten.take (i * k) ++ d' ++ ds.flatten.drop ((i + 1) * k)
  | [], i, d, d', _, h, _ => by simp at h
  | e :: ds, 0, d, d', hk, h, hl => by
    have := hk e (by simp)
    simp [← this]
  | e :: ds, i + 1, d, d', hk, h, hl => by
    simp only [List.getElem?_cons_succ] at h
    have he := hk e (by simp)
    have ih := flat_set (k := k) (fun d hd => hk d (by simp [hd])) h hl
    have e1 : (i + 1) * k = e.length + i * k := by rw [he, Nat.add_mul]; omega
    have e2 : (i + 1 + 1) * k = e.length + (i + 1) * k := by rw [he, Nat.add_mul]; omega
    have k1 : (e ++ ds.flatten).take ((i + 1) * k) = e ++ ds.flatten.take (i * k) := by rw [e1, List.take_length_add_append]
    have k2 : (e ++ ds.flatten).drop ((i + 1 + 1) * k) = ds.flatten.drop ((i + 1) * k) := by rw [e2, List.drop_length_add_append]
    rw [List.set_cons_succ, List.flatten_cons, ih, List.flatten_cons, k1, k2]
    simp only [List.append_assoc]
section
variable {P : Program} {ops : Array Oper} {Q : Exit → Act → World → Prop} {rest : List Oper} {n : Nat} {L : List (Nat × Value)} {a : Act} {w w0 : World} {R : Hh} {Ps Qs : List HP}
  {d : Nat} {ty : TypeId} {pos : String} {aft : Array Edge} {k : Nat} {E : TypeId}
theorem Hp.setEl {x : SH} {ds : List (List Value)} (m : Hp w0 R (Sv k E x.v ds :: Ps) w) {i : Nat} {p : Addr} {o sz : Nat} {T : TypeId} {ag : Bool} {e e' vs : List Value} {v : Value} (hp : Elem k x.v i p) (he : ds[i]? = some e) (ht : tyI P T = some (ag, sz)) (hv : v.cells = ⟨vs⟩) (hn : vs.length = sz) (hl : o + sz ≤ k) (ho : ones vs = true) (hc : putAt e o vs = e') :
    ∃ w', (storeVar T (padd p o) v).run P w = .ok () w' ∧ Hp w0 R (Sv k E x.v (ds.set i e') :: Ps) w' := by
  obtain ⟨g, hg, gl, m1⟩ := m.exact
  obtain ⟨h1, hxn, ⟨rfl, rfl, _⟩ | ⟨b, off, cs, ha, h2, h3, h4, rfl⟩⟩ := hg.un
  · simp at he
  obtain ⟨a', n', c', e1, rfl⟩ := hp
  simp only [SH.v, Value.slice.injEq] at e1
  rw [ha] at e1
  simp only [Option.some.injEq] at e1
  obtain ⟨rfl, _, _⟩ := e1
  have hlt : i < ds.length := (List.getElem?_eq_some_iff.1 he).1
  have hel : e.length = k := h1.1 e (List.mem_of_getElem? he)
  have hbk : w.heap[b]? = some (.cells ⟨cs⟩ E (0, 0)) := gl _ _ (by simp [hone])
  have hmul : (i + 1) * k ≤ x.c * k := Nat.mul_le_mul_right k (by omega)
  rw [Nat.add_mul] at hmul
  have hpo : padd (padd ⟨b, off, none⟩ (i * k)) o = ⟨b, off + i * k + o, none⟩ := by simp [padd]
  obtain ⟨w', k1, k2, k3, k4, k5⟩ := run_storeVar (P := P) (w := w) ht (b := b) (off := off + i * k + o) (cs := cs) hbk hv hn (by omega) ho
  refine ⟨w', by rw [hpo]; exact k1, ?_⟩
  have m3 := m1.block k2 k3 k4 k5
  have hel' : e'.length = k := by rw [← hc, putAt_length, hel]
  refine m3.swp s0 fun h hs => Sv.mk' (off := off) (cs := putAt cs (off + i * k + o) vs) (b := b) ⟨fun d hd => ?_, by simpa using h1.2⟩ (by simpa using hxn) ha (by simpa using h2) (by rw [putAt_length]; exact h3) ?_ (by simpa using hs)
  · rcases List.mem_or_eq_of_mem_set hd with hd | hd
    · exact h1.1 d hd
    · rw [hd]; exact hel'
  · have hfc := flat_cells h1.1 he
    have hmul2 : (i + 1) * k ≤ ds.length * k := Nat.mul_le_mul_right k (by omega)
    rw [Nat.add_mul] at hmul2
    rw [flat_set h1.1 he hel', ← h4, ← hc, List.length_set]
    rw [← h4] at hfc
    have D : ∀ D : List Value, ds.length * k ≤ D.length → (putAt D (i * k + o) vs).take (ds.length * k) = (D.take (ds.length * k)).take (i * k) ++ putAt (((D.take (ds.length * k)).drop (i * k)).take k) o vs ++ (D.take (ds.length * k)).drop ((i + 1) * k) := by
      intro D hD
      have eD : D.take (ds.length * k) = (D.take (ds.length * k)).take (i * k) ++ ((D.take (ds.length * k)).drop (i * k)).take k ++ (D.take (ds.length * k)).drop ((i + 1) * k) := by
        rw [Nat.add_mul, Nat.one_mul, ← List.drop_drop, List.append_assoc, List.take_append_drop, List.take_append_drop]
      have l1 : ((D.take (ds.length * k)).take (i * k)).length = i * k := by simp; omega
      have l2 : (((D.take (ds.length * k)).drop (i * k)).take k).length = k := by simp; omega
      rw [putAt_eq _ _ _ (by omega), putAt_eq _ _ _ (by omega)]
      generalize hA : (D.take (ds.length * k)).take (i * k) = A at *
      generalize hB : ((D.take (ds.length * k)).drop (i * k)).take k = B at *
      generalize hC : (D.take (ds.length * k)).drop ((i + 1) * k) = C at *
      have eD2 : D = A ++ B ++ C ++ D.drop (ds.length * k) := by rw [← eD, List.take_append_drop]
      have lC : (A ++ B ++ C).length = ds.length * k := by rw [← eD]; simp; omega
      rw [eD2]
      have t1 : (A ++ B ++ C ++ D.drop (ds.length * k)).take (i * k + o) = A ++ B.take o := by
        rw [List.append_assoc, List.append_assoc, ← l1, List.take_length_add_append, List.take_append_of_le_length (by omega)]
      have t2 : (A ++ B ++ C ++ D.drop (ds.length * k)).drop (i * k + o + vs.length) = B.drop (o + vs.length) ++ C ++ D.drop (ds.length * k) := by
        rw [List.append_assoc, List.append_assoc, ← l1, Nat.add_assoc, List.drop_length_add_append, List.drop_append_of_le_length (by omega), List.append_assoc]
      rw [t1, t2]
      have l3 : (A ++ B.take o ++ vs ++ (B.drop (o + vs.length) ++ C)).length = ds.length * k := by
        rw [← lC]; simp; omega
      rw [← List.append_assoc (A ++ B.take o ++ vs), ← l3, List.take_left]
      simp [List.append_assoc]
    have hd2 : (putAt cs (off + i * k + o) vs).drop off = putAt (cs.drop off) (i * k + o) vs := by
      have l0 : ds.length * k ≤ x.c * k := Nat.mul_le_mul_right k h2
      rw [putAt_eq _ _ _ (by omega), putAt_eq _ _ _ (by simp; omega), List.append_assoc, List.drop_append_of_le_length (by simp; omega), List.drop_take, List.drop_drop, List.append_assoc]
      congr 2
      · omega
      · congr 1; omega
    rw [hd2, D _ (by simp; have := Nat.mul_le_mul_right k h2; omega), hfc]
theorem r_storeEl {α : Type} {c : α → List Value} {x : SH} {xs : List α} {i : Nat} {p : Addr} {o sz : Nat} {T : TypeId} {ag : Bool} {e e' : α} {vs : List Value} {v : Value} {o1 o2 : Operand} (hs : St n L a) (m : Hp w0 R Ps w) (hx : ev L o1 = some (.pointer (some (padd p o)))) (hy : ev L o2 = some v) (hP : Rem Ps (Sv k E x.v (xs.map c)) Qs)
    (hp : Elem k x.v i p) (he : xs[i]? = some e) (ht : tyI P T = some (ag, sz)) (hv : v.cells = ⟨vs⟩) (hn : vs.length = sz) (hl : Nat.ble (o + sz) k = true) (ho : ones vs = true) (hc : putAt (c e) o vs = c e')
    (kk : ∀ w', Hp w0 R (Sv k E x.v ((xs.set i e').map c) :: Qs) w' → wpList P ops Q rest a w') : wpList P ops Q (⟨none, .store T o1 o2, ty, pos, aft, none⟩ :: rest) a w := by
  obtain ⟨w', h1, h2⟩ := (m.front hP).setEl (P := P) (T := T) hp (get_map c he) ht hv hn (Nat.le_of_ble_eq_true hl) ho hc
  refine step_skip rfl rfl hs (w' := w') ?_ (kk w' (by rw [List.map_set]; exact h2))
  simp [execOp, hs.evs o1 _ hx, hs.evs o2 _ hy, Instr.storeAt, Instr.sureAddr, bind, Sem.run_bind', pure, Sem.run, Result.andThen, h1]
end
end Go.Proofs.YtnbpodjbemfpbaaGreat.Fw
