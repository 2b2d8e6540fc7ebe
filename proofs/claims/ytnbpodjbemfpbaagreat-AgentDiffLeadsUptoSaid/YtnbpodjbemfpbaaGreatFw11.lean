/-
  The walker's own words, eleventh part: windows, capacities, entries of the model's for Go's library, appended zeros. By the session; nothing here is trusted.
-/
import Derived.Test.YtnbpodjbemfpbaaGreatFw10
import Derived.Lib.Overlaps
import Derived.Laws.Externs
import Derived.KernelRfl
set_option linter.unusedVariables false
set_option linter.all false
namespace Go.Proofs.YtnbpodjbemfpbaaGreat.Fw
open Go
/-! ### 22. Windows -/
def subH3 (k : Nat) (x : SH) (lo hi mx : Nat) : SH := ⟨if mx = lo then x.a else x.a.map (·.add (lo * k)), hi - lo, mx - lo⟩
theorem subH_eq3 (k : Nat) (x : SH) (lo hi : Nat) : subH k x lo hi = subH3 k x lo hi x.c := rfl
theorem add_zero' (a : Addr) : a.add 0 = a := rfl
theorem subH_0 (k : Nat) (x : SH) (hi : Nat) : subH k x 0 hi = upH x hi := by
  obtain ⟨a, n, c⟩ := x
  cases a <;> simp [subH, upH, add_zero']
theorem subH_lt {k : Nat} {x : SH} {lo hi : Nat} (h : lo < x.c) : (subH k x lo hi).v = .slice (x.a.map (·.add (lo * k))) (hi - lo) (x.c - lo) := by
  simp [subH, SH.v, show ¬ x.c = lo by omega]
theorem slice_bound {P : Program} (K : IntKind) (r y : Nat) (code : BoundsCode) (u : World) (h : r ≤ y) : (Instr.sliceBound (.int K (r : Int)) y code).run P u = .ok r u := by
  have : ((0 : Int) ≤ (r : Int) ∧ (r : Int) ≤ (y : Int)) := by omega
  simp [Instr.sliceBound, asIntOf, bind, Sem.run_bind', pure, Sem.run, Result.andThen, h]
section
variable {P : Program} {C : World → Prop} {L : List (Nat × Value)} {d : Option Tmp} {ty : TypeId} {pos : String} {aft : Array Edge} {g : Option (Nat × Bool)}
theorem ok_sliceH {T E : TypeId} {ag : Bool} {k : Nat} {o : Operand} {lo hi mx : Option Operand} {x : SH} {i j c : Nat} (hx : ev L o = some x.v) (hT : slI P T = some E) (hE : tyI P E = some (ag, k))
    (hlo : bnd L lo 0 i) (hhi : bnd L hi x.n j) (hmx : bnd L mx x.c c) (hm : hi = none → mx = none) (h1 : i ≤ j) (h2 : j ≤ c) (h3 : c ≤ x.c) : Ok P C L ⟨d, .slice T o lo hi mx, ty, pos, aft, g⟩ (subH3 k x i j c).v := fun ρ ha w' hw' => by
  have hT' := slI_spec hT
  have hfin : ∀ u : World, (Instr.sliceBounds true x.n x.c (lo.map ρ) (hi.map ρ) (mx.map ρ)).run P u = .ok (i, j, c) u := by
    intro u
    cases mx with
    | none =>
      simp only [bnd] at hmx
      subst hmx
      cases hi with
      | none =>
        simp only [bnd] at hhi
        subst hhi
        cases lo with
        | none =>
          simp only [bnd] at hlo
          subst hlo
          simp [Instr.sliceBounds, bind, Sem.run_bind', pure, Sem.run, Result.andThen]
        | some o1 =>
          obtain ⟨K, hK⟩ := hlo
          simp [Instr.sliceBounds, bind, Sem.run_bind', pure, Sem.run, Result.andThen, ha o1 _ hK, slice_bound K i x.n _ u h1]
      | some o2 =>
        obtain ⟨K', hK'⟩ := hhi
        cases lo with
        | none =>
          simp only [bnd] at hlo
          subst hlo
          simp [Instr.sliceBounds, bind, Sem.run_bind', pure, Sem.run, Result.andThen, ha o2 _ hK', slice_bound K' j x.c _ u h2]
        | some o1 =>
          obtain ⟨K, hK⟩ := hlo
          simp [Instr.sliceBounds, bind, Sem.run_bind', pure, Sem.run, Result.andThen, ha o1 _ hK, slice_bound K i j _ u h1, ha o2 _ hK', slice_bound K' j x.c _ u h2]
    | some o3 =>
      obtain ⟨K3, hK3⟩ := hmx
      cases hi with
      | none => cases hm rfl
      | some o2 =>
        obtain ⟨K', hK'⟩ := hhi
        cases lo with
        | none =>
          simp only [bnd] at hlo
          subst hlo
          simp [Instr.sliceBounds, bind, Sem.run_bind', pure, Sem.run, Result.andThen, ha o2 _ hK', slice_bound K' j c _ u h2, ha o3 _ hK3, slice_bound K3 c x.c _ u h3]
        | some o1 =>
          obtain ⟨K, hK⟩ := hlo
          simp [Instr.sliceBounds, bind, Sem.run_bind', pure, Sem.run, Result.andThen, ha o1 _ hK, slice_bound K i j _ u h1, ha o2 _ hK', slice_bound K' j c _ u h2, ha o3 _ hK3, slice_bound K3 c x.c _ u h3]
  have hsl : (Instr.sliceAt T x.v (lo.map ρ) (hi.map ρ) (mx.map ρ)).run P w' = .ok (subH3 k x i j c).v w' := by
    simp only [SH.v, Instr.sliceAt, Instr.slice, bind, Sem.run_bind', run_underlying hT', Result.andThen, hfin, run_sizeOf' hE, pure, Sem.run, subH3]
  simp only [execOp, ha o _ hx, bind, Sem.run_bind', Result.andThen, pure, Sem.run, hsl]
theorem ok_sliceArr {T E : TypeId} {ag : Bool} {k n off : Nat} {o : Operand} {p : Addr} (hx : ev L o = some (.pointer (some (padd p off)))) (hT : arI P T = some (n, E)) (hE : tyI P E = some (ag, k)) :
    Ok P C L ⟨d, .slice T o none none none, ty, pos, aft, g⟩ (SH.v ⟨some (padd p off), n, n⟩) := fun ρ ha w' hw' => by
  have hT' := arI_spec hT
  have : (padd p off).add 0 = padd p off := rfl
  simp [execOp, ha o _ hx, Instr.sliceAt, Instr.sureAddr, Instr.sliceBounds, bind, Sem.run_bind', run_underlying hT', Result.andThen, run_sizeOf' hE, pure, Sem.run, SH.v, this]
theorem ok_cap {T E : TypeId} {o : Operand} {x : SH} (hx : ev L o = some x.v) (hT : slI P T = some E) : Ok P C L ⟨d, .call ⟨.builtin .cap, #[o], #[T]⟩, ty, pos, aft, g⟩ (.int .i64 (x.c : Int)) := fun ρ ha w' hw' => by
  simp [execOp, resolve, invoke, builtin, Builtin.cap_, ha o _ hx, bind, Sem.run_bind', run_underlying (slI_spec hT), pure, Sem.run, Result.andThen, goInt, SH.v]
theorem ok_lenH {T E : TypeId} {o : Operand} {x : SH} (hx : ev L o = some x.v) (hT : slI P T = some E) : Ok P C L ⟨d, .call ⟨.builtin .len, #[o], #[T]⟩, ty, pos, aft, g⟩ (.int .i64 (x.n : Int)) := fun ρ ha w' hw' => by
  simp [execOp, resolve, invoke, builtin, Builtin.len_, ha o _ hx, bind, Sem.run_bind', run_underlying (slI_spec hT), pure, Sem.run, Result.andThen, goInt, SH.v]
end
theorem rd_box {h : Hh} {p : Addr} {off n : Nat} {cs : List Value} (hc : CellsAt h p cs) (hl : off + n ≤ cs.length) (hb : n ≤ 140737488355328) : RdS h 1 (SH.v ⟨some (padd p off), n, n⟩) (((cs.drop off).take n).map fun v => [v]) := by
  obtain ⟨arr, T, fz, h1, h2⟩ := hc
  have hlen : ((cs.drop off).take n).length = n := by simp; omega
  refine ⟨fun d hd => by obtain ⟨v, _, rfl⟩ := List.mem_map.1 hd; rfl, by rw [List.length_map, hlen]; exact hb, some (padd p off), n, by rw [List.length_map, hlen]; rfl, by rw [List.length_map, hlen]; exact Nat.le_refl _, fun _ => ⟨p.block, p.off + off, arr, T, fz, rfl, h1, ?_⟩⟩
  have hf : ∀ l : List Value, (l.map fun v => [v]).flatten = l := by
    intro l
    induction l with
    | nil => rfl
    | cons a l ih => simp [ih]
  rw [hf, List.length_map, hlen, Nat.mul_one, ← h2, List.drop_take, List.drop_drop, List.take_take]
  rw [Nat.min_eq_left (by omega)]
theorem Hp.ncap {w0 w : World} {R : Hh} {Ps Qs : List HP} {k : Nat} {E : TypeId} {x : SH} {ds : List (List Value)} (m : Hp w0 R Ps w) (h : Rem Ps (Sv k E x.v ds) Qs) : x.n = ds.length ∧ x.n ≤ x.c := by
  obtain ⟨g, hg, gl⟩ := m.look h
  obtain ⟨_, hn, ⟨rfl, _, _⟩ | ⟨_, _, _, _, h2, _⟩⟩ := hg.un
  · exact ⟨hn, Nat.le_refl _⟩
  · exact ⟨hn, by omega⟩
theorem RdS.ncap {h : Hh} {k : Nat} {x : SH} {ds : List (List Value)} (r : RdS h k x.v ds) : x.n = ds.length ∧ x.n ≤ x.c := by
  obtain ⟨_, _, a, c, e, h2, _⟩ := r
  simp only [SH.v, Value.slice.injEq] at e
  exact ⟨e.2.1, by rw [e.2.1, e.2.2]; exact h2⟩
/-! ### 23. Entries of the model's for Go's library -/
def entry (P : Program) (f : FuncId) (e : Array Value → Sem Value) : Prop := ∃ fn, P.funcs[f]? = some fn ∧ (fn.name == "runtime.NumGoroutine") = false ∧ fn.body.isNone = true ∧ Extern.findNext fn = none ∧ Extern.find fn = some e
theorem entry_run {P : Program} {f : FuncId} {e : Array Value → Sem Value} (h : entry P f e) (args : Array Value) (w : World) : (callFunc f args).run P w = ((e args).run P w).andThen fun v w' => .ok (.value v) w' :=
  let ⟨_, h1, h2, h3, h4, h5⟩ := h
  run_callFunc_extern h1 h2 h3 h4 h5 args w
section
variable {P : Program} {C : World → Prop} {L : List (Nat × Value)} {d : Option Tmp} {ty : TypeId} {pos : String} {aft : Array Edge} {g : Option (Nat × Bool)}
theorem ok_entry {f : FuncId} {e : Array Value → Sem Value} {xs : List Operand} {vs : List Value} {tys : Array TypeId} {v : Value} (hf : entry P f e) (hx : evs L xs = some vs) (h : ∀ w, C w → (e ⟨vs⟩).run P w = .ok v w) :
    Ok P C L ⟨d, .call ⟨.value (.func f), ⟨xs⟩, tys⟩, ty, pos, aft, g⟩ v := fun ρ ha w hw => by
  have hm : ∀ (os : List Operand) (us : List Value), evs L os = some us → os.map ρ = us := by
    intro os
    induction os with
    | nil => intro us h; simpa [evs] using h
    | cons o os ih =>
      intro us h
      simp only [evs] at h
      cases h1 : ev L o with
      | none => simp [h1] at h
      | some v =>
        cases h2 : evs L os with
        | none => simp [h1, h2] at h
        | some us' =>
          simp only [h1, h2, Option.some.injEq] at h
          subst h
          simp [ha o v h1, ih us' h2]
  have hm' := hm xs vs hx
  have hfv := ha (.func f) _ rfl
  have hr := entry_run hf ⟨vs⟩ w
  rw [h w hw] at hr
  simp [execOp, resolve, Deferred.ofValue, hfv, invoke, bind, Sem.run_bind', pure, Sem.run, Result.andThen, hm'] at hr ⊢
  simp [hr]
end
theorem overlaps_no {P : Program} {w0 w : World} {R : Hh} {Ps Qs Rs : List HP} {T U E E' : TypeId} {ag : Bool} {k k' i j : Nat} {x y : SH} {xs ys : List (List Value)} (hT : slI P T = some E) (hE : tyI P E = some (ag, k)) (m : Hp w0 R Ps w) (h1 : Rem Ps (Sv k' E' y.v ys) Qs) (h2 : Rem Qs (Sv k E x.v xs) Rs) (hij : j ≤ x.c) :
    (Extern.SlicesOverlaps.overlaps #[T, T] #[U] #[y.v, (subH k x i j).v]).run P w = .ok (.bool false) w := by
  have hT' := slI_spec hT
  have hz : ∀ w, (Go.sizeOf E).run P w = .ok k w := fun w => run_sizeOf' hE w
  obtain ⟨h, s, dd, e⟩ := ((m.perm h1.perm).perm (h2.perm.cons _)).heap
  obtain ⟨g1, g2, _, ⟨g3, g4, sy, ⟨g5, g6, sx, _, d3, rfl⟩, d2, rfl⟩, d1, rfl⟩ := s
  have hw : ∀ b o, (g3 b = some o ∨ g5 b = some o) → w.heap[b]? = some o := by
    intro b o ho
    have : hh w b = some o := by
      rw [e]
      rcases ho with ho | ho
      · exact hu_left (hu_right d1 (hu_left ho))
      · exact hu_left (hu_right d1 (hu_right d2 (hu_left ho)))
    exact this
  have triv : ∀ (a b : Option Addr) (la ca lb cb : Nat), (a = none ∨ b = none ∨ lb = 0 ∨ k = 0) → (Extern.SlicesOverlaps.overlaps #[T, T] #[U] #[.slice a la ca, .slice b lb cb]).run P w = .ok (.bool false) w := by
    intro a b la ca lb cb hab
    have key : (Extern.SlicesOverlaps.overlaps #[T, T] #[U] #[.slice a la ca, .slice b lb cb]).run P w = (do
      let some t := (#[T, T] : Array TypeId)[0]? | stuck "slices.overlaps: no parameter types"
      let .slice elem ← underlying t | stuck "slices.overlaps: slice type expected"
      let size ← sizeOf elem
      match a, b with
      | some a, some b =>
        if la = 0 ∨ lb = 0 ∨ size = 0 then pure (Value.bool false)
        else if a.block != b.block && (← frozen a) && (← frozen b) then unsupported .addressObserved
        else do
          if a.block != b.block then do
            Go.noView a; Go.noView b
            if ← mayBeOne a b then return Value.bool ((← choose (.extern "sameAddr.stringBytes" 2)) == 1)
          pure (Value.bool (a.block == b.block && a.off < b.off + lb * size && b.off < a.off + la * size))
      | _, _ => pure (Value.bool false) : Sem Value).run P w := rfl
    rw [key]
    cases a with
    | none => simp [bind, Sem.run_bind', run_underlying hT', hz, Result.andThen, pure, Sem.run]
    | some a =>
      cases b with
      | none => simp [bind, Sem.run_bind', run_underlying hT', hz, Result.andThen, pure, Sem.run]
      | some b =>
        have : lb = 0 ∨ k = 0 := by simpa using hab
        simp [bind, Sem.run_bind', run_underlying hT', hz, Result.andThen, pure, Sem.run, this]
  have hy : y.v = .slice y.a y.n y.c := rfl
  have hx : (subH k x i j).v = .slice (subH k x i j).a (subH k x i j).n (subH k x i j).c := rfl
  rw [hy, hx]
  obtain ⟨_, _, ⟨rfl, _, _⟩ | ⟨b1, off1, cs1, ha1, hc1, _, _, rfl⟩⟩ := sy.un
  · exact triv _ _ _ _ _ _ (.inl rfl)
  obtain ⟨hkx, _, ⟨rfl, _, _⟩ | ⟨b2, off2, cs2, ha2, hc2, hf2, _, rfl⟩⟩ := sx.un
  · exact triv _ _ _ _ _ _ (.inr (.inl (by show (if 0 = i then none else none) = none; by_cases h0 : 0 = i <;> simp [h0])))
  by_cases hk0 : k = 0
  · exact triv _ _ _ _ _ _ (.inr (.inr (.inr hk0)))
  by_cases hc0 : x.c = 0
  · exact triv _ _ _ _ _ _ (.inr (.inr (.inl (by simp only [subH]; omega))))
  have hb1 := hw b1 (.cells ⟨cs1⟩ E' (0, 0)) (.inl (by simp [hone]))
  have hb2 := hw b2 (.cells ⟨cs2⟩ E (0, 0)) (.inr (by simp [hone]))
  have hne : b1 ≠ b2 := by
    intro hE
    subst hE
    have := (hd_hu_right.1 d2).1 b1
    simp [hone] at this
  obtain ⟨a2, ha2', hblk⟩ : ∃ a2, (subH k x i j).a = some a2 ∧ a2.block = b2 := by
    simp only [subH, ha2]
    split
    · exact ⟨_, rfl, rfl⟩
    · exact ⟨_, rfl, by show (Addr.add ⟨b2, off2, none⟩ (i * k)).block = b2; rw [add_flat]⟩
  rw [ha1, ha2']
  have hsz : cs2.length ≠ 0 := by
    have : 0 < x.c * k := Nat.mul_pos (by omega) (by omega)
    omega
  refine Lib.run_overlaps_apart w T U E hT' k hz ⟨b1, off1, none⟩ a2 y.n y.c (subH k x i j).n (subH k x i j).c (by rw [hblk]; exact hne) E' E cs1.length cs2.length ?_ ?_ hsz ?_ ?_
  · simp [World.shape?, hb1]
  · simp [World.shape?, hblk, hb2]
  · simp [World.frozen?, hb1]
  · simp [World.frozen?, hb1]
end Go.Proofs.YtnbpodjbemfpbaaGreat.Fw
