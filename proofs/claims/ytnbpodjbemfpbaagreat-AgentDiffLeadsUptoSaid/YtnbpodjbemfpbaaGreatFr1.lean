/-
  Rows: from the reading of an argument to the model's value; from a walk's end to the row's. By the session; nothing here is trusted.
-/
import Derived.Test.YtnbpodjbemfpbaaGreatFw15
import Derived.ProofKit
import Derived.OpenShut
import Derived.JoinedCond
import Derived.Carry
import Derived.Deep.Slices
set_option linter.all false
namespace Go.Proofs.YtnbpodjbemfpbaaGreat.Fw
open Go Go.ChangeShapes Go.WideShapes Go.ChangeAt Go.RowKit
section
variable {H : Type} {enc : TypeId × Value → H} {P : Program} {w : World} {base : Nat} {spare : Nat → Bool} {held : Bool} {fuel : Nat} {t : TypeId} {cs : List Value} {x : DataW H × List MemPlace}
theorem cellsOf_ty {ag : Bool} {n : Nat} (h : tyI P t = some (ag, n)) : P.cellsOf t = n := by
  obtain ⟨d, i, h1, h2, h3, h4⟩ := tyI_spec h
  simp [Program.cellsOf, h2, h4]
theorem trod_fx {k : IntKind} (ht : inI P t = some k) (h : DataW.trod enc P w base spare held fuel t cs = some x) : ∃ y : Fx k, cs = [.int k y.v] := by
  obtain ⟨n, rfl, _, hw⟩ := DataW.trod_int (inI_spec ht) h
  refine ⟨⟨n, ?_⟩, rfl⟩
  simp only [Lit.wf, Bool.and_eq_true, decide_eq_true_eq] at hw
  cases k <;> simp [IntKind.wrap, IntKind.min, IntKind.max, IntKind.signed, IntKind.bits] at hw ⊢ <;> (try split) <;> omega
theorem trod_bo (ht : P.underlying t = some .bool) (h : DataW.trod enc P w base spare held fuel t cs = some x) : ∃ y : Bool, cs = [.bool y] :=
  let ⟨b, h1, _⟩ := DataW.trod_bool ht h
  ⟨b, h1⟩
theorem trod_len {fs : List (Nat × Nat)} {ag : Bool} {n : Nat} (hs : stI P t = some fs) (ht : tyI P t = some (ag, n)) (h : DataW.trod enc P w base spare held fuel t cs = some x) : cs.length = n := by
  obtain ⟨fds, h1, _⟩ := stI_spec hs
  obtain ⟨_, _, _, _, hl, _⟩ := DataW.trod_struct h1 h
  rw [hl, cellsOf_ty ht]
theorem trod_lenA {m n : Nat} {E : TypeId} {ag : Bool} (hs : arI P t = some (m, E)) (ht : tyI P t = some (ag, n)) (h : DataW.trod enc P w base spare held fuel t cs = some x) : cs.length = n := by
  obtain ⟨_, _, _, _, hl, _⟩ := DataW.trod_array (arI_spec hs) h
  rw [hl, cellsOf_ty ht]
theorem trod_fd {i o n : Nat} {U : TypeId} {ag : Bool} (hf : fdI P t i = some (o, U)) (hu : tyI P U = some (ag, n)) (h : DataW.trod enc P w base spare held fuel t cs = some x) : ∃ m y, DataW.trod enc P w base spare held m U ((cs.drop o).take n) = some y := by
  obtain ⟨fs, f, h1, h2, rfl, rfl⟩ := fdI_spec hf
  obtain ⟨xs, m, _, _, _, hx, hall⟩ := DataW.trod_struct h1 h
  have := hall i f h2
  rw [cellsOf_ty hu] at this
  have hi : i < xs.length := by
    rw [hx]
    exact (Array.getElem?_eq_some_iff.1 h2).1
  exact ⟨m, xs[i], by rw [this, List.getElem?_eq_getElem hi]⟩
theorem trod_el {i m n : Nat} {E : TypeId} {ag : Bool} (hs : arI P t = some (m, E)) (hu : tyI P E = some (ag, n)) (hi : Nat.blt i m = true) (h : DataW.trod enc P w base spare held fuel t cs = some x) : ∃ q y, DataW.trod enc P w base spare held q E ((cs.drop (i * n)).take n) = some y := by
  obtain ⟨xs, q, _, _, _, hx, hall⟩ := DataW.trod_array (arI_spec hs) h
  have hlt : i < m := Nat.le_of_ble_eq_true hi
  have := hall i hlt
  rw [cellsOf_ty hu] at this
  exact ⟨q, xs[i], by rw [this, List.getElem?_eq_getElem (by omega)]⟩
theorem rd_slice {α : Type} {c : α → List Value} {E : TypeId} {ag : Bool} {k : Nat} (ht : slI P t = some E) (hE : tyI P E = some (ag, k)) (hk : Nat.ble 1 k = true)
    (hel : ∀ (m : Nat) (es : List Value) (y : DataW H × List MemPlace), DataW.trod enc P w base spare held m E es = some y → ∃ z : α, es = c z) (hck : ∀ z : α, (c z).length = k)
    (h : DataW.trod enc P w base spare held fuel t cs = some x) :
    ∃ (v : SH) (xs : List α), cs = [v.v] ∧ ((x.1 = .nil ∧ xs = []) ∨ ∃ els sp, x.1 = .slice els sp ∧ els.length = xs.length) ∧ (xs.length ≤ 140737488355328 → RdS (hh w) k v.v (xs.map c)) := by
  rcases Go.Deep.open_slice (slI_spec ht) h with ⟨rfl, rfl⟩ | ⟨a, len, cap, m, n, D, Pl, rfl, hb, hl, hcap, rfl, rfl, hall⟩
  · exact ⟨nilH, [], rfl, .inl ⟨rfl, rfl⟩, fun _ => RdS.nil _ _⟩
  have hk1 : 1 ≤ k := Nat.le_of_ble_eq_true hk
  rw [cellsOf_ty hE] at hall
  have hm : len ≤ (if spare a.block = true then cap else len) := by split <;> omega
  by_cases hlen : len = 0
  · subst hlen
    exact ⟨⟨some a, 0, cap⟩, [], rfl, .inr ⟨_, _, rfl, by simp⟩, fun _ => ⟨by simp, by simp, some a, cap, rfl, by simp, fun h => absurd rfl h⟩⟩
  -- the elements
  have hex : ∀ i, i < len → ∃ z : α, w.cells? base (a.add (i * k)) k = some (c z) := by
    intro i hi
    obtain ⟨cs', h1, h2⟩ := hall i (by omega)
    obtain ⟨z, rfl⟩ := hel _ _ _ h2
    exact ⟨z, h1⟩
  have hxs : ∀ n, n ≤ len → ∃ xs : List α, xs.length = n ∧ ∀ i z, xs[i]? = some z → w.cells? base (a.add (i * k)) k = some (c z) := by
    intro n
    induction n with
    | zero => intro _; exact ⟨[], rfl, by simp⟩
    | succ n ih =>
      intro hn
      obtain ⟨xs, h1, h2⟩ := ih (by omega)
      obtain ⟨z, hz⟩ := hex n (by omega)
      refine ⟨xs ++ [z], by simp [h1], fun i y hy => ?_⟩
      rw [List.getElem?_append] at hy
      split at hy
      · exact h2 i y hy
      · rename_i hge
        have : i = n := by
          have := (List.getElem?_eq_some_iff.1 hy).1
          simp at this
          omega
        subst this
        rw [h1] at hy
        simp at hy
        subst hy
        exact hz
  obtain ⟨xs, hx1, hx2⟩ := hxs len (Nat.le_refl _)
  refine ⟨⟨some a, len, cap⟩, xs, rfl, .inr ⟨_, _, rfl, by simp [hx1]⟩, fun hbd => ?_⟩
  -- the block
  have hcell : ∀ j, j < len * k → ∃ v, w.cell? (a.add j) = some v ∧ ((xs.map c).flatten)[j]? = some v := by
    intro j hj
    have hi : j / k < len := Nat.div_lt_of_lt_mul (by rw [Nat.mul_comm]; exact hj)
    obtain ⟨z, hz⟩ := get_of_lt (l := xs) (i := j / k) (by omega)
    have h1 := hx2 _ _ hz
    unfold World.cells? at h1
    split at h1
    · have h2 := mapM_some_get h1 (j % k) (j % k) (by simp [Nat.mod_lt _ (show 0 < k by omega)])
      rw [Go.Deep.add_add, show j / k * k + j % k = j by rw [Nat.mul_comm]; exact Nat.div_add_mod j k] at h2
      have hlt : j % k < (c z).length := by rw [hck]; exact Nat.mod_lt _ (by omega)
      refine ⟨(c z)[j % k], by rw [h2, List.getElem?_eq_getElem hlt], ?_⟩
      have hfc := flat_cells (k := k) (ds := xs.map c) (i := j / k) (d := c z) (by intro d hd; obtain ⟨y, _, rfl⟩ := List.mem_map.1 hd; exact hck y) (get_map c hz)
      have h3 : (((xs.map c).flatten.drop (j / k * k)).take k)[j % k]? = (c z)[j % k]? := by rw [hfc]
      rw [List.getElem?_take_of_lt (Nat.mod_lt _ (by omega)), List.getElem?_drop, show j / k * k + j % k = j by rw [Nat.mul_comm]; exact Nat.div_add_mod j k] at h3
      rw [h3, List.getElem?_eq_getElem hlt]
    · cases h1
  obtain ⟨v0, hv0, _⟩ := hcell 0 (Nat.mul_pos (by omega) (by omega))
  obtain ⟨blk, off, spot⟩ := a
  have hobj : spot = none ∧ ∃ arr T fz, w.heap[blk]? = some (.cells arr T fz) := by
    rw [add_zero'] at hv0
    unfold World.cell? at hv0
    split at hv0
    · rename_i h1
      split at hv0
      · cases hv0
      · rename_i h2
        exact ⟨by simpa using h2, _, _, _, h1⟩
    · cases hv0
  obtain ⟨rfl, arr, T, fz, hblk⟩ := hobj
  have hfl : (xs.map c).flatten.length = len * k := by
    rw [flat_len (k := k) (by intro d hd; obtain ⟨y, _, rfl⟩ := List.mem_map.1 hd; exact hck y)]
    simp [hx1]
  refine ⟨by intro d hd; obtain ⟨y, _, rfl⟩ := List.mem_map.1 hd; exact hck y, by simpa using hbd, some ⟨blk, off, none⟩, cap, by simp [SH.v, hx1], by simpa [hx1] using hl, fun _ => ⟨blk, off, arr, T, fz, rfl, hblk, ?_⟩⟩
  apply List.ext_getElem?
  intro j
  simp only [List.length_map, hx1]
  by_cases hj : j < len * k
  · obtain ⟨v, h1, h2⟩ := hcell j hj
    rw [h2, List.getElem?_take_of_lt hj, List.getElem?_drop]
    rw [add_flat] at h1
    simpa [World.cell?, hblk] using h1
  · rw [List.getElem?_eq_none (by simp; omega), List.getElem?_eq_none (by omega)]
end
/-! ### from a walk's end to the row's -/
section
variable {H : Type} {enc : TypeId × Value → H} {P : Program}
theorem post_kept {f : Func} {s : ChangeSpec} {apart fresh handsOn again : Bool} {W W' : World} {args : Array Value} {v : Value} {ds gs : List (DataW H)} {before pa pv : List MemPlace}
    (hW : DataW.Whole enc P f.params.toList s.vars apart W args.toList ds gs before) (hb : Below W.heap.size W W')
    (hres : ∀ (b : Nat) (sp : Nat → Bool) (hd : Bool), DataW.TrodAll enc P W' b sp hd f.resultTypes.toList (v.resultList f.resultTypes.size) (s.fn H (ds ++ gs)).results [])
    (hargs : ∀ sp : Nat → Bool, (∀ p ∈ before, sp p.block = true) → DataW.TrodAll enc P W' 0 sp true f.params.toList args.toList (s.fn H (ds ++ gs)).args pa)
    (hvars : ∀ sp : Nat → Bool, (∀ p ∈ before, sp p.block = true) → DataW.TrodVars enc P W' sp s.vars (s.fn H (ds ++ gs)).vars pv)
    (hps : before = pa ++ pv)
    (hok : ∀ (j : Nat) (t : TypeId) (r : Value), f.resultTypes[j]? = some t → (v.resultList f.resultTypes.size)[j]? = some r → Value.okWide P W' .any 0 t r) :
    s.post enc P f apart fresh handsOn again W args v W' := by
  have hlt := hW.lt
  have hold : ∀ p ∈ before, (fun b => decide (b < W.heap.size)) p.block = true := fun p hp => by simpa using hlt p hp
  have hfr : W.keptBut W' (fun p => p ∈ before ∧ (p ∈ ([] : List MemPlace) ∨ p ∈ pa ∨ p ∈ pv)) := hb.frame _
  have hW0 := hW
  obtain ⟨_, _, _, _, _, hz, hn⟩ := hW0
  refine ⟨ds, gs, before, [], pa, pv, hW, hres _ _ _, hargs _ hold, hvars _ hold, hfr, fun _ => ⟨hok, ds.map id |> fun _ => _, _, [] ++ pa ++ pv, ⟨[] ++ pa, pv, trodAll_append (hargs _ (fun _ _ => rfl)) (hres _ _ _), hvars _ (fun _ _ => rfl), rfl, ?_, ?_⟩, ?_⟩⟩
  · intro b off hp
    have hmem : MemPlace.cell b off ∈ before := by rw [hps]; simpa using hp
    rw [Below.frozen hb (p := ⟨b, off, none⟩) (hlt _ hmem)]
    exact hz b off hmem
  · intro ha
    have h2 := hn ha
    rw [hps] at h2
    simpa using h2
  · intro p hp _
    rw [hps]
    simpa using hp
theorem trodAll_kept (hl : laidOutB P = true) {W W' : World} (hb : Below W.heap.size W W') : ∀ {ts : List TypeId} {vs : List Value} {ds : List (DataW H)} {ps : List MemPlace} {sp : Nat → Bool}, (∀ t ∈ ts, P.readableRec t = true ∧ t < P.types.size) → (∀ p ∈ ps, p.block < W.heap.size) → (∀ p ∈ ps, sp p.block = true) →
    DataW.TrodAll enc P W 0 (fun _ => true) true ts vs ds ps → DataW.TrodAll enc P W' 0 sp true ts vs ds ps
  | [], _, _, _, _, _, _, _, h => by
    obtain ⟨rfl, rfl, rfl⟩ := trodAll_nil h
    exact trodAll_mk0
  | t :: ts, vs, ds, ps, sp, hr, hlt, hsp, h => by
    obtain ⟨v, vs1, d, ds1, a, b, rfl, rfl, rfl, h1, h2⟩ := trodAll_cons h
    have ht := hr t (by simp)
    refine trodAll_cons_mk (Go.WideElems.Trod_stays hl ht.1 ht.2 h1 (fun p hp => hb.same (hlt p (by simp [hp]))) (fun p hp => hsp p (by simp [hp]))) (trodAll_kept hl hb (fun t ht => hr t (by simp [ht])) (fun p hp => hlt p (by simp [hp])) (fun p hp => hsp p (by simp [hp])) h2)
end
end Go.Proofs.YtnbpodjbemfpbaaGreat.Fw
