/-
  Own work: walks and laws, joined by wip/tool/compact.py.
-/
import Derived.Test.YtdallmabajeajaaGreatDoorG1
import Derived.KernelRfl
import Derived.MapKept
import Derived.OrdersHeld
import Derived.Scope
set_option linter.all false
set_option linter.all false
namespace Go.Proofs.YtdallmabajeajaaGreatDoor.Fw
open Go
def pre (n k : Nat) : Array Bool := ((List.range n).map fun i => decide (i < k)).toArray
theorem pre_size (n k : Nat) : (pre n k).size = n := by simp [pre]
theorem pre_get (n k j : Nat) : (pre n k).getD j false = (decide (j < n) && decide (j < k)) := by
  unfold pre
  by_cases h : j < n
  · simp [Array.getD_eq_getD_getElem?, h]
  · simp [Array.getD_eq_getD_getElem?, h]
theorem arr_ext {a b : Array Bool} (h1 : a.size = b.size) (h2 : ∀ j, a.getD j false = b.getD j false) : a = b := by
  apply Array.ext h1
  intro i hi hj
  have := h2 i
  simp only [Array.getD_eq_getD_getElem?, Array.getElem?_eq_getElem hi, Array.getElem?_eq_getElem hj, Option.getD_some] at this
  exact this
theorem set_get (a : Array Bool) (i j : Nat) : (a.setIfInBounds i true).getD j false = (a.getD j false || (decide (i = j) && decide (j < a.size))) := by
  simp only [Array.getD_eq_getD_getElem?, Array.getElem?_setIfInBounds]
  by_cases h : i = j
  · subst h
    by_cases hi : i < a.size
    · simp [hi]
    · simp [hi]
  · simp [h]
theorem pre_set {n k : Nat} : (pre n k).setIfInBounds k true = pre n (k + 1) := by
  refine arr_ext (by simp [pre_size]) fun j => ?_
  rw [set_get, pre_get, pre_get, pre_size]
  by_cases h : j < n <;> by_cases h2 : j < k <;> by_cases h3 : k = j <;> simp [h, h2, h3] <;> omega
theorem getD_tf {a : Array Bool} {j : Nat} (h : j < a.size) : a.getD j true = a.getD j false := by
  simp [Array.getD_eq_getD_getElem?, Array.getElem?_eq_getElem h]
section
variable {P : Program} {ops : Array Oper} {Q : Exit → Act → World → Prop} {C : World → Prop} {Q0 : Act → Prop}
theorem wpAny_more : ∀ (f : Nat) {ls : Array Bool} {a : Act} {w : World}, wpAny P .any ops Q f ls a w → wpAny P .any ops Q (f + 1) ls a w
  | 0, ls, a, w, h => ⟨fun _ => h.2, fun i hi => by rw [h.1] at hi; cases hi⟩
  | f + 1, ls, a, w, h => ⟨h.1, fun i hi => wpOp_mono (fun a w h' => wpAny_more f h') (h.2 i hi)⟩
theorem wpAny_mores {f : Nat} {ls : Array Bool} {a : Act} {w : World} (h : wpAny P .any ops Q f ls a w) : ∀ g, wpAny P .any ops Q (f + g) ls a w
  | 0 => h
  | g + 1 => wpAny_more _ (wpAny_mores h g)
def waits (ops : Array Oper) (i j : Nat) : Bool := match ops[i]? with
  | some o => o.after.any fun e => Region.binds .any e && e.on == j
  | none => false
def stall (ops : Array Oper) (c : Nat) : Array Oper := ops.modify c fun o => { o with after := o.after.push { on := ops.size, ground := .data } }
def segB (ops : Array Oper) (k c : Nat) : Bool :=
  Nat.blt c ops.size &&
  ((List.range (c + 1)).all fun i => match ops[i]? with | some o => o.after.all fun e => !Region.binds .any e || Nat.blt e.on i | none => true) &&
  ((List.range c).all fun i => Nat.blt i k || (List.range (c + 1)).any fun j => Nat.blt i j && waits ops j i) &&
  ((List.range ops.size).all fun j => Nat.ble j c || match ops[j]? with | some o => o.after.any fun e => Region.binds .any e && Nat.ble c e.on | none => true)
def Down (ops : Array Oper) (ls : Array Bool) : Prop := ∀ j o, ls.getD j false = true → ops[j]? = some o → ∀ e ∈ o.after, Region.binds .any e = true → ls.getD e.on false = true
theorem stall_ne {c j : Nat} (h : j ≠ c) : (stall ops c)[j]? = ops[j]? := by
  unfold stall
  rw [Array.getElem?_modify, if_neg (Ne.symm h)]
theorem stall_dst {c j : Nat} : ((stall ops c)[j]?).bind (·.dst) = (ops[j]?).bind (·.dst) := by
  by_cases h : j = c
  · subst h
    unfold stall
    rw [Array.getElem?_modify, if_pos rfl]
    cases ops[j]? <;> rfl
  · rw [stall_ne h]
theorem stall_yielded {c : Nat} {t : Array Value} : yielded (stall ops c) t = yielded ops t := by
  funext j
  unfold yielded
  rw [stall_dst]
theorem stall_ready {c i : Nat} {ls : Array Bool} (hs : ls.size = ops.size) : i ∈ Region.ready .any (stall ops c) ls ↔ i ∈ Region.ready .any ops ls ∧ i ≠ c := by
  rw [mem_ready, mem_ready]
  by_cases h : i = c
  · subst h
    constructor
    · rintro ⟨h1, o, h2, h3⟩
      exfalso
      unfold stall at h2
      rw [Array.getElem?_modify, if_pos rfl] at h2
      cases ho : ops[i]? with
      | none => rw [ho] at h2; cases h2
      | some o' =>
        rw [ho] at h2
        simp only [Option.map_some, Option.some.injEq] at h2
        subst h2
        have := h3 { on := ops.size, ground := .data } (by simp) rfl
        rw [← hs] at this
        simp [Array.getD_eq_getD_getElem?] at this
    · rintro ⟨_, h⟩; exact absurd rfl h
  · rw [stall_ne h]
    exact ⟨fun q => ⟨q, h⟩, fun q => q.1⟩
theorem segB_spec {k c : Nat} (h : segB ops k c = true) : c < ops.size ∧ (∀ i o, i ≤ c → ops[i]? = some o → ∀ e ∈ o.after, Region.binds .any e = true → e.on < i) ∧ (∀ i, k ≤ i → i < c → ∃ j, i < j ∧ j ≤ c ∧ waits ops j i = true) ∧
    (∀ j o, c < j → ops[j]? = some o → ∃ e ∈ o.after, Region.binds .any e = true ∧ c ≤ e.on) := by
  unfold segB at h
  simp only [Bool.and_eq_true] at h
  obtain ⟨⟨⟨h1, h2⟩, h3⟩, h4⟩ := h
  refine ⟨Nat.le_of_ble_eq_true h1, fun i o hi ho e he hb => ?_, fun i hk hi => ?_, fun j o hj ho => ?_⟩
  · have := List.all_eq_true.1 h2 i (List.mem_range.2 (by omega))
    rw [ho] at this
    simp only at this
    have := Array.all_eq_true_iff_forall_mem.1 this e he
    rw [hb] at this
    simp only [Bool.not_true, Bool.false_or] at this
    exact Nat.le_of_ble_eq_true this
  · have := List.all_eq_true.1 h3 i (List.mem_range.2 hi)
    simp only [Bool.or_eq_true] at this
    rcases this with this | this
    · have := Nat.le_of_ble_eq_true this; omega
    · obtain ⟨j, hj, hw⟩ := List.any_eq_true.1 this
      simp only [Bool.and_eq_true] at hw
      exact ⟨j, Nat.le_of_ble_eq_true hw.1, by have := List.mem_range.1 hj; omega, hw.2⟩
  · have := List.all_eq_true.1 h4 j (List.mem_range.2 (Array.getElem?_eq_some_iff.1 ho).1)
    simp only [Bool.or_eq_true] at this
    rcases this with this | this
    · have := Nat.le_of_ble_eq_true this; omega
    · rw [ho] at this
      simp only at this
      obtain ⟨e, he, hb⟩ := Array.any_eq_true'.1 this
      simp only [Bool.and_eq_true] at hb
      exact ⟨e, he, hb.1, Nat.le_of_ble_eq_true hb.2⟩
theorem waits_spec {i j : Nat} (h : waits ops i j = true) : ∃ o, ops[i]? = some o ∧ ∃ e ∈ o.after, Region.binds .any e = true ∧ e.on = j := by
  unfold waits at h
  split at h
  · rename_i o ho
    obtain ⟨e, he, hb⟩ := Array.any_eq_true'.1 h
    simp only [Bool.and_eq_true, beq_iff_eq] at hb
    exact ⟨o, ho, e, he, hb.1, hb.2⟩
  · cases h
theorem seg_bridge {k c g : Nat} (hB : segB ops k c = true) (Kc : ∀ a w, C w → Q0 a → wpOp P ops Q c (wpAny P .any ops Q g (pre ops.size (c + 1))) a w) :
    ∀ (f : Nat) (ls : Array Bool) (a : Act) (w : World), ls.size = ops.size → (∀ j, ls.getD j false = true → j < c) → (∀ j, j < k → ls.getD j false = true) → Down ops ls → C w →
      wpAnyQ P .any (stall ops c) C Q0 f ls a → wpAny P .any ops Q (f + (g + 1)) ls a w := by
  obtain ⟨hc, hback, hseg, hlate⟩ := segB_spec hB
  -- none of the quiet ones is ready: all are up
  have hall : ∀ (ls : Array Bool), ls.size = ops.size → (∀ j, ls.getD j false = true → j < c) → Region.ready .any (stall ops c) ls = [] → ∀ j, j < c → ls.getD j false = true := by
    intro ls hs hlt hr j
    induction j using Nat.strongRecOn with
    | _ j ih =>
      intro hj
      cases hl : ls.getD j false with
      | true => rfl
      | false =>
        exfalso
        have : j ∈ Region.ready .any (stall ops c) ls := by
          rw [stall_ready hs]
          refine ⟨mem_ready.2 ⟨by rw [getD_tf (by omega)]; exact hl, _, Array.getElem?_eq_getElem (by omega), fun e he hb => ?_⟩, by omega⟩
          have := hback j _ (by omega) (Array.getElem?_eq_getElem (by omega)) e he hb
          exact ih e.on this (by omega)
        rw [hr] at this
        cases this
  -- what is ready and not quiet is c, and then all are up
  have hwhat : ∀ (ls : Array Bool), ls.size = ops.size → (∀ j, ls.getD j false = true → j < c) → (∀ j, j < k → ls.getD j false = true) → Down ops ls → ∀ i, i ∈ Region.ready .any ops ls → c ≤ i → i = c ∧ ∀ j, j < c → ls.getD j false = true := by
    intro ls hs hlt hk hD i hi hci
    obtain ⟨h0, o, ho, hdeps⟩ := mem_ready.1 hi
    by_cases hic : i = c
    · subst hic
      refine ⟨rfl, fun j hj => ?_⟩
      have key : ∀ d j, i - j = d → j < i → ls.getD j false = true := by
        intro d
        induction d using Nat.strongRecOn with
        | _ d ih =>
          intro j hd hj
          by_cases hjk : j < k
          · exact hk j hjk
          · obtain ⟨j', h1, h2, h3⟩ := hseg j (by omega) hj
            obtain ⟨o', ho', e, he, hb, hon⟩ := waits_spec h3
            by_cases hj' : j' = i
            · subst hj'
              rw [ho] at ho'
              simp only [Option.some.injEq] at ho'
              subst ho'
              have := hdeps e he hb
              rw [hon] at this
              exact this
            · have hup := ih (i - j') (by omega) j' rfl (by omega)
              have := hD j' o' hup ho' e he hb
              rw [hon] at this
              exact this
      exact key _ j rfl hj
    · exfalso
      obtain ⟨e, he, hb, hge⟩ := hlate i o (by omega) ho
      have := hlt e.on (hdeps e he hb)
      omega
  have hend : ∀ (f : Nat) (ls : Array Bool) (a : Act) (w : World), ls.size = ops.size → (∀ j, ls.getD j false = true → j < c) → (∀ j, j < k → ls.getD j false = true) → Down ops ls → C w → Region.ready .any (stall ops c) ls = [] → Q0 a → wpAny P .any ops Q (f + (g + 1)) ls a w := by
    intro f ls a w hs hlt hk hD hw hr hq
    have hup := hall ls hs hlt hr
    have hls : ls = pre ops.size c := arr_ext (by rw [pre_size, hs]) fun j => by
      rw [pre_get]
      by_cases hj : j < c
      · rw [hup j hj]; simp [hj]; omega
      · cases hx : ls.getD j false with
        | true => exact absurd (hlt j hx) hj
        | false => simp [hj]
    have hcr : c ∈ Region.ready .any ops ls := mem_ready.2 ⟨by
        rw [getD_tf (by omega), hls, pre_get]; simp, _, Array.getElem?_eq_getElem hc, fun e he hb => hup e.on (hback c _ (Nat.le_refl _) (Array.getElem?_eq_getElem hc) e he hb)⟩
    rw [← Nat.add_assoc]
    refine ⟨fun h => (by rw [h] at hcr; cases hcr), fun i hi => ?_⟩
    have hic : i = c := by
      by_cases h : c ≤ i
      · exact (hwhat ls hs hlt hk hD i hi h).1
      · exfalso
        obtain ⟨h0, _⟩ := mem_ready.1 hi
        rw [getD_tf (by omega), hup i (by omega)] at h0
        cases h0
    subst hic
    have := Kc a w hw hq
    rw [hls, pre_set]
    rw [Nat.add_comm f g]
    exact wpOp_mono (fun a w h => wpAny_mores h f) this
  intro f
  induction f with
  | zero => exact fun ls a w hs hlt hk hD hw h => hend 0 ls a w hs hlt hk hD hw h.1 h.2
  | succ f ih =>
    intro ls a w hs hlt hk hD hw h
    cases hr : Region.ready .any (stall ops c) ls with
    | nil => exact hend (f + 1) ls a w hs hlt hk hD hw hr (h.1 hr)
    | cons x xs =>
      have hx : x ∈ Region.ready .any (stall ops c) ls := by rw [hr]; simp
      rw [show f + 1 + (g + 1) = f + (g + 1) + 1 by omega]
      refine ⟨fun h0 => (by rw [stall_ready hs, h0] at hx; cases hx.1), fun i hi => ?_⟩
      by_cases hic : i < c
      · have hi' : i ∈ Region.ready .any (stall ops c) ls := (stall_ready hs).2 ⟨hi, by omega⟩
        have hq := h.2 i hi'
        have hq' : qOp P ops C i (wpAnyQ P .any (stall ops c) C Q0 f (ls.setIfInBounds i true)) a := by
          unfold qOp at hq ⊢
          rw [stall_ne (by omega), stall_yielded] at hq
          exact hq
        refine wpOp_of_qOp hw (fun a' w' hw' hk' => ih (ls.setIfInBounds i true) a' w' (by simpa using hs) (fun j hj => ?_) (fun j hj => ?_) ?_ hw' hk') hq'
        · rw [set_get] at hj
          simp only [Bool.or_eq_true, Bool.and_eq_true, decide_eq_true_eq] at hj
          rcases hj with hj | hj
          · exact hlt j hj
          · omega
        · rw [set_get, hk j hj]; rfl
        · intro j o hj ho e he hb
          rw [set_get] at hj ⊢
          simp only [Bool.or_eq_true, Bool.and_eq_true, decide_eq_true_eq] at hj ⊢
          rcases hj with hj | hj
          · exact .inl (hD j o hj ho e he hb)
          · obtain ⟨rfl, _⟩ := hj
            obtain ⟨_, o', ho', hdeps⟩ := mem_ready.1 hi
            rw [ho] at ho'
            simp only [Option.some.injEq] at ho'
            subst ho'
            exact .inl (hdeps e he hb)
      · exfalso
        have h1 := hwhat ls hs hlt hk hD i hi (by omega)
        have h2 := (stall_ready hs).1 hx
        obtain ⟨h0, _⟩ := mem_ready.1 h2.1
        by_cases hxc : x < c
        · rw [getD_tf (by have := h1.2 x hxc; have := hlt x this; omega), h1.2 x hxc] at h0
          cases h0
        · exact h2.2 (hwhat ls hs hlt hk hD x h2.1 (by omega)).1
theorem stall_quiet {c : Nat} : ∀ {l : List Oper} {a : Act}, wpQuiet P ops C Q0 l a → wpQuiet P (stall ops c) C Q0 l a
  | [], a, h => h
  | o :: l, a, h => by
    unfold wpQuiet at h ⊢
    rw [stall_yielded]
    by_cases hw : Region.wanted o (yielded ops a.tmps) = true
    · rw [if_pos hw] at h ⊢
      exact Oper.quiet_mono (fun a h => stall_quiet h) h
    · rw [if_neg hw] at h ⊢
      exact stall_quiet h
theorem quiet_lex (hs : Region.noSelect ops = true) : ∀ (l : List Oper) (k : Nat) (ls : Array Bool) (a : Act), (∀ j o, l[j]? = some o → ops[k + j]? = some o) → Region.lexFrom .any ops l.length k ls = true → wpQuiet P ops C Q0 l a → wpAnyQ P .any ops C Q0 l.length ls a
  | [], _, _, _, _, hB, h => ⟨by simpa [Region.lexFrom] using hB, h⟩
  | o :: l, k, ls, a, hl, hB, h => by
    have h0 : ops[k]? = some o := by simpa using hl 0 o rfl
    simp only [List.length_cons, Region.lexFrom, Bool.and_eq_true] at hB
    obtain ⟨⟨hr, hf⟩, hB'⟩ := hB
    have hst : qOp P ops C k (wpQuiet P ops C Q0 l) a := by unfold qOp; simp only [h0]; exact h
    obtain ⟨v, hy, hK⟩ := yieldsIn_of_qOp h0 hst
    exact wpAnyQ_first h0 (Region.noSelect_spec hs) l.length ls a (Region.free_spec h0 hf) (by simpa using hr) hy
      (quiet_lex hs l (k + 1) _ _ (fun j o ho => by have := hl (j + 1) o (by simpa using ho); simpa [Nat.add_assoc, Nat.add_comm 1 j] using this) hB' hK)
def RA (P : Program) (ops : Array Oper) (Q : Exit → Act → World → Prop) (k : Nat) : Act → World → Prop := fun a w => wpAny P .any ops Q (ops.size - k) (pre ops.size k) a w
theorem ra_begin {id : Nat} {a : Act} {w : World} (hm : P.follows .mixedOrders = true) (h : RA P ops Q 0 a { w with drawn := w.drawn + 1 }) : (Code.region id ops true).wp P Q a w := by
  refine wp_region_any hm ?_
  have e : Array.replicate ops.size false = pre ops.size 0 := arr_ext (by simp [pre_size]) fun j => by
    rw [pre_get]
    simp [Array.getD_eq_getD_getElem?]
    by_cases h : j < ops.size <;> simp [h]
  rw [e]
  exact h
theorem upon_then {K : Act → World → Prop} {o : Oper} {a : Act} {w : World} {K' : Act → World → Prop} (h : o.wp P a w K' (Exit.then K Q)) : o.wp P a w K' Q := by
  unfold Oper.wp at h ⊢
  generalize (execOp a.eval o).run P w = r at *
  cases r with
  | ok n w' =>
    cases n <;> simp only [Oper.upon] at h ⊢ <;>
      first
        | exact h
        | exact Calls.mono h (fun e w'' he => by cases e <;> exact he)
  | halt x w' => cases x <;> simp only [Oper.upon] at h ⊢ <;> exact h
theorem ra_seg {k c : Nat} {l0 : List Oper} {o : Oper} {a : Act} {w : World} (hB : segB ops k c = true) (hk : k ≤ c) (hns : Region.noSelect (stall ops c) = true) (ho : ops[c]? = some o) (hl : ∀ j o, l0[j]? = some o → (stall ops c)[k + j]? = some o) (hlen : l0.length = c - k)
    (hlex : Region.lexFrom .any (stall ops c) l0.length k (pre ops.size k) = true) (hw : C w) (h : wpQuiet P ops C (fun a' => ∀ w', C w' → wpList P ops (Exit.then (RA P ops Q (c + 1)) Q) [o] a' w') l0 a) (hdown : Down ops (pre ops.size k)) : RA P ops Q k a w := by
  have hc := (segB_spec hB).1
  have h1 := quiet_lex (C := C) hns l0 k _ a hl hlex (stall_quiet h)
  have h2 := seg_bridge (P := P) (Q := Q) (g := ops.size - (c + 1)) hB (fun a w hw hq => by
    have hq := hq w hw
    unfold wpOp
    rw [ho]
    simp only [wpList] at hq ⊢
    split
    · rename_i hwant
      rw [if_pos hwant] at hq
      rcases hq with hq | ⟨hq, hq2⟩
      · exact .inl (upon_then hq)
      · exact .inr ⟨hq, hq2⟩
    · rename_i hwant
      rw [if_neg hwant] at hq
      exact hq) l0.length (pre ops.size k) a w (pre_size _ _) (fun j hj => by rw [pre_get] at hj; simp at hj; omega) (fun j hj => by rw [pre_get]; simp [hj]; omega) hdown hw h1
  have e : l0.length + (ops.size - (c + 1) + 1) = ops.size - k := by omega
  rw [e] at h2
  exact h2
theorem ra_end {k : Nat} {l0 : List Oper} {a : Act} {w : World} (hns : Region.noSelect ops = true) (hl : ∀ j o, l0[j]? = some o → ops[k + j]? = some o) (hlen : l0.length = ops.size - k) (hlex : Region.lexFrom .any ops l0.length k (pre ops.size k) = true) (hw : C w)
    (h : wpQuiet P ops C (fun a' => ∀ w', C w' → Q .normal a' w') l0 a) : RA P ops Q k a w := by
  have h1 := quiet_lex (C := C) hns l0 k _ a hl hlex h
  rw [hlen] at h1
  exact wpAny_of_quiet (Q := fun a' => ∀ w', C w' → Q .normal a' w') (fun _ w' hw' h => h w' hw') _ _ _ _ hw h1
def downB (ops : Array Oper) (k : Nat) : Bool := (List.range k).all fun i => match ops[i]? with | some o => o.after.all fun e => !Region.binds .any e || Nat.blt e.on k && Nat.blt e.on ops.size | none => true
theorem downB_spec {k : Nat} (h : downB ops k = true) : Down ops (pre ops.size k) := fun j o hj ho e he hb => by
  rw [pre_get] at hj ⊢
  simp only [Bool.and_eq_true, decide_eq_true_eq] at hj ⊢
  have := List.all_eq_true.1 h j (List.mem_range.2 hj.2)
  rw [ho] at this
  simp only at this
  have := Array.all_eq_true_iff_forall_mem.1 this e he
  rw [hb] at this
  simp only [Bool.not_true, Bool.false_or, Bool.and_eq_true] at this
  exact ⟨Nat.le_of_ble_eq_true this.2, Nat.le_of_ble_eq_true this.1⟩
end
end Go.Proofs.YtdallmabajeajaaGreatDoor.Fw
set_option linter.all false
namespace Go.Proofs.YtdallmabajeajaaGreatDoor.Fw
open Go
/-! ### tables -/
def lkN {α : Type} : List (Nat × α) → Nat → Option α
  | [], _ => none
  | (i, x) :: l, j => match Nat.beq i j with | true => some x | false => lkN l j
theorem lkN_mem {α : Type} : ∀ {l : List (Nat × α)} {j : Nat} {x : α}, lkN l j = some x → (j, x) ∈ l
  | (i, y) :: l, j, x, h => by
    unfold lkN at h
    split at h
    · rename_i hb
      rw [Nat.eq_of_beq_eq_true hb]
      simp only [Option.some.injEq] at h
      subst h
      exact List.mem_cons_self
    · exact List.mem_cons_of_mem _ (lkN_mem h)
def maI (P : Program) (T : TypeId) : Option (TypeId × TypeId) := match P.underlying T with
  | some (.map k v) => some (k, v)
  | _ => none
theorem maI_spec {P : Program} {T K V : TypeId} (h : maI P T = some (K, V)) : P.underlying T = some (.map K V) := by
  unfold maI at h
  split at h
  · rename_i h1
    simp only [Option.some.injEq, Prod.mk.injEq] at h
    rw [h1, h.1, h.2]
  · cases h
def sameV1 : Value → Value → Bool
  | .bool a, .bool b => a == b
  | .int k a, .int l b => decide (k = l) && decide (a = b)
  | .string a, .string b => a.size == 0 && b.size == 0 && a.data.size == 0 && b.data.size == 0
  | .pointer none, .pointer none => true
  | .slice none 0 0, .slice none 0 0 => true
  | .map none, .map none => true
  | .chan none, .chan none => true
  | .nilFunc, .nilFunc => true
  | .nilIface, .nilIface => true
  | _, _ => false
def sameV : List Value → List Value → Bool
  | [], [] => true
  | a :: l, b :: m => sameV1 a b && sameV l m
  | _, _ => false
theorem sameV1_eq {a b : Value} (h : sameV1 a b = true) : a = b := by
  cases a <;> cases b <;> simp_all [sameV1]
  case pointer.pointer x y => cases x <;> cases y <;> simp_all [sameV1]
  case slice.slice x n c y m d =>
    revert h
    cases x <;> cases y <;> cases n <;> cases c <;> cases m <;> cases d <;> simp [sameV1]
  case map.map x y => cases x <;> cases y <;> simp_all [sameV1]
  case chan.chan x y => cases x <;> cases y <;> simp_all [sameV1]
theorem sameV_eq : ∀ {l m : List Value}, sameV l m = true → l = m
  | [], [], _ => rfl
  | a :: l, b :: m, h => by
    simp only [sameV, Bool.and_eq_true] at h
    rw [sameV1_eq h.1, sameV_eq h.2]
  | [], _ :: _, h => by cases h
  | _ :: _, [], h => by cases h
theorem zeOf {P : Program} {tab : List (Nat × List Value)} (ok : (tab.all fun p => match zeI P p.1 with | some l => sameV l p.2 | none => false) = true) {T : TypeId} {x : List Value} (h : lkN tab T = some x) : zeI P T = some x := by
  have h1 := List.all_eq_true.1 ok _ (lkN_mem h)
  revert h1
  simp only
  split
  · intro h2
    rename_i h3
    rw [h3, sameV_eq h2]
  · simp
def sameLK : List LK → List LK → Bool
  | [], [] => true
  | .i a :: l, .i b :: m => decide (a = b) && sameLK l m
  | .b :: l, .b :: m => sameLK l m
  | .s :: l, .s :: m => sameLK l m
  | _, _ => false
theorem sameLK_eq : ∀ {l m : List LK}, sameLK l m = true → l = m
  | [], [], _ => rfl
  | a :: l, b :: m, h => by
    cases a <;> cases b <;> simp_all [sameLK] <;> exact sameLK_eq (by simp_all)
  | [], _ :: _, h => by cases h
  | _ :: _, [], h => by rename_i a _; cases a <;> cases h
def eqTB (P : Program) (T : TypeId) (ks : List LK) : Bool := (match leafs P 100 T with | some l => sameLK l ks | none => false) && (match tyI P T with | some (true, _) => true | _ => false) && !P.eqGuardType P.depth T
theorem eqTB_spec {P : Program} {T : TypeId} {ks : List LK} (h : eqTB P T ks = true) : EqT P T ks := by
  unfold eqTB at h
  simp only [Bool.and_eq_true, Bool.not_eq_true'] at h
  obtain ⟨⟨h1, h2⟩, h3⟩ := h
  refine ⟨?_, ?_, h3⟩
  · split at h1
    · rename_i l hl; rw [hl, sameLK_eq h1]
    · cases h1
  · split at h2
    · rename_i hl; rw [hl]; rfl
    · cases h2
class Mk {α : Type} (c : α → List Value) (cs : List Value) (e : outParam α) : Prop where
  h : c e = cs
instance : Inhabited SH := ⟨nilH⟩
class Lf (v : Value) (x : outParam SH) : Prop where
  h : x.v = v
instance {X : SH} : Lf X.v X := ⟨rfl⟩
instance : Lf (.slice none 0 0) nilH := ⟨rfl⟩
class TyR (T : TypeId) (α : outParam Type) (c : outParam (α → List Value)) : Prop where
  h : True
def cInt (k : IntKind) (n : Int) : List Value := [.int k n]
def cBool (b : Bool) : List Value := [.bool b]
instance {k : IntKind} {n : Int} : Mk (cInt k) [.int k n] n := ⟨rfl⟩
instance {b : Bool} : Mk cBool [.bool b] b := ⟨rfl⟩
class Pt (cs : List Value) (o z : Nat) (vs : outParam (List Value)) : Prop where
  h : (cs.drop o).take z = vs
class Cs {α : Type} (c : α → List Value) (k : outParam Nat) : Prop where
  l : ∀ x, (c x).length = k
  o : ∀ x, ones (c x) = true
instance {k : IntKind} : Cs (cInt k) 1 := ⟨fun _ => rfl, fun _ => rfl⟩
instance : Cs cBool 1 := ⟨fun _ => rfl, fun _ => rfl⟩
class Fk {α : Type} (c : α → List Value) (iα : outParam (DecidableEq α)) (ks : outParam (List LK)) : Prop where
  f : ∀ x, fitAll ks (c x) = true
  i : ∀ x y, c x = c y ↔ x = y
theorem bif1 (a b : Bool) : (bif a then b else false) = (a && b) := by cases a <;> rfl
theorem bif2 (a b : Bool) : (bif a then true else b) = (a || b) := by cases a <;> rfl
theorem bif3 (a b : Bool) : (bif a then false else b) = (!a && b) := by cases a <;> rfl
theorem bif4 (a b : Bool) : (bif a then b else true) = (!a || b) := by cases a <;> rfl
theorem bz_ : (∀ a b : Bool, (bif a then b else false) = (a && b)) ∧ (∀ a b : Bool, (bif a then true else b) = (a || b)) ∧ (∀ a b : Bool, (bif a then false else b) = (!a && b)) ∧ (∀ a b : Bool, (bif a then b else true) = (!a || b)) := ⟨bif1, bif2, bif3, bif4⟩
/-! ### operations -/
section
variable {P : Program} {ops : Array Oper} {Q : Exit → Act → World → Prop} {n : Nat} {L : List (Nat × Value)} {a : Act} {w w0 : World} {C S : World → Prop} {d : Nat} {op : Op} {ty : TypeId} {pos : String} {aft : Array Edge} {v : Value} {j t : Nat} {want b : Bool} {R : Hh} {Ps Qs : List HP} {gd : Option (Nat × Bool)} {od : Option Tmp} {o : Oper}
structure OkS (P : Program) (C : World → Prop) (L : List (Nat × Value)) (o : Oper) (v : Value) : Prop where
  h : Ok P C L o v
variable {x y : Operand} {T U : TypeId} {p : Addr} {i z o1 o2 r k : Nat} {ag : Bool} {cs : List Value} {kk : IntKind} {n1 n2 n3 : Int} {u : Value} {ll : List Value} {b1 : Bool} {bo : BinOp} {T2 : TypeId}
theorem e1_ (hx : ev L x = some v) : OkS P C L ⟨od, .move x, ty, pos, aft, gd⟩ v := ⟨ok_move hx⟩
theorem e2_ (hx : ev L x = some v) : OkS P C L ⟨od, .assign x, ty, pos, aft, gd⟩ v := ⟨ok_assign hx⟩
theorem e3_ {o3 : Nat} (hx : ev L x = some (.pointer (some (padd p o1)))) (hf : fdI P T i = some (o2, U)) (ht : tyI P U = some (ag, z + 1)) (ho : o1 + o2 = o3) : OkS P C L ⟨od, .fieldAddr T x i, ty, pos, aft, gd⟩ (.pointer (some (padd p o3))) := ⟨ho ▸ ok_fieldAddr hx hf ht rfl⟩
theorem e4_ (hx : ev L x = some (.pointer (some p))) : OkS P C L ⟨od, .nilCheck x, ty, pos, aft, gd⟩ (.pointer (some p)) := ⟨ok_nilCheck hx⟩
theorem e5_ (hx : ev L x = some (.pointer (some (padd p o1)))) (ht : tyI P T = some (false, z)) (hc : CAt C p cs) (hv : cs[o1]? = some v) : OkS P C L ⟨od, .load T x, ty, pos, aft, gd⟩ v := ⟨ok_load_sc hx ht hc hv⟩
theorem e6_ (hx : ev L x = some (.bool b1)) : OkS P C L ⟨od, .unOp .not T x, ty, pos, aft, gd⟩ (.bool (!b1)) := ⟨ok_not hx⟩
theorem e7_ (hx : ev L x = some (.tuple ⟨ll⟩)) (hv : ll[i]? = some v) : OkS P C L ⟨od, .extract x i, ty, pos, aft, gd⟩ v := ⟨ok_extract hx hv⟩
theorem e8_ (hx : ev L x = some (.agg ⟨cs⟩)) (hf : fdI P T i = some (o2, U)) (ht : tyI P U = some (false, z)) (hv : cs[o2]? = some v) : OkS P C L ⟨od, .field T x i, ty, pos, aft, gd⟩ v := ⟨ok_field_sc hx hf ht hv⟩
theorem e9_ (hx : ev L x = some (.int .i64 n1)) (hy : ev L y = some (.int .i64 n2)) (h1 : -9223372036854775808 ≤ n1 + n2) (h2 : n1 + n2 ≤ 9223372036854775807) : OkS P C L ⟨od, .binOp .add T x y T2, ty, pos, aft, gd⟩ (.int .i64 (n1 + n2)) := ⟨ok_add hx hy (wrap_i64 h1 h2)⟩
theorem e10_ (hx : ev L x = some (.int .i64 n1)) (hy : ev L y = some (.int .i64 n2)) (h1 : -9223372036854775808 ≤ n1 - n2) (h2 : n1 - n2 ≤ 9223372036854775807) : OkS P C L ⟨od, .binOp .sub T x y T2, ty, pos, aft, gd⟩ (.int .i64 (n1 - n2)) := ⟨ok_sub hx hy (wrap_i64 h1 h2)⟩
theorem e11_ (hx : ev L x = some (.int kk n1)) (hy : ev L y = some (.int kk n2)) (hv : ib bo kk n1 n2 = some v) : OkS P C L ⟨od, .binOp bo T x y T2, ty, pos, aft, gd⟩ v := ⟨ok_bin hx hy hv⟩
theorem e13_ {b2 : Bool} (hx : ev L x = some (.bool b1)) (hv : (!b1) = b2) : OkS P C L ⟨od, .unOp .not T x, ty, pos, aft, gd⟩ (.bool b2) := ⟨hv ▸ ok_not hx⟩
theorem e15_ {c : Operand} {u2 : Value} (hc : ev L c = some (.bool b1)) (hx : ev L x = some v) (hy : ev L y = some u2) : OkS P C L ⟨od, .pick c x y, ty, pos, aft, gd⟩ (bif b1 then v else u2) := ⟨ok_pick hc hx hy rfl⟩
variable {E : TypeId} {k : Nat} {vs : List Value} {c : Operand} {k1 k2 : IntKind}
theorem f1_ (hc : ev L c = some (.bool b1)) (hx : ev L x = some v) (hy : ev L y = some u) (hb : b1 = true) : OkS P C L ⟨od, .pick c x y, ty, pos, aft, gd⟩ v := ⟨ok_pick hc hx hy (by rw [hb]; rfl)⟩
theorem f2_ (hc : ev L c = some (.bool b1)) (hx : ev L x = some v) (hy : ev L y = some u) (hb : b1 = false) : OkS P C L ⟨od, .pick c x y, ty, pos, aft, gd⟩ u := ⟨ok_pick hc hx hy (by rw [hb]; rfl)⟩
theorem f3_ (hx : ev L x = some (.int k1 n1)) (hy : ev L y = some (.int k2 n2)) (hn : 0 ≤ n2) : OkS P C L ⟨od, .binOp .shl T x y T2, ty, pos, aft, gd⟩ (.int k1 (k1.wrap (n1 * 2 ^ (min n2.toNat k1.bits)))) := ⟨ok_shl hx hy hn rfl⟩
theorem f4_ (hx : ev L x = some (.int k1 n1)) (hy : ev L y = some (.int k2 n2)) (hn : 0 ≤ n2) : OkS P C L ⟨od, .binOp .shr T x y T2, ty, pos, aft, gd⟩ (.int k1 (n1.fdiv (2 ^ (min n2.toNat k1.bits)))) := ⟨ok_shr hx hy hn rfl⟩
theorem f5_ (hx : ev L x = some (.int k1 n1)) (hs : inI P T = some k1) (ht : inI P T2 = some k2) : OkS P C L ⟨od, .convert T T2 x, ty, pos, aft, gd⟩ (.int k2 (k2.wrap n1)) := ⟨ok_conv hx hs ht rfl⟩
theorem f6_ (hx : ev L x = some (.int k1 n1)) (hy : ev L y = some (.int k1 n2)) (hn : n2 ≠ 0) : OkS P C L ⟨od, .binOp .quo T x y T2, ty, pos, aft, gd⟩ (.int k1 (k1.wrap (n1.tdiv n2))) := ⟨ok_quo hx hy hn rfl⟩
theorem f7_ (hx : ev L x = some (.int k1 n1)) (hy : ev L y = some (.int k1 n2)) (hn : n2 ≠ 0) : OkS P C L ⟨od, .binOp .rem T x y T2, ty, pos, aft, gd⟩ (.int k1 (n1.tmod n2)) := ⟨ok_rem hx hy hn rfl⟩
theorem f8_ (hx : ev L x = some (.int k1 n1)) : OkS P C L ⟨od, .unOp .neg T x, ty, pos, aft, gd⟩ (.int k1 (k1.wrap (0 - n1))) := ⟨ok_neg hx rfl⟩
theorem f10_ {o1 : Nat} (hx : ev L x = some (.pointer (some (padd p o1)))) (ht : tyI P T = some (true, z)) (hc : CAt C p cs) (hv : (cs.drop o1).take z = vs) (hl : vs.length = z) : OkS P C L ⟨od, .load T x, ty, pos, aft, gd⟩ (.agg ⟨vs⟩) := ⟨ok_load_ag hx ht hc hv hl⟩
theorem f12_ {o1 : Nat} (hx : ev L x = some (.pointer (some (padd p o1)))) (ht : tyI P T = some (true, z)) (hc : CAt C p cs) (hv : Pt cs o1 z vs) (hl : Nat.ble (o1 + z) cs.length = true) : OkS P C L ⟨od, .load T x, ty, pos, aft, gd⟩ (.agg ⟨vs⟩) :=
  f10_ hx ht hc hv.h (by rw [← hv.h, List.length_take, List.length_drop]; have := Nat.le_of_ble_eq_true hl; omega)
theorem f13_ {o1 : Nat} (hx : ev L x = some (.agg ⟨cs⟩)) (hf : fdI P T i = some (o1, U)) (ht : tyI P U = some (true, z)) (hv : Pt cs o1 z vs) : OkS P C L ⟨od, .field T x i, ty, pos, aft, gd⟩ (.agg ⟨vs⟩) := ⟨ok_field_ag hx hf ht hv.h⟩
theorem f11_ {o1 : Nat} (hx : ev L x = some (.agg ⟨cs⟩)) (hf : fdI P T i = some (o1, U)) (ht : tyI P U = some (true, z)) (hv : (cs.drop o1).take z = vs) : OkS P C L ⟨od, .field T x i, ty, pos, aft, gd⟩ (.agg ⟨vs⟩) := ⟨ok_field_ag hx hf ht hv⟩
end
section
variable {P : Program} {ops : Array Oper} {Q : Exit → Act → World → Prop} {n : Nat} {L : List (Nat × Value)} {a : Act} {w w0 : World} {C S : World → Prop} {d : Nat} {op : Op} {ty : TypeId} {pos : String} {aft : Array Edge} {v : Value} {j t : Nat} {want b : Bool} {R : Hh} {Ps Qs : List HP} {gd : Option (Nat × Bool)} {od : Option Tmp} {o : Oper}
structure Stp (P : Program) (ops : Array Oper) (n : Nat) (C : World → Prop) (L : List (Nat × Value)) (o : Oper) (d : Nat) (v : Value) : Prop where
  g : ∀ (Q : Exit → Act → World → Prop) (rest : List Oper) (a : Act) (w : World), St n L a → C w → (∀ a', St n ((d, v) :: L) a' → wpList P ops Q rest a' w) → wpList P ops Q (o :: rest) a w
theorem p_ (h : Ok P C L ⟨some d, op, ty, pos, aft, none⟩ v) (hd : Nat.blt d n = true := by rfl) : Stp P ops n C L ⟨some d, op, ty, pos, aft, none⟩ d v := ⟨fun _ _ _ _ hs m k => r_ok hs m h hd k⟩
theorem pg_ (hb : b = want) (h : Ok P C L ⟨some d, op, ty, pos, aft, some (j, want)⟩ v) (hj : (ops[j]?).bind (·.dst) = some t := by rfl) (ht : lk L t = some (.bool b) := by rfl) (hd : Nat.blt d n = true := by rfl) : Stp P ops n C L ⟨some d, op, ty, pos, aft, some (j, want)⟩ d v := ⟨fun _ _ _ _ hs m k => r_okg hs hj ht hb m h hd k⟩
theorem po_ (hb : b = !want) (hj : (ops[j]?).bind (·.dst) = some t := by rfl) (ht : lk L t = some (.bool b) := by rfl) (hd : Nat.blt d n = true := by rfl) : Stp P ops n C L ⟨some d, op, ty, pos, aft, some (j, want)⟩ d undef := ⟨fun _ _ _ _ hs m k => g_out hs hj ht hb hd k⟩
theorem pu_ (hj : (ops[j]?).bind (·.dst) = some t := by rfl) (ht : lk L t = some undef := by rfl) (hd : Nat.blt d n = true := by rfl) : Stp P ops n C L ⟨some d, op, ty, pos, aft, some (j, want)⟩ d undef := ⟨fun _ _ _ _ hs m k => g_outU hs hj ht hd k⟩
theorem pgx_ (hj : (ops[j]?).bind (·.dst) = some t) (ht : lk L t = some (.bool b)) (hd : Nat.blt d n = true) (hb : b = want) (h : Ok P C L ⟨some d, op, ty, pos, aft, some (j, want)⟩ v) : Stp P ops n C L ⟨some d, op, ty, pos, aft, some (j, want)⟩ d v := pg_ hb h hj ht hd
theorem pox_ (hj : (ops[j]?).bind (·.dst) = some t) (ht : lk L t = some (.bool b)) (hd : Nat.blt d n = true) (hb : b = !want) : Stp P ops n C L ⟨some d, op, ty, pos, aft, some (j, want)⟩ d undef := po_ hb hj ht hd
end
section
variable {P : Program} {ops : Array Oper} {Q : Act → Prop} {n : Nat} {L : List (Nat × Value)} {a : Act} {C : World → Prop} {d : Nat} {op : Op} {ty : TypeId} {pos : String} {aft : Array Edge} {v : Value} {j t : Nat} {want b : Bool} {o : Oper}
structure Stq (P : Program) (ops : Array Oper) (n : Nat) (C : World → Prop) (L : List (Nat × Value)) (o : Oper) (d : Nat) (v : Value) : Prop where
  g : ∀ (Q : Act → Prop) (rest : List Oper) (a : Act), St n L a → (∀ a', St n ((d, v) :: L) a' → wpQuiet P ops C Q rest a') → wpQuiet P ops C Q (o :: rest) a
theorem q_ (h : Ok P C L ⟨some d, op, ty, pos, aft, none⟩ v) (hd : Nat.blt d n = true := by rfl) : Stq P ops n C L ⟨some d, op, ty, pos, aft, none⟩ d v := ⟨fun _ _ _ hs k => q_ok hs h hd k⟩
theorem qg_ (hb : b = want) (h : Ok P C L ⟨some d, op, ty, pos, aft, some (j, want)⟩ v) (hj : (ops[j]?).bind (·.dst) = some t := by rfl) (ht : lk L t = some (.bool b) := by rfl) (hd : Nat.blt d n = true := by rfl) : Stq P ops n C L ⟨some d, op, ty, pos, aft, some (j, want)⟩ d v := ⟨fun _ _ _ hs k => q_okg hs hj ht hb h hd k⟩
theorem qo_ (hb : b = !want) (hj : (ops[j]?).bind (·.dst) = some t := by rfl) (ht : lk L t = some (.bool b) := by rfl) (hd : Nat.blt d n = true := by rfl) : Stq P ops n C L ⟨some d, op, ty, pos, aft, some (j, want)⟩ d undef := ⟨fun _ _ _ hs k => q_out hs hj ht hb hd k⟩
theorem qu_ (hj : (ops[j]?).bind (·.dst) = some t := by rfl) (ht : lk L t = some undef := by rfl) (hd : Nat.blt d n = true := by rfl) : Stq P ops n C L ⟨some d, op, ty, pos, aft, some (j, want)⟩ d undef := ⟨fun _ _ _ hs k => q_outU hs hj ht hd k⟩
theorem qgx_ (hj : (ops[j]?).bind (·.dst) = some t) (ht : lk L t = some (.bool b)) (hd : Nat.blt d n = true) (hb : b = want) (h : Ok P C L ⟨some d, op, ty, pos, aft, some (j, want)⟩ v) : Stq P ops n C L ⟨some d, op, ty, pos, aft, some (j, want)⟩ d v := qg_ hb h hj ht hd
theorem qox_ (hj : (ops[j]?).bind (·.dst) = some t) (ht : lk L t = some (.bool b)) (hd : Nat.blt d n = true) (hb : b = !want) : Stq P ops n C L ⟨some d, op, ty, pos, aft, some (j, want)⟩ d undef := qo_ hb hj ht hd
end
section
variable {P : Program} {ops : Array Oper} {Q : Exit → Act → World → Prop} {n d : Nat} {L T : List (Nat × Value)} {a : Act} {w w0 : World} {R : Hh} {Ps Qs : List HP} {v : Value}
def keysIn (l : List (Nat × Value)) (j : Nat) : Bool := l.any fun e => Nat.beq e.1 j
def apart (K T : List (Nat × Value)) : Bool := K.all fun e => !keysIn T e.1
theorem lk_in : ∀ {T : List (Nat × Value)} {j : Nat} {v : Value}, lk T j = some v → keysIn T j = true
  | (i, u) :: T, j, v, h => by
    unfold lk at h
    unfold keysIn
    simp only [List.any_cons, Bool.or_eq_true]
    split at h
    · rename_i hb; exact .inl hb
    · exact .inr (lk_in h)
theorem lk_app : ∀ {K T : List (Nat × Value)} {j : Nat}, keysIn K j = false → lk (K ++ T) j = lk T j
  | [], _, _, _ => rfl
  | (i, u) :: K, T, j, h => by
    unfold keysIn at h
    simp only [List.any_cons, Bool.or_eq_false_iff] at h
    show lk ((i, u) :: (K ++ T)) j = _
    rw [lk_miss u _ (fun e => by have h1 := h.1; rw [e, Nat.beq_refl] at h1; cases h1)]
    exact lk_app h.2
theorem St.ct (z : Nat) (h : St n ((d, v) :: T) a) (hk : apart (T.take z) (T.drop z) = true := by rfl) : St n ((d, v) :: T.drop z) a :=
  h.weak fun i u hu => by
    by_cases e : d = i
    · subst e
      rw [lk_hit] at hu ⊢
      exact hu
    · rw [lk_miss _ _ e] at hu ⊢
      have hin := lk_in hu
      have : keysIn (T.take z) i = false := by
        cases hq : keysIn (T.take z) i with
        | false => rfl
        | true =>
          unfold keysIn at hq
          rw [List.any_eq_true] at hq
          obtain ⟨e, he, h2⟩ := hq
          unfold apart at hk
          have := List.all_eq_true.1 hk e he
          rw [Nat.eq_of_beq_eq_true h2, hin] at this
          cases this
      have h3 : lk T i = lk (T.take z ++ T.drop z) i := by rw [List.take_append_drop]
      rw [h3, lk_app this]
      exact hu
end
/-! ### elements of slices -/
def SH.at (x : SH) (k : Nat) (i : Int) : Addr := padd (x.a.getD ⟨0, 0, none⟩) (i.toNat * k)
def el {α : Type} [Inhabited α] (xs : List α) (i : Int) : α := xs.getD i.toNat default
theorem el_get {α : Type} [Inhabited α] {xs : List α} {i : Int} (h1 : i < xs.length) (h0 : 0 ≤ i) : xs[i.toNat]? = some (el xs i) := by
  have : i.toNat < xs.length := by omega
  simp [el, this]
section
variable {P : Program} {n : Nat} {L : List (Nat × Value)} {C : World → Prop} {d : Nat} {op : Op} {ty : TypeId} {pos : String} {aft : Array Edge} {v : Value} {gd : Option (Nat × Bool)} {od : Option Tmp} {w0 : World} {R : Hh} {Ps Qs : List HP}
variable {x y : Operand} {T U T2 E : TypeId} {k o z : Nat} {ag : Bool} {i : Int} {K : IntKind} {α : Type} {c : α → List Value} {xs : List α} {X : SH}
theorem at_elem [Inhabited α] {h : Hh} (r : RdS h k X.v (xs.map c)) (h0 : 0 ≤ i) (h1 : i < xs.length) : Elem k X.v i.toNat (X.at k i) ∧ CellsAt h (X.at k i) (c (el xs i)) := by
  obtain ⟨a, n', c', e1, _, e2⟩ := r.elem (get_map c (el_get h1 h0))
  simp only [SH.v, Value.slice.injEq] at e1
  unfold SH.at
  rw [e1.1]
  exact ⟨⟨a, X.n, X.c, by simp [SH.v, e1.1], rfl⟩, e2⟩
theorem at_cat (hr : RC C k X.v (xs.map c)) (h0 : 0 ≤ i) (h1 : i < xs.length) (iα : Inhabited α) : CAt C (X.at k i) (c (el xs i)) := fun w m => (at_elem (hr w m) h0 h1).2
theorem g1_ (hx : ev L x = some X.v) (hT : slI P T = some E) (hr : RC C k X.v (xs.map c)) : OkS P C L ⟨od, .call ⟨.builtin .len, #[x], #[T]⟩, ty, pos, aft, gd⟩ (.int .i64 (xs.length : Int)) := ⟨fun ρ ha w hw => by
  have := ok_lenH (P := P) (C := C) (d := od) (ty := ty) (pos := pos) (aft := aft) (g := gd) hx hT ρ ha w hw
  have hl := (hr w hw).len
  rw [List.length_map] at hl
  rw [← hl]
  exact this⟩
theorem g2_ (hx : ev L x = some X.v) (hi : ev L y = some (.int K i)) (hT : slI P T = some E) (hE : tyI P E = some (ag, k)) (hr : RC C k X.v (xs.map c)) (h0 : 0 ≤ i) (h1 : i < xs.length) : OkS P C L ⟨od, .indexAddr T x y, ty, pos, aft, gd⟩ (.pointer (some (padd (X.at k i) 0))) := ⟨fun ρ ha w hw => by
  obtain ⟨p, ⟨a, n', c', e1, e2⟩, _, e4⟩ := ok_elem (P := P) (C := C) (L := L) (d := od) (ty := ty) (pos := pos) (aft := aft) (g := gd) hw hx hi hT hE hr h0 (get_map c (List.getElem?_eq_getElem (show i.toNat < xs.length by omega)))
  have e5 : X.at k i = p := by
    simp only [SH.v, Value.slice.injEq] at e1
    unfold SH.at
    rw [e1.1, e2]
    rfl
  rw [e5]
  exact e4 ρ ha w hw⟩
theorem fill_nil {fs : List (Nat × Nat)} {cs : List Value} : fillL fs cs [] = some cs := rfl
theorem fill_step {fs : List (Nat × Nat)} {cs cs' out vs : List Value} {i o n : Nat} {v : Value} {r : List (Nat × Value)} (h : fs[i]? = some (o, n)) (hv : v.cells = ⟨vs⟩) (h2 : (Nat.beq vs.length n && Nat.ble (o + n) cs.length) = true) (h3 : putAt cs o vs = cs') (h4 : fillL fs cs' r = some out) : fillL fs cs ((i, v) :: r) = some out := by
  rw [Bool.and_eq_true] at h2
  simp only [fillL, h, hv, h2.1, h2.2, h3, h4]
theorem g5_ {α : Type} {c : α → List Value} {e : α} {fs : List (Nat × Nat)} {zs cs : List Value} {qs : List (Nat × Operand)} {us : List (Nat × Value)} (hf : stI P T = some fs) (hz : zeI P T = some zs) (hx : partsOf L qs = some us) (hc : fillL fs zs us = some cs) (hr : TyR T α c) (he : Mk c cs e) :
    OkS P C L ⟨od, .build T ⟨qs⟩, ty, pos, aft, gd⟩ (.agg ⟨c e⟩) := ⟨he.h ▸ ok_build hf hz hx hc⟩
theorem g3_ {β : Type} {iβ : DecidableEq β} {c : β → List Value} {ks : List LK} {a b : β} (hx : ev L x = some (.agg ⟨c a⟩)) (hy : ev L y = some (.agg ⟨c b⟩)) (h : EqT P T ks) (hf : Fk c iβ ks) : OkS P C L ⟨od, .binOp .eql T x y T2, ty, pos, aft, gd⟩ (.bool (decide (a = b))) :=
  ⟨ok_eqv hx hy h (hf.f a) (hf.f b) (by rw [decide_eq_true_eq]; exact (hf.i a b).symm)⟩
theorem g4_ {β : Type} {iβ : DecidableEq β} {c : β → List Value} {ks : List LK} {a b : β} (hx : ev L x = some (.agg ⟨c a⟩)) (hy : ev L y = some (.agg ⟨c b⟩)) (h : EqT P T ks) (hf : Fk c iβ ks) : OkS P C L ⟨od, .binOp .neq T x y T2, ty, pos, aft, gd⟩ (.bool (!decide (a = b))) :=
  ⟨ok_nev hx hy h (hf.f a) (hf.f b) (by rw [decide_eq_true_eq]; exact (hf.i a b).symm)⟩
end
/-! ### goals -/
def kinN : List Nat → Nat → Bool
  | [], _ => false
  | i :: l, j => match Nat.beq i j with | true => true | false => kinN l j
inductive GF where
  | li (P : Program) (ops : Array Oper) (Q : Exit → Act → World → Prop) (l : List Oper)
  | co (P : Program) (c : Code) (Q : Exit → Act → World → Prop)
  | ex (Q : Exit → Act → World → Prop) (e : Exit)
  | qu (P : Program) (ops : Array Oper) (C : World → Prop) (F : GF) (l : List Oper)
  | an (P : Program) (ops : Array Oper) (Q : Exit → Act → World → Prop) (k : Nat)
def GF.sat : GF → Act → World → Prop
  | .li P ops Q l, a, w => wpList P ops Q l a w
  | .co P c Q, a, w => c.wp P Q a w
  | .ex Q e, a, w => Q e a w
  | .qu P ops C F l, a, _ => wpQuiet P ops C (fun a' => ∀ w', C w' → F.sat a' w') l a
  | .an P ops Q k, a, w => RA P ops Q k a w
def effOp (pt : List Nat) (o : Oper) : Bool := match o.op with
  | .call ⟨.value (.func f), _, _⟩ => !kinN pt f
  | .call ⟨.value _, _, _⟩ => true
  | .call ⟨.builtin .append, _, _⟩ => true
  | .call ⟨.builtin .copy, _, _⟩ => true
  | .call ⟨.builtin .delete, _, _⟩ => true
  | .call ⟨.builtin .clear, _, _⟩ => true
  | .store .. | .mapUpdate .. | .alloc .. | .box .. | .buildSlice .. | .makeMap .. | .makeSlice .. | .range .. | .next .. | .mapEntry .. | .entryStore .. | .insert .. => true
  | _ => false
def nextL (pt : List Nat) : List Oper → Nat → Option (Nat × Oper)
  | [], _ => none
  | o :: l, k => match effOp pt o with | true => some (k, o) | false => nextL pt l (k + 1)
theorem nextL_cons {pt : List Nat} {o : Oper} {l : List Oper} {k : Nat} : nextL pt (o :: l) k = bif effOp pt o then some (k, o) else nextL pt l (k + 1) := by
  rw [nextL]
  generalize effOp pt o = b
  cases b <;> rfl
theorem nextL_get {pt : List Nat} {l : List Oper} {k c : Nat} {o' : Oper} (h : nextL pt l k = some (c, o')) : k ≤ c ∧ l[c - k]? = some o' := by
  induction l generalizing k with
  | nil => exact absurd (show (none : Option (Nat × Oper)) = some (c, o') from h) (by simp)
  | cons o l ih =>
    rw [nextL_cons] at h
    generalize effOp pt o = b at h
    cases b with
    | true =>
      simp only [cond_true, Option.some.injEq, Prod.mk.injEq] at h
      obtain ⟨rfl, rfl⟩ := h
      simp
    | false =>
      simp only [cond_false] at h
      have := ih h
      refine ⟨by omega, ?_⟩
      rw [show c - k = (c - (k + 1)) + 1 by omega, List.getElem?_cons_succ]
      exact this.2
def segC (ops : Array Oper) (k c : Nat) : Bool := segB ops k c && Region.noSelect (stall ops c) && Region.lexFrom .any (stall ops c) (c - k) k (pre ops.size k) && downB ops k
def endC (ops : Array Oper) (k : Nat) : Bool := Region.noSelect ops && Region.lexFrom .any ops (ops.size - k) k (pre ops.size k)
def Gl (n : Nat) (w0 : World) (R : Hh) (L : List (Nat × Value)) (Ps : List HP) (F : GF) : Prop := ∀ a w, St n L a → Hp w0 R Ps w → F.sat a w
def Ctr {τ : Type} (P : Program) (f : FuncId) (args : List Value) (R : Hh) (Ps : List HP) (φ : τ → Prop) (V : τ → Value) (Z : τ → List HP) : Prop :=
  ∀ w0 w, Hp w0 R Ps w → Calls P f ⟨args⟩ w fun e w' => ∃ x, φ x ∧ e = .returned (V x) ∧ Hp w0 R (Z x) w'
def Ctp (P : Program) (f : FuncId) (args : List Value) (R : Hh) (Ps : List HP) (v : Value) : Prop := Ctr (τ := Unit) P f args R Ps (fun _ => True) (fun _ => v) (fun _ => Ps)
def resT (L : List (Nat × Value)) : List ResultVar → Option (List Value)
  | [] => some []
  | .tmp t :: rs => match lk L t, resT L rs with
    | some v, some vs => some (v :: vs)
    | _, _ => none
  | .cell _ _ :: _ => none
theorem resT_vs {P : Program} {L : List (Nat × Value)} {w : World} : ∀ (rs : List ResultVar) (vs : List Value), resT L rs = some vs → ResVs P L w rs vs
  | [], vs, h => by simp only [resT, Option.some.injEq] at h; subst h; trivial
  | .tmp t :: rs, vs, h => by
    simp only [resT] at h
    cases h1 : lk L t with
    | none => simp [h1] at h
    | some v =>
      cases h2 : resT L rs with
      | none => simp [h1, h2] at h
      | some us =>
        simp only [h1, h2, Option.some.injEq] at h
        subst h
        exact ⟨h1, resT_vs rs us h2⟩
  | .cell _ _ :: _, _, h => by simp [resT] at h
inductive Tk : List HP → List HP → List HP → Prop
  | n {l : List HP} : Tk [] l l
  | c {p : HP} {l l' r rest : List HP} : Rem l p l' → Tk r l' rest → Tk (p :: r) l rest
theorem Tk.perm {qs l rest : List HP} (h : Tk qs l rest) : l.Perm (qs ++ rest) := by
  induction h with
  | n => exact .refl _
  | c h _ ih => exact h.perm.trans (ih.cons _)
section
variable {P : Program} {ops : Array Oper} {Q Q' : Exit → Act → World → Prop} {rest : List Oper} {n : Nat} {L L1 L' : List (Nat × Value)} {a : Act} {w w0 : World} {R : Hh} {Ps Ps1 Ps' Qs : List HP} {F F1 F' : GF} {o : Oper} {d : Nat} {v : Value} {ty : TypeId} {pos : String} {aft : Array Edge} {x y : Code} {id : Nat} {l : List Oper} {b : Bool} {c : Operand} {K : Act → World → Prop} {C : World → Prop}
structure Av (n : Nat) (w0 : World) (R : Hh) (L : List (Nat × Value)) (Ps : List HP) (F : GF) (L' : List (Nat × Value)) (Ps' : List HP) (F' : GF) : Prop where
  g : Gl n w0 R L' Ps' F' → Gl n w0 R L Ps F
theorem x_ (h : Av n w0 R L Ps F L1 Ps1 F1) (t : Av n w0 R L1 Ps1 F1 L' Ps' F') : Av n w0 R L Ps F L' Ps' F' := ⟨fun k => h.g (t.g k)⟩
theorem av_r : Av n w0 R L Ps F L Ps F := ⟨fun k => k⟩
theorem v1_ {pt : List Nat} (he : effOp pt o = false) (s : Stp P ops n (Hp w0 R Ps) L o d v) : Av n w0 R L Ps (.li P ops Q (o :: rest)) ((d, v) :: L) Ps (.li P ops Q rest) := ⟨fun k a w hs m => s.g Q rest a w hs m fun a hs => k a w hs m⟩
theorem v2_ : Av n w0 R L Ps (.li P ops Q []) L Ps (.ex Q .normal) := ⟨fun k => k⟩
theorem v3_ : Av n w0 R L Ps (.ex (Exit.then (x.wp P Q) Q') .normal) L Ps (.co P x Q) := ⟨fun k => k⟩
theorem v4_ : Av n w0 R L Ps (.ex (Exit.then K Q') .normal) L Ps (.ex (fun _ => K) .normal) := ⟨fun k => k⟩
theorem v5_ : Av n w0 R L Ps (.ex (Exit.inBlock id Q) .normal) L Ps (.ex Q .normal) := ⟨fun k => k⟩
theorem v6_ : Av n w0 R L Ps (.co P (.seq (.region id l.toArray false) y) Q) L Ps (.li P l.toArray (Exit.then (y.wp P Q) Q) l) := ⟨fun k a w hs m => c_reg (k a w hs m)⟩
theorem v7_ : Av n w0 R L Ps (.co P (.region id l.toArray false) Q) L Ps (.li P l.toArray Q l) := ⟨fun k a w hs m => c_last (k a w hs m)⟩
theorem v8_ : Av n w0 R L Ps (.co P (.seq x y) Q) L Ps (.co P x (Exit.then (y.wp P Q) Q)) := ⟨fun k a w hs m => c_seq (k a w hs m)⟩
theorem v9_ : Av n w0 R L Ps (.co P .skip Q) L Ps (.ex Q .normal) := ⟨fun k a w hs m => wp_skip (k a w hs m)⟩
theorem v10_ : Av n w0 R L Ps (.co P (.block id x) Q) L Ps (.co P x (Exit.inBlock id Q)) := ⟨fun k a w hs m => wp_block (k a w hs m)⟩
theorem v11_ : Av n w0 R L Ps (.co P .ret Q) L Ps (.ex Q .ret) := ⟨fun k a w hs m => wp_ret (k a w hs m)⟩
theorem v12_ : Av n w0 R L Ps (.co P (.exit id) Q) L Ps (.ex Q (.exit id)) := ⟨fun k a w hs m => wp_exit (k a w hs m)⟩
theorem v13_ : Av n w0 R L Ps (.ex (Exit.then K Q) .ret) L Ps (.ex Q .ret) := ⟨fun k => k⟩
theorem v14_ : Av n w0 R L Ps (.ex (Exit.inBlock id Q) .ret) L Ps (.ex Q .ret) := ⟨fun k => k⟩
theorem v15_ : Av n w0 R L Ps (.ex (Exit.then K Q) (.exit id)) L Ps (.ex Q (.exit id)) := ⟨fun k => k⟩
theorem v16_ : Av n w0 R L Ps (.ex (Exit.inBlock id Q) (.exit id)) L Ps (.ex Q .normal) := ⟨fun k a w hs m => ex_hit (k a w hs m)⟩
theorem v17_ {i : Nat} (h : Nat.beq i id = false) : Av n w0 R L Ps (.ex (Exit.inBlock id Q) (.exit i)) L Ps (.ex Q (.exit i)) := ⟨fun k a w hs m => ex_miss h (k a w hs m)⟩
theorem v18_ (hc : ev L c = some (.bool false)) : Av n w0 R L Ps (.co P (.cond c x y) Q) L Ps (.co P y Q) := ⟨fun k a w hs m => c_false hs hc rfl (k a w hs m)⟩
theorem v19_ (hc : ev L c = some (.bool true)) : Av n w0 R L Ps (.co P (.cond c x y) Q) L Ps (.co P x Q) := ⟨fun k a w hs m => c_true hs hc rfl (k a w hs m)⟩
-- regions that draw their order and leave the heap alone
theorem v20_ {pt : List Nat} (hm : P.follows .mixedOrders = true) (hn : nextL pt l 0 = none) (hB : Region.lexB .any l.toArray = true) : Av n w0 R L Ps (.co P (.seq (.region id l.toArray true) y) Q) L Ps (.qu P l.toArray (Hp w0 R Ps) (.co P y Q) l) := ⟨fun k a w hs m => c_draw m hm hB (k a w hs m)⟩
theorem v21_ {pt : List Nat} (hm : P.follows .mixedOrders = true) (hn : nextL pt l 0 = none) (hB : Region.lexB .any l.toArray = true) : Av n w0 R L Ps (.co P (.region id l.toArray true) Q) L Ps (.qu P l.toArray (Hp w0 R Ps) (.ex Q .normal) l) := ⟨fun k a w hs m => c_drawLast m hm hB (k a w hs m)⟩
theorem v22_ (s : Stq P ops n C L o d v) : Av n w0 R L Ps (.qu P ops C F (o :: rest)) ((d, v) :: L) Ps (.qu P ops C F rest) := ⟨fun k a w hs m => s.g _ rest a hs fun a hs => k a w hs m⟩
theorem v30_ (hm : P.follows .mixedOrders = true) : Av n w0 R L Ps (.co P (.seq (.region id l.toArray true) y) Q) L Ps (.an P l.toArray (Exit.then (y.wp P Q) Q) 0) := ⟨fun k a w hs m => wp_seq (ra_begin hm (k a _ hs (m.drawn _)))⟩
theorem v31_ (hm : P.follows .mixedOrders = true) : Av n w0 R L Ps (.co P (.region id l.toArray true) Q) L Ps (.an P l.toArray Q 0) := ⟨fun k a w hs m => ra_begin hm (k a _ hs (m.drawn _))⟩
theorem v32_ {pt : List Nat} {k c : Nat} (hc : nextL pt (ops.toList.drop k) k = some (c, o)) (hB : segC ops k c = true) : Av n w0 R L Ps (.an P ops Q k) L Ps (.qu P ops (Hp w0 R Ps) (.li P ops (Exit.then (RA P ops Q (c + 1)) Q) [o]) ((ops.toList.drop k).take (c - k))) := ⟨fun kk a w hs m => by
  unfold segC at hB
  simp only [Bool.and_eq_true] at hB
  obtain ⟨⟨⟨h1, h2⟩, h3⟩, h4⟩ := hB
  obtain ⟨h5, h6⟩ := nextL_get hc
  have hlt := (segB_spec h1).1
  rw [List.getElem?_drop, show k + (c - k) = c by omega, Array.getElem?_toList] at h6
  have hlen : ((ops.toList.drop k).take (c - k)).length = c - k := by rw [List.length_take, List.length_drop, Array.length_toList]; omega
  refine ra_seg (C := Hp w0 R Ps) h1 h5 h2 h6 (fun j o ho => ?_) hlen (by rw [hlen]; exact h3) m (kk a w hs m) (downB_spec h4)
  have hj : j < c - k := by have := (List.getElem?_eq_some_iff.1 ho).1; omega
  rw [List.getElem?_take_of_lt hj, List.getElem?_drop, Array.getElem?_toList] at ho
  rw [stall_ne (by omega)]
  exact ho⟩
theorem v33_ {pt : List Nat} {k : Nat} (hc : nextL pt (ops.toList.drop k) k = none) (hB : endC ops k = true) : Av n w0 R L Ps (.an P ops Q k) L Ps (.qu P ops (Hp w0 R Ps) (.ex Q .normal) (ops.toList.drop k)) := ⟨fun kk a w hs m => by
  unfold endC at hB
  simp only [Bool.and_eq_true] at hB
  have hlen : (ops.toList.drop k).length = ops.size - k := by rw [List.length_drop, Array.length_toList]
  refine ra_end (C := Hp w0 R Ps) hB.1 (fun j o ho => ?_) hlen (by rw [hlen]; exact hB.2) m (kk a w hs m)
  rw [List.getElem?_drop, Array.getElem?_toList] at ho
  exact ho⟩
theorem v34_ {k : Nat} : Av n w0 R L Ps (.ex (Exit.then (RA P ops Q k) Q') .normal) L Ps (.an P ops Q k) := ⟨fun k => k⟩
theorem v23_ : Av n w0 R L Ps (.qu P ops (Hp w0 R Ps) F []) L Ps F := ⟨fun k a _ hs _ => wpQuiet_nil fun w' m' => k a w' hs m'⟩
end
section
variable {ops : Array Oper} {Q : Exit → Act → World → Prop} {rest : List Oper} {n : Nat} {L : List (Nat × Value)} {w w0 : World} {R : Hh} {Ps Pc Pr : List HP} {d : Nat} {v : Value} {ty : TypeId} {pos : String} {aft : Array Edge} {c : Operand} {f : FuncId} {first cap vs us : List Value} {xs : List Operand} {tys : Array TypeId} {P : Program} {pre : Prop}
theorem ctp_calls (h : ∀ R', hle R R' → (∃ y, SepL Pr y ∧ hle y R') → Ctp P f us R' Pc v) (hp : Tk Pc Ps Pr) (m : Hp w0 R Ps w) : Calls P f ⟨us⟩ w fun e w' => e = .returned v ∧ Hp w0 R Ps w' := by
  obtain ⟨R1, hR, hR2, sy, mc, back⟩ := Hp.split (Pc := Pc) (Ps := Pr) (m.perm hp.perm)
  refine (h R1 hR sy _ _ mc).mono fun e w' he => ?_
  obtain ⟨_, _, h1, h3⟩ := he
  exact ⟨h1, (back _ _ h3).perm hp.perm.symm⟩
theorem ctp_li (h : ∀ R', hle R R' → (∃ y, SepL Pr y ∧ hle y R') → Ctp P f us R' Pc v) (hp : Tk Pc Ps Pr) (hf : callable P f = true) (hc : ev L c = some (.func (.func f) ⟨first⟩ ⟨cap⟩)) (hx : evs L xs = some vs) (hu : first ++ vs ++ cap = us) (hd : Nat.blt d n = true) :
    Av n w0 R L Ps (.li P ops Q (⟨some d, .call ⟨.value c, ⟨xs⟩, tys⟩, ty, pos, aft, none⟩ :: rest)) ((d, v) :: L) Ps (.li P ops Q rest) := ⟨fun k a w hs m =>
  r_call (Rc := fun u w' => u = v ∧ Hp w0 R Ps w') hs hc hx hf hu ((ctp_calls h hp m).mono fun e w' he => ⟨v, he.1, rfl, he.2⟩) hd fun u w' he a' hs' => by obtain ⟨rfl, h2⟩ := he; exact k a' w' hs' h2⟩
theorem ctp_qu (h : ∀ R', hle R R' → (∃ y, SepL Pr y ∧ hle y R') → Ctp P f us R' Pc v) (hp : Tk Pc Ps Pr) (hf : callable P f = true) (hc : ev L c = some (.func (.func f) ⟨first⟩ ⟨cap⟩)) (hx : evs L xs = some vs) (hu : first ++ vs ++ cap = us) (hd : Nat.blt d n = true) {F : GF} :
    Av n w0 R L Ps (.qu P ops (Hp w0 R Ps) F (⟨some d, .call ⟨.value c, ⟨xs⟩, tys⟩, ty, pos, aft, none⟩ :: rest)) ((d, v) :: L) Ps (.qu P ops (Hp w0 R Ps) F rest) := ⟨fun k a w hs m =>
  q_call hs hc hx hf hu (fun w m => ctp_calls h hp m) hd fun a hs => k a w hs m⟩
end
/-! ### words of two parts -/
def pickPos (t : Nat) : List Oper → Nat → Option (Nat × Nat)
  | [], _ => none
  | o :: r, k => match o.op, o.dst with
    | .pick (.tmp t') _ _, some d => bif Nat.beq t' t then some (k + 1, d) else pickPos t r (k + 1)
    | _, _ => pickPos t r (k + 1)
def Ext (T L : List (Nat × Value)) : Prop := ∃ z, T.drop z = L ∧ apart (T.take z) L = true
theorem Spl.of : ∀ (k : Nat) (l : List Oper), Spl (l.take k) (l.drop k) l
  | 0, l => by simpa using Spl.n
  | _ + 1, [] => by simpa using Spl.n
  | k + 1, o :: l => by simpa using (Spl.of k l).c
section
variable {P : Program} {ops : Array Oper} {Q : Exit → Act → World → Prop} {n : Nat} {L T1 T2 : List (Nat × Value)} {w0 : World} {R : Hh} {Ps : List HP} {F : GF} {d t j k : Nat} {o : Oper} {rest : List Oper} {b c1 c2 want : Bool}
theorem Ext.st {T : List (Nat × Value)} {v : Value} {a : Act} (hs : St n ((d, v) :: T) a) (h : Ext T L) : St n ((d, v) :: L) a := by
  obtain ⟨z, rfl, h⟩ := h
  exact hs.ct z h
theorem wpQuiet_mono' {P : Program} {ops : Array Oper} {C : World → Prop} {Q Q' : Act → Prop} (h : ∀ a, Q a → Q' a) : ∀ {l : List Oper} {a : Act}, wpQuiet P ops C Q l a → wpQuiet P ops C Q' l a
  | [], a, k => h a k
  | o :: l, a, k => by
    unfold wpQuiet at k ⊢
    by_cases hw : Region.wanted o (yielded ops a.tmps) = true
    · rw [if_pos hw] at k ⊢
      exact Oper.quiet_mono (fun a => wpQuiet_mono' h) k
    · rw [if_neg hw] at k ⊢
      exact wpQuiet_mono' h k
theorem sc_ (hg : o.guard = some (j, want)) (hj : (ops[j]?).bind (·.dst) = some t) (ht : lk L t = some (.bool b)) (hk : pickPos t (o :: rest) 0 = some (k, d))
    (h1 : b = true → ∀ Q1, Av n w0 R L Ps (.li P ops Q1 ((o :: rest).take k)) ((d, .bool c1) :: T1) Ps (.li P ops Q1 [])) (h2 : b = false → ∀ Q1, Av n w0 R L Ps (.li P ops Q1 ((o :: rest).take k)) ((d, .bool c2) :: T2) Ps (.li P ops Q1 []))
    (e1 : Ext T1 L) (e2 : Ext T2 L) : Av n w0 R L Ps (.li P ops Q (o :: rest)) ((d, .bool (bif b then c1 else c2)) :: L) Ps (.li P ops Q ((o :: rest).drop k)) := ⟨fun kk a w hs m => by
  refine l_cut (Spl.of k _) (fun a w => St n ((d, .bool (bif b then c1 else c2)) :: L) a ∧ Hp w0 R Ps w) ?_ fun a w ⟨hs, m⟩ => kk a w hs m
  cases b
  · exact (h2 rfl _).g (fun a w hs m => wpList_nil (n_then ⟨e2.st hs, m⟩)) a w hs m
  · exact (h1 rfl _).g (fun a w hs m => wpList_nil (n_then ⟨e1.st hs, m⟩)) a w hs m⟩
theorem scq_ (hg : o.guard = some (j, want)) (hj : (ops[j]?).bind (·.dst) = some t) (ht : lk L t = some (.bool b)) (hk : pickPos t (o :: rest) 0 = some (k, d))
    (h1 : b = true → ∀ F1, Av n w0 R L Ps (.qu P ops (Hp w0 R Ps) F1 ((o :: rest).take k)) ((d, .bool c1) :: T1) Ps (.qu P ops (Hp w0 R Ps) F1 [])) (h2 : b = false → ∀ F1, Av n w0 R L Ps (.qu P ops (Hp w0 R Ps) F1 ((o :: rest).take k)) ((d, .bool c2) :: T2) Ps (.qu P ops (Hp w0 R Ps) F1 []))
    (e1 : Ext T1 L) (e2 : Ext T2 L) : Av n w0 R L Ps (.qu P ops (Hp w0 R Ps) F (o :: rest)) ((d, .bool (bif b then c1 else c2)) :: L) Ps (.qu P ops (Hp w0 R Ps) F ((o :: rest).drop k)) := ⟨fun kk a w hs m => by
  refine q_cut (Spl.of k _) (fun a => St n ((d, .bool (bif b then c1 else c2)) :: L) a) ?_ fun a hs => kk a w hs m
  cases b
  · exact wpQuiet_mono' (fun a h => h w m) ((h2 rfl (.ex (fun _ a _ => St n ((d, .bool c2) :: L) a) .normal)).g (fun a w hs m => wpQuiet_nil fun w' m' => e2.st hs) a w hs m)
  · exact wpQuiet_mono' (fun a h => h w m) ((h1 rfl (.ex (fun _ a _ => St n ((d, .bool c1) :: L) a) .normal)).g (fun a w hs m => wpQuiet_nil fun w' m' => e1.st hs) a w hs m)⟩
end
section
variable {P : Program} {ops : Array Oper} {Q : Exit → Act → World → Prop} {rest : List Oper} {n : Nat} {L L1 L' : List (Nat × Value)} {w w0 : World} {R : Hh} {Ps Ps1 Ps' Qs : List HP} {F F' : GF} {d : Nat} {v : Value} {ty : TypeId} {pos : String} {aft : Array Edge} {x y : Code} {id : Nat} {c : Operand} {b : Bool}
theorem cond_ (ht : b = true → Gl n w0 R L Ps (.co P x Q)) (hf : b = false → Gl n w0 R L Ps (.co P y Q)) (hc : ev L c = some (.bool b)) : Gl n w0 R L Ps (.co P (.cond c x y) Q) :=
  fun a w hs m => c_cond hs hc (fun h => ht h a w hs m) (fun h => hf h a w hs m)
theorem ret_ {τ : Type} {fn : Func} {rs : List ResultVar} {vs : List Value} {φ : τ → Prop} {V : τ → Value} {Z : τ → List HP} (x : τ) (k : φ x) (hv : pack vs = V x) (hz : Sub (Z x) Ps) (hr : fn.results = ⟨rs⟩) (h : resT L rs = some vs) :
    Gl n w0 R L Ps (.ex (bodyPost P fn fun e w' => ∃ x, φ x ∧ e = .returned (V x) ∧ Hp w0 R (Z x) w') .ret) :=
  fun a w hs m => leave hs hr (resT_vs rs vs h) ⟨x, k, by rw [hv], m.sub hz⟩
theorem retN_ {τ : Type} {fn : Func} {φ : τ → Prop} {V : τ → Value} {Z : τ → List HP} (x : τ) (k : φ x) (hv : pack [] = V x) (hz : Sub (Z x) Ps) (hr : fn.results = ⟨[]⟩) :
    Gl n w0 R L Ps (.ex (bodyPost P fn fun e w' => ∃ x, φ x ∧ e = .returned (V x) ∧ Hp w0 R (Z x) w') .normal) :=
  fun a w hs m => leaveN hs (rs := []) (vs := []) hr trivial ⟨x, k, by rw [hv], m.sub hz⟩
theorem enter_ {τ : Type} {f : FuncId} {fn : Func} {c : Code} {args : List Value} {φ : τ → Prop} {V : τ → Value} {Z : τ → List HP} (hf : P.funcs[f]? = some fn) (hb : fn.body = some c) (hn : fn.ntmps = n) (ha : Nat.ble args.length n = true)
    (h : ∀ w0, Gl n w0 R (num 0 args) Ps (.co P c (bodyPost P fn fun e w' => ∃ x, φ x ∧ e = .returned (V x) ∧ Hp w0 R (Z x) w'))) : Ctr P f args R Ps φ V Z :=
  fun w0 w m => enter hf hb hn ha fun a hs => h w0 a w hs m
theorem v26_ {T E : TypeId} {ag : Bool} {x y : Operand} {p : Addr} {o s : Nat} {cs vs cs' : List Value} (hx : ev L x = some (.pointer (some (padd p o)))) (hy : ev L y = some v) (ht : tyI P T = some (ag, s)) (hv : v.cells = ⟨vs⟩) (hP : Swp Ps (Bx p E cs) (Bx p E cs') Qs) (hc : putAt cs o vs = cs')
    (hq : (vs.length == s && Nat.ble (o + s) cs.length && ones vs) = true) : Av n w0 R L Ps (.li P ops Q (⟨none, .store T x y, ty, pos, aft, none⟩ :: rest)) L Qs (.li P ops Q rest) :=
  ⟨fun k a w hs m => by
    rw [Bool.and_eq_true, Bool.and_eq_true] at hq
    exact r_store hs m hx hy ht hP hv (eq_of_beq hq.1.1) hq.1.2 hq.2 hc fun w m => k a w hs m⟩
theorem v28_ {α : Type} {c : α → List Value} {e : α} {T E : TypeId} {ag : Bool} {x y : Operand} {p : Addr} {o s : Nat} {cs vs cs' : List Value} (hx : ev L x = some (.pointer (some (padd p o)))) (hy : ev L y = some v) (ht : tyI P T = some (ag, s)) (hv : v.cells = ⟨vs⟩) (hP : Swp Ps (Bx p E cs) (Bx p E (c e)) Qs) (hr : TyR E α c) (hc : putAt cs o vs = cs') (he : Mk c cs' e)
    (hq : (vs.length == s && Nat.ble (o + s) cs.length && ones vs) = true) : Av n w0 R L Ps (.li P ops Q (⟨none, .store T x y, ty, pos, aft, none⟩ :: rest)) L Qs (.li P ops Q rest) := v26_ hx hy ht hv hP (hc.trans he.h.symm) hq
theorem v27_ {α : Type} {c : α → List Value} {k z : Nat} {T E : TypeId} {ag : Bool} {x y : Operand} {X : SH} {xs : List α} {i : Int} {o : Nat} {vs : List Value} {e' : α} (hx : ev L x = some (.pointer (some (padd (X.at k i) o)))) (hy : ev L y = some v) (ht : tyI P T = some (ag, z)) (hv : v.cells = ⟨vs⟩)
    (hP : Rem Ps (Sv k E X.v (xs.map c)) Qs) (h0 : 0 ≤ i) (h1 : i < xs.length) (iα : Inhabited α) {cs' : List Value} (hc : putAt (c (el xs i)) o vs = cs') (he : Mk c cs' e') (hq : (vs.length == z && Nat.ble (o + z) k && ones vs) = true) : Av n w0 R L Ps (.li P ops Q (⟨none, .store T x y, ty, pos, aft, none⟩ :: rest)) L (Sv k E X.v ((xs.set i.toNat e').map c) :: Qs) (.li P ops Q rest) :=
  ⟨fun kk a w hs m => by
    rw [Bool.and_eq_true, Bool.and_eq_true] at hq
    exact r_storeEl hs m hx hy hP (at_elem (m.rdv hP) h0 h1).1 (el_get h1 h0) ht hv (eq_of_beq hq.1.1) hq.1.2 hq.2 (hc.trans he.h.symm) fun w m => kk a w hs m⟩
theorem v29_ {α : Type} {c : α → List Value} {k : Nat} {T E : TypeId} {ag : Bool} {x y : Operand} {X : SH} {xs : List α} {i : Int} {u : α} (hx : ev L x = some (.pointer (some (padd (X.at k i) 0)))) (hy : ev L y = some v) (ht : tyI P T = some (ag, k)) (hP : Rem Ps (Sv k E X.v (xs.map c)) Qs) (hv : v.cells = ⟨c u⟩) (h0 : 0 ≤ i) (h1 : i < xs.length) (hk : Cs c k) :
    Av n w0 R L Ps (.li P ops Q (⟨none, .store T x y, ty, pos, aft, none⟩ :: rest)) L (Sv k E X.v ((xs.set i.toNat u).map c) :: Qs) (.li P ops Q rest) := ⟨fun kk a w hs m => by
  have iα : Inhabited α := ⟨u⟩
  have hc : putAt (c (el xs i)) 0 (c u) = c u := by rw [putAt_eq _ _ _ (by rw [hk.l, hk.l]; omega), hk.l]; simp [List.drop_of_length_le, hk.l]
  exact r_storeEl hs m hx hy hP (at_elem (m.rdv hP) h0 h1).1 (el_get h1 h0) ht hv (hk.l u) (by simp [Nat.ble_eq]) (hk.o u) hc fun w m => kk a w hs m⟩
theorem box_ {E : TypeId} {x : Operand} {cs : List Value} (k : ∀ p, Gl n w0 R ((d, .pointer (some (padd p 0))) :: L) (Bx p E cs :: Ps) (.li P ops Q rest)) (hx : ev L x = some v) (hc : v.cells = ⟨cs⟩) (hd : Nat.blt d n = true) :
    Gl n w0 R L Ps (.li P ops Q (⟨some d, .box E x, ty, pos, aft, none⟩ :: rest)) := fun a w hs m => r_box hs m hx hc hd fun p w' m' a' hs' => k p a' w' hs' m'
theorem alloc_ {E : TypeId} {cs : List Value} (k : ∀ p, Gl n w0 R ((d, .pointer (some (padd p 0))) :: L) (Bx p E cs :: Ps) (.li P ops Q rest)) (hz : zeI P E = some cs) (hd : Nat.blt d n = true) :
    Gl n w0 R L Ps (.li P ops Q (⟨some d, .alloc E, ty, pos, aft, none⟩ :: rest)) := fun a w hs m => r_alloc hs m hz hd fun p w' m' a' hs' => k p a' w' hs' m'
theorem slice_ {α : Type} {c : α → List Value} {ys : List α} {T E : TypeId} {ag : Bool} {k len : Nat} {ps : List (Nat × Operand)} {vs : List (Nat × Value)} {zs : List Value} (kk : ∀ X : SH, Gl n w0 R ((d, X.v) :: L) (Sv k E X.v (ys.map c) :: Ps) (.li P ops Q rest)) (hT : slI P T = some E) (hE : tyI P E = some (ag, k)) (hz : zeI P E = some zs) (hzl : zs.length = k)
    (hx : partsOf L ps = some vs) (hf : fromI 0 vs = true) (hl : vs.length = len) (hd' : vs.map (fun x => x.2.cells.toList) = ys.map c) (hk : Cs c k) (hsz : Nat.ble (len * k) 16777216 = true) (hsl : Nat.ble len 16777216 = true) (hd : Nat.blt d n = true) :
    Gl n w0 R L Ps (.li P ops Q (⟨some d, .buildSlice T len ⟨ps⟩, ty, pos, aft, none⟩ :: rest)) := fun a w hs m => r_buildM hs m hT hE hz hzl hx hf hl hd' hk.l hsz hsl hd fun X w' m' a' hs' => kk X a' w' hs' m'
theorem append_ {α : Type} {c : α → List Value} {xs ys : List α} {T T2 E : TypeId} {ag : Bool} {k bytes : Nat} {x y : Operand} {X Y : SH} {zs : List Value} (kk : ∀ Z : SH, Gl n w0 R ((d, Z.v) :: L) (Sv k E Z.v ((xs ++ ys).map c) :: Qs) (.li P ops Q rest)) (hx : ev L x = some X.v) (hy : ev L y = some Y.v)
    (hT : slI P T = some E) (hT2 : notInt P T2 = true) (hE : tyI P E = some (ag, k)) (hz : zeI P E = some zs) (hzl : zs.length = k) (hb : byI P E = some bytes) (hbb : Nat.ble bytes 4096 = true)
    (hP : Rem Ps (Sv k E X.v (xs.map c)) Qs) (hu : RC (Hp w0 R Ps) k Y.v (ys.map c)) (ho : Cs c k) (hlen : xs.length + ys.length ≤ 140737488355328 ∧ (2 * (xs.length + ys.length) + 192) * bytes ≤ 281474976710656) (hd : Nat.blt d n = true) :
    Gl n w0 R L Ps (.li P ops Q (⟨some d, .call ⟨.builtin .append, #[x, y], #[T, T2]⟩, ty, pos, aft, none⟩ :: rest)) := fun a w hs m => r_appendM hs m hx hy hT hT2 hE hz hzl hb hbb hP (hu w m) ho.o hlen hd fun Z w' m' a' hs' => kk Z a' w' hs' m'
theorem nil_ {α : Type} (c : α → List Value) (k : Nat) (E : TypeId) (kk : Gl n w0 R L (Sv k E nilH.v (([] : List α).map c) :: Ps) F) : Gl n w0 R L Ps F := fun a w hs m => kk a w hs (m.nilSvM c k E)
theorem call_ {τ : Type} {f : FuncId} {first cap vs us : List Value} {Pc Pr : List HP} {xs : List Operand} {tys : Array TypeId} {φ : τ → Prop} {V : τ → Value} {Z : τ → List HP}
    (h : ∀ R', hle R R' → (∃ y, SepL Pr y ∧ hle y R') → Ctr P f us R' Pc φ V Z) (k : ∀ x, φ x → Gl n w0 R ((d, V x) :: L) (Z x ++ Pr) (.li P ops Q rest)) (hp : Tk Pc Ps Pr)
    (hf : callable P f = true) (hc : ev L c = some (.func (.func f) ⟨first⟩ ⟨cap⟩)) (hx : evs L xs = some vs) (hu : first ++ vs ++ cap = us) (hd : Nat.blt d n = true) :
    Gl n w0 R L Ps (.li P ops Q (⟨some d, .call ⟨.value c, ⟨xs⟩, tys⟩, ty, pos, aft, none⟩ :: rest)) := fun a w hs m => by
  obtain ⟨R1, hR, hR2, sy, mc, back⟩ := Hp.split (Pc := Pc) (Ps := Pr) (m.perm hp.perm)
  refine r_call (Rc := fun v w' => ∃ x, φ x ∧ v = V x ∧ Hp w R1 (Z x) w') hs hc hx hf hu ((h R1 hR sy _ _ mc).mono fun e w' he => ?_) hd fun v w' he a' hs' => ?_
  · obtain ⟨x, h1, h2, h3⟩ := he
    exact ⟨_, h2, x, h1, rfl, h3⟩
  · obtain ⟨x, h1, rfl, h3⟩ := he
    exact k x h1 a' w' hs' (back _ _ h3)
end
/-! ### loops and joins -/
def kin : List Nat → Nat → Bool
  | [], _ => false
  | i :: l, j => Nat.beq i j || kin l j
def keys (L : List (Nat × Value)) : List Nat := L.map (·.1)
def vals (L : List (Nat × Value)) : List (Nat × Value) → Prop
  | [] => True
  | (i, v) :: r => lk L i = some v ∧ vals L r
theorem vals_lk {L : List (Nat × Value)} : ∀ {M : List (Nat × Value)}, vals L M → ∀ i v, lk M i = some v → lk L i = some v
  | [], _, i, v, h => by simp [lk] at h
  | (j, u) :: r, hs, i, v, h => by
    by_cases e : j = i
    · subst e
      rw [lk_hit] at h
      simp only [Option.some.injEq] at h
      subst h
      exact hs.1
    · rw [lk_miss _ _ e] at h
      exact vals_lk hs.2 i v h
theorem lk_app_none {M L : List (Nat × Value)} {i : Nat} (h : lk M i = none) : lk (M ++ L) i = lk L i := by
  induction M with
  | nil => rfl
  | cons e M ih =>
    obtain ⟨j, u⟩ := e
    by_cases hj : j = i
    · subst hj; rw [lk_hit] at h; cases h
    · rw [lk_miss _ _ hj] at h
      rw [List.cons_append, lk_miss _ _ hj]
      exact ih h
theorem lk_app_some {M L : List (Nat × Value)} {i : Nat} {v : Value} (h : lk M i = some v) : lk (M ++ L) i = some v := by
  induction M with
  | nil => simp [lk] at h
  | cons e M ih =>
    obtain ⟨j, u⟩ := e
    by_cases hj : j = i
    · subst hj; rw [lk_hit] at h; rw [List.cons_append, lk_hit]; exact h
    · rw [lk_miss _ _ hj] at h
      rw [List.cons_append, lk_miss _ _ hj]
      exact ih h
theorem lk_none_of_kin {M : List (Nat × Value)} {i : Nat} (h : kin (keys M) i = false) : lk M i = none := by
  induction M with
  | nil => rfl
  | cons e M ih =>
    obtain ⟨j, u⟩ := e
    simp only [keys, List.map_cons, kin, Bool.or_eq_false_iff] at h
    have : j ≠ i := fun e => by rw [e, Nat.beq_refl] at h; cases h.1
    rw [lk_miss _ _ this]
    exact ih h.2
theorem lk_of_kin {M : List (Nat × Value)} {i : Nat} (h : kin (keys M) i = true) : ∃ v, lk M i = some v := by
  induction M with
  | nil => simp [kin, keys] at h
  | cons e M ih =>
    obtain ⟨j, u⟩ := e
    by_cases hj : j = i
    · subst hj; exact ⟨u, lk_hit _ _ _⟩
    · rw [lk_miss _ _ hj]
      simp only [keys, List.map_cons, kin, Bool.or_eq_true] at h
      rcases h with h | h
      · exact absurd (Nat.eq_of_beq_eq_true h) hj
      · exact ih h
def Bk (L M L0 : List (Nat × Value)) : Prop := vals L M ∧ L.drop (L.length - L0.length) = L0 ∧ (keys L0).all (fun i => kin (keys M) i || !kin (keys (L.take (L.length - L0.length))) i) = true
theorem mem_of_kin : ∀ {l : List Nat} {i : Nat}, kin l i = true → i ∈ l
  | j :: l, i, h => by
    simp only [kin, Bool.or_eq_true] at h
    rcases h with h | h
    · rw [Nat.eq_of_beq_eq_true h]; exact List.mem_cons_self
    · exact List.mem_cons_of_mem _ (mem_of_kin h)
theorem St.bk {n : Nat} {L M L0 : List (Nat × Value)} {a : Act} (hs : St n L a) (h : Bk L M L0) : St n (M ++ L0) a := hs.weak fun i v hv => by
  cases hm : lk M i with
  | some u =>
    rw [lk_app_some hm] at hv
    simp only [Option.some.injEq] at hv
    subst hv
    exact vals_lk h.1 i u hm
  | none =>
    rw [lk_app_none hm] at hv
    have hk : kin (keys L0) i = true := by
      cases hc : kin (keys L0) i with
      | true => rfl
      | false => rw [lk_none_of_kin hc] at hv; cases hv
    have h2 := List.all_eq_true.1 h.2.2 i (mem_of_kin hk)
    have hkm : kin (keys M) i = false := by
      cases hc : kin (keys M) i with
      | false => rfl
      | true => obtain ⟨u, hu⟩ := lk_of_kin hc; rw [hm] at hu; cases hu
    rw [hkm] at h2
    simp only [Bool.false_or, Bool.not_eq_true'] at h2
    rw [← List.take_append_drop (L.length - L0.length) L, lk_app_none (lk_none_of_kin h2), h.2.1]
    exact hv
def LN {ι : Type} (n : Nat) (w0 : World) (R : Hh) (I : ι → List (Nat × Value)) (J : ι → List HP) (φ : ι → Prop) (μ : ι → Nat) (m : Nat) : Act → World → Prop := fun a w => ∃ j, φ j ∧ μ j < m ∧ St n (I j) a ∧ Hp w0 R (J j) w
def JN {ι : Type} (n : Nat) (w0 : World) (R : Hh) (I : ι → List (Nat × Value)) (J : ι → List HP) (φ : ι → Prop) : Act → World → Prop := fun a w => ∃ j, φ j ∧ St n (I j) a ∧ Hp w0 R (J j) w
section
variable {ι : Type} {P : Program} {Q : Exit → Act → World → Prop} {n : Nat} {L L0 M0 T : List (Nat × Value)} {w w0 : World} {R : Hh} {Ps Pr : List HP} {F : GF} {x y c : Code} {id m : Nat}
theorem loop_ (M : ι → List (Nat × Value)) (J : ι → List HP) (φ : ι → Prop) (μ : ι → Nat) (i0 : ι) (h0 : φ i0) (k : ∀ i, φ i → Gl n w0 R (M i ++ L) (J i ++ Pr) (.co P c (Exit.then (LN n w0 R (fun i => M i ++ L) (fun i => J i ++ Pr) φ μ (μ i)) Q)))
    (hP : Tk (J i0) Ps Pr) (hL : vals L (M i0)) : Gl n w0 R L Ps (.co P (.loop c) Q) := fun a w hs ms => by
  refine wp_loop_ghost (fun m a w => ∃ i, φ i ∧ μ i = m ∧ St n (M i ++ L) a ∧ Hp w0 R (J i ++ Pr) w) (μ i0) ⟨i0, h0, rfl, hs.weak ?_, ms.perm hP.perm⟩ ?_
  · intro i v hv
    cases hm : lk (M i0) i with
    | some u => rw [lk_app_some hm] at hv; simp only [Option.some.injEq] at hv; subst hv; exact vals_lk hL i u hm
    | none => rw [lk_app_none hm] at hv; exact hv
  · rintro _ a w ⟨i, h1, rfl, h2, h3⟩
    refine Code.wp_mono (fun e a w q => ?_) (k i h1 a w h2 h3)
    cases e <;> first | exact q | (obtain ⟨j, h4, h5, h6, h7⟩ := q; exact ⟨μ j, h5, j, h4, rfl, h6, h7⟩)
theorem back_ {M : ι → List (Nat × Value)} {J : ι → List HP} {φ : ι → Prop} {μ : ι → Nat} (j : ι) (h1 : φ j) (h2 : μ j < m) (hL : Bk L (M j) L0) (hP : Sub (J j ++ Pr) Ps) :
    Gl n w0 R L Ps (.ex (fun _ => LN n w0 R (fun i => M i ++ L0) (fun i => J i ++ Pr) φ μ m) .normal) := fun a w hs ms => ⟨j, h1, h2, hs.bk hL, ms.sub hP⟩
end
end Go.Proofs.YtdallmabajeajaaGreatDoor.Fw
set_option linter.all false
namespace Go.Proofs.YtdallmabajeajaaGreatDoor.Fw
open Go
def kvs (es : Array MapEntry) : List (Value × Value) := es.toList.map fun e => (e.key, e.val)
@[reducible] def vInt (k : IntKind) (n : Int) : Value := .int k n
def vAgg {α : Type} (c : α → List Value) (x : α) : Value := .agg ⟨c x⟩
def Mp {κ ν : Type} (r : Nat) (kc : κ → Value) (vc : ν → Value) (m : List (κ × ν)) : HP := fun h =>
  ∃ (es : Array MapEntry) (clock : Nat), kvs es = m.map (fun x => (kc x.1, vc x.2)) ∧ (es.toList.map (·.born)).Pairwise (· < ·) ∧ (∀ e ∈ es.toList, e.born < clock) ∧ h = hone r (.map es clock)
structure KeyOK (P : Program) (kt : TypeId) {κ : Type} [DecidableEq κ] (kc : κ → Value) : Prop where
  find : ∀ (k : κ) (l : List MapEntry) (ks : List κ) (w : World), l.map (·.key) = ks.map kc → (Instr.findKey kt (kc k) l).run P w = .ok ((ks.findIdx? (fun x => decide (k = x))).bind fun i => (l[i]?).map fun e => (i, e.val)) w
  check : ∀ (e : Bool) (k : κ) (w : World), (Instr.checkKey e 10000 kt (kc k)).run P w = .ok () w
  same : ∀ k, Instr.sameBits 10000 (kc k) (kc k) = true
section
variable {κ ν : Type} [DecidableEq κ]
def midx (m : List (κ × ν)) (k : κ) : Option Nat := (m.map (·.1)).findIdx? (fun x => decide (k = x))
def mget (m : List (κ × ν)) (k : κ) : Option ν := (midx m k).bind fun i => (m[i]?).map (·.2)
def mset (m : List (κ × ν)) (k : κ) (v : ν) : List (κ × ν) := match midx m k with
  | some i => m.set i (k, v)
  | none => m ++ [(k, v)]
def mdel (m : List (κ × ν)) (k : κ) : List (κ × ν) := match midx m k with
  | some i => m.eraseIdx i
  | none => m
theorem midx_get {m : List (κ × ν)} {k : κ} {i : Nat} (h : midx m k = some i) : ∃ v, m[i]? = some (k, v) := by
  unfold midx at h
  rw [List.findIdx?_eq_some_iff_getElem] at h
  obtain ⟨h1, h2, _⟩ := h
  simp only [List.length_map] at h1
  simp only [List.getElem_map, decide_eq_true_eq] at h2
  exact ⟨m[i].2, by rw [List.getElem?_eq_getElem h1, h2]⟩
end
theorem key_int {P : Program} {kt : TypeId} {kk : IntKind} (h : P.underlying kt = some (.int kk)) : KeyOK P kt (vInt kk) where
  find k l ks w hl := by
    have key : ∀ (l : List MapEntry) (ks : List Int) (i : Nat), l.map (·.key) = ks.map (fun n : Int => Value.int kk n) → Instr.findNow (.int kk) (.int kk k) l i = some ((ks.findIdx? (fun x => decide (k = x))).bind fun j => (l[j]?).map fun e => (i + j, e.val)) := by
      intro l
      induction l with
      | nil => intro ks i hl; cases ks <;> simp_all [Instr.findNow]
      | cons e l ih =>
        intro ks i hl
        cases ks with
        | nil => simp at hl
        | cons a ks =>
          simp only [List.map_cons, List.cons.injEq] at hl
          have h2 := ih ks (i + 1) hl.2
          simp only [Instr.findNow, hl.1, Instr.sameNow, if_true]
          by_cases hk : k = a
          · subst hk; simp [List.findIdx?_cons]
          · have : (k == a) = false := by simpa using hk
            rw [this]
            simp only [h2, List.findIdx?_cons, hk, decide_false, Bool.false_eq_true, if_false]
            cases List.findIdx? (fun x => decide (k = x)) ks <;> simp
            rename_i j
            cases l[j]? <;> simp
            omega
    exact MapKept.run_findKey h (by simpa using key l ks 0 hl)
  check e k w := MapKept.run_checkKey h (by simp [MapKept.IsKey]) e 9999
  same k := by simp [Instr.sameBits]
def zvI (P : Program) (T : TypeId) : Option Value := (P.info? T).bind (·.zero)
theorem run_zero {P : Program} {T : TypeId} {z : Value} (h : zvI P T = some z) (w : World) : (zeroValue T).run P w = .ok z w := by
  unfold zvI at h
  cases hi : P.info? T with
  | none => simp [hi] at h
  | some i =>
    simp only [hi, Option.bind_some] at h
    simp [zeroValue, typeInfo, bind, Sem.bind, Sem.run, Sem.run_bind', program, hi, h, pure, Result.andThen]
section
variable {κ ν : Type} {iκ : DecidableEq κ} {kc : κ → Value} {vc : ν → Value} {ms : List (κ × ν)} {P : Program} {w w0 : World} {R : Hh} {Ps Qs : List HP} {r : Nat} {K V T : TypeId} {k : κ} {u : ν} {z : Value}
theorem look_map (m : Hp w0 R Ps w) (hP : Rem Ps (Mp r kc vc ms) Qs) : ∃ (es : Array MapEntry) (clock : Nat), kvs es = ms.map (fun x => (kc x.1, vc x.2)) ∧ (es.toList.map (·.born)).Pairwise (· < ·) ∧ (∀ e ∈ es.toList, e.born < clock) ∧ w.heap[r]? = some (.map es clock) := by
  obtain ⟨g, ⟨es, clock, h1, h2, h3, h4⟩, l⟩ := m.look hP
  exact ⟨es, clock, h1, h2, h3, l r _ (by rw [h4]; simp [hone])⟩
theorem kvs_keys {es : Array MapEntry} (h : kvs es = ms.map (fun x => (kc x.1, vc x.2))) : es.toList.map (·.key) = (ms.map (·.1)).map kc := by
  have := congrArg (List.map Prod.fst) h
  simpa [kvs, List.map_map, Function.comp_def] using this
theorem kvs_at {es : Array MapEntry} (h : kvs es = ms.map (fun x => (kc x.1, vc x.2))) (i : Nat) : (es.toList[i]?).map (fun e => (e.key, e.val)) = (ms[i]?).map fun x => (kc x.1, vc x.2) := by
  have := congrArg (·[i]?) h
  simpa [kvs, List.getElem?_map] using this
theorem run_find (hK : KeyOK P K kc) {es : Array MapEntry} (h : kvs es = ms.map (fun x => (kc x.1, vc x.2))) (k : κ) (w : World) : (Instr.findKey K (kc k) es.toList).run P w = .ok ((midx ms k).bind fun i => (mget ms k).map fun u => (i, vc u)) w := by
  rw [hK.find k es.toList (ms.map (·.1)) w (kvs_keys h)]
  congr 1
  show (midx ms k).bind _ = _
  unfold mget
  cases hi : midx ms k with
  | none => rfl
  | some i =>
    simp only [Option.bind_some, Option.map_map]
    have := kvs_at h i
    cases he : es.toList[i]? with
    | none => rw [he] at this; simp only [Option.map_none] at this; cases hm : ms[i]? <;> simp_all
    | some e =>
      rw [he] at this
      cases hm : ms[i]? with
      | none => simp_all
      | some x => simp_all [Function.comp_def]
theorem run_lookup (hT : maI P T = some (K, V)) (hz : zvI P V = some z) (hK : KeyOK P K kc) (m : Hp w0 R Ps w) (hP : Rem Ps (Mp r kc vc ms) Qs) (c : Bool) :
    (Instr.lookup T (.map (some r)) (kc k) c).run P w = .ok (if c then .tuple ⟨[((mget ms k).map vc).getD z, .bool (mget ms k).isSome]⟩ else ((mget ms k).map vc).getD z) w := by
  obtain ⟨es, clock, h1, h2, h3, h4⟩ := look_map m hP
  have hT' := maI_spec hT
  unfold Instr.lookup
  simp only [bind, Sem.run_bind', run_underlying hT', Result.andThen, MapKept.run_getObj_map h4, pure, Sem.run, hK.check, run_find hK h1]
  cases hi : midx ms k with
  | none =>
    have : mget ms k = none := by simp [mget, hi]
    simp [this, Sem.run_bind', run_zero hz, Result.andThen, pure, Sem.run]
  | some i =>
    obtain ⟨v, hv⟩ := midx_get hi
    have : mget ms k = some v := by simp [mget, hi, hv]
    simp [this, Sem.run_bind', Result.andThen, pure, Sem.run]
section
variable {C : World → Prop} {L : List (Nat × Value)} {od : Option Tmp} {ty : TypeId} {pos : String} {aft : Array Edge} {gd : Option (Nat × Bool)} {x y v : Operand} {n d : Nat} {ops : Array Oper} {Q : Exit → Act → World → Prop} {rest : List Oper}
theorem h1_ (hx : ev L x = some (.map (some r))) (hk : ev L y = some (kc k)) (hT : maI P T = some (K, V)) (hz : zvI P V = some z) (hP : Rem Ps (Mp r kc vc ms) Qs) (hK : KeyOK P K kc) : OkS P (Hp w0 R Ps) L ⟨od, .lookup T x y true, ty, pos, aft, gd⟩ (.tuple ⟨[((mget ms k).map vc).getD z, .bool (mget ms k).isSome]⟩) := ⟨fun ρ ha w hw => by
  have := run_lookup (k := k) hT hz hK hw hP true
  simp [execOp, ha x _ hx, ha y _ hk, bind, Sem.run_bind', this, pure, Sem.run, Result.andThen]⟩
theorem h2_ (hx : ev L x = some (.map (some r))) (hk : ev L y = some (kc k)) (hT : maI P T = some (K, V)) (hz : zvI P V = some z) (hP : Rem Ps (Mp r kc vc ms) Qs) (hK : KeyOK P K kc) : OkS P (Hp w0 R Ps) L ⟨od, .lookup T x y false, ty, pos, aft, gd⟩ (((mget ms k).map vc).getD z) := ⟨fun ρ ha w hw => by
  have := run_lookup (k := k) hT hz hK hw hP false
  simp [execOp, ha x _ hx, ha y _ hk, bind, Sem.run_bind', this, pure, Sem.run, Result.andThen]⟩
theorem h3_ (hx : ev L x = some (.map (some r))) (hT : maI P T = some (K, V)) (hP : Rem Ps (Mp r kc vc ms) Qs) : OkS P (Hp w0 R Ps) L ⟨od, .call ⟨.builtin .len, #[x], #[T]⟩, ty, pos, aft, gd⟩ (.int .i64 (ms.length : Int)) := ⟨fun ρ ha w hw => by
  obtain ⟨es, clock, h1, h2, h3, h4⟩ := look_map hw hP
  have hT' := maI_spec hT
  have hl : es.size = ms.length := by have := congrArg List.length h1; simpa [kvs] using this
  simp [execOp, resolve, invoke, builtin, Builtin.len_, ha x _ hx, bind, Sem.run_bind', run_underlying hT', MapKept.run_getObj_map h4, pure, Sem.run, Result.andThen, goInt, hl]⟩
theorem h4_ {u0 : ν} (hx : ev L x = some (.map (some r))) (hP : Rem Ps (Mp r kc vc ms) Qs) (hk : ev L y = some (kc k)) (hT : maI P T = some (K, V)) (hK : KeyOK P K kc) (hz : zvI P V = some (vc u0)) : OkS P (Hp w0 R Ps) L ⟨od, .lookup T x y true, ty, pos, aft, gd⟩ (.tuple ⟨[vc ((mget ms k).getD u0), .bool (mget ms k).isSome]⟩) := by
  have := h1_ (od := od) (ty := ty) (pos := pos) (aft := aft) (gd := gd) (w0 := w0) (R := R) hx hk hT hz hP hK
  cases h : mget ms k <;> simpa [h] using this
theorem h5_ {u0 : ν} (hx : ev L x = some (.map (some r))) (hP : Rem Ps (Mp r kc vc ms) Qs) (hk : ev L y = some (kc k)) (hT : maI P T = some (K, V)) (hK : KeyOK P K kc) (hz : zvI P V = some (vc u0)) : OkS P (Hp w0 R Ps) L ⟨od, .lookup T x y false, ty, pos, aft, gd⟩ (vc ((mget ms k).getD u0)) := by
  have := h2_ (od := od) (ty := ty) (pos := pos) (aft := aft) (gd := gd) (w0 := w0) (R := R) hx hk hT hz hP hK
  cases h : mget ms k <;> simpa [h] using this
theorem Hp.turn {o o' : Obj} {w' : World} (m : Hp w0 R ((fun h => h = hone r o) :: Ps) w) (hw : w'.heap = w.heap.setIfInBounds r o') (hos : w'.os = w.os) (htape : w'.tape = w.tape) (hout : w'.output = w.output ∧ w.drawn ≤ w'.drawn) : Hp w0 R ((fun h => h = hone r o') :: Ps) w' := m.block hw hos htape hout
theorem Mp.un (m : Hp w0 R Ps w) (hP : Rem Ps (Mp r kc vc ms) Qs) : ∃ (es : Array MapEntry) (clock : Nat), kvs es = ms.map (fun x => (kc x.1, vc x.2)) ∧ (es.toList.map (·.born)).Pairwise (· < ·) ∧ (∀ e ∈ es.toList, e.born < clock) ∧ w.heap[r]? = some (.map es clock) ∧ Hp w0 R ((fun h => h = hone r (.map es clock)) :: Qs) w := by
  obtain ⟨g, ⟨es, clock, h1, h2, h3, h4⟩, l, m'⟩ := (m.front hP).exact
  exact ⟨es, clock, h1, h2, h3, l r _ (by rw [h4]; simp [hone]), by rw [h4] at m'; exact m'⟩
theorem Mp.mk' {es : Array MapEntry} {clock : Nat} (m : Hp w0 R ((fun h => h = hone r (.map es clock)) :: Qs) w) (h1 : kvs es = ms.map (fun x => (kc x.1, vc x.2))) (h2 : (es.toList.map (·.born)).Pairwise (· < ·)) (h3 : ∀ e ∈ es.toList, e.born < clock) : Hp w0 R (Mp r kc vc ms :: Qs) w :=
  m.map fun _ => SepL.head fun h e => ⟨es, clock, h1, h2, h3, e⟩
theorem run_update (hT : maI P T = some (K, V)) (hK : KeyOK P K kc) (m : Hp w0 R Ps w) (hP : Rem Ps (Mp r kc vc ms) Qs) (k : κ) (u : ν) :
    ∃ w', (Instr.mapUpdate T (.map (some r)) (kc k) (vc u)).run P w = .ok () w' ∧ Hp w0 R (Mp r kc vc (mset ms k u) :: Qs) w' := by
  obtain ⟨es, clock, h1, h2, h3, h4, m'⟩ := Mp.un m hP
  have hT' := maI_spec hT
  unfold Instr.mapUpdate
  simp only [bind, Sem.run_bind', run_underlying hT', Result.andThen, MapKept.run_getObj_map h4, pure, Sem.run, hK.check, run_find hK h1]
  cases hi : midx ms k with
  | none =>
    simp only [Option.bind_none]
    refine ⟨_, by rw [MapKept.run_setObj_map _ h4], ?_⟩
    refine Mp.mk' (es := es.push { key := kc k, val := vc u, born := clock }) (clock := clock + 1) (m'.turn rfl rfl rfl ⟨rfl, Nat.le_refl _⟩) ?_ ?_ ?_
    · simp only [kvs, Array.toList_push, List.map_append, List.map_cons, List.map_nil, mset, hi]
      rw [show es.toList.map (fun e => (e.key, e.val)) = _ from h1]
    · simp only [Array.toList_push, List.map_append, List.map_cons, List.map_nil, List.pairwise_append, List.pairwise_cons, List.mem_map, List.mem_cons, List.not_mem_nil, or_false]
      refine ⟨h2, ⟨by simp, .nil⟩, ?_⟩
      rintro _ ⟨e, he, rfl⟩ _ rfl
      exact h3 e he
    · intro e he
      simp only [Array.toList_push, List.mem_append, List.mem_cons, List.not_mem_nil, or_false] at he
      rcases he with he | rfl
      · have := h3 e he; omega
      · simp
  | some i =>
    obtain ⟨v, hv⟩ := midx_get hi
    have hg : mget ms k = some v := by simp [mget, hi, hv]
    have hkv := kvs_at h1 i
    rw [hv] at hkv
    cases he : es.toList[i]? with
    | none => rw [he] at hkv; cases hkv
    | some e =>
      rw [he] at hkv
      simp only [Option.map_some, Option.some.injEq, Prod.mk.injEq] at hkv
      have hes : es[i]? = some e := by rw [← Array.getElem?_toList]; exact he
      simp only [Option.bind_some, hg, Option.map_some, hes, Option.getD_some, hkv.1, Instr.keyThatStays, hK.same, if_true, pure, Sem.run, Sem.bind]
      refine ⟨_, by rw [MapKept.run_setObj_map _ h4], ?_⟩
      refine Mp.mk' (m'.turn rfl rfl rfl ⟨rfl, Nat.le_refl _⟩) ?_ ?_ ?_
      · simp only [mset, hi]
        rw [List.map_set, ← h1]
        simp only [kvs, Array.toList_modify]
        apply List.ext_getElem?
        intro j
        simp only [List.getElem?_map, List.getElem?_modify, List.getElem?_set, List.length_map]
        by_cases hij : i = j
        · subst hij
          have hlt : i < es.toList.length := (List.getElem?_eq_some_iff.1 he).1
          simp [he]
          simpa using hlt
        · simp [hij]
      · have e1 : (es.modify i fun e => { e with key := kc k, val := vc u }).toList.map (·.born) = es.toList.map (·.born) := by
          simp only [Array.toList_modify]
          apply List.ext_getElem?
          intro j
          simp only [List.getElem?_map, List.getElem?_modify]
          by_cases hij : i = j
          · subst hij; simp [he]
          · simp [hij]
        rw [e1]
        exact h2
      · intro x hx
        obtain ⟨j, hj⟩ := List.mem_iff_getElem?.1 hx
        simp only [Array.toList_modify, List.getElem?_modify] at hj
        cases hq : es.toList[j]? with
        | none => rw [hq] at hj; simp at hj
        | some y =>
          rw [hq] at hj
          have := h3 y (List.mem_of_getElem? hq)
          by_cases hij : i = j
          · simp [hij] at hj; subst hj; exact this
          · simp [hij] at hj; subst hj; exact this
theorem map_eraseIdx' {α β : Type} (f : α → β) : ∀ (l : List α) (i : Nat), (l.eraseIdx i).map f = (l.map f).eraseIdx i
  | [], _ => rfl
  | _ :: _, 0 => rfl
  | a :: l, i + 1 => by simp [map_eraseIdx' f l i]
theorem run_delete {tr : TypeId} (hT : maI P T = some (K, V)) (hK : KeyOK P K kc) (m : Hp w0 R Ps w) (hP : Rem Ps (Mp r kc vc ms) Qs) (k : κ) :
    ∃ w', (Builtin.delete_ #[T] tr #[.map (some r), kc k]).run P w = .ok (.tuple #[]) w' ∧ Hp w0 R (Mp r kc vc (mdel ms k) :: Qs) w' := by
  obtain ⟨es, clock, h1, h2, h3, h4, m'⟩ := Mp.un m hP
  have hT' := maI_spec hT
  unfold Builtin.delete_
  simp [bind, Sem.run_bind', run_underlying hT', Result.andThen, MapKept.run_getObj_map h4, pure, Sem.run, hK.check, run_find hK h1]
  cases hi : midx ms k with
  | none =>
    simp only [Option.bind_none]
    refine ⟨_, by rw [Sem.run_bind', MapKept.run_setObj_map _ h4]; rfl, ?_⟩
    refine Mp.mk' (m'.turn rfl rfl rfl ⟨rfl, Nat.le_refl _⟩) ?_ h2 h3
    simpa [mdel, hi] using h1
  | some i =>
    obtain ⟨v, hv⟩ := midx_get hi
    have hg : mget ms k = some v := by simp [mget, hi, hv]
    simp only [Option.bind_some, hg, Option.map_some]
    refine ⟨_, by rw [Sem.run_bind', MapKept.run_setObj_map _ h4]; rfl, ?_⟩
    refine Mp.mk' (m'.turn rfl rfl rfl ⟨rfl, Nat.le_refl _⟩) ?_ ?_ ?_
    · simp only [mdel, hi, kvs, Array.toList_eraseIdxIfInBounds]
      rw [map_eraseIdx', map_eraseIdx', ← h1]
      rfl
    · rw [Array.toList_eraseIdxIfInBounds, map_eraseIdx']
      exact h2.sublist (List.eraseIdx_sublist _ _)
    · intro e he
      rw [Array.toList_eraseIdxIfInBounds] at he
      exact h3 e (List.mem_of_mem_eraseIdx he)
theorem mup_ {mo ko vo : Operand} (hx : ev L mo = some (.map (some r))) (hk : ev L ko = some (kc k)) (hv : ev L vo = some (vc u)) (hT : maI P T = some (K, V)) (hP : Rem Ps (Mp r kc vc ms) Qs) (hK : KeyOK P K kc) (kk : Gl n w0 R L (Mp r kc vc (mset ms k u) :: Qs) (.li P ops Q rest)) :
    Gl n w0 R L Ps (.li P ops Q (⟨none, .mapUpdate T mo ko vo, ty, pos, aft, none⟩ :: rest)) := fun a w hs m => by
  obtain ⟨w', h1, h2⟩ := run_update hT hK m hP k u
  refine step_skip rfl rfl hs (w' := w') ?_ (kk a w' hs h2)
  simp [execOp, hs.evs mo _ hx, hs.evs ko _ hk, hs.evs vo _ hv, bind, Sem.run_bind', h1, pure, Sem.run, Result.andThen]
theorem mde_ {mo ko : Operand} (hx : ev L mo = some (.map (some r))) (hk : ev L ko = some (kc k)) (hT : maI P T = some (K, V)) (hP : Rem Ps (Mp r kc vc ms) Qs) (hK : KeyOK P K kc) (kk : Gl n w0 R L (Mp r kc vc (mdel ms k) :: Qs) (.li P ops Q rest)) {t2 : TypeId} :
    Gl n w0 R L Ps (.li P ops Q (⟨none, .call ⟨.builtin .delete, #[mo, ko], #[T, t2]⟩, ty, pos, aft, none⟩ :: rest)) := fun a w hs m => by
  obtain ⟨w', h1, h2⟩ := run_delete (tr := ty) hT hK m hP k
  refine step_val0 rfl rfl hs (v := .tuple #[]) (w' := w') ?_ (kk a w' hs h2)
  have h1' : (Builtin.delete_ #[T, t2] ty #[.map (some r), kc k]).run P w = .ok (.tuple #[]) w' := h1
  simp [execOp, resolve, invoke, builtin, hs.evs mo _ hx, hs.evs ko _ hk, bind, Sem.run_bind', h1', pure, Sem.run, Result.andThen]
theorem mma_ {E : TypeId} (kc : κ → Value) (vc : ν → Value) (kk : ∀ r, Gl n w0 R ((d, .map (some r)) :: L) (Mp r kc vc [] :: Ps) (.li P ops Q rest)) (hd : Nat.blt d n = true) : Gl n w0 R L Ps (.li P ops Q (⟨some d, .makeMap E none, ty, pos, aft, none⟩ :: rest)) := fun a w hs m => by
  refine step_val rfl rfl hs hd (v := .map (some w.heap.size)) (w' := w.alloc (.map #[] 0)) ?_ fun a' hs' => kk _ a' _ hs' ?_
  · simp [execOp, Instr.makeMap, bind, Sem.run_bind', alloc_run, pure, Sem.run, Result.andThen]
  · exact Mp.mk' (m.alloc _) rfl .nil (by simp)
def Ri (b r : Nat) (kc : κ → Value) (vc : ν → Value) (ms left : List (κ × ν)) : HP := fun h =>
  ∃ (es : Array MapEntry) (clock : Nat) (seen : Array Nat) (last : Nat), kvs es = ms.map (fun x => (kc x.1, vc x.2)) ∧ (es.toList.map (·.born)).Pairwise (· < ·) ∧ (∀ e ∈ es.toList, e.born < clock) ∧
    kvs (es.filter fun e => !seen.contains e.born) = left.map (fun x => (kc x.1, vc x.2)) ∧ last ≤ clock ∧ (seen.isEmpty = false → last = clock) ∧ r ≠ b ∧ h = hu (hone r (.map es clock)) (hone b (.mapIter (some r) clock seen last))
def Re (b r : Nat) (kc : κ → Value) (vc : ν → Value) (ms left : List (κ × ν)) (x : κ × ν) : HP := fun h =>
  ∃ (es : Array MapEntry) (clock : Nat) (seen : Array Nat) (E : MapEntry), kvs es = ms.map (fun x => (kc x.1, vc x.2)) ∧ (es.toList.map (·.born)).Pairwise (· < ·) ∧ (∀ e ∈ es.toList, e.born < clock) ∧
    kvs (es.filter fun e => !seen.contains e.born) = left.map (fun x => (kc x.1, vc x.2)) ∧ seen.back? = some E.born ∧ es.find? (fun e => e.born == E.born) = some E ∧ E.key = kc x.1 ∧ E.val = vc x.2 ∧ r ≠ b ∧ h = hu (hone r (.map es clock)) (hone b (.mapIter (some r) clock seen clock))
theorem hh_two {h : Hh} {b : Nat} {o p : Obj} (hne : r ≠ b) : hu (hone r o) (hone b p) b = some p ∧ hu (hone r o) (hone b p) r = some o := by
  refine ⟨?_, ?_⟩
  · simp [hu, hone, Ne.symm hne]
  · simp [hu, hone]
theorem Hp.two {b : Nat} {o p p' : Obj} {w' : World} (hne : r ≠ b) (m : Hp w0 R ((fun h => h = hu (hone r o) (hone b p)) :: Ps) w) (hw : w'.heap = w.heap.setIfInBounds b p') (hos : w'.os = w.os) (htape : w'.tape = w.tape) (hout : w'.output = w.output ∧ w.drawn ≤ w'.drawn) : Hp w0 R ((fun h => h = hu (hone r o) (hone b p')) :: Ps) w' := by
  have hd0 : ∀ q, hd (hone r o) (hone b q) := fun q i => by
    by_cases hi : i = r
    · exact .inr (by simp [hone, hi, hne])
    · exact .inl (by simp [hone, hi])
  have e1 : Hp w0 R ((fun h => h = hone b p) :: (fun h => h = hone r o) :: Ps) w := by
    refine m.map fun h s => ?_
    obtain ⟨h1, h2, rfl, s2, d, rfl⟩ := s
    have d' := hd_hu_left.1 d
    refine ⟨hone b p, hu (hone r o) h2, rfl, ⟨hone r o, h2, rfl, s2, d'.1, rfl⟩, hd_hu_right.2 ⟨hd_comm (hd0 p), d'.2⟩, ?_⟩
    rw [← hu_assoc, hu_comm (hd0 p)]
  have e2 := e1.turn (o' := p') hw hos htape hout
  refine e2.map fun h s => ?_
  obtain ⟨h1, h2, rfl, ⟨h3, h4, rfl, s2, d2, rfl⟩, d, rfl⟩ := s
  have d' := hd_hu_right.1 d
  exact ⟨hu (hone r o) (hone b p'), h4, rfl, s2, hd_hu_left.2 ⟨d2, d'.2⟩, by rw [← hu_assoc, hu_comm (hd_comm d'.1)]⟩
theorem ran_ {mo : Operand} (kk : ∀ b, Gl n w0 R ((d, .pointer (some ⟨b, 0, none⟩)) :: L) (Ri b r kc vc ms ms :: Qs) (.li P ops Q rest)) (hx : ev L mo = some (.map (some r))) (hT : maI P T = some (K, V)) (hP : Rem Ps (Mp r kc vc ms) Qs) (hd : Nat.blt d n = true) :
    Gl n w0 R L Ps (.li P ops Q (⟨some d, .range T mo, ty, pos, aft, none⟩ :: rest)) := fun a w hs m => by
  obtain ⟨es, clock, h1, h2, h3, h4, m'⟩ := Mp.un m hP
  have hT' := maI_spec hT
  refine step_val rfl rfl hs hd (v := .pointer (some ⟨w.heap.size, 0, none⟩)) (w' := w.alloc (.mapIter (some r) clock #[] clock)) ?_ fun a' hs' => kk _ a' _ hs' ?_
  · simp [execOp, hs.evs mo _ hx, Instr.range, bind, Sem.run_bind', run_underlying hT', MapKept.run_getObj_map h4, alloc_run, pure, Sem.run, Result.andThen]
  · have hlt : r < w.heap.size := (Array.getElem?_eq_some_iff.1 h4).1
    have m2 := m'.alloc (.mapIter (some r) clock #[] clock)
    refine m2.map fun h s => ?_
    obtain ⟨h1', h2', rfl, ⟨h3', h4', rfl, s2, d2, rfl⟩, d, rfl⟩ := s
    have d' := hd_hu_right.1 d
    refine ⟨hu (hone r (.map es clock)) (hone w.heap.size (.mapIter (some r) clock #[] clock)), h4', ⟨es, clock, #[], clock, h1, h2, h3, ?_, Nat.le_refl _, by simp, by omega, rfl⟩, s2, hd_hu_left.2 ⟨d2, d'.2⟩, by rw [← hu_assoc, hu_comm (hd_comm d'.1)]⟩
    have : (es.filter fun e => !(#[] : Array Nat).contains e.born) = es := by simp
    rw [this]; exact h1
theorem Ri.un {b : Nat} {left : List (κ × ν)} (m : Hp w0 R Ps w) (hP : Rem Ps (Ri b r kc vc ms left) Qs) : ∃ (es : Array MapEntry) (clock : Nat) (seen : Array Nat) (last : Nat), kvs es = ms.map (fun x => (kc x.1, vc x.2)) ∧ (es.toList.map (·.born)).Pairwise (· < ·) ∧ (∀ e ∈ es.toList, e.born < clock) ∧
    kvs (es.filter fun e => !seen.contains e.born) = left.map (fun x => (kc x.1, vc x.2)) ∧ last ≤ clock ∧ (seen.isEmpty = false → last = clock) ∧ r ≠ b ∧ w.heap[r]? = some (.map es clock) ∧ w.heap[b]? = some (.mapIter (some r) clock seen last) ∧
    Hp w0 R ((fun h => h = hu (hone r (.map es clock)) (hone b (.mapIter (some r) clock seen last))) :: Qs) w := by
  obtain ⟨g, ⟨es, clock, seen, last, h1, h2, h3, h4, h5, h6, h7, h8⟩, l, m'⟩ := (m.front hP).exact
  subst h8
  have := hh_two (h := hnil) (o := .map es clock) (p := .mapIter (some r) clock seen last) h7
  exact ⟨es, clock, seen, last, h1, h2, h3, h4, h5, h6, h7, l _ _ this.2, l _ _ this.1, m'⟩
theorem ue0_ {b : Nat} {left : List (κ × ν)} {x : κ × ν} {F : GF} (hP : Rem Ps (Re b r kc vc ms left x) Qs) (kk : Gl n w0 R L (Ri b r kc vc ms left :: Qs) F) : Gl n w0 R L Ps F := fun a w hs m =>
  kk a w hs ((m.front hP).map fun h s => s.head fun h ⟨es, clock, seen, E, h1, h2, h3, h4, _, _, _, _, h7, h8⟩ => ⟨es, clock, seen, clock, h1, h2, h3, h4, Nat.le_refl _, fun _ => rfl, h7, h8⟩)
theorem ent_ {b : Nat} {left : List (κ × ν)} {xe : κ × ν} {it : Operand} (hx : ev L it = some (.pointer (some ⟨b, 0, none⟩))) (hP : Rem Ps (Re b r kc vc ms left xe) Qs) : OkS P (Hp w0 R Ps) L ⟨od, .entry it, ty, pos, aft, gd⟩ (.tuple ⟨[kc xe.1, vc xe.2]⟩) := ⟨fun ρ ha w hw => by
  obtain ⟨g, ⟨es, clock, seen, E, h1, h2, h3, h4, h5, h6, h7, h8, h9, h10⟩, l⟩ := hw.look hP
  subst h10
  have := hh_two (h := hnil) (o := .map es clock) (p := .mapIter (some r) clock seen clock) h9
  have e1 : w.heap[r]? = some (.map es clock) := l _ _ this.2
  have e2 : w.heap[b]? = some (.mapIter (some r) clock seen clock) := l _ _ this.1
  have hg1 : (getObj b).run P w = .ok (.mapIter (some r) clock seen clock) w := by simp [getObj, Sem.run, e2]
  simp [execOp, Instr.entry, ha it _ hx, bind, Sem.run_bind', hg1, MapKept.run_getObj_map e1, h5, h6, h7, h8, pure, Sem.run, Result.andThen]⟩
theorem unri_ {b : Nat} {left : List (κ × ν)} {F : GF} (hP : Rem Ps (Ri b r kc vc ms left) Qs) (kk : Gl n w0 R L (Mp r kc vc ms :: Qs) F) : Gl n w0 R L Ps F := fun a w hs m => by
  obtain ⟨es, clock, seen, last, h1, h2, h3, h4, h5, h6, h7, h8, h9, m'⟩ := Ri.un m hP
  refine kk a w hs ?_
  have e1 : Hp w0 R ((fun h => h = hone b (.mapIter (some r) clock seen last)) :: (fun h => h = hone r (.map es clock)) :: Qs) w := by
    refine m'.map fun h s => ?_
    obtain ⟨h1, h2, rfl, s2, d, rfl⟩ := s
    have d' := hd_hu_left.1 d
    have hd0 : hd (hone r (.map es clock)) (hone b (.mapIter (some r) clock seen last)) := fun i => by
      by_cases hi : i = r
      · exact .inr (by simp [hone, hi, h7])
      · exact .inl (by simp [hone, hi])
    refine ⟨_, hu (hone r (.map es clock)) h2, rfl, ⟨_, h2, rfl, s2, d'.1, rfl⟩, hd_hu_right.2 ⟨hd_comm hd0, d'.2⟩, ?_⟩
    rw [← hu_assoc, hu_comm hd0]
  exact Mp.mk' e1.drop h1 h2 h3
theorem filter_erase {l : List MapEntry} (hl : (l.map (·.born)).Pairwise (· < ·)) : ∀ {i : Nat} {e : MapEntry}, l[i]? = some e → l.filter (fun x => !(x.born == e.born)) = l.eraseIdx i := by
  induction l with
  | nil => intro i e h; simp at h
  | cons a l ih =>
    intro i e h
    simp only [List.map_cons, List.pairwise_cons, List.mem_map, forall_exists_index, and_imp, forall_apply_eq_imp_iff₂] at hl
    cases i with
    | zero =>
      simp only [List.getElem?_cons_zero, Option.some.injEq] at h
      subst h
      simp only [List.filter_cons, beq_self_eq_true, Bool.not_true, Bool.false_eq_true, if_false, List.eraseIdx_cons_zero]
      exact List.filter_eq_self.2 fun x hx => by have := hl.1 x hx; simp; omega
    | succ i =>
      simp only [List.getElem?_cons_succ] at h
      have := hl.1 e (List.mem_of_getElem? h)
      have hne : (a.born == e.born) = false := by simp; omega
      simp only [List.filter_cons, hne, Bool.not_false, if_true, List.eraseIdx_cons_succ, ih hl.2 h]
theorem run_choose_map {n : Nat} (hn : 0 < n) (w : World) : ∃ i k, i < n ∧ (choose (.mapNext n)).run P w = .ok i { w with drawn := k } ∧ w.drawn ≤ k := by
  unfold choose
  simp only [Sem.run]
  by_cases h : n ≤ 1
  · refine ⟨0, w.drawn, hn, ?_, Nat.le_refl _⟩
    simp [Question.forced, h, Sem.run]
  · refine ⟨w.tape w.drawn (.mapNext n) % n, w.drawn + 1, Nat.mod_lt _ hn, ?_, Nat.le_succ _⟩
    simp [Question.forced, h, Sem.run, Question.cut]
theorem find_born {es : Array MapEntry} (hl : (es.toList.map (·.born)).Pairwise (· < ·)) {E : MapEntry} (hE : E ∈ es.toList) : es.find? (fun e => e.born == E.born) = some E := by
  rw [← Array.find?_toList]
  have key : ∀ l : List MapEntry, (l.map (·.born)).Pairwise (· < ·) → E ∈ l → l.find? (fun e => e.born == E.born) = some E := by
    intro l
    induction l with
    | nil => intro _ h; cases h
    | cons a l ih =>
      intro h1 h2
      simp only [List.map_cons, List.pairwise_cons, List.mem_map, forall_exists_index, and_imp, forall_apply_eq_imp_iff₂] at h1
      rcases List.mem_cons.1 h2 with rfl | h2
      · simp
      · have := h1.1 E h2
        rw [List.find?_cons_of_neg (by simp; omega)]
        exact ih h1.2 h2
  exact key _ hl hE
theorem run_next {b : Nat} {left : List (κ × ν)} (m : Hp w0 R Ps w) (hP : Rem Ps (Ri b r kc vc ms left) Qs) (tyy : TypeId) :
    (left = [] ∧ ∃ w', (Instr.next (.pointer (some ⟨b, 0, none⟩)) false tyy).run P w = .ok (.tuple #[.bool false]) w' ∧ Hp w0 R (Ri b r kc vc ms [] :: Qs) w') ∨
    ∃ i e w', left[i]? = some e ∧ (Instr.next (.pointer (some ⟨b, 0, none⟩)) false tyy).run P w = .ok (.tuple #[.bool true, kc e.1, vc e.2]) w' ∧ Hp w0 R (Re b r kc vc ms (left.eraseIdx i) e :: Qs) w' := by
  obtain ⟨es, clock, seen, last, h1, h2, h3, h4, h5, h6, h7, h8, h9, m'⟩ := Ri.un m hP
  have hg1 : (getObj b).run P w = .ok (.mapIter (some r) clock seen last) w := by simp [getObj, Sem.run, h9]
  have hc : (!seen.isEmpty && !es.isEmpty && es.all (fun e => decide (e.born ≥ last))) = false := by
    cases hs : seen.isEmpty with
    | true => simp
    | false =>
      cases he : es.isEmpty with
      | true => simp
      | false =>
        have hl := h6 hs
        subst hl
        simp only [Bool.not_false, Bool.true_and]
        cases hes : es.toList with
        | nil => exfalso; simp at hes; simp [hes] at he
        | cons a l =>
          have := h3 a (by rw [hes]; simp)
          rw [← Bool.not_eq_true, Array.all_eq_true_iff_forall_mem]
          intro hall
          have := hall a (by rw [← Array.mem_toList_iff, hes]; simp)
          simp at this
          omega
  have hold : (es.filter fun e => !seen.contains e.born).filter (fun e => decide (e.born < clock)) = es.filter fun e => !seen.contains e.born := by
    rw [Array.filter_eq_self]
    intro a ha
    have : a ∈ es := by simp only [Array.mem_filter] at ha; exact ha.1
    simpa using h3 a (by simpa using this)
  have hnew : (es.filter fun e => !seen.contains e.born).filter (fun e => decide (e.born ≥ clock)) = #[] := by
    rw [Array.filter_eq_empty_iff]
    intro a ha
    have : a ∈ es := by simp only [Array.mem_filter] at ha; exact ha.1
    have := h3 a (by simpa using this)
    simp; omega
  have hlen : (es.filter fun e => !seen.contains e.born).size = left.length := by
    have := congrArg List.length h4
    rw [List.length_map, kvs, List.length_map, Array.length_toList] at this
    exact this
  unfold Instr.next
  simp only [bind, Sem.run_bind', hg1, Result.andThen, MapKept.run_getObj_map h8, hc, Bool.false_eq_true, if_false, hold, hnew, Array.append_empty, pure, Sem.run]
  cases left with
  | nil =>
    left
    refine ⟨rfl, ?_⟩
    have h0 : (es.filter fun e => !seen.contains e.born) = #[] := Array.eq_empty_of_size_eq_zero (by simpa using hlen)
    rw [h0]
    refine ⟨w, ?_, m'.map fun h s => s.head fun h e => ⟨es, clock, seen, last, h1, h2, h3, h4, h5, h6, h7, e⟩⟩
    simp [choose, Sem.run, Question.forced, Sem.run_bind', Result.andThen]
  | cons x left =>
    right
    have hpos : 0 < (es.filter fun e => !seen.contains e.born).size := by rw [hlen]; simp
    have hne : (es.filter fun e => !seen.contains e.born).isEmpty = false := by
      rw [← Bool.not_eq_true, Array.isEmpty_iff_size_eq_zero]; omega
    obtain ⟨i, dr, hi, hch⟩ := run_choose_map (P := P) hpos w
    have hi2 : i < (es.filter fun e => !seen.contains e.born).toList.length := by rw [Array.length_toList]; exact hi
    have hkv : kvs (es.filter fun e => !seen.contains e.born) = (x :: left).map (fun x => (kc x.1, vc x.2)) := h4
    have he := List.getElem?_eq_getElem hi2
    generalize hE : (es.filter fun e => !seen.contains e.born).toList[i] = E at he
    have hat : (x :: left)[i]? = some ((x :: left)[i]'(by rw [← hlen]; exact hi)) := List.getElem?_eq_getElem _
    generalize hX : (x :: left)[i]'(by rw [← hlen]; exact hi) = X at hat
    have hkx : (E.key, E.val) = (kc X.1, vc X.2) := by
      have := congrArg (·[i]?) hkv
      simp only [kvs, List.getElem?_map, he, hat, Option.map_some, Option.some.injEq] at this
      exact this
    have heA : (es.filter fun e => !seen.contains e.born)[i]? = some E := by rw [← Array.getElem?_toList]; exact he
    refine ⟨i, X, { w with heap := w.heap.setIfInBounds b (.mapIter (some r) clock (seen.push E.born) clock), drawn := dr }, hat, ?_, ?_⟩
    rotate_left
    · have m2 := Hp.two (p' := .mapIter (some r) clock (seen.push E.born) clock) (w' := { w with heap := w.heap.setIfInBounds b (.mapIter (some r) clock (seen.push E.born) clock), drawn := dr }) h7 m' rfl rfl rfl ⟨rfl, hch.2⟩
      have hEm : E ∈ es.toList := by
        have := List.mem_of_getElem? he
        rw [Array.toList_filter, List.mem_filter] at this
        exact this.1
      refine m2.map fun h s => s.head fun h e => ⟨es, clock, seen.push E.born, E, h1, h2, h3, ?_, by simp, find_born h2 hEm, (Prod.mk.inj hkx).1, (Prod.mk.inj hkx).2, h7, e⟩
      have hf : (es.filter fun e => !(seen.push E.born).contains e.born).toList = (es.filter fun e => !seen.contains e.born).toList.eraseIdx i := by
        have hpw : ((es.filter fun e => !seen.contains e.born).toList.map (·.born)).Pairwise (· < ·) := by
          rw [Array.toList_filter]
          exact h2.sublist (List.filter_sublist.map _)
        rw [← filter_erase hpw he, Array.toList_filter, Array.toList_filter, List.filter_filter]
        congr 1
        funext y
        simp [Array.contains_push, Bool.beq_eq_decide_eq, or_comm, and_comm, eq_comm]
      unfold kvs
      rw [hf, map_eraseIdx', map_eraseIdx', ← hkv]
      rfl
    · simp only [hne, Bool.false_eq_true, if_false, Array.empty_append, Array.size_map, Sem.run_bind', hch.1, Result.andThen, Array.getElem?_map, heA, Option.map_some]
      have hb' : ({ w with drawn := dr } : World).heap[b]? = some (.mapIter (some r) clock seen last) := h9
      simp only [setObj, Sem.run, Sem.bind, hb', pure]
      simp only [Prod.mk.injEq] at hkx
      rw [hkx.1, hkx.2]
theorem nxt_ {it : Operand} {b : Nat} {left : List (κ × ν)} (k0 : left = [] → Gl n w0 R ((d, .tuple #[.bool false]) :: L) (Ri b r kc vc ms [] :: Qs) (.li P ops Q rest)) (k1 : ∀ i e, left[i]? = some e → Gl n w0 R ((d, .tuple #[.bool true, kc e.1, vc e.2]) :: L) (Re b r kc vc ms (left.eraseIdx i) e :: Qs) (.li P ops Q rest))
    (hx : ev L it = some (.pointer (some ⟨b, 0, none⟩))) (hP : Rem Ps (Ri b r kc vc ms left) Qs) (hd : Nat.blt d n = true) : Gl n w0 R L Ps (.li P ops Q (⟨some d, .next it false, ty, pos, aft, none⟩ :: rest)) := fun a w hs m => by
  rcases run_next (P := P) m hP ty with ⟨h0, w', h1, h2⟩ | ⟨i, e, w', h0, h1, h2⟩
  · refine step_val rfl rfl hs hd (w' := w') ?_ fun a' hs' => k0 h0 a' w' hs' h2
    simp [execOp, hs.evs it _ hx, bind, Sem.run_bind', h1, pure, Sem.run, Result.andThen]
  · refine step_val rfl rfl hs hd (w' := w') ?_ fun a' hs' => k1 i e h0 a' w' hs' h2
    simp [execOp, hs.evs it _ hx, bind, Sem.run_bind', h1, pure, Sem.run, Result.andThen]
end
end
theorem perm_erase {α : Type} : ∀ {l : List α} {i : Nat} {e : α}, l[i]? = some e → l.Perm (e :: l.eraseIdx i)
  | a :: l, 0, e, h => by simp at h; subst h; exact .refl _
  | a :: l, i + 1, e, h => by
    simp only [List.getElem?_cons_succ] at h
    exact ((perm_erase h).cons a).trans (.swap e a _)
theorem key_two {κ : Type} {iκ : DecidableEq κ} {c : κ → List Value} {ks : List LK} {P : Program} {kt : TypeId} {fs : Array Field} {f1 f2 : Field} {k1 k2 : IntKind} (hu : P.underlying kt = some (.struct fs)) (hf : fs = #[f1, f2]) (h1 : P.underlying f1.type = some (.int k1)) (h2 : P.underlying f2.type = some (.int k2)) (he : EqT P kt ks) (hF : Fk c iκ ks)
    (hp1 : ∀ k w, ∃ v, (part f1.type ⟨c k⟩ f1.offset).run P w = .ok v w) (hp2 : ∀ k w, ∃ v, (part f2.type ⟨c k⟩ f2.offset).run P w = .ok v w) (hs : ∀ k, Instr.sameBits 10000 (.agg ⟨c k⟩) (.agg ⟨c k⟩) = true) : KeyOK P kt (vAgg c) where
  find k l ks' w hl := by
    have hEq : ∀ a b : κ, (Op.equal kt (vAgg c a) (vAgg c b)).run P w = .ok (decide (a = b)) w := fun a b => by
      show (Op.equal kt (.agg ⟨c a⟩) (.agg ⟨c b⟩)).run P w = _
      rw [run_equal he (hF.f a) (hF.f b)]
      congr 1
      by_cases h : a = b
      · subst h; rw [decide_eq_true rfl]; exact (eqAll_self_iff (hF.f a) (hF.f a)).2 rfl
      · rw [decide_eq_false h]
        cases hx : eqAll (c a) (c b) with
        | false => rfl
        | true => exact absurd ((hF.i a b).1 ((eqAll_self_iff (hF.f a) (hF.f b)).1 hx)) h
    have key : ∀ (l : List MapEntry) (ks' : List κ) (i : Nat), l.map (·.key) = ks'.map (vAgg c) → (Instr.findAsking kt (vAgg c k) l i).run P w = .ok ((ks'.findIdx? (fun x => decide (k = x))).bind fun j => (l[j]?).map fun e => (i + j, e.val)) w := by
      intro l
      induction l with
      | nil => intro ks' i hl; cases ks' <;> simp_all [Instr.findAsking, pure, Sem.run]
      | cons e l ih =>
        intro ks' i hl
        cases ks' with
        | nil => simp at hl
        | cons a ks' =>
          simp only [List.map_cons, List.cons.injEq] at hl
          have h2 := ih ks' (i + 1) hl.2
          unfold Instr.findAsking
          simp only [bind, Sem.run_bind', hl.1, hEq, Result.andThen]
          by_cases hk : k = a
          · subst hk; simp [List.findIdx?_cons, pure, Sem.run]
          · simp only [hk, decide_false, Bool.false_eq_true, if_false, h2, List.findIdx?_cons]
            cases List.findIdx? (fun x => decide (k = x)) ks' <;> simp
            rename_i j
            cases l[j]? <;> simp
            omega
    unfold Instr.findKey
    simp only [bind, Sem.run_bind', run_underlying hu, Result.andThen]
    cases l with
    | nil => cases ks' <;> simp_all [Instr.findNow, pure, Sem.run]
    | cons e l =>
      cases ks' with
      | nil => simp at hl
      | cons a ks' =>
        have hl' := hl
        simp only [List.map_cons, List.cons.injEq] at hl'
        have : Instr.findNow (.struct fs) (vAgg c k) (e :: l) 0 = none := by simp [Instr.findNow, hl'.1, Instr.sameNow, vAgg]
        rw [this]
        simpa using key (e :: l) (a :: ks') 0 hl
  check e k w := by
    obtain ⟨v1, hv1⟩ := hp1 k w
    obtain ⟨v2, hv2⟩ := hp2 k w
    have hc : ∀ (t : TypeId) (kk : IntKind) (v : Value), P.underlying t = some (.int kk) → (Instr.checkKey e 9999 t v).run P w = .ok () w := fun t kk v ht => by
      unfold Instr.checkKey
      simp [bind, Sem.run_bind', run_underlying ht, Result.andThen, pure, Sem.run]
    unfold Instr.checkKey vAgg
    simp only [bind, Sem.run_bind', run_underlying hu, Result.andThen, hf]
    by_cases n1 : f1.name = "_" <;> by_cases n2 : f2.name = "_" <;> simp [Sem.run_bind', Result.andThen, n1, n2, hv1, hv2, hc _ _ _ h1, hc _ _ _ h2, pure, Sem.run, bind, Sem.bind, ForIn.forIn]
  same := hs
def zvB (P : Program) (T : TypeId) (zs : List Value) (ag : Bool) : Bool := match zvI P T with
  | some (.agg ⟨l⟩) => ag && sameV l zs
  | some v => !ag && sameV [v] zs
  | none => false
theorem zvB_agg {P : Program} {T : TypeId} {zs : List Value} (h : zvB P T zs true = true) : zvI P T = some (.agg ⟨zs⟩) := by
  unfold zvB at h
  split at h
  · rename_i l hl
    have h3 := sameV_eq (l := l) (m := zs) (by simpa using h)
    rw [hl, h3]
  · simp at h
  · cases h
theorem zvB_sc {P : Program} {T : TypeId} {z : Value} (h : zvB P T [z] false = true) : zvI P T = some z := by
  unfold zvB at h
  cases hz : zvI P T with
  | none => rw [hz] at h; cases h
  | some v =>
    have h2 : sameV [v] [z] = true := by rw [hz] at h; cases v <;> first | exact h | (simp at h)
    have h3 := sameV_eq h2
    simp only [List.cons.injEq, and_true] at h3
    rw [h3]
class Ky (P : Program) (K : TypeId) {κ : Type} (iκ : outParam (DecidableEq κ)) (kc : κ → Value) : Prop where
  h : KeyOK P K kc
/-! ### windows of slices -/
section
variable {P : Program} {L : List (Nat × Value)} {C : World → Prop} {od : Option Tmp} {ty : TypeId} {pos : String} {aft : Array Edge} {gd : Option (Nat × Bool)} {o : Operand} {lo hi mx : Option Operand} {T E : TypeId} {ag : Bool} {k : Nat} {X : SH} {α : Type} {c : α → List Value} {xs : List α} {zl zh zm : Int}
end
end Go.Proofs.YtdallmabajeajaaGreatDoor.Fw
set_option linter.all false
namespace Go.Proofs.YtdallmabajeajaaGreatDoor.Fw
open Go
section
variable {P : Program} {ops : Array Oper} {Q : Exit → Act → World → Prop} {rest : List Oper} {n : Nat} {L : List (Nat × Value)} {w w0 : World} {R : Hh} {Ps Qs : List HP} {F : GF} {d : Nat} {v : Value} {ty : TypeId} {pos : String} {aft : Array Edge}
  {α : Type} {c : α → List Value} {xs ys : List α} {T T2 E : TypeId} {ag : Bool} {k i j : Nat} {x y : Operand} {X Y : SH}
theorem subH3_0 (i : Nat) : subH3 k X 0 i X.c = upH X i := by rw [← subH_eq3, subH_0]
theorem apf_ (kk : Gl n w0 R ((d, (upH X (i + ys.length)).v) :: L) (Sv k E (upH X (i + ys.length)).v ((xs.take i ++ ys).map c) :: Qs) (.li P ops Q rest)) (hx : ev L x = some (subH3 k X 0 i X.c).v) (hy : ev L y = some Y.v) (hT : slI P T = some E) (hT2 : notInt P T2 = true) (hE : tyI P E = some (ag, k))
    (hP : Rem Ps (Sv k E X.v (xs.map c)) Qs) (hu : RC (Hp w0 R Ps) k Y.v (ys.map c)) (ho : Cs c k) (hf : i + ys.length ≤ xs.length) (hd : Nat.blt d n = true) :
    Gl n w0 R L Ps (.li P ops Q (⟨some d, .call ⟨.builtin .append, #[x, y], #[T, T2]⟩, ty, pos, aft, none⟩ :: rest)) := fun a w hs m => by
  have hn := (m.rdv hP).ncapM
  have hb := (m.rdv hP).2.1
  simp only [List.length_map] at hb
  have m1 := (m.front hP).shrinkM (hi := i) s0 (by omega)
  have hl : (xs.take i).length = i := by rw [List.length_take]; omega
  rw [subH3_0] at hx
  refine r_appendFitM (x := upH X i) (xs := xs.take i) (es := ys) hs m1 hx hy hT hT2 hE r0 (hu w m) ho.o (by rw [hl]; show i + ys.length ≤ X.c; omega) (by rw [hl]; omega) hd ?_
  intro w' m' a' hs'
  rw [hl] at m' hs'
  exact kk a' w' hs' m'
theorem run_copy0 {w : World} {a ua : Option Addr} {lu uc cc : Nat} (hT : slI P T = some E) (hE : tyI P E = some (ag, k)) : (Builtin.copy_ #[T, T2] ty #[.slice a 0 cc, .slice ua lu uc]).run P w = .ok (.int .i64 0) w := by
  have hfc := run_firstCellsN (P := P) (w := w) (k := k) (n := 0) (v := .slice ua lu uc) (es := []) ⟨ua, lu, uc, rfl, by simp, by simp, ua, uc, rfl, by simp, by simp⟩ rfl
  have hlen : (Builtin.lenOf (.slice ua lu uc)).run P w = .ok lu w := by simp [Builtin.lenOf, pure, Sem.run]
  have hz : Nat.min lu 0 = 0 := by show min lu 0 = 0; omega
  cases a <;> simp [Builtin.copy_, bind, Sem.run_bind', run_underlying (slI_spec hT), Result.andThen, pure, Sem.run, hlen, run_sizeOf' hE, hfc, hz, goInt, storeCells]
theorem cpi_ (kk : Gl n w0 R ((d, .int .i64 ((xs.length - j : Nat) : Int)) :: L) (Sv k E X.v ((xs.take j ++ (xs.drop i).take (xs.length - j)).map c) :: Qs) (.li P ops Q rest)) (hx : ev L x = some (subH3 k X j xs.length X.c).v) (hy : ev L y = some (subH3 k X i xs.length X.c).v) (hT : slI P T = some E) (hE : tyI P E = some (ag, k))
    (hP : Rem Ps (Sv k E X.v (xs.map c)) Qs) (ho : Cs c k) (hij : i ≤ j) (hj : j ≤ xs.length) (hd : Nat.blt d n = true) :
    Gl n w0 R L Ps (.li P ops Q (⟨some d, .call ⟨.builtin .copy, #[x, y], #[T, T2]⟩, ty, pos, aft, none⟩ :: rest)) := fun a w hs m => by
  have hn := (m.rdv hP).ncapM
  have hb := (m.rdv hP).2.1
  simp only [List.length_map] at hb
  have hle : ((xs.drop i).take (xs.length - j)).length = xs.length - j := by rw [List.length_take, List.length_drop]; omega
  by_cases hc : j < X.c
  · refine r_copyM (x := X) (xs := xs) (es := (xs.drop i).take (xs.length - j)) (lo := j) (dl := xs.length - j) (N := xs.length) hs m hx hy hT hE hP (by rw [← subH_eq3]; exact subH_lt hc) ⟨X.a.map (·.add (i * k)), xs.length - i, X.c - i, by rw [← subH_eq3]; exact subH_lt (by omega), by rw [hle]; omega, ?_⟩ ho.o hj (by rw [hle]; omega) (by rw [hle]; omega) rfl (by rw [hle]; omega) hd ?_
    · have h1 := (m.rdv hP).win (lo := i) (hi := i + (xs.length - j)) (mx := X.c) (by omega) (by omega) (by omega) (Nat.le_refl _) rfl
      have h2 : (subH3 k X i (i + (xs.length - j)) X.c).v = .slice (X.a.map (·.add (i * k))) (xs.length - j) (X.c - i) := by
        rw [← subH_eq3, subH_lt (by omega)]; congr 1; omega
      rw [h2, ← List.take_drop] at h1
      rw [hle]
      exact h1
    · intro w' m' a' hs'
      rw [hle] at m' hs'
      have h3 : xs.drop (j + (xs.length - j)) = [] := List.drop_eq_nil_of_le (by omega)
      rw [h3, List.append_nil] at m'
      have h4 : upH X xs.length = X := by rw [← hn.1]; rfl
      rw [h4] at m'
      exact kk a' w' hs' m'
  · have h1 : xs.length - j = 0 := by omega
    have e1 : (subH3 k X j xs.length X.c).v = .slice X.a 0 0 := by
      simp only [subH3, SH.v, show X.c = j by omega, if_true]; congr 1 <;> omega
    rw [e1] at hx
    have hrun := run_copy0 (P := P) (w := w) (T := T) (T2 := T2) (ty := ty) (a := X.a) (cc := 0) (ua := (subH3 k X i xs.length X.c).a) (lu := (subH3 k X i xs.length X.c).n) (uc := (subH3 k X i xs.length X.c).c) hT hE
    refine step_val rfl rfl hs hd (v := .int .i64 0) (w' := w) ?_ (fun a' hs' => kk a' w (by rw [h1]; exact hs') ?_)
    · simp [execOp, resolve, invoke, builtin, hs.evs x _ hx, hs.evs y _ hy, bind, Sem.run_bind', pure, Sem.run, Result.andThen, SH.v] at hrun ⊢
      simp [hrun]
    · have h2 : xs.take j ++ (xs.drop i).take (xs.length - j) = xs := by rw [h1, List.take_zero, List.append_nil, List.take_of_length_le (by omega)]
      rw [h2]
      exact m.front hP
end
/-! ### guards that are met, struck -/
theorem gq_strip {P : Program} {ops : Array Oper} {C : World → Prop} {Q : Act → Prop} {rest : List Oper} {n : Nat} {L : List (Nat × Value)} {a : Act} {d : Option Tmp} {op : Op} {ty : TypeId} {pos : String} {aft : Array Edge} {j : Nat} {want b : Bool} {t : Nat} (hs : St n L a) (hj : (ops[j]?).bind (·.dst) = some t) (ht : lk L t = some (.bool b)) (hb : b = want)
    (h : wpQuiet P ops C Q (⟨d, op, ty, pos, aft, none⟩ :: rest) a) : wpQuiet P ops C Q (⟨d, op, ty, pos, aft, some (j, want)⟩ :: rest) a := by
  have hy : Region.wanted ⟨d, op, ty, pos, aft, some (j, want)⟩ (yielded ops a.tmps) = true := by
    simp only [Region.wanted, yielded, hj, Option.bind_some, hs.at_ t _ ht, hb]
    simp
  have hn : Region.wanted ⟨d, op, ty, pos, aft, none⟩ (yielded ops a.tmps) = true := by simp [Region.wanted]
  unfold wpQuiet at h ⊢
  rw [if_pos hn] at h
  rw [if_pos hy]
  unfold Oper.quiet at h ⊢
  exact h
section
variable {P : Program} {ops : Array Oper} {Q : Exit → Act → World → Prop} {rest : List Oper} {n : Nat} {L : List (Nat × Value)} {w0 : World} {R : Hh} {Ps : List HP} {F : GF} {od : Option Tmp} {op : Op} {ty : TypeId} {pos : String} {aft : Array Edge} {j t : Nat} {want b : Bool}
theorem v40_ (hj : (ops[j]?).bind (·.dst) = some t) (ht : lk L t = some (.bool b)) (hb : b = want) : Av n w0 R L Ps (.li P ops Q (⟨od, op, ty, pos, aft, some (j, want)⟩ :: rest)) L Ps (.li P ops Q (⟨od, op, ty, pos, aft, none⟩ :: rest)) := ⟨fun k a w hs m => g_strip hs hj ht hb (k a w hs m)⟩
theorem v41_ (hj : (ops[j]?).bind (·.dst) = some t) (ht : lk L t = some (.bool b)) (hb : b = want) : Av n w0 R L Ps (.qu P ops (Hp w0 R Ps) F (⟨od, op, ty, pos, aft, some (j, want)⟩ :: rest)) L Ps (.qu P ops (Hp w0 R Ps) F (⟨od, op, ty, pos, aft, none⟩ :: rest)) := ⟨fun k a w hs m => gq_strip hs hj ht hb (k a w hs m)⟩
end
/-! ### a result that is kept in a variable -/
section
variable {P : Program} {n : Nat} {L : List (Nat × Value)} {w0 : World} {R : Hh} {Ps Qs : List HP} {τ : Type} {fn : Func} {φ : τ → Prop} {V : τ → Value} {Z : τ → List HP} {t : Tmp} {T E : TypeId} {cs : List Value} {p : Addr} {z : Nat}
theorem resC_ {w : World} (m : Hp w0 R Ps w) (hx : lk L t = some (.pointer (some (padd p 0)))) (ht : tyI P T = some (true, z)) (hP : Rem Ps (Bx p E cs) Qs) (hl : Nat.beq cs.length z = true) : ResVs P L w [.cell t T] [.agg ⟨cs⟩] := ⟨resv_cell m hx ht hP (Nat.eq_of_beq_eq_true hl), trivial⟩
theorem retC_ (x : τ) (k : φ x) (hx : lk L t = some (.pointer (some (padd p 0)))) (ht : tyI P T = some (true, z)) (hP : Rem Ps (Bx p E cs) Qs) (hl : Nat.beq cs.length z = true) (hv : .agg ⟨cs⟩ = V x) (hz : Sub (Z x) Ps) (hr : fn.results = ⟨[.cell t T]⟩) :
    Gl n w0 R L Ps (.ex (bodyPost P fn fun e w' => ∃ x, φ x ∧ e = .returned (V x) ∧ Hp w0 R (Z x) w') .ret) :=
  fun a w hs m => leave hs hr (resC_ m hx ht hP hl) ⟨x, k, by rw [← hv]; rfl, m.sub hz⟩
end
/-! ### quotients of numbers that are not below zero -/
section
variable {P : Program} {C : World → Prop} {L : List (Nat × Value)} {od : Option Tmp} {ty : TypeId} {pos : String} {aft : Array Edge} {gd : Option (Nat × Bool)} {x y : Operand} {T T2 : TypeId} {n1 n2 : Int}
theorem m1_ (hx : ev L x = some (.int .i64 n1)) (hy : ev L y = some (.int .i64 n2)) (h1 : -9223372036854775808 ≤ n1 * n2) (h2 : n1 * n2 ≤ 9223372036854775807) : OkS P C L ⟨od, .binOp .mul T x y T2, ty, pos, aft, gd⟩ (.int .i64 (n1 * n2)) := ⟨ok_bin hx hy (by show some (Value.int .i64 (IntKind.i64.wrap (n1 * n2))) = _; rw [wrap_i64 h1 h2])⟩
theorem f6n_ (hx : ev L x = some (.int .i64 n1)) (hy : ev L y = some (.int .i64 n2)) (h0 : 0 ≤ n1) (h1 : 0 < n2) (h2 : n1 < 9223372036854775808) : OkS P C L ⟨od, .binOp .quo T x y T2, ty, pos, aft, gd⟩ (.int .i64 (n1 / n2)) := ⟨ok_quo hx hy (by omega) (by
  rw [Int.tdiv_eq_ediv_of_nonneg h0]
  have h3 := Int.ediv_nonneg h0 (Int.le_of_lt h1)
  have h4 := Int.ediv_le_self n2 h0
  exact wrap_i64 (by omega) (by omega))⟩
theorem f7n_ (hx : ev L x = some (.int .i64 n1)) (hy : ev L y = some (.int .i64 n2)) (h0 : 0 ≤ n1) (h1 : 0 < n2) : OkS P C L ⟨od, .binOp .rem T x y T2, ty, pos, aft, gd⟩ (.int .i64 (n1 % n2)) := ⟨ok_rem hx hy (by omega) (Int.tmod_eq_emod_of_nonneg h0)⟩
end
end Go.Proofs.YtdallmabajeajaaGreatDoor.Fw
set_option linter.all false
namespace Go.Proofs.YtdallmabajeajaaGreatDoor.Fw
open Go
section
variable {P : Program} {ops : Array Oper} {Q Q0 : Exit → Act → World → Prop} {S : World → Prop}
theorem wpOp_monoQ {i : Nat} {K : Act → World → Prop} (h : ∀ c a w, Q0 (.panic c) a w → Q (.panic c) a w) (hl : LetsOut Q0 → LetsOut Q) {a : Act} {w : World} (hh : wpOp P ops Q0 i K a w) : wpOp P ops Q i K a w := by
  unfold wpOp at *
  cases ho : ops[i]? with
  | none => rw [ho] at hh; exact hh
  | some o =>
    rw [ho] at hh
    simp only at hh ⊢
    split at hh
    · rename_i hw
      rw [if_pos hw]
      rcases hh with hh | ⟨h1, h2⟩
      · refine .inl ?_
        unfold Oper.wp at *
        generalize (execOp a.eval o).run P w = r at *
        cases r with
        | ok n w' =>
          cases n <;> simp only [Oper.upon] at hh ⊢ <;>
            first
              | exact hh
              | exact Calls.mono hh (fun e w'' he => by cases e <;> first | exact he | exact h _ _ _ he | exact hl he)
        | halt x w' => cases x <;> simp only [Oper.upon] at hh ⊢ <;> first | exact hh | exact h _ _ _ hh
      · exact .inr ⟨h1, hl h2⟩
    · rename_i hw
      rw [if_neg hw]
      exact hh
theorem wpAny_monoQ (h : ∀ e a w, Q0 e a w → Q e a w) (hl : LetsOut Q0 → LetsOut Q) : ∀ (f : Nat) (ls : Array Bool) (a : Act) (w : World), wpAny P .any ops Q0 f ls a w → wpAny P .any ops Q f ls a w
  | 0, ls, a, w, hh => ⟨hh.1, h _ _ _ hh.2⟩
  | f + 1, ls, a, w, hh => ⟨fun h0 => h _ _ _ (hh.1 h0), fun i hi => wpOp_mono (fun a w h' => wpAny_monoQ h hl f _ a w h') (wpOp_monoQ (fun c => h _) hl (hh.2 i hi))⟩
def onN (K : Act → World → Prop) : Exit → Act → World → Prop := Exit.then K fun _ _ _ => False
theorem onN_le {e : Exit} {a : Act} {w : World} (h : onN (Q .normal) e a w) : Q e a w := by
  unfold onN Exit.then at h
  split at h
  · exact h
  · exact h.elim
theorem onN_lets {K : Act → World → Prop} (h : LetsOut (onN K)) : LetsOut Q := by
  obtain ⟨a, w, h⟩ := h
  exact h.elim
def doneL (n : Nat) (D : List Nat) : Array Bool := ((List.range n).map fun i => kinN D i).toArray
theorem doneL_size {n : Nat} {D : List Nat} : (doneL n D).size = n := by simp [doneL]
theorem doneL_get {n : Nat} {D : List Nat} {j : Nat} : (doneL n D).getD j false = (decide (j < n) && kinN D j) := by
  unfold doneL
  by_cases h : j < n
  · simp [Array.getD_eq_getD_getElem?, h]
  · simp [Array.getD_eq_getD_getElem?, h]
theorem kinN_cons {i j : Nat} {D : List Nat} : kinN (i :: D) j = (decide (i = j) || kinN D j) := by
  rw [kinN]
  cases h : Nat.beq i j
  · have : i ≠ j := fun e => by rw [e, Nat.beq_refl] at h; cases h
    simp [this]
  · simp [Nat.eq_of_beq_eq_true h]
theorem doneL_set {n i : Nat} {D : List Nat} : (doneL n D).setIfInBounds i true = doneL n (i :: D) := by
  refine arr_ext (by simp [doneL_size]) fun j => ?_
  rw [set_get, doneL_get, doneL_get, doneL_size, kinN_cons]
  by_cases h : j < n <;> by_cases h2 : i = j <;> simp [h, h2]
def isVal (o : Oper) : Bool := match o.op with
  | .move _ | .assign _ | .pick .. | .load .. | .nilCheck _ | .binOp .. | .unOp .. | .convert .. | .makeFunc .. | .slice .. | .fieldAddr .. | .field .. | .indexAddr .. | .index .. | .lookup .. | .extract .. | .build .. | .makeInterface .. => true
  | .call ⟨.builtin .len, _, _⟩ | .call ⟨.builtin .cap, _, _⟩ | .call ⟨.builtin .min, _, _⟩ | .call ⟨.builtin .max, _, _⟩ => true
  | _ => false
theorem v_val {s : Sem Value} {w w' : World} {n : Go.Next} (h : ((do pure (Go.Next.value (← s))) : Sem Go.Next).run P w = .ok n w') : ∃ v, n = .value v := by
  simp only [bind, Sem.run_bind'] at h
  cases hs : s.run P w with
  | ok v w1 =>
    rw [hs] at h
    simp only [Result.andThen, pure, Sem.run, Result.ok.injEq] at h
    exact ⟨v, h.1.symm⟩
  | halt x w1 => rw [hs] at h; simp [Result.andThen] at h
def NV (P : Program) (s : Sem Go.Next) : Prop := ∀ w n w', s.run P w = .ok n w' → ∃ u, n = Go.Next.value u
theorem nv_bind {α : Type} {s : Sem α} {f : α → Sem Go.Next} (h : ∀ x, NV P (f x)) : NV P (s >>= f) := fun w n w' hr => by
  simp only [bind, Sem.run_bind'] at hr
  cases hs : s.run P w with
  | ok v w1 => rw [hs] at hr; exact h v w1 n w' hr
  | halt x w1 => rw [hs] at hr; simp [Result.andThen] at hr
theorem nv_pure {v : Value} : NV P (pure (Go.Next.value v)) := fun w n w' hr => by
  simp only [pure, Sem.run, Result.ok.injEq] at hr; exact ⟨_, hr.1.symm⟩
theorem val_of_quiet {o : Oper} {a : Act} {C : World → Prop} {w : World} {v : Value} (ho : isVal o = true) (h : o.quietAt P a C w v) : (execOp a.eval o).run P w = .ok (.value v) w := by
  have key : ∀ n w', (execOp a.eval o).run P w = .ok n w' → ∃ u, n = .value u := by
    intro n w' hr
    obtain ⟨od, op, ty, pos, aft, gd⟩ := o
    unfold isVal at ho
    split at ho <;> first | (cases ho; done) | skip
    all_goals (rename_i he; simp only at he; subst he)
    all_goals (first
      | exact v_val hr
      | (simp only [execOp, pure, Sem.run, Result.ok.injEq] at hr; exact ⟨_, hr.1.symm⟩)
      | skip)
    · simp only [execOp, bind, Sem.run_bind'] at hr
      revert hr
      generalize (asBool _).run P w = r
      intro hr
      cases r with
      | ok v w1 =>
        simp only [Result.andThen, pure, Sem.run, Result.ok.injEq] at hr
        exact ⟨_, hr.1.symm⟩
      | halt x w1 => simp [Result.andThen] at hr
    · simp only [execOp] at hr
      revert hr
      split
      · intro hr; simp [runtimePanic, bind, Sem.run_bind', Sem.run] at hr
      · intro hr; simp [runtimePanic] at hr
      · intro hr; simp [runtimePanic] at hr
      · split
        · intro hr; simp [runtimePanic] at hr
        · intro hr
          refine nv_bind (fun p => nv_bind fun b => ?_) w n w' hr
          split
          · exact nv_bind fun _ => nv_pure
          · exact nv_pure
        · intro hr; simp only [pure, Sem.run, Result.ok.injEq] at hr; exact ⟨_, hr.1.symm⟩
      · intro hr; simp only [pure, Sem.run, Result.ok.injEq] at hr; exact ⟨_, hr.1.symm⟩
    all_goals (simp only [execOp, resolve, bind, Sem.run_bind', pure, Sem.run, Result.andThen, invoke, builtin] at hr; exact v_val hr)
  unfold Oper.quietAt Oper.quietUpon at h
  split at h
  · rename_i u w' hr
    rw [hr]; rw [h.1, h.2]
  · rename_i w' hr
    obtain ⟨u, hu⟩ := key _ _ hr
    cases hu
  · rename_i f args w' hr
    obtain ⟨u, hu⟩ := key _ _ hr
    cases hu
  · exact h.elim
theorem yieldsIf_of_in {C : World → Prop} {o : Oper} {v : Value} {a : Act} (ho : isVal o = true) (h : YieldsIn P ops C o v a) : YieldsIf P ops C o v a := by
  rcases h with ⟨h1, h2⟩ | h
  · exact .inl ⟨h1, fun w hw => val_of_quiet ho (h2 w hw)⟩
  · exact .inr h
def reach (ops : Array Oper) (i : Nat) : Nat → Nat → Bool
  | 0, _ => false
  | f + 1, j => match ops[j]? with
    | some o => o.after.any fun e => Region.binds .any e && (Nat.beq e.on i || reach ops i f e.on)
    | none => false
def rea (ops : Array Oper) (j i : Nat) : Bool := reach ops i ops.size j
def wpAnyG (P : Program) (ops : Array Oper) (Q : Exit → Act → World → Prop) (T : Nat → World → Prop) : Nat → Array Bool → Act → World → Prop
  | 0, ls, a, w => Region.ready .any ops ls = [] ∧ Q .normal a w
  | f + 1, ls, a, w => (Region.ready .any ops ls = [] → Q .normal a w) ∧
    ∀ i ∈ Region.ready .any ops ls, wpOp P ops Q i (fun a' w' => (w' = w ∨ ∀ k, ls.getD k false = true → rea ops i k = false → T k w') ∧ wpAnyG P ops Q T f (ls.setIfInBounds i true) a' w') a w
section
variable {T : Nat → World → Prop}
theorem wpAny_of_g : ∀ (f : Nat) (ls : Array Bool) (a : Act) (w : World), wpAnyG P ops Q T f ls a w → wpAny P .any ops Q f ls a w
  | 0, _, _, _, h => h
  | f + 1, ls, a, w, h => ⟨h.1, fun i hi => wpOp_mono (fun a' w' h' => wpAny_of_g f _ a' w' h'.2) (h.2 i hi)⟩
theorem reach_up {ls : Array Bool} (hD : Down ops ls) {i : Nat} : ∀ (f j : Nat), (∀ o, ops[j]? = some o → ∀ e ∈ o.after, Region.binds .any e = true → ls.getD e.on false = true) → reach ops i f j = true → ls.getD i false = true
  | 0, _, _, h => by cases h
  | f + 1, j, hd, h => by
    unfold reach at h
    split at h
    · rename_i o ho
      obtain ⟨e, he, hb⟩ := Array.any_eq_true'.1 h
      simp only [Bool.and_eq_true, Bool.or_eq_true] at hb
      have hl := hd o ho e he hb.1
      rcases hb.2 with h1 | h1
      · rw [← Nat.eq_of_beq_eq_true h1]; exact hl
      · exact reach_up hD f e.on (fun o' ho' e' he' hb' => hD e.on o' hl ho' e' he' hb') h1
    · cases h
theorem rea_ready {ls : Array Bool} (hD : Down ops ls) {i j : Nat} (hi : i ∈ Region.ready .any ops ls) (hj : j ∈ Region.ready .any ops ls) : rea ops j i = false := by
  cases h : rea ops j i with
  | false => rfl
  | true =>
    have h1 := reach_up hD ops.size j (fun o ho e he hb => by
      obtain ⟨_, o', ho', hd⟩ := mem_ready.1 hj
      rw [ho] at ho'; cases ho'
      exact hd e he hb) h
    have h0 := (mem_ready.1 hi).1
    rcases Nat.lt_or_ge i ls.size with h' | h'
    · simp [h'] at h0 h1; rw [h0] at h1; cases h1
    · simp [Array.getElem?_eq_none h'] at h1
theorem down_set {ls : Array Bool} (hD : Down ops ls) {i : Nat} (hi : i ∈ Region.ready .any ops ls) : Down ops (ls.setIfInBounds i true) := by
  intro j o hj ho e he hb
  rw [set_get] at hj ⊢
  simp only [Bool.or_eq_true, Bool.and_eq_true, decide_eq_true_eq] at hj ⊢
  rcases hj with hj | hj
  · exact .inl (hD j o hj ho e he hb)
  · obtain ⟨rfl, _⟩ := hj
    obtain ⟨_, o', ho', hdeps⟩ := mem_ready.1 hi
    rw [ho] at ho'
    simp only [Option.some.injEq] at ho'
    subst ho'
    exact .inl (hdeps e he hb)
theorem wpAnyG_first {i : Nat} {oi : Oper} {v : Value} (hi : ops[i]? = some oi) (hsel : ∀ (j : Nat) (o : Oper) cs b, ops[j]? = some o → o.op ≠ .select cs b)
    (hQ : ∀ c a w, Q (.panic c) (a.put oi.dst v) w → Q (.panic c) a w) :
    ∀ (fuel : Nat) (listed : Array Bool) (a : Act) (w : World), Down ops listed → i < listed.size →
      (∀ j oj, ops[j]? = some oj → j ≠ i → listed.getD j true = false → (∀ e ∈ oj.after, Region.binds .any e = true → e.on ≠ i) → oi.apart ops oj = true) →
      i ∈ Region.ready .any ops listed → YieldsIf P ops (T i) oi v a → T i w →
      wpAnyG P ops Q T fuel (listed.setIfInBounds i true) (a.put oi.dst v) w → wpAnyG P ops Q T (fuel + 1) listed a w := by
  intro fuel
  induction fuel with
  | zero =>
    intro listed a w hD hlt _ hr hy hS H
    refine ⟨fun h => (by rw [h] at hr; cases hr), fun j hj => ?_⟩
    by_cases hji : j = i
    · subst hji; exact hy.wpOp hi hS ⟨.inl rfl, H⟩
    · have := ready_mono hj hji
      rw [H.1] at this
      cases this
  | succ fuel ih =>
    intro listed a w hD hlt hfree hr hy hS H
    refine ⟨fun h => (by rw [h] at hr; cases hr), fun j hj => ?_⟩
    by_cases hji : j = i
    · subst hji; exact hy.wpOp hi hS ⟨.inl rfl, H⟩
    · have h1 := H.2 j (ready_mono hj hji)
      obtain ⟨hjun, oj, hoj, hall⟩ := mem_ready.1 hj
      have hnot : ∀ e ∈ oj.after, Region.binds .any e = true → e.on ≠ i := fun e he hb heq => by
        have h1 := hall e he hb
        have h0 := (mem_ready.1 hr).1
        rw [heq] at h1
        rcases Nat.lt_or_ge i listed.size with h' | h'
        · simp [h'] at h0 h1; rw [h0] at h1; cases h1
        · simp [Array.getElem?_eq_none h'] at h1
      have h2 := wpOp_putIf hoj (hfree j oj hoj hji hjun hnot) (fun cs b => hsel i oi cs b hi) (fun cs b => hsel j oj cs b hoj) hQ hy h1
      have hfree' : ∀ k ok, ops[k]? = some ok → k ≠ i → (listed.setIfInBounds j true).getD k true = false →
          (∀ e ∈ ok.after, Region.binds .any e = true → e.on ≠ i) → oi.apart ops ok = true := fun k ok hk hki hun hno => by
        refine hfree k ok hk hki ?_ hno
        by_cases hjk : j = k
        · subst hjk; exact hjun
        · rw [getD_set_ne true hjk] at hun; exact hun
      refine wpOp_mono (fun a' w' h3 => ?_) h2
      have hT : T i w' := by
        rcases h3.2.1 with h4 | h4
        · rw [h4]; exact hS
        · exact h4 i (by rw [set_get]; simp [hlt]) (rea_ready hD hr hj)
      refine ⟨h3.2.1.imp id fun h4 k hk hk2 => h4 k (by rw [set_get, hk]; simp) hk2, ih (listed.setIfInBounds j true) a' w' (down_set hD hj) (by simpa using hlt) hfree' (ready_mono hr (Ne.symm hji)) h3.1 hT ?_⟩
      rw [Array.setIfInBounds_comm _ _ hji]
      exact h3.2.2
end
def takeB (ops : Array Oper) : List Nat → List Nat → Bool
  | D, [] => true
  | D, i :: is => (match ops[i]? with | some o => isVal o | none => false) && (Region.ready .any ops (doneL ops.size D)).contains i && Region.free .any ops (doneL ops.size D) i && takeB ops (i :: D) is
def opsAt (ops : Array Oper) : List Nat → List Oper
  | [] => []
  | i :: is => match ops[i]? with
    | some o => o :: opsAt ops is
    | none => []
theorem ready_lt {ls : Array Bool} {i : Nat} (h : i ∈ Region.ready .any ops ls) : i < ops.size := by
  obtain ⟨_, o, ho, _⟩ := mem_ready.1 h
  exact (Array.getElem?_eq_some_iff.1 ho).1
theorem kin_mem {D : List Nat} {i : Nat} : kinN D i = true ↔ i ∈ D := by
  induction D with
  | nil => simp [kinN]
  | cons j D ih => rw [kinN_cons, Bool.or_eq_true, decide_eq_true_eq, ih, List.mem_cons]; constructor <;> (rintro (h | h) <;> simp [h])
theorem nd_len : ∀ (n : Nat) (l : List Nat), l.Nodup → (∀ x ∈ l, x < n) → l.length ≤ n
  | 0, l, _, h => by
    cases l with
    | nil => simp
    | cons a l => exact absurd (h a (by simp)) (by omega)
  | n + 1, l, d, h => by
    have h2 := nd_len n (l.erase n) (d.erase n) fun x hx => by
      have h3 := (List.Nodup.mem_erase_iff d).1 hx
      have := h x h3.2
      omega
    by_cases hm : n ∈ l
    · rw [List.length_erase_of_mem hm] at h2; omega
    · rw [List.erase_of_not_mem hm] at h2; omega
theorem len_lt {n : Nat} {D : List Nat} {i : Nat} (hd : D.Nodup) (hb : ∀ j ∈ D, j < n) (hi : i < n) (hn : i ∉ D) : D.length < n := by
  have h1 : (i :: D).Nodup := List.nodup_cons.2 ⟨hn, hd⟩
  have h2 := nd_len n (i :: D) h1 fun j hj => by
    rcases List.mem_cons.1 hj with rfl | hj
    · exact hi
    · exact hb j hj
  simp only [List.length_cons] at h2
  omega
abbrev PE := List Nat × List HP
def TK (w0 : World) (R : Hh) (pl0 : List PE) (k : Nat) (w : World) : Prop := ∀ e ∈ pl0, k ∈ e.1 → Hp w0 R e.2 w
structure okP (ops : Array Oper) (pl0 : List PE) (D : List Nat) (dn pl : List PE) : Prop where
  nd : D.Nodup
  lt : ∀ j ∈ D, j < ops.size
  dw : Down ops (doneL ops.size D)
  sp : ∀ e ∈ pl0, e ∈ dn ∨ e ∈ pl
  sb : ∀ e ∈ pl, e ∈ pl0
  un : ∀ e ∈ pl, ∀ k ∈ e.1, k ∉ D
  dd : ∀ e ∈ dn, ∀ k ∈ e.1, k ∈ D
def disj (is : List Nat) (pl : List PE) : Bool := pl.all fun e => e.1.all fun k => !kinN is k
theorem disj_spec {is : List Nat} {pl : List PE} (h : disj is pl = true) : ∀ e ∈ pl, ∀ k ∈ e.1, k ∉ is := fun e he k hk hm => by
  have := List.all_eq_true.1 (List.all_eq_true.1 h e he) k hk
  rw [kin_mem.2 hm] at this
  cases this
theorem ready_facts {D : List Nat} {i : Nat} (nd : D.Nodup) (lt : ∀ j ∈ D, j < ops.size) (hi : i ∈ Region.ready .any ops (doneL ops.size D)) : i ∉ D ∧ i < ops.size ∧ D.length < ops.size := by
  have hlt := ready_lt hi
  have hn : i ∉ D := fun hm => by
    have h0 := (mem_ready.1 hi).1
    rw [getD_tf (by rw [doneL_size]; exact hlt), doneL_get, kin_mem.2 hm] at h0
    simp [hlt] at h0
  exact ⟨hn, hlt, len_lt nd lt hlt hn⟩
def RH (P : Program) (ops : Array Oper) (K : Act → World → Prop) (T : Nat → World → Prop) (D : List Nat) : Act → World → Prop := fun a w => wpAnyG P ops (onN K) T (ops.size - D.length) (doneL ops.size D) a w
theorem rg_stretch {K : Act → World → Prop} {T : Nat → World → Prop} {S : World → Prop} (hns : Region.noSelect ops = true) {w : World} : ∀ (is D : List Nat) (a : Act) (T' : Act → Prop), (∀ i ∈ is, ∀ w, T i w → S w) → (∀ i ∈ is, T i w) → D.Nodup → (∀ j ∈ D, j < ops.size) → Down ops (doneL ops.size D) → takeB ops D is = true → wpQuiet P ops S T' (opsAt ops is) a →
    ((is.reverse ++ D).Nodup → (∀ j ∈ is.reverse ++ D, j < ops.size) → Down ops (doneL ops.size (is.reverse ++ D)) → ∀ a', T' a' → RH P ops K T (is.reverse ++ D) a' w) → RH P ops K T D a w
  | [], D, a, T', _, _, nd, lt, dw, _, h, k => k nd lt dw a h
  | i :: is, D, a, T', hTS, hT, nd, lt, dw, hB, h, k => by
    unfold takeB at hB
    cases ho : ops[i]? with
    | none => rw [ho] at hB; simp at hB
    | some o =>
      rw [ho] at hB
      simp only [Bool.and_eq_true] at hB
      obtain ⟨⟨⟨h1, h2⟩, h3⟩, h4⟩ := hB
      have hr : i ∈ Region.ready .any ops (doneL ops.size D) := by simpa using h2
      have e : opsAt ops (i :: is) = o :: opsAt ops is := by simp [opsAt, ho]
      rw [e] at h
      have hq : qOp P ops S i (wpQuiet P ops S T' (opsAt ops is)) a := by unfold qOp; simp only [ho]; exact h
      obtain ⟨v, hy, hK⟩ := yieldsIn_of_qOp ho hq
      obtain ⟨hn, hlt, hl⟩ := ready_facts nd lt hr
      have ih := rg_stretch (K := K) (T := T) hns is (i :: D) (a.put o.dst v) T' (fun j hj => hTS j (by simp [hj])) (fun j hj => hT j (by simp [hj])) (List.nodup_cons.2 ⟨hn, nd⟩) (fun j hj => by
        rcases List.mem_cons.1 hj with rfl | hj
        · exact hlt
        · exact lt j hj) (by rw [← doneL_set]; exact down_set dw hr) h4 hK (fun nd' lt' dw' a' ht => by
        have e : is.reverse ++ i :: D = (i :: is).reverse ++ D := by simp
        rw [e] at nd' lt' dw' ⊢
        exact k nd' lt' dw' a' ht)
      unfold RH at ih ⊢
      rw [List.length_cons, ← doneL_set] at ih
      have e2 : ops.size - D.length = (ops.size - (D.length + 1)) + 1 := by omega
      rw [e2]
      have hy2 : YieldsIf P ops (T i) o v a := (yieldsIf_of_in h1 hy).imp (fun ⟨h5, h6⟩ => ⟨h5, fun w hw => h6 w (hTS i (by simp) w hw)⟩) id
      exact wpAnyG_first ho (Region.noSelect_spec hns) (fun c a w hx => hx.elim) _ _ a w dw (by rw [doneL_size]; exact hlt) (Region.free_spec ho h3) hr hy2 (hT i (by simp)) ih
theorem rg_effect {K : Act → World → Prop} {T : Nat → World → Prop} {c : Nat} {o : Oper} {D : List Nat} {a : Act} {w : World} (nd : D.Nodup) (lt : ∀ j ∈ D, j < ops.size) (hr : Region.ready .any ops (doneL ops.size D) = [c]) (ho : ops[c]? = some o)
    (h : wpList P ops (Exit.then (fun a w => (∀ k ∈ D, rea ops c k = false → T k w) ∧ RH P ops K T (c :: D) a w) fun _ _ _ => False) [o] a w) : RH P ops K T D a w := by
  have hm : c ∈ Region.ready .any ops (doneL ops.size D) := by rw [hr]; simp
  obtain ⟨hn, hlt, hl⟩ := ready_facts nd lt hm
  unfold RH
  have e2 : ops.size - D.length = (ops.size - (D.length + 1)) + 1 := by omega
  rw [e2]
  refine ⟨fun h0 => (by rw [hr] at h0; cases h0), fun i hi => ?_⟩
  have hi : i = c := by rw [hr] at hi; simpa using hi
  subst hi
  have h2 : wpOp P ops (Exit.then (fun a w => (∀ k ∈ D, rea ops i k = false → T k w) ∧ RH P ops K T (i :: D) a w) fun _ _ _ => False) i (fun a w => (∀ k ∈ D, rea ops i k = false → T k w) ∧ RH P ops K T (i :: D) a w) a w := by
    unfold wpOp
    rw [ho]
    simp only [wpList] at h ⊢
    split
    · rename_i hw
      rw [if_pos hw] at h
      rcases h with h | h
      · exact .inl h
      · exact .inr h
    · rename_i hw
      rw [if_neg hw] at h
      exact h
  refine wpOp_monoQ (fun e a w hx => hx.elim) (fun ⟨a, w, hx⟩ => hx.elim) (wpOp_mono (fun a w hx => ⟨.inr fun k hk hk2 => hx.1 k ?_ hk2, ?_⟩) h2)
  · have := hx.2
    unfold RH at this
    rw [List.length_cons, ← doneL_set] at this
    exact this
  · rw [doneL_get, Bool.and_eq_true] at hk
    exact kin_mem.1 hk.2
end
/-! ### the rules -/
def exN (Q : Exit → Act → World → Prop) : Act → World → Prop := Q .normal
def RP (P : Program) (ops : Array Oper) (K : Act → World → Prop) (w0 : World) (R : Hh) (pl0 : List PE) (D : List Nat) (dn pl : List PE) : Act → World → Prop := fun a w => okP ops pl0 D dn pl → RH P ops K (TK w0 R pl0) D a w
def HA (ops : Array Oper) (w0 : World) (R : Hh) (c : Nat) (dn : List PE) (w : World) : Prop := ∀ e ∈ dn, (e.1.any fun k => !rea ops c k) = true → Hp w0 R e.2 w
inductive SA (ops : Array Oper) (c : Nat) (Ps : List HP) : List PE → Prop
  | n : SA ops c Ps []
  | s {is : List Nat} {Qs : List HP} {dn : List PE} : (is.any fun k => !rea ops c k) = false → SA ops c Ps dn → SA ops c Ps ((is, Qs) :: dn)
  | c {is : List Nat} {Qs : List HP} {dn : List PE} : Sub Qs Ps → SA ops c Ps dn → SA ops c Ps ((is, Qs) :: dn)
theorem SA.ha {ops : Array Oper} {c : Nat} {Ps : List HP} {dn : List PE} {w0 w : World} {R : Hh} (h : SA ops c Ps dn) (m : Hp w0 R Ps w) : HA ops w0 R c dn w := by
  induction h with
  | n => exact fun e he => by cases he
  | s h _ ih =>
    intro e he hx
    rcases List.mem_cons.1 he with rfl | he
    · rw [h] at hx; cases hx
    · exact ih e he hx
  | c h _ ih =>
    intro e he hx
    rcases List.mem_cons.1 he with rfl | he
    · exact m.sub h
    · exact ih e he hx
theorem wpList_monoQ {P : Program} {ops : Array Oper} {K K' : Act → World → Prop} {o : Oper} {a : Act} {w : World} (h : ∀ a w, K a w → K' a w) (hh : wpList P ops (Exit.then K fun _ _ _ => False) [o] a w) : wpList P ops (Exit.then K' fun _ _ _ => False) [o] a w := by
  simp only [wpList] at hh ⊢
  split at hh
  · rename_i hw
    rw [if_pos hw]
    rcases hh with hh | ⟨h1, a', w', h2⟩
    · refine .inl ?_
      unfold Oper.wp at *
      generalize (execOp a.eval o).run P w = r at *
      cases r with
      | ok n w' =>
        cases n <;> simp only [Oper.upon] at hh ⊢ <;>
          first
            | exact hh
            | exact h _ _ hh
            | exact Calls.mono hh (fun e w'' he => by cases e <;> first | exact h _ _ he | exact he.elim | exact (let ⟨_, _, h⟩ := he; h.elim))
            | exact Rows.mono hh (fun _ _ he => h _ _ he)
      | halt x w' => cases x <;> simp only [Oper.upon] at hh ⊢ <;> exact hh
    · exact h2.elim
  · rename_i hw
    rw [if_neg hw]
    exact h _ _ hh
def mkPl : List (List Nat) → List (List HP) → List PE
  | [], _ => []
  | is :: l, [] => (is, []) :: mkPl l []
  | is :: l, Q :: Qs => (is, Q) :: mkPl l Qs
section
variable {P : Program} {ops : Array Oper} {Q Q' : Exit → Act → World → Prop} {n : Nat} {L L' : List (Nat × Value)} {w0 : World} {R : Hh} {Ps Qs Ps' : List HP} {F F' : GF} {o : Oper} {y : Code} {id : Nat} {l : List Oper} {K : Act → World → Prop} {D : List Nat} {is : List Nat} {c : Nat} {pl pl0 dn : List PE}
theorem hb_ {k : Nat} (pl : List PE) (kk : Gl n w0 R L Ps (.ex (fun _ => RP P ops (exN Q) w0 R pl (List.range k) [] pl) .normal)) (hk : (Nat.ble k ops.size && downB ops k && disj (List.range k) pl) = true) : Gl n w0 R L Ps (.an P ops Q k) := fun a w hs m => by
  simp only [Bool.and_eq_true] at hk
  have hk1 := Nat.le_of_ble_eq_true hk.1.1
  have e : doneL ops.size (List.range k) = pre ops.size k := arr_ext (by rw [doneL_size, pre_size]) fun j => by
    rw [doneL_get, pre_get]
    congr 1
    rw [Bool.eq_iff_iff, kin_mem, List.mem_range, decide_eq_true_eq]
  have h := kk a w hs m ⟨List.nodup_range, fun j hj => by have := List.mem_range.1 hj; omega, by rw [e]; exact downB_spec hk.1.2, fun e he => .inr he, fun e he => he, fun e he k hk1 => disj_spec hk.2 e he k hk1, fun e he => by cases he⟩
  unfold RH at h
  rw [List.length_range, e] at h
  exact wpAny_monoQ (fun e a w h => onN_le h) (fun h => onN_lets h) _ _ _ _ (wpAny_of_g _ _ _ _ h)
theorem hs_ (hB : (Region.noSelect ops && takeB ops D is && disj is pl) = true) (hP : Sub Qs Ps) (r : ∀ F1, Av n w0 R L Qs (.qu P ops (Hp w0 R Qs) F1 (opsAt ops is)) L' Qs (.qu P ops (Hp w0 R Qs) F1 [])) :
    Av n w0 R L Ps (.ex (fun _ => RP P ops K w0 R pl0 D dn ((is, Qs) :: pl)) .normal) L' Ps (.ex (fun _ => RP P ops K w0 R pl0 (is.reverse ++ D) ((is, Qs) :: dn) pl) .normal) := ⟨fun k a w hs m hk => by
  simp only [Bool.and_eq_true] at hB
  have hw := m.sub hP
  have he := hk.sb (is, Qs) (by simp)
  refine rg_stretch (S := Hp w0 R Qs) hB.1.1 is D a (St n L') (fun i hi w ht => ht _ he hi) (fun i hi e he2 hi2 => ?_) hk.nd hk.lt hk.dw hB.1.2 ?_ fun nd lt dw a' hs' => k a' w hs' m ?_
  · rcases hk.sp e he2 with h1 | h1
    · exact absurd (hk.dd e h1 i hi2) (hk.un (is, Qs) (by simp) i hi)
    · rcases List.mem_cons.1 h1 with rfl | h1
      · exact hw
      · exact absurd hi (disj_spec hB.2 e h1 i hi2)
  · exact wpQuiet_mono' (fun a h => h w hw) ((r (.ex (fun _ a _ => St n L' a) .normal)).g (fun a w hs m => wpQuiet_nil fun w' m' => hs) a w hs hw)
  · refine ⟨nd, lt, dw, fun e he => ?_, fun e he => hk.sb e (by simp [he]), fun e he k hk1 hm => ?_, fun e he k hk1 => ?_⟩
    · rcases hk.sp e he with h1 | h1
      · exact .inl (by simp [h1])
      · rcases List.mem_cons.1 h1 with rfl | h1
        · exact .inl (by simp)
        · exact .inr h1
    · rcases List.mem_append.1 hm with h1 | h1
      · exact disj_spec hB.2 e he k hk1 (by simpa using h1)
      · exact hk.un e (by simp [he]) k hk1 h1
    · rcases List.mem_cons.1 he with rfl | he
      · exact List.mem_append_left _ (by simpa using hk1)
      · exact List.mem_append_right _ (hk.dd e he k hk1)⟩
theorem he_ (ho : ops[c]? = some o) (hra : ((Region.ready .any ops (doneL ops.size D)) == [c]) = true) (hrb : disj [c] pl = true) : Av n w0 R L Ps (.ex (fun _ => RP P ops K w0 R pl0 D dn (([c], Qs) :: pl)) .normal) L Ps (.li P ops (Exit.then (fun a w => HA ops w0 R c dn w ∧ RP P ops K w0 R pl0 (c :: D) (([c], Qs) :: dn) pl a w) fun _ _ _ => False) [o]) := ⟨fun k a w hs m hk => by
  have hr1 := eq_of_beq hra
  have hm : c ∈ Region.ready .any ops (doneL ops.size D) := by rw [hr1]; simp
  obtain ⟨hn, hlt, hl⟩ := ready_facts hk.nd hk.lt hm
  have hk' : okP ops pl0 (c :: D) (([c], Qs) :: dn) pl := ⟨List.nodup_cons.2 ⟨hn, hk.nd⟩, fun j hj => by
      rcases List.mem_cons.1 hj with rfl | hj
      · exact hlt
      · exact hk.lt j hj, by rw [← doneL_set]; exact down_set hk.dw hm, fun e he => by
      rcases hk.sp e he with h1 | h1
      · exact .inl (by simp [h1])
      · rcases List.mem_cons.1 h1 with rfl | h1
        · exact .inl (by simp)
        · exact .inr h1, fun e he => hk.sb e (by simp [he]), fun e he u hk1 hm => by
      rcases List.mem_cons.1 hm with h1 | h1
      · exact disj_spec hrb e he u hk1 (by simp [h1])
      · exact hk.un e (by simp [he]) u hk1 h1, fun e he u hk1 => by
      rcases List.mem_cons.1 he with rfl | he
      · have : u = c := by simpa using hk1
        rw [this]; simp
      · exact List.mem_cons_of_mem _ (hk.dd e he u hk1)⟩
  refine rg_effect hk.nd hk.lt hr1 ho (wpList_monoQ (fun a w hx => ⟨fun k hkD hk2 e he hke => ?_, hx.2 hk'⟩) (k a w hs m))
  rcases hk.sp e he with h1 | h1
  · exact hx.1 e h1 (List.any_eq_true.2 ⟨k, hke, by rw [hk2]; rfl⟩)
  · exact absurd hkD (hk.un e h1 k hke)⟩
theorem hn_ (hP : SA ops c Ps dn) : Av n w0 R L Ps (.ex (Exit.then (fun a w => HA ops w0 R c dn w ∧ RP P ops K w0 R pl0 (c :: D) (([c], Qs) :: dn) pl a w) Q') .normal) L Ps (.ex (fun _ => RP P ops K w0 R pl0 (c :: D) (([c], Qs) :: dn) pl) .normal) := ⟨fun k a w hs m => ⟨hP.ha m, k a w hs m⟩⟩
theorem hz_ (hr : (Region.ready .any ops (doneL ops.size D)).isEmpty = true) : Av n w0 R L Ps (.ex (fun _ => RP P ops K w0 R pl0 D dn []) .normal) L Ps (.ex (fun _ => K) .normal) := ⟨fun k a w hs m hk => by
  have hr : Region.ready .any ops (doneL ops.size D) = [] := by simpa using hr
  unfold RH
  cases ops.size - D.length with
  | zero => exact ⟨hr, k a w hs m⟩
  | succ f => exact ⟨fun _ => k a w hs m, fun i hi => by rw [hr] at hi; cases hi⟩⟩
theorem hx_ : Av n w0 R L Ps (.ex (fun _ => exN Q) .normal) L Ps (.ex Q .normal) := ⟨fun k => k⟩
end
section
variable {P : Program} {C : World → Prop} {L : List (Nat × Value)} {od : Option Tmp} {ty : TypeId} {pos : String} {aft : Array Edge} {gd : Option (Nat × Bool)} {x y z : Operand} {T E : TypeId} {ag : Bool} {k : Nat} {X : SH} {α : Type} {c : α → List Value} {xs : List α} {K K2 : IntKind} {i j : Int}
theorem sl1_ (hx : ev L x = some X.v) (hy : ev L y = some (.int K j)) (hT : slI P T = some E) (hE : tyI P E = some (ag, k)) (hr : RC C k X.v (xs.map c)) (h0 : 0 ≤ j) (h1 : j ≤ xs.length) : OkS P C L ⟨od, .slice T x none (some y) none, ty, pos, aft, gd⟩ (upH X j.toNat).v := ⟨fun ρ ha w hw => by
  have hn := (hr w hw).ncapM
  rw [← sub3_0 k]
  exact ok_sliceH (C := C) (hi := some y) (lo := none) (mx := none) hx hT hE rfl ⟨K, by rw [hy]; congr 2; omega⟩ rfl (by simp) (by omega) (by omega) (Nat.le_refl _) ρ ha w hw⟩
theorem sl2_ (hx : ev L x = some X.v) (hy : ev L y = some (.int K i)) (hT : slI P T = some E) (hE : tyI P E = some (ag, k)) (hr : RC C k X.v (xs.map c)) (h0 : 0 ≤ i) (h1 : i ≤ xs.length) : OkS P C L ⟨od, .slice T x (some y) none none, ty, pos, aft, gd⟩ (subH3 k X i.toNat xs.length X.c).v := ⟨fun ρ ha w hw => by
  have hn := (hr w hw).ncapM
  exact ok_sliceH (C := C) (hi := none) (lo := some y) (mx := none) hx hT hE ⟨K, by rw [hy]; congr 2; omega⟩ hn.1.symm rfl (by simp) (by omega) (by omega) (Nat.le_refl _) ρ ha w hw⟩
theorem sl3_ (hx : ev L x = some X.v) (hy : ev L y = some (.int K i)) (hz : ev L z = some (.int K2 j)) (hT : slI P T = some E) (hE : tyI P E = some (ag, k)) (hr : RC C k X.v (xs.map c)) (h0 : 0 ≤ i) (h1 : i ≤ j) (h2 : j ≤ xs.length) : OkS P C L ⟨od, .slice T x (some y) (some z) none, ty, pos, aft, gd⟩ (subH3 k X i.toNat j.toNat X.c).v := ⟨fun ρ ha w hw => by
  have hn := (hr w hw).ncapM
  exact ok_sliceH (C := C) (hi := some z) (lo := some y) (mx := none) hx hT hE ⟨K, by rw [hy]; congr 2; omega⟩ ⟨K2, by rw [hz]; congr 2; omega⟩ rfl (by simp) (by omega) (by omega) (Nat.le_refl _) ρ ha w hw⟩
theorem shu_ {n : Nat} {w0 : World} {R : Hh} {Ps Qs : List HP} {F : GF} (i : Nat) (kk : Gl n w0 R L (Sv k E (upH X i).v ((xs.take i).map c) :: Qs) F) (hP : Rem Ps (Sv k E X.v (xs.map c)) Qs) (h : i ≤ xs.length) : Gl n w0 R L Ps F := fun a w hs m => kk a w hs ((m.front hP).shrinkM (hi := i) s0 h)
end
theorem mf_ {P : Program} {C : World → Prop} {L : List (Nat × Value)} {od : Option Tmp} {ty : TypeId} {pos : String} {aft : Array Edge} {gd : Option (Nat × Bool)} {f : Fn} {xs ys : List Operand} {us vs : List Value} (hx : evs L xs = some us) (hy : evs L ys = some vs) : OkS P C L ⟨od, .makeFunc f ⟨xs⟩ ⟨ys⟩, ty, pos, aft, gd⟩ (.func f ⟨us⟩ ⟨vs⟩) := ⟨ok_makeFunc hx hy⟩
theorem Rem.app {p : HP} {l r : List HP} : Rem (p :: l) p l := r0
theorem Sub.rfl' : ∀ {l : List HP}, Sub l l
  | [] => .n
  | _ :: _ => .c r0 Sub.rfl'
section
variable {P : Program} {ops : Array Oper} {Q : Exit → Act → World → Prop} {rest : List Oper} {n : Nat} {L : List (Nat × Value)} {w0 : World} {R : Hh} {Ps Qs : List HP} {d : Nat} {ty : TypeId} {pos : String} {aft : Array Edge} {α : Type} {ct : α → List Value} {xs : List α} {T T2 E : TypeId} {ag : Bool} {k : Nat} {x y : Operand} {X : SH}
theorem rcw_ (j : Nat) (hP : Rem Ps (Sv k E X.v (xs.map ct)) Qs) (h : j ≤ xs.length) : RC (Hp w0 R Ps) k (subH3 k X j xs.length X.c).v ((xs.drop j).map ct) := fun w m => by
  have hr := m.rdv hP
  have hn := hr.ncapM
  exact hr.win h (Nat.le_refl _) (by omega) (Nat.le_refl _) (by simp)
theorem afx_ (i j : Nat) (kk : Gl n w0 R ((d, (upH X (i + (xs.length - j))).v) :: L) (Sv k E (upH X (i + (xs.length - j))).v ((xs.take i ++ xs.drop j).map ct) :: Qs) (.li P ops Q rest)) (hx : ev L x = some (upH X i).v) (hy : ev L y = some (subH3 k X j xs.length X.c).v) (hP : Rem Ps (Sv k E X.v (xs.map ct)) Qs) (hT : slI P T = some E) (hT2 : notInt P T2 = true) (hE : tyI P E = some (ag, k)) (ho : Cs ct k) (h1 : i ≤ j) (h2 : j ≤ xs.length) (hd : Nat.blt d n = true) :
    Gl n w0 R L Ps (.li P ops Q (⟨some d, .call ⟨.builtin .append, #[x, y], #[T, T2]⟩, ty, pos, aft, none⟩ :: rest)) := by
  have hl : (xs.drop j).length = xs.length - j := by simp
  refine apf_ (i := i) (ys := xs.drop j) (Y := subH3 k X j xs.length X.c) ?_ (by rw [subH3_0]; exact hx) hy hT hT2 hE hP (rcw_ j hP h2) ho (by rw [hl]; omega) hd
  rw [hl]; exact kk
end
section
variable {P : Program} {Q : Exit → Act → World → Prop} {n : Nat} {L : List (Nat × Value)} {w0 : World} {R : Hh} {Ps Qs : List HP} {x : Code} {id l : Nat}
theorem v50_ : Av n w0 R L Ps (.co P (.scope x) Q) L Ps (.co P x (Exit.noGoto Q)) := ⟨fun k a w hs m => wp_scope_straight (k a w hs m)⟩
theorem v51_ : Av n w0 R L Ps (.co P (.label l) Q) L Ps (.ex Q .normal) := ⟨fun k a w hs m => wp_label (k a w hs m)⟩
theorem v52_ : Av n w0 R L Ps (.ex (Exit.noGoto Q) .normal) L Ps (.ex Q .normal) := ⟨fun k => k⟩
theorem v53_ : Av n w0 R L Ps (.ex (Exit.noGoto Q) .ret) L Ps (.ex Q .ret) := ⟨fun k => k⟩
theorem v54_ : Av n w0 R L Ps (.ex (Exit.noGoto Q) (.exit id)) L Ps (.ex Q (.exit id)) := ⟨fun k => k⟩
inductive RV (P : Program) (L : List (Nat × Value)) (Ps : List HP) : List ResultVar → List Value → Prop
  | n : RV P L Ps [] []
  | t {t : Tmp} {v : Value} {rs : List ResultVar} {vs : List Value} : lk L t = some v → RV P L Ps rs vs → RV P L Ps (.tmp t :: rs) (v :: vs)
  | c {t : Tmp} {T E : TypeId} {z : Nat} {p : Addr} {cs : List Value} {Qs : List HP} {rs : List ResultVar} {vs : List Value} : lk L t = some (.pointer (some (padd p 0))) → tyI P T = some (true, z) → Rem Ps (Bx p E cs) Qs → Nat.beq cs.length z = true → RV P L Ps rs vs → RV P L Ps (.cell t T :: rs) (.agg ⟨cs⟩ :: vs)
  | s {t : Tmp} {T E : TypeId} {z : Nat} {p : Addr} {v : Value} {Qs : List HP} {rs : List ResultVar} {vs : List Value} : lk L t = some (.pointer (some (padd p 0))) → tyI P T = some (false, z) → Rem Ps (Bx p E [v]) Qs → RV P L Ps rs vs → RV P L Ps (.cell t T :: rs) (v :: vs)
theorem RV.vs {w : World} {rs : List ResultVar} {vs : List Value} (h : RV P L Ps rs vs) (m : Hp w0 R Ps w) : ResVs P L w rs vs := by
  induction h with
  | n => trivial
  | t h _ ih => exact ⟨h, ih⟩
  | c h1 h2 h3 h4 _ ih => exact ⟨resv_cell m h1 h2 h3 (Nat.eq_of_beq_eq_true h4), ih⟩
  | s h1 h2 h3 _ ih => exact ⟨resv_cell1 m h1 h2 h3, ih⟩
variable {τ : Type} {fn : Func} {φ : τ → Prop} {V : τ → Value} {Z : τ → List HP} {rs : List ResultVar} {vs : List Value}
theorem retM_ (x : τ) (k : φ x) (hr : fn.results = ⟨rs⟩) (h : RV P L Ps rs vs) (hv : pack vs = V x) (hz : Sub (Z x) Ps) :
    Gl n w0 R L Ps (.ex (bodyPost P fn fun e w' => ∃ x, φ x ∧ e = .returned (V x) ∧ Hp w0 R (Z x) w') .ret) := fun a w hs m => leave hs hr (h.vs m) ⟨x, k, by rw [hv], m.sub hz⟩
theorem retMN_ (x : τ) (k : φ x) (hr : fn.results = ⟨rs⟩) (h : RV P L Ps rs vs) (hv : pack vs = V x) (hz : Sub (Z x) Ps) :
    Gl n w0 R L Ps (.ex (bodyPost P fn fun e w' => ∃ x, φ x ∧ e = .returned (V x) ∧ Hp w0 R (Z x) w') .normal) := fun a w hs m => leaveN hs hr (h.vs m) ⟨x, k, by rw [hv], m.sub hz⟩
end
section
variable {ι : Type} {P : Program} {Q : Exit → Act → World → Prop} {n : Nat} {L L0 : List (Nat × Value)} {w0 : World} {R : Hh} {Ps Pr J0 : List HP} {x : Code}
theorem joinM_ (M : ι → List (Nat × Value)) (J : ι → List HP) (φ : ι → Prop) (h : Gl n w0 R L Ps (.co P x (Exit.then (JN n w0 R (fun i => M i ++ L) (fun i => J i ++ Pr) φ) Q))) (k : ∀ i, φ i → Gl n w0 R (M i ++ L) (J i ++ Pr) (.ex Q .normal)) : Gl n w0 R L Ps (.co P x Q) := fun a w hs m =>
  Code.wp_mono (fun e a w q => by
    cases e <;> first | exact q | (obtain ⟨i, h1, h2, h3⟩ := q; exact k i h1 a w h2 h3)) (h a w hs m)
theorem meetM_ {M : ι → List (Nat × Value)} {J : ι → List HP} {φ : ι → Prop} (j : ι) (h1 : φ j) (hL : Bk L (M j) L0) (hP : Sub (J j ++ Pr) Ps) :
    Gl n w0 R L Ps (.ex (fun _ => JN n w0 R (fun i => M i ++ L0) (fun i => J i ++ Pr) φ) .normal) := fun a w hs ms => ⟨j, h1, hs.bk hL, ms.sub hP⟩
theorem rcu_ {α : Type} {ct : α → List Value} {xs : List α} {E : TypeId} {k : Nat} {X : SH} {Qs : List HP} (i : Nat) (hP : Rem Ps (Sv k E X.v (xs.map ct)) Qs) (h : i ≤ xs.length) : RC (Hp w0 R Ps) k (upH X i).v ((xs.take i).map ct) := fun w m => by
  have hr := m.rdv hP
  have hn := hr.ncapM
  have := hr.win (lo := 0) (hi := i) (mx := X.c) (ys := xs.take i) (by omega) h (by omega) (Nat.le_refl _) (by simp)
  rw [sub3_0] at this
  exact this
end
theorem rq_ {R' : Hh} {Pr Qs : List HP} {k : Nat} {E : TypeId} {v : Value} {ds : List (List Value)} (q : ∃ y, SepL Pr y ∧ hle y R') (h : Rem Pr (Sv k E v ds) Qs) : RdS R' k v ds := by
  obtain ⟨y, sy, hy⟩ := q
  obtain ⟨g, hg, l⟩ := sy.look h
  exact (Sv.reads hg).le (fun i o e => hy i o (l i o e))
theorem Rqw {R' : Hh} {k : Nat} {X : SH} {α : Type} {ct : α → List Value} {xs : List α} (hr : RdS R' k X.v (xs.map ct)) (j : Nat) (h : j ≤ xs.length) : RdS R' k (subH3 k X j xs.length X.c).v ((xs.drop j).map ct) := by
  have hn := hr.ncapM
  exact hr.win h (Nat.le_refl _) (by omega) (Nat.le_refl _) (by simp)
section
variable {P : Program} {ops : Array Oper} {Q : Exit → Act → World → Prop} {rest : List Oper} {n : Nat} {L : List (Nat × Value)} {w0 : World} {R : Hh} {Ps : List HP} {d : Nat} {op : Op} {ty : TypeId} {pos : String} {aft : Array Edge} {j t : Nat} {want b : Bool}
theorem v42_ (hj : (ops[j]?).bind (·.dst) = some t) (ht : lk L t = some (.bool b)) (hd : Nat.blt d n = true) (hb : b = !want) : Av n w0 R L Ps (.li P ops Q (⟨some d, op, ty, pos, aft, some (j, want)⟩ :: rest)) ((d, undef) :: L) Ps (.li P ops Q rest) := ⟨fun k a w hs m => (po_ (P := P) (C := Hp w0 R Ps) (op := op) (ty := ty) (pos := pos) (aft := aft) hb hj ht hd).g Q rest a w hs m fun a' hs' => k a' w hs' m⟩
theorem v43_ (hj : (ops[j]?).bind (·.dst) = some t) (ht : lk L t = some undef) (hd : Nat.blt d n = true) : Av n w0 R L Ps (.li P ops Q (⟨some d, op, ty, pos, aft, some (j, want)⟩ :: rest)) ((d, undef) :: L) Ps (.li P ops Q rest) := ⟨fun k a w hs m => (pu_ (P := P) (C := Hp w0 R Ps) (op := op) (ty := ty) (pos := pos) (aft := aft) hj ht hd).g Q rest a w hs m fun a' hs' => k a' w hs' m⟩
end
section
variable {C : World → Prop} {α : Type} {ct : α → List Value} {xs : List α} {k : Nat} {X : SH}
theorem rcW_ {j : Nat} (hr : RC C k X.v (xs.map ct)) (h : j ≤ xs.length) : RC C k (subH3 k X j xs.length X.c).v ((xs.drop j).map ct) := fun w m => Rqw (hr w m) j h
theorem Rqu {R' : Hh} (hr : RdS R' k X.v (xs.map ct)) (i : Nat) (h : i ≤ xs.length) : RdS R' k (upH X i).v ((xs.take i).map ct) := by
  have hn := hr.ncapM
  have := hr.win (lo := 0) (hi := i) (mx := X.c) (ys := xs.take i) (by omega) h (by omega) (Nat.le_refl _) (by simp)
  rw [sub3_0] at this
  exact this
theorem rcU_ {i : Nat} (hr : RC C k X.v (xs.map ct)) (h : i ≤ xs.length) : RC C k (upH X i).v ((xs.take i).map ct) := fun w m => Rqu (hr w m) i h
end
end Go.Proofs.YtdallmabajeajaaGreatDoor.Fw
