/-
  The walker's own words, seventh part: statements; a function's begin and end. By the session; nothing here is trusted.
-/
import Derived.Test.YtnbpodjbemfpbaaGreatFw6
set_option linter.unusedVariables false
set_option linter.all false
namespace Go.Proofs.YtnbpodjbemfpbaaGreat.Fw
open Go
/-! ### 15. Statements -/
section
variable {P : Program} {Q : Exit → Act → World → Prop} {a : Act} {w : World} {x y : Code}
theorem n_then {K : Act → World → Prop} (h : K a w) : Exit.then K Q .normal a w := h
theorem n_block {id : Nat} (h : Q .normal a w) : Exit.inBlock id Q .normal a w := h
theorem c_seq (h : x.wp P (Exit.then (y.wp P Q) Q) a w) : (Code.seq x y).wp P Q a w := wp_seq h
theorem c_reg {id : Nat} {l : List Oper} (h : wpList P l.toArray (Exit.then (y.wp P Q) Q) l a w) : (Code.seq (.region id l.toArray false) y).wp P Q a w := wp_seq (wp_region_lit h)
theorem c_last {id : Nat} {l : List Oper} (h : wpList P l.toArray Q l a w) : (Code.region id l.toArray false).wp P Q a w := wp_region_lit h
theorem c_draw {w0 : World} {R : Hh} {Ps : List HP} {id : Nat} {l : List Oper} (m : Hp w0 R Ps w) (hm : P.follows .mixedOrders = true) (hB : Region.lexB .any l.toArray = true)
    (h : wpQuiet P l.toArray (Hp w0 R Ps) (fun a' => ∀ w', Hp w0 R Ps w' → y.wp P Q a' w') l a) : (Code.seq (.region id l.toArray true) y).wp P Q a w :=
  wp_seq (wp_region_quiet (C := Hp w0 R Ps) hm hB (m.drawn _) h)
theorem c_drawLast {w0 : World} {R : Hh} {Ps : List HP} {id : Nat} {l : List Oper} (m : Hp w0 R Ps w) (hm : P.follows .mixedOrders = true) (hB : Region.lexB .any l.toArray = true)
    (h : wpQuiet P l.toArray (Hp w0 R Ps) (fun a' => ∀ w', Hp w0 R Ps w' → Q .normal a' w') l a) : (Code.region id l.toArray true).wp P Q a w :=
  wp_region_quiet (C := Hp w0 R Ps) hm hB (m.drawn _) h
theorem c_cond {n : Nat} {L : List (Nat × Value)} {c : Operand} {b : Bool} (hs : St n L a) (hc : ev L c = some (.bool b)) (ht : b = true → x.wp P Q a w) (hf : b = false → y.wp P Q a w) : (Code.cond c x y).wp P Q a w :=
  wp_cond_split (hs.evs c _ hc) ht hf
theorem c_true {n : Nat} {L : List (Nat × Value)} {c : Operand} {b : Bool} (hs : St n L a) (hc : ev L c = some (.bool b)) (hb : b = true) (h : x.wp P Q a w) : (Code.cond c x y).wp P Q a w := by
  subst hb; exact wp_cond_true (hs.evs c _ hc) h
theorem c_false {n : Nat} {L : List (Nat × Value)} {c : Operand} {b : Bool} (hs : St n L a) (hc : ev L c = some (.bool b)) (hb : b = false) (h : y.wp P Q a w) : (Code.cond c x y).wp P Q a w := by
  subst hb; exact wp_cond_false (hs.evs c _ hc) h
theorem ex_hit {id : Nat} (h : Q .normal a w) : Exit.inBlock id Q (.exit id) a w := by simp only [Exit.inBlock, if_true]; exact h
theorem ex_miss {id id' : Nat} (hne : Nat.beq id' id = false) (h : Q (.exit id') a w) : Exit.inBlock id Q (.exit id') a w := by
  have : ¬ id' = id := fun e => by rw [e, Nat.beq_refl] at hne; cases hne
  simp only [Exit.inBlock, this, if_false]; exact h
theorem ex_then {K : Act → World → Prop} {id : Nat} (h : Q (.exit id) a w) : Exit.then K Q (.exit id) a w := h
theorem ret_then {K : Act → World → Prop} (h : Q .ret a w) : Exit.then K Q .ret a w := h
theorem ret_block {id : Nat} (h : Q .ret a w) : Exit.inBlock id Q .ret a w := h
end
/-! ### 16. A function's begin and end -/
def num : Nat → List Value → List (Nat × Value)
  | _, [] => []
  | i, v :: r => (i, v) :: num (i + 1) r
theorem lk_num : ∀ (vs : List Value) (i j : Nat) (v : Value), lk (num i vs) j = some v → i ≤ j ∧ vs[j - i]? = some v
  | [], _, _, _, h => by simp [num, lk] at h
  | u :: r, i, j, v, h => by
    simp only [num] at h
    by_cases e : i = j
    · subst e
      rw [lk_hit] at h
      simp only [Option.some.injEq] at h
      simp [h]
    · rw [lk_miss _ _ e] at h
      have := lk_num r (i + 1) j v h
      refine ⟨by omega, ?_⟩
      rw [show j - i = (j - (i + 1)) + 1 from by omega, List.getElem?_cons_succ]
      exact this.2
theorem enter {P : Program} {f : FuncId} {fn : Func} {c : Code} {args : List Value} {w : World} {Rr : Ending → World → Prop} {n : Nat} (hf : P.funcs[f]? = some fn) (hb : fn.body = some c) (hn : fn.ntmps = n) (ha : Nat.ble args.length n = true)
    (h : ∀ a, St n (num 0 args) a → c.wp P (bodyPost P fn Rr) a w) : Calls P f ⟨args⟩ w Rr := by
  refine calls_of_wp hf hb (h _ ?_)
  have hle := Nat.le_of_ble_eq_true ha
  refine ⟨by simp [hn]; omega, rfl, fun i v hv => ?_⟩
  obtain ⟨_, h2⟩ := lk_num args 0 i v hv
  simp only [Nat.sub_zero] at h2
  have hlt := (List.getElem?_eq_some_iff.1 h2).1
  rw [Array.getElem?_append_left (by simpa using hlt)]
  simpa using h2
def ResV (P : Program) (L : List (Nat × Value)) (w : World) : ResultVar → Value → Prop
  | .tmp t, v => lk L t = some v
  | .cell t T, v => ∃ p, lk L t = some (.pointer (some p)) ∧ (loadVar T p).run P w = .ok v w
def ResVs (P : Program) (L : List (Nat × Value)) (w : World) : List ResultVar → List Value → Prop
  | [], [] => True
  | r :: rs, v :: vs => ResV P L w r v ∧ ResVs P L w rs vs
  | _, _ => False
def pack : List Value → Value
  | [v] => v
  | vs => .tuple ⟨vs⟩
theorem resv_cell {P : Program} {w0 w : World} {R : Hh} {Ps Qs : List HP} {L : List (Nat × Value)} {t : Tmp} {T E : TypeId} {p : Addr} {n : Nat} {cs : List Value} (m : Hp w0 R Ps w) (hx : lk L t = some (.pointer (some (padd p 0)))) (ht : tyI P T = some (true, n)) (hP : Rem Ps (Bx p E cs) Qs) (hl : cs.length = n) :
    ResV P L w (.cell t T) (.agg ⟨cs⟩) :=
  ⟨_, hx, run_loadVar_ag ht (bx_at hP w m) (by rw [List.drop_zero, List.take_of_length_le (by omega)]) hl⟩
def resSem (a : Act) : ResultVar → Sem Value
  | .tmp t => pure (a.tmps.getD t undef)
  | .cell x t => do loadVar t (← asAddr (a.tmps.getD x undef))
theorem run_results {P : Program} {n : Nat} {L : List (Nat × Value)} {a : Act} {w : World} (hs : St n L a) : ∀ (rs : List ResultVar) (vs : List Value), ResVs P L w rs vs →
    (rs.mapM (resSem a)).run P w = .ok vs w
  | [], [], _ => by simp [pure, Sem.run]
  | r :: rs, v :: vs, ⟨h1, h2⟩ => by
    have ih := run_results hs rs vs h2
    have h0 : (resSem a r).run P w = .ok v w := by
      cases r with
      | tmp t =>
        have := hs.at_ t v h1
        simp [resSem, pure, Sem.run, Array.getD_eq_getD_getElem?, this]
      | cell x t =>
        obtain ⟨p, h3, h4⟩ := h1
        have := hs.at_ x _ h3
        simp [resSem, bind, Sem.run_bind', asAddr, Array.getD_eq_getD_getElem?, this, pure, Sem.run, Result.andThen, h4]
    rw [List.mapM_cons, Sem.run_bind, h0]
    simp only [Result.andThen]
    rw [Sem.run_bind, ih]
    simp [Result.andThen, pure, Sem.run]
  | [], _ :: _, h => h.elim
  | _ :: _, [], h => h.elim
theorem results_run {P : Program} {fn : Func} {n : Nat} {L : List (Nat × Value)} {a : Act} {w : World} (hs : St n L a) {rs : List ResultVar} {vs : List Value} (hr : fn.results = ⟨rs⟩) (h : ResVs P L w rs vs) : (results fn a.tmps).run P w = .ok (pack vs) w := by
  have h1 := run_results hs rs vs h
  have e : results fn a.tmps = (do
      let vs ← fn.results.mapM (resSem a)
      pure (if h : vs.size = 1 then vs[0] else .tuple vs)) := by
    unfold results
    congr 1
  rw [e, hr, Array.mapM_eq_mapM_toList, Sem.run_bind]
  have e2 : ∀ m : Sem (List Value), (List.toArray <$> m) = m.bind (fun l => Sem.pure l.toArray) := fun _ => rfl
  rw [e2, Sem.run_bind', h1]
  simp only [Result.andThen, Sem.run, pure]
  match vs with
  | [] => simp [pack]
  | [v] => simp [pack]
  | v :: u :: r => simp [pack]
theorem leave {P : Program} {fn : Func} {n : Nat} {L : List (Nat × Value)} {a : Act} {w : World} {Rr : Ending → World → Prop} (hs : St n L a) {rs : List ResultVar} {vs : List Value} (hr : fn.results = ⟨rs⟩) (h : ResVs P L w rs vs) (hR : Rr (.returned (pack vs)) w) : bodyPost P fn Rr .ret a w :=
  ⟨hs.nod, _, results_run hs hr h, hR⟩
theorem Hp.below {w w' : World} {Ps : List HP} (m : Hp w (hh w) Ps w') : Go.RowKit.Below w.heap.size w w' := by
  refine ⟨m.os, m.tape, m.output, m.size, fun k hk => ?_⟩
  have h1 : hh w k = some (w.heap[k]) := by simp [hh, hk]
  have := m.frame _ _ h1
  simp only [hh] at this h1
  rw [this, h1]
end Go.Proofs.YtnbpodjbemfpbaaGreat.Fw
