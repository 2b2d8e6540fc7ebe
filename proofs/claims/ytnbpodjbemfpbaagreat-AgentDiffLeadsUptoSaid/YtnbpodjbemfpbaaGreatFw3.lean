/-
  The walker's own words, third part: variables and slices as pieces, what is read, and the steps of a walk. By the session; nothing here is trusted.
-/
import Derived.Test.YtnbpodjbemfpbaaGreatFw2
set_option linter.unusedVariables false
set_option linter.all false
namespace Go.Proofs.YtnbpodjbemfpbaaGreat.Fw
open Go
/-! ### 7. Pieces -/
def Bx (p : Addr) (E : TypeId) (cs : List Value) : HP := fun h => p.off = 0 ∧ h = hone p.block (.cells ⟨cs⟩ E (0, 0))
def RdS (h : Hh) (k : Nat) (v : Value) (ds : List (List Value)) : Prop :=
  (∀ d ∈ ds, d.length = k) ∧ ds.length ≤ 140737488355328 ∧ ∃ a cap, v = .slice a ds.length cap ∧ ds.length ≤ cap ∧
    (ds ≠ [] → ∃ b off arr T fz, a = some ⟨b, off, none⟩ ∧ h b = some (.cells arr T fz) ∧ (arr.toList.drop off).take (ds.length * k) = ds.flatten)
theorem RdS.le {h g : Hh} {k : Nat} {v : Value} {ds : List (List Value)} (r : RdS h k v ds) (l : hle h g) : RdS g k v ds := by
  obtain ⟨h1, hb, a, cap, h2, h3, h4⟩ := r
  refine ⟨h1, hb, a, cap, h2, h3, fun hn => ?_⟩
  obtain ⟨b, off, arr, T, fz, e1, e2, e3⟩ := h4 hn
  exact ⟨b, off, arr, T, fz, e1, l _ _ e2, e3⟩
theorem RdS.nil (h : Hh) (k : Nat) : RdS h k (.slice none 0 0) [] := ⟨by simp, by simp, none, 0, rfl, Nat.le_refl _, fun h => absurd rfl h⟩
def Sv (k : Nat) (E : TypeId) (v : Value) (ds : List (List Value)) : HP := fun h =>
  ((∀ d ∈ ds, d.length = k) ∧ ds.length ≤ 140737488355328) ∧
  ((v = .slice none 0 0 ∧ ds = [] ∧ h = hnil) ∨
   ∃ (b off cap : Nat) (cs : List Value), v = .slice (some ⟨b, off, none⟩) ds.length cap ∧ ds.length ≤ cap ∧ off + cap * k ≤ cs.length ∧ (cs.drop off).take (ds.length * k) = ds.flatten ∧ h = hone b (.cells ⟨cs⟩ E (0, 0)))
theorem Sv.reads {k : Nat} {E : TypeId} {v : Value} {ds : List (List Value)} {h : Hh} (s : Sv k E v ds h) : RdS h k v ds := by
  obtain ⟨h1, h2 | ⟨b, off, cap, cs, h2, h3, h4, h5, h6⟩⟩ := s
  · obtain ⟨rfl, rfl, rfl⟩ := h2
    exact RdS.nil _ _
  · refine ⟨h1.1, h1.2, _, cap, h2, h3, fun _ => ⟨b, off, ⟨cs⟩, E, (0, 0), rfl, ?_, h5⟩⟩
    rw [h6]; simp [hone]
section
variable {P : Program} {w0 w w' : World} {R : Hh} {Ps Qs : List HP}
theorem Hp.rd (m : Hp w0 R Ps w) {k : Nat} {v : Value} {ds : List (List Value)} (r : RdS R k v ds) : RdS (hh w) k v ds := r.le m.frame
theorem Hp.rdv (m : Hp w0 R Ps w) {k : Nat} {E : TypeId} {v : Value} {ds : List (List Value)} (h : Rem Ps (Sv k E v ds) Qs) : RdS (hh w) k v ds :=
  let ⟨_, s, l⟩ := m.look h
  s.reads.le l
theorem bx_at {p : Addr} {E : TypeId} {cs : List Value} (h : Rem Ps (Bx p E cs) Qs) : CAt (Hp w0 R Ps) p cs := fun w m => by
  obtain ⟨g, ⟨h1, h2⟩, l⟩ := m.look h
  refine ⟨⟨cs⟩, E, (0, 0), l _ _ (by rw [h2]; simp [hone]), ?_⟩
  simp [h1]
theorem fr_at {p : Addr} {cs : List Value} (c : CellsAt R p cs) : CAt (Hp w0 R Ps) p cs := fun w m => c.le m.frame
end
def RC (C : World → Prop) (k : Nat) (v : Value) (ds : List (List Value)) : Prop := ∀ w, C w → RdS (hh w) k v ds
theorem rc_own {w0 : World} {R : Hh} {Ps Qs : List HP} {k : Nat} {E : TypeId} {v : Value} {ds : List (List Value)} (h : Rem Ps (Sv k E v ds) Qs) : RC (Hp w0 R Ps) k v ds := fun _ m => m.rdv h
theorem rc_fr {w0 : World} {R : Hh} {Ps : List HP} {k : Nat} {v : Value} {ds : List (List Value)} (h : RdS R k v ds) : RC (Hp w0 R Ps) k v ds := fun _ m => m.rd h
def Elem (k : Nat) (v : Value) (i : Nat) (p : Addr) : Prop := ∃ a n c, v = .slice (some a) n c ∧ p = padd a (i * k)
theorem flat_cells {k : Nat} : ∀ {ds : List (List Value)} {i : Nat} {d : List Value}, (∀ d ∈ ds, d.length = k) → ds[i]? = some d → (ds.flatten.drop (i * k)).take k = d
  | [], i, d, _, h => by simp at h
  | e :: ds, 0, d, hk, h => by
    simp only [List.getElem?_cons_zero, Option.some.injEq] at h
    subst h
    have := hk e (by simp)
    simp [← this]
  | e :: ds, i + 1, d, hk, h => by
    simp only [List.getElem?_cons_succ] at h
    have he := hk e (by simp)
    have ih := flat_cells (k := k) (fun d hd => hk d (by simp [hd])) h
    rw [List.flatten_cons, show (i + 1) * k = e.length + i * k from by rw [he]; rw [Nat.add_mul]; omega, ← List.drop_drop, List.drop_left]
    exact ih
theorem flat_len {k : Nat} : ∀ {ds : List (List Value)}, (∀ d ∈ ds, d.length = k) → ds.flatten.length = ds.length * k
  | [], _ => by simp
  | d :: ds, h => by
    rw [List.flatten_cons, List.length_append, h d (by simp), flat_len (fun x hx => h x (by simp [hx])), List.length_cons, Nat.add_mul]
    omega
theorem RdS.bd {α : Type} {c : α → List Value} {h : Hh} {k : Nat} {v : Value} {xs : List α} (r : RdS h k v (xs.map c)) : xs.length ≤ 140737488355328 := by simpa using r.2.1
theorem RdS.elem {h : Hh} {k : Nat} {v : Value} {ds : List (List Value)} (r : RdS h k v ds) {i : Nat} {d : List Value} (hd : ds[i]? = some d) : ∃ a n c, v = .slice (some a) n c ∧ a.spot = none ∧ CellsAt h (padd a (i * k)) d := by
  obtain ⟨h1, hb, a, cap, h2, h3, h4⟩ := r
  have hi : i < ds.length := (List.getElem?_eq_some_iff.1 hd).1
  obtain ⟨b, off, arr, T, fz, rfl, e2, e3⟩ := h4 (by intro e; subst e; simp at hi)
  refine ⟨_, _, _, h2, rfl, arr, T, fz, e2, ?_⟩
  have hdl : d.length = k := h1 d (List.mem_of_getElem? hd)
  have := flat_cells h1 hd
  rw [← e3, List.drop_take, List.drop_drop, List.take_take] at this
  simp only [padd, hdl]
  rw [← this]
  have : k ≤ ds.length * k - i * k := by
    rw [← Nat.sub_mul]
    have : 1 ≤ ds.length - i := by omega
    calc k = 1 * k := by omega
      _ ≤ _ := Nat.mul_le_mul_right k this
  rw [Nat.min_eq_left this]
section
variable {P : Program} {C : World → Prop} {L : List (Nat × Value)} {d : Option Tmp} {ty : TypeId} {pos : String} {aft : Array Edge} {g : Option (Nat × Bool)}
theorem run_mk_elem {P : Program} {w : World} {T E : TypeId} {ag : Bool} {k : Nat} (hT : slI P T = some E) (hE : tyI P E = some (ag, k)) {a : Addr} {n c : Nat} {K : IntKind} {i : Int} (h0 : 0 ≤ i) (h1 : i < n) :
    (Instr.indexAt T (.slice (some a) n c) (.int K i)).run P w = .ok (.pointer (some (a.add (i.toNat * k)))) w := by
  have e1 := slI_spec hT
  simp [Instr.indexAt, asIntOf, bind, Sem.run_bind', pure, Sem.run, Result.andThen, run_underlying e1, h0, h1, run_sizeOf' hE]
theorem ok_elem {w : World} (m : C w) {T E : TypeId} {ag : Bool} {k : Nat} {x ix : Operand} {v : Value} {K : IntKind} {i : Int} {ds : List (List Value)} {e : List Value} (hx : ev L x = some v) (hi : ev L ix = some (.int K i)) (hT : slI P T = some E) (hE : tyI P E = some (ag, k))
    (hr : RC C k v ds) (h0 : 0 ≤ i) (he : ds[i.toNat]? = some e) :
    ∃ p, Elem k v i.toNat p ∧ CAt C p e ∧ Ok P C L ⟨d, .indexAddr T x ix, ty, pos, aft, g⟩ (.pointer (some (padd p 0))) := by
  obtain ⟨a, n, c, rfl, hs, _⟩ := (hr w m).elem he
  have hn : n = ds.length := by
    obtain ⟨_, _, a', cap, h2, _⟩ := hr w m
    simp only [Value.slice.injEq] at h2
    exact h2.2.1
  have hlt : i.toNat < ds.length := (List.getElem?_eq_some_iff.1 he).1
  refine ⟨padd a (i.toNat * k), ⟨a, n, c, rfl, rfl⟩, fun w' m' => ?_, fun ρ ha w' hw' => ?_⟩
  · obtain ⟨a', n', c', e1, _, e2⟩ := (hr w' m').elem he
    simp only [Value.slice.injEq, Option.some.injEq] at e1
    rw [e1.1]
    exact e2
  · have := run_mk_elem (P := P) (w := w') (a := a) (n := n) (c := c) (K := K) (i := i) hT hE h0 (by omega)
    have e2 : a.add (i.toNat * k) = padd (padd a (i.toNat * k)) 0 := by
      rw [padd_padd]
      unfold Addr.add padd
      by_cases hz : i.toNat * k = 0
      · cases a; simp_all
      · simp [hz]
    simp [execOp, ha x _ hx, ha ix _ hi, bind, Sem.run_bind', this, pure, Sem.run, Result.andThen, e2]
theorem ok_elemF {w0 : World} {R : Hh} {Ps : List HP} {T E : TypeId} {ag : Bool} {k : Nat} {x ix : Operand} {v : Value} {K : IntKind} {i : Int} {ds : List (List Value)} {e : List Value} (hx : ev L x = some v) (hi : ev L ix = some (.int K i)) (hT : slI P T = some E) (hE : tyI P E = some (ag, k))
    (hr : RdS R k v ds) (h0 : 0 ≤ i) (he : ds[i.toNat]? = some e) :
    ∃ p, CellsAt R p e ∧ Ok P (Hp w0 R Ps) L ⟨d, .indexAddr T x ix, ty, pos, aft, g⟩ (.pointer (some (padd p 0))) := by
  obtain ⟨a, n, c, rfl, hs, h2⟩ := hr.elem he
  have hn : n = ds.length := by
    obtain ⟨_, _, a', cap, h2, _⟩ := hr
    simp only [Value.slice.injEq] at h2
    exact h2.2.1
  have hlt : i.toNat < ds.length := (List.getElem?_eq_some_iff.1 he).1
  refine ⟨_, h2, fun ρ ha w' hw' => ?_⟩
  have := run_mk_elem (P := P) (w := w') (a := a) (n := n) (c := c) (K := K) (i := i) hT hE h0 (by omega)
  have e2 : a.add (i.toNat * k) = padd (padd a (i.toNat * k)) 0 := by
    rw [padd_padd]
    unfold Addr.add padd
    by_cases hz : i.toNat * k = 0
    · cases a; simp_all
    · simp [hz]
  simp [execOp, ha x _ hx, ha ix _ hi, bind, Sem.run_bind', this, pure, Sem.run, Result.andThen, e2]
theorem el_at {w0 : World} {R : Hh} {Ps Qs : List HP} {k i : Nat} {E : TypeId} {v : Value} {ds : List (List Value)} {p : Addr} {e : List Value} (h : Elem k v i p) (hP : Rem Ps (Sv k E v ds) Qs) (hd : ds[i]? = some e) : CAt (Hp w0 R Ps) p e := fun w m => by
  obtain ⟨a, n, c, e1, rfl⟩ := h
  obtain ⟨a', n', c', e2, _, e3⟩ := (m.rdv hP).elem hd
  rw [e1] at e2
  simp only [Value.slice.injEq, Option.some.injEq] at e2
  rw [e2.1]
  exact e3
theorem ok_len {T E : TypeId} {x : Operand} {v : Value} {k : Nat} {ds : List (List Value)} {r : Int} {w : World} (m : C w) (hx : ev L x = some v) (hT : slI P T = some E) (hr : RC C k v ds) (hl : (ds.length : Int) = r) :
    Ok P C L ⟨d, .call ⟨.builtin .len, #[x], #[T]⟩, ty, pos, aft, g⟩ (.int .i64 r) := fun ρ ha w' hw' => by
  subst hl
  obtain ⟨_, _, a, cap, rfl, _⟩ := hr w m
  have e1 := slI_spec hT
  simp [execOp, resolve, invoke, builtin, Builtin.len_, ha x _ hx, bind, Sem.run_bind', run_underlying e1, pure, Sem.run, Result.andThen, goInt]
end
/-! ### 8. The steps of a walk: regions in the order of the text -/
section
variable {P : Program} {ops : Array Oper} {Q : Exit → Act → World → Prop} {rest : List Oper} {n : Nat} {L : List (Nat × Value)} {a : Act} {w : World} {C : World → Prop}
theorem step_val {o : Oper} {d : Nat} {v : Value} {w' : World} (hg : o.guard = none) (hdst : o.dst = some d) (hs : St n L a) (hd : Nat.blt d n = true) (hr : (execOp a.eval o).run P w = .ok (.value v) w')
    (k : ∀ a', St n ((d, v) :: L) a' → wpList P ops Q rest a' w') : wpList P ops Q (o :: rest) a w := by
  refine wpList_plain hg fun K hK => ?_
  unfold Oper.wp
  rw [hr]
  simp only [Oper.upon, hdst]
  exact hK _ _ (k _ (hs.put hd))
theorem step_skip {o : Oper} {w' : World} (hg : o.guard = none) (hdst : o.dst = none) (hs : St n L a) (hr : (execOp a.eval o).run P w = .ok .skip w')
    (k : wpList P ops Q rest a w') : wpList P ops Q (o :: rest) a w := by
  refine wpList_plain hg fun K hK => ?_
  unfold Oper.wp
  rw [hr]
  simp only [Oper.upon, hdst]
  exact hK _ _ k
theorem r_ok {d : Nat} {op : Op} {ty : TypeId} {pos : String} {aft : Array Edge} {v : Value} (hs : St n L a) (m : C w) (h : Ok P C L ⟨some d, op, ty, pos, aft, none⟩ v) (hd : Nat.blt d n = true)
    (k : ∀ a', St n ((d, v) :: L) a' → wpList P ops Q rest a' w) : wpList P ops Q (⟨some d, op, ty, pos, aft, none⟩ :: rest) a w :=
  step_val rfl rfl hs hd (h _ hs.evs w m) k
end
-- in a region that draws its order
section
variable {P : Program} {ops : Array Oper} {Q : Act → Prop} {rest : List Oper} {n : Nat} {L : List (Nat × Value)} {a : Act} {C : World → Prop}
theorem q_ok {d : Nat} {op : Op} {ty : TypeId} {pos : String} {aft : Array Edge} {v : Value} (hs : St n L a) (h : Ok P C L ⟨some d, op, ty, pos, aft, none⟩ v) (hd : Nat.blt d n = true)
    (k : ∀ a', St n ((d, v) :: L) a' → wpQuiet P ops C Q rest a') : wpQuiet P ops C Q (⟨some d, op, ty, pos, aft, none⟩ :: rest) a := by
  refine wpQuiet_step fun K hK => ?_
  simp only [Region.wanted, if_true]
  refine ⟨v, fun w hw => ?_, hK _ (k _ (hs.put hd))⟩
  unfold Oper.quietAt
  rw [h _ hs.evs w hw]
  exact ⟨rfl, rfl⟩
end
/-! ### 9. Calls -/
def callable (P : Program) (f : FuncId) : Bool := match P.funcs[f]? with
  | some fn => !(fn.name == "runtime.NumGoroutine") && fn.body.isSome
  | none => false
theorem run_callFunc {P : Program} {f : FuncId} (h : callable P f = true) (args : Array Value) (w : World) : (callFunc f args).run P w = .ok (.enter f args) w := by
  unfold callable at h
  split at h
  · rename_i fn hf
    simp only [Bool.and_eq_true, Bool.not_eq_true'] at h
    have hb : fn.body.isNone = false := by
      cases hb : fn.body with
      | none => simp [hb] at h
      | some c => rfl
    simp only [callFunc, program, bind, Sem.bind, Sem.run, hf, h.1, Bool.false_eq_true, if_false, hb, pure]
  · cases h
theorem run_call {P : Program} {L : List (Nat × Value)} {ρ : Operand → Value} (ha : ∀ x u, ev L x = some u → ρ x = u) {d : Option Tmp} {c : Operand} {xs : List Operand} {tys : Array TypeId} {ty : TypeId} {pos : String} {aft : Array Edge} {g : Option (Nat × Bool)} {f : FuncId} {first cap vs : List Value}
    (hc : ev L c = some (.func (.func f) ⟨first⟩ ⟨cap⟩)) (hx : evs L xs = some vs) (hf : callable P f = true) (w : World) :
    (execOp ρ ⟨d, .call ⟨.value c, ⟨xs⟩, tys⟩, ty, pos, aft, g⟩).run P w = .ok (.enter f ⟨first ++ vs ++ cap⟩) w := by
  have hm : ∀ (os : List Operand) (us : List Value), evs L os = some us → os.map ρ = us := by
    intro os
    induction os with
    | nil => intro us h; simpa [evs] using h
    | cons o os ih =>
      intro us h
      simp only [evs] at h
      cases h1 : ev L o with
      | none => simp [h1] at h
      | some v =>
        cases h2 : evs L os with
        | none => simp [h1, h2] at h
        | some us' =>
          simp only [h1, h2, Option.some.injEq] at h
          subst h
          simp [ha o v h1, ih us' h2]
  have hm' := hm xs vs hx
  have h2 := run_callFunc (P := P) hf (⟨first ++ vs ++ cap⟩) w
  simp [execOp, resolve, Deferred.ofValue, ha c _ hc, invoke, bind, Sem.run_bind', pure, Sem.run, Result.andThen, hm', List.append_toArray]
  simpa using h2
section
variable {P : Program} {ops : Array Oper} {Q : Exit → Act → World → Prop} {rest : List Oper} {n : Nat} {L : List (Nat × Value)} {a : Act} {w : World}
theorem r_call {d : Nat} {c : Operand} {xs : List Operand} {tys : Array TypeId} {ty : TypeId} {pos : String} {aft : Array Edge} {f : FuncId} {first cap vs us : List Value} {Rc : Value → World → Prop}
    (hs : St n L a) (hc : ev L c = some (.func (.func f) ⟨first⟩ ⟨cap⟩)) (hx : evs L xs = some vs) (hf : callable P f = true) (hu : first ++ vs ++ cap = us) (h : Calls P f ⟨us⟩ w fun e w' => ∃ v, e = .returned v ∧ Rc v w') (hd : Nat.blt d n = true)
    (k : ∀ v w', Rc v w' → ∀ a', St n ((d, v) :: L) a' → wpList P ops Q rest a' w') : wpList P ops Q (⟨some d, .call ⟨.value c, ⟨xs⟩, tys⟩, ty, pos, aft, none⟩ :: rest) a w := by
  subst hu
  refine wpList_plain rfl fun K hK => ?_
  unfold Oper.wp
  rw [run_call hs.evs hc hx hf w]
  simp only [Oper.upon]
  refine h.mono fun e w' he => ?_
  obtain ⟨v, rfl, hR⟩ := he
  exact hK _ _ (k v w' hR _ (hs.put hd))
end
section
variable {P : Program} {ops : Array Oper} {Q : Act → Prop} {rest : List Oper} {n : Nat} {L : List (Nat × Value)} {a : Act} {C : World → Prop}
theorem q_call {d : Nat} {c : Operand} {xs : List Operand} {tys : Array TypeId} {ty : TypeId} {pos : String} {aft : Array Edge} {f : FuncId} {first cap vs us : List Value} {v : Value}
    (hs : St n L a) (hc : ev L c = some (.func (.func f) ⟨first⟩ ⟨cap⟩)) (hx : evs L xs = some vs) (hf : callable P f = true) (hu : first ++ vs ++ cap = us) (h : ∀ w, C w → Calls P f ⟨us⟩ w fun e w' => e = .returned v ∧ C w') (hd : Nat.blt d n = true)
    (k : ∀ a', St n ((d, v) :: L) a' → wpQuiet P ops C Q rest a') : wpQuiet P ops C Q (⟨some d, .call ⟨.value c, ⟨xs⟩, tys⟩, ty, pos, aft, none⟩ :: rest) a := by
  subst hu
  refine wpQuiet_step fun K hK => ?_
  simp only [Region.wanted, if_true]
  refine ⟨v, fun w hw => ?_, hK _ (k _ (hs.put hd))⟩
  unfold Oper.quietAt
  rw [run_call hs.evs hc hx hf w]
  exact ⟨rfl, h w hw⟩
end
end Go.Proofs.YtnbpodjbemfpbaaGreat.Fw
