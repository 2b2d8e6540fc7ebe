/-
  The walker's own words, ninth part: '==' of structs and arrays that hold numbers, bools and strings. By the session; nothing here is trusted.
-/
import Derived.Test.YtnbpodjbemfpbaaGreatFw8
set_option linter.unusedVariables false
set_option linter.all false
namespace Go.Proofs.YtnbpodjbemfpbaaGreat.Fw
open Go
inductive LK where
  | i (k : IntKind)
  | b
  | s
  deriving DecidableEq
def LK.fits : LK → Value → Bool
  | .i k, .int k' _ => k == k'
  | .b, .bool _ => true
  | .s, .string _ => true
  | _, _ => false
def fitAll : List LK → List Value → Bool
  | [], [] => true
  | k :: ks, v :: vs => k.fits v && fitAll ks vs
  | _, _ => false
def eq1 : Value → Value → Bool
  | .int _ a, .int _ b => a == b
  | .bool a, .bool b => a == b
  | .string a, .string b => a == b
  | _, _ => false
def eqAll : List Value → List Value → Bool
  | x :: xs, y :: ys => eq1 x y && eqAll xs ys
  | [], [] => true
  | _, _ => false
def goF (P : Program) (lv : TypeId → Option (List LK)) : List Field → Nat → Option (List LK)
  | [], _ => some []
  | f :: fs, o => match lv f.type, tyI P f.type, goF P lv fs (o + ((lv f.type).getD []).length) with
    | some ks, some (_, m), some rs => if f.name == "_" || f.offset != o || ks.length != m then none else some (ks ++ rs)
    | _, _, _ => none
def leafs (P : Program) : Nat → TypeId → Option (List LK)
  | 0, _ => none
  | d + 1, T => match P.underlying T with
    | some (.int k) => some [.i k]
    | some .bool => some [.b]
    | some .string => some [.s]
    | some (.struct fs) => if P.stoodInHeld T then none else goF P (leafs P d) fs.toList 0
    | some (.array n e) => match leafs P d e, tyI P e with
      | some ks, some (_, m) => if ks.length == m then some (List.replicate n ks).flatten else none
      | _, _ => none
    | _ => none
theorem fitAll_length : ∀ {ks : List LK} {vs : List Value}, fitAll ks vs = true → vs.length = ks.length
  | [], [], _ => rfl
  | k :: ks, v :: vs, h => by
    simp only [fitAll, Bool.and_eq_true] at h
    simp [fitAll_length h.2]
  | [], _ :: _, h => by simp [fitAll] at h
  | _ :: _, [], h => by simp [fitAll] at h
theorem fitAll_append : ∀ {ks rs : List LK} {vs : List Value}, fitAll (ks ++ rs) vs = true → fitAll ks (vs.take ks.length) = true ∧ fitAll rs (vs.drop ks.length) = true
  | [], rs, vs, h => by simpa [fitAll] using h
  | k :: ks, rs, [], h => by simp [fitAll] at h
  | k :: ks, rs, v :: vs, h => by
    simp only [List.cons_append, fitAll, Bool.and_eq_true] at h
    have := fitAll_append h.2
    simp [fitAll, h.1, this]
theorem eqAll_take : ∀ (n : Nat) {xs ys : List Value}, xs.length = ys.length → eqAll xs ys = (eqAll (xs.take n) (ys.take n) && eqAll (xs.drop n) (ys.drop n))
  | 0, xs, ys, h => by simp [eqAll]
  | n + 1, [], [], h => by simp [eqAll]
  | n + 1, x :: xs, y :: ys, h => by
    simp only [List.take_succ_cons, List.drop_succ_cons, eqAll]
    rw [eqAll_take n (by simpa using h)]
    cases eq1 x y <;> simp
def aggOf (P : Program) (T : TypeId) (vs : List Value) (v : Value) : Prop := match tyI P T with
  | some (true, _) => v = .agg ⟨vs⟩
  | some (false, _) => vs = [v]
  | none => False
theorem run_part {P : Program} {T : TypeId} {ag : Bool} {m o : Nat} (ht : tyI P T = some (ag, m)) {cs : List Value} (hl : o + m ≤ cs.length) (h1 : ag = false → m = 1) (w : World) : ∃ v, (part T ⟨cs⟩ o).run P w = .ok v w ∧ aggOf P T ((cs.drop o).take m) v := by
  cases ag with
  | true =>
    refine ⟨.agg ⟨(cs.drop o).take m⟩, ?_, by simp [aggOf, ht]⟩
    have e : (⟨cs⟩ : Array Value).extract o (o + m) = ⟨(cs.drop o).take m⟩ := by
      apply Array.ext'
      simp [List.extract_eq_take_drop]
    simp [part, bind, Sem.run_bind', run_isAgg' ht, run_sizeOf' ht, pure, Sem.run, Result.andThen]
  | false =>
    have hm := h1 rfl
    subst hm
    have hlt : o < cs.length := by omega
    refine ⟨cs[o], ?_, ?_⟩
    · simp [part, bind, Sem.run_bind', run_isAgg' ht, pure, Sem.run, Result.andThen, hlt]
    · simp only [aggOf, ht]
      rw [List.drop_eq_getElem_cons hlt, List.take_succ_cons, List.take_zero]
theorem leafs_scalar {P : Program} {d : Nat} {T : TypeId} {ks : List LK} {m : Nat} (h : leafs P d T = some ks) (ht : tyI P T = some (false, m)) : ks.length = 1 := by
  obtain ⟨D, i, h1, h2, h3, h4⟩ := tyI_spec ht
  cases d with
  | zero => simp [leafs] at h
  | succ d =>
    unfold leafs at h
    rw [h1] at h
    cases D <;> simp_all [aggD] <;> (subst h; rfl)
theorem run_equalIn {P : Program} (w : World) : ∀ (d : Nat) (T : TypeId) (ks : List LK), leafs P d T = some ks → ∀ (xs ys : List Value) (x y : Value), fitAll ks xs = true → fitAll ks ys = true → aggOf P T xs x → aggOf P T ys y → ∀ e, (Op.equalIn (d + e) T x y).run P w = .ok (eqAll xs ys) w := by
  intro d
  induction d with
  | zero => intro T ks h; simp [leafs] at h
  | succ d ih =>
    intro T ks h xs ys x y hx hy ax ay e
    rw [show d + 1 + e = (d + e) + 1 from by omega]
    unfold leafs at h
    cases hu : P.underlying T with
    | none => rw [hu] at h; cases h
    | some D =>
      rw [hu] at h
      have haggF : ∀ vs v, aggOf P T vs v → aggD D = false → vs = [v] := by
        intro vs v hv hD
        unfold aggOf at hv
        cases ht : tyI P T with
        | none => simp [ht] at hv
        | some am =>
          obtain ⟨ag, m⟩ := am
          obtain ⟨D', i, h1, h2, h3, h4⟩ := tyI_spec ht
          rw [hu] at h1
          simp only [Option.some.injEq] at h1
          subst h1
          rw [hD] at h3
          subst h3
          simpa [ht] using hv
      have haggT : ∀ vs v, aggOf P T vs v → aggD D = true → v = .agg ⟨vs⟩ := by
        intro vs v hv hD
        unfold aggOf at hv
        cases ht : tyI P T with
        | none => simp [ht] at hv
        | some am =>
          obtain ⟨ag, m⟩ := am
          obtain ⟨D', i, h1, h2, h3, h4⟩ := tyI_spec ht
          rw [hu] at h1
          simp only [Option.some.injEq] at h1
          subst h1
          rw [hD] at h3
          subst h3
          simpa [ht] using hv
      cases D with
      | int k =>
        simp only [Option.some.injEq] at h
        subst h
        obtain rfl := haggF _ _ ax rfl
        obtain rfl := haggF _ _ ay rfl
        cases x <;> simp [fitAll, LK.fits] at hx
        cases y <;> simp [fitAll, LK.fits] at hy
        subst hx; subst hy
        simp [Op.equalIn, bind, Sem.run_bind', run_underlying hu, Result.andThen, eqAll, eq1, pure, Sem.run]
      | bool =>
        simp only [Option.some.injEq] at h
        subst h
        obtain rfl := haggF _ _ ax rfl
        obtain rfl := haggF _ _ ay rfl
        cases x <;> simp [fitAll, LK.fits] at hx
        cases y <;> simp [fitAll, LK.fits] at hy
        simp [Op.equalIn, bind, Sem.run_bind', run_underlying hu, Result.andThen, eqAll, eq1, pure, Sem.run]
      | string =>
        simp only [Option.some.injEq] at h
        subst h
        obtain rfl := haggF _ _ ax rfl
        obtain rfl := haggF _ _ ay rfl
        cases x <;> simp [fitAll, LK.fits] at hx
        cases y <;> simp [fitAll, LK.fits] at hy
        simp [Op.equalIn, bind, Sem.run_bind', run_underlying hu, Result.andThen, eqAll, eq1, pure, Sem.run]
      | struct fs =>
        simp only at h
        by_cases hst : P.stoodInHeld T = true
        · simp [hst] at h
        · simp only [hst, if_false, Bool.false_eq_true] at h
          obtain rfl := haggT _ _ ax rfl
          obtain rfl := haggT _ _ ay rfl
          -- the fields, from one on
          have key : ∀ (l : List Field) (o : Nat) (rs : List LK), goF P (leafs P d) l o = some rs → ∀ (pre pre' us vs : List Value), pre.length = o → pre'.length = o → fitAll rs us = true → fitAll rs vs = true →
              (forIn (m := Sem) l ((none, ()) : Option Bool × Unit) (fun f r =>
                if f.name ≠ "_" then do
                  if !(← Op.equalIn (d + e) f.type (← part f.type ⟨pre ++ us⟩ f.offset) (← part f.type ⟨pre' ++ vs⟩ f.offset)) then pure (ForInStep.done (some false, ())) else pure (ForInStep.yield (none, ()))
                else pure (ForInStep.yield (none, ())))).run P w = .ok (if eqAll us vs then (none, ()) else (some false, ())) w := by
            intro l
            induction l with
            | nil =>
              intro o rs hrs pre pre' us vs _ _ hu1 hv1
              simp only [goF, Option.some.injEq] at hrs
              subst hrs
              have e1 : us = [] := List.eq_nil_of_length_eq_zero (by simpa using fitAll_length hu1)
              have e2 : vs = [] := List.eq_nil_of_length_eq_zero (by simpa using fitAll_length hv1)
              subst e1; subst e2
              simp [eqAll, pure, Sem.run]
            | cons f l ihl =>
              intro o rs hrs pre pre' us vs hp hp' hu1 hv1
              simp only [goF] at hrs
              cases hk : leafs P d f.type with
              | none => simp [hk] at hrs
              | some kf =>
                cases ht : tyI P f.type with
                | none => simp [hk, ht] at hrs
                | some am =>
                  obtain ⟨ag, m⟩ := am
                  cases hg : goF P (leafs P d) l (o + kf.length) with
                  | none => simp [hk, ht, hg] at hrs
                  | some rr =>
                    simp only [hk, ht, Option.getD_some, hg] at hrs
                    by_cases hc : (f.name == "_" || f.offset != o || kf.length != m) = true
                    · rw [if_pos hc] at hrs; cases hrs
                    · rw [if_neg hc] at hrs
                      simp only [Option.some.injEq] at hrs
                      subst hrs
                      simp only [Bool.or_eq_true, bne_iff_ne, beq_iff_eq, not_or, ne_eq, Decidable.not_not] at hc
                      obtain ⟨⟨hn, ho⟩, hm⟩ := hc
                      have fu := fitAll_append hu1
                      have fv := fitAll_append hv1
                      have lu := fitAll_length hu1
                      have lv := fitAll_length hv1
                      simp only [List.length_append] at lu lv
                      have h1m : ag = false → m = 1 := fun e => by subst e; rw [← hm]; exact leafs_scalar hk ht
                      obtain ⟨a1, r1, g1⟩ := run_part ht (o := f.offset) (cs := pre ++ us) (by simp; omega) h1m w
                      obtain ⟨a2, r2, g2⟩ := run_part ht (o := f.offset) (cs := pre' ++ vs) (by simp; omega) h1m w
                      rw [ho, ← hp, List.drop_left, ← hm] at g1
                      rw [ho, ← hp', List.drop_left, ← hm] at g2
                      have re := ih f.type kf hk _ _ a1 a2 fu.1 fv.1 g1 g2 e
                      have rest := ihl (o + kf.length) rr hg (pre ++ us.take kf.length) (pre' ++ vs.take kf.length) (us.drop kf.length) (vs.drop kf.length) (by simp; omega) (by simp; omega) fu.2 fv.2
                      simp only [List.append_assoc, List.take_append_drop] at rest
                      rw [List.forIn_cons, if_pos hn, Sem.run_bind, Sem.run_bind, r1]
                      simp only [Result.andThen]
                      rw [Sem.run_bind, r2]
                      simp only [Result.andThen]
                      rw [Sem.run_bind, re]
                      simp only [Result.andThen]
                      rw [eqAll_take kf.length (by omega : us.length = vs.length)]
                      cases hb : eqAll (us.take kf.length) (vs.take kf.length) with
                      | false => simp [pure, Sem.run]
                      | true =>
                        simp only [Bool.not_true, Bool.false_eq_true, if_false, pure, Sem.run, Bool.true_and]
                        exact rest
          have := key fs.toList 0 ks h [] [] xs ys rfl rfl hx hy
          simp only [List.nil_append] at this
          unfold Op.equalIn
          rw [Sem.run_bind, run_underlying hu]
          simp only [Result.andThen]
          rw [Sem.run_bind, show (program).run P w = .ok P w from rfl]
          simp only [Result.andThen, hst, Bool.false_eq_true, if_false]
          rw [← Array.forIn_toList, Sem.run_bind, this]
          simp only [Result.andThen]
          cases eqAll xs ys <;> simp [pure, Sem.run]
      | array n el =>
        simp only at h
        cases hk : leafs P d el with
        | none => simp [hk] at h
        | some kf =>
          cases ht : tyI P el with
          | none => simp [hk, ht] at h
          | some am =>
            obtain ⟨ag, m⟩ := am
            simp only [hk, ht] at h
            by_cases hm : (kf.length == m) = true
            · rw [if_pos hm] at h
              simp only [Option.some.injEq] at h
              subst h
              have hm' : kf.length = m := by simpa using hm
              obtain rfl := haggT _ _ ax rfl
              obtain rfl := haggT _ _ ay rfl
              have h1m : ag = false → m = 1 := fun e => by subst e; rw [← hm']; exact leafs_scalar hk ht
              have key : ∀ (c i : Nat), ∀ (pre pre' us vs : List Value), pre.length = i * m → pre'.length = i * m → fitAll (List.replicate c kf).flatten us = true → fitAll (List.replicate c kf).flatten vs = true →
                  (forIn (m := Sem) (List.range' i c) ((none, ()) : Option Bool × Unit) (fun j r => do
                      if !(← Op.equalIn (d + e) el (← part el ⟨pre ++ us⟩ (j * m)) (← part el ⟨pre' ++ vs⟩ (j * m))) then pure (ForInStep.done (some false, ())) else pure (ForInStep.yield (none, ())))).run P w = .ok (if eqAll us vs then (none, ()) else (some false, ())) w := by
                intro c
                induction c with
                | zero =>
                  intro i pre pre' us vs _ _ hu1 hv1
                  have e1 : us = [] := List.eq_nil_of_length_eq_zero (by simpa using fitAll_length hu1)
                  have e2 : vs = [] := List.eq_nil_of_length_eq_zero (by simpa using fitAll_length hv1)
                  subst e1; subst e2
                  simp [eqAll, pure, Sem.run]
                | succ c ihc =>
                  intro i pre pre' us vs hp hp' hu1 hv1
                  rw [List.replicate_succ, List.flatten_cons] at hu1 hv1
                  have fu := fitAll_append hu1
                  have fv := fitAll_append hv1
                  have lu := fitAll_length hu1
                  have lv := fitAll_length hv1
                  rw [List.length_append] at lu lv
                  obtain ⟨a1, r1, g1⟩ := run_part ht (o := i * m) (cs := pre ++ us) (by rw [List.length_append]; omega) h1m w
                  obtain ⟨a2, r2, g2⟩ := run_part ht (o := i * m) (cs := pre' ++ vs) (by rw [List.length_append]; omega) h1m w
                  rw [← hp, List.drop_left, ← hm'] at g1
                  rw [← hp', List.drop_left, ← hm'] at g2
                  have re := ih el kf hk _ _ a1 a2 fu.1 fv.1 g1 g2 e
                  have rest := ihc (i + 1) (pre ++ us.take kf.length) (pre' ++ vs.take kf.length) (us.drop kf.length) (vs.drop kf.length) (by rw [List.length_append, List.length_take, Nat.add_mul]; omega) (by rw [List.length_append, List.length_take, Nat.add_mul]; omega) fu.2 fv.2
                  simp only [List.append_assoc, List.take_append_drop] at rest
                  rw [List.range'_succ, List.forIn_cons, Sem.run_bind, Sem.run_bind, r1]
                  simp only [Result.andThen]
                  rw [Sem.run_bind, r2]
                  simp only [Result.andThen]
                  rw [Sem.run_bind, re]
                  simp only [Result.andThen]
                  rw [eqAll_take kf.length (by omega : us.length = vs.length)]
                  cases hb : eqAll (us.take kf.length) (vs.take kf.length) with
                  | false => simp [pure, Sem.run]
                  | true =>
                    simp only [Bool.not_true, Bool.false_eq_true, if_false, pure, Sem.run, Bool.true_and]
                    exact rest
              have := key n 0 [] [] xs ys (by simp) (by simp) hx hy
              simp only [List.nil_append] at this
              unfold Op.equalIn
              rw [Sem.run_bind, run_underlying hu]
              simp only [Result.andThen]
              rw [Sem.run_bind, run_sizeOf' ht]
              simp only [Result.andThen, Std.Legacy.Range.forIn_eq_forIn_range', Std.Legacy.Range.size, Nat.sub_zero, Nat.add_sub_cancel, Nat.div_one]
              rw [Sem.run_bind, this]
              simp only [Result.andThen]
              cases eqAll xs ys <;> simp [pure, Sem.run]
            · rw [if_neg hm] at h; cases h
      | _ => simp at h
/-! the operation -/
theorem ba_eq (s t : ByteArray) : (s == t) = true ↔ s = t := by
  constructor
  · intro h
    have : s.data == t.data := h
    cases s; cases t
    simp_all
  · intro h; subst h
    show (s.data == s.data) = true
    simp
theorem eqAll_self_iff : ∀ {ks : List LK} {xs ys : List Value}, fitAll ks xs = true → fitAll ks ys = true → (eqAll xs ys = true ↔ xs = ys)
  | [], [], [], _, _ => by simp [eqAll]
  | k :: ks, x :: xs, y :: ys, hx, hy => by
    simp only [fitAll, Bool.and_eq_true] at hx hy
    have ih := eqAll_self_iff hx.2 hy.2
    simp only [eqAll, Bool.and_eq_true, ih, List.cons.injEq]
    have : eq1 x y = true ↔ x = y := by
      have h1 := hx.1
      have h2 := hy.1
      cases k with
      | i kk =>
        cases x <;> simp only [LK.fits, Bool.false_eq_true] at h1
        cases y <;> simp only [LK.fits, Bool.false_eq_true] at h2
        have e1 := eq_of_beq h1
        have e2 := eq_of_beq h2
        subst e1; subst e2
        simp [eq1]
      | b =>
        cases x <;> simp only [LK.fits, Bool.false_eq_true] at h1
        cases y <;> simp only [LK.fits, Bool.false_eq_true] at h2
        simp [eq1]
      | s =>
        cases x <;> simp only [LK.fits, Bool.false_eq_true] at h1
        cases y <;> simp only [LK.fits, Bool.false_eq_true] at h2
        simp only [eq1, ba_eq, Value.string.injEq]
    rw [this]
  | [], [], _ :: _, _, h => by simp [fitAll] at h
  | [], _ :: _, _, h, _ => by simp [fitAll] at h
  | _ :: _, [], _, h, _ => by simp [fitAll] at h
  | _ :: _, _ :: _, [], _, h => by simp [fitAll] at h
structure EqT (P : Program) (T : TypeId) (ks : List LK) : Prop where
  lf : leafs P 100 T = some ks
  ag : (tyI P T).map (·.1) = some true
  gd : P.eqGuardType P.depth T = false
section
variable {P : Program} {C : World → Prop} {L : List (Nat × Value)} {d : Option Tmp} {ty : TypeId} {pos : String} {aft : Array Edge} {g : Option (Nat × Bool)}
theorem run_equal {T : TypeId} {ks : List LK} (h : EqT P T ks) {xs ys : List Value} (hx : fitAll ks xs = true) (hy : fitAll ks ys = true) (w : World) : (Op.equal T (.agg ⟨xs⟩) (.agg ⟨ys⟩)).run P w = .ok (eqAll xs ys) w := by
  have hag : ∀ vs, aggOf P T vs (.agg ⟨vs⟩) := by
    intro vs
    have := h.ag
    unfold aggOf
    cases ht : tyI P T with
    | none => simp [ht] at this
    | some am =>
      obtain ⟨a, m⟩ := am
      simp only [ht, Option.map_some, Option.some.injEq] at this
      subst this
      rfl
  exact run_equalIn w 100 T ks h.lf xs ys _ _ hx hy (hag xs) (hag ys) 9900
theorem run_guard {T : TypeId} {ks : List LK} (h : EqT P T ks) (op : BinOp) (x y : Operand) (xs ys : List Value) (w : World) : (eqGuard op T x y (.agg ⟨xs⟩) (.agg ⟨ys⟩)).run P w = .ok () w := by
  unfold eqGuard
  have := h.gd
  cases op <;> simp [program, bind, Sem.bind, Sem.run, pure, this]
theorem ok_eqv {T T' : TypeId} {ks : List LK} {x y : Operand} {xs ys : List Value} {b : Bool} (hx : ev L x = some (.agg ⟨xs⟩)) (hy : ev L y = some (.agg ⟨ys⟩)) (h : EqT P T ks) (h1 : fitAll ks xs = true) (h2 : fitAll ks ys = true) (hb : b = true ↔ xs = ys) :
    Ok P C L ⟨d, .binOp .eql T x y T', ty, pos, aft, g⟩ (.bool b) := fun ρ ha w _ => by
  have e : eqAll xs ys = b := by
    rw [Bool.eq_iff_iff, eqAll_self_iff h1 h2, hb]
  have r1 := run_guard h .eql x y xs ys w
  have r2 := run_equal h h1 h2 w
  simp [execOp, ha x _ hx, ha y _ hy, bind, Sem.run_bind', r1, binOp, r2, e, pure, Sem.run, Result.andThen]
theorem ok_nev {T T' : TypeId} {ks : List LK} {x y : Operand} {xs ys : List Value} {b : Bool} (hx : ev L x = some (.agg ⟨xs⟩)) (hy : ev L y = some (.agg ⟨ys⟩)) (h : EqT P T ks) (h1 : fitAll ks xs = true) (h2 : fitAll ks ys = true) (hb : b = true ↔ xs = ys) :
    Ok P C L ⟨d, .binOp .neq T x y T', ty, pos, aft, g⟩ (.bool (!b)) := fun ρ ha w _ => by
  have e : eqAll xs ys = b := by
    rw [Bool.eq_iff_iff, eqAll_self_iff h1 h2, hb]
  have r1 := run_guard h .neq x y xs ys w
  have r2 := run_equal h h1 h2 w
  simp [execOp, ha x _ hx, ha y _ hy, bind, Sem.run_bind', r1, binOp, r2, e, pure, Sem.run, Result.andThen]
theorem run_equalB {T : TypeId} (h : P.underlying T = some .bool) (a b : Bool) (w : World) : (Op.equal T (.bool a) (.bool b)).run P w = .ok (a == b) w := by
  show (Op.equalIn (9999 + 1) T (.bool a) (.bool b)).run P w = _
  unfold Op.equalIn
  rw [Sem.run_bind, run_underlying h]
  rfl
theorem ok_eqB {T T' : TypeId} {x y : Operand} {a b : Bool} (hx : ev L x = some (.bool a)) (hy : ev L y = some (.bool b)) (h : P.underlying T = some .bool) : Ok P C L ⟨d, .binOp .eql T x y T', ty, pos, aft, g⟩ (.bool (a == b)) := fun ρ ha w _ => by
  have r2 := run_equalB h a b w
  simp [execOp, ha x _ hx, ha y _ hy, bind, Sem.run_bind', eqGuard, binOp, r2, pure, Sem.run, Result.andThen]
end
end Go.Proofs.YtnbpodjbemfpbaaGreat.Fw
