/-
  Own work: walks and laws, joined by wip/tool/compact.py.
-/
import Derived.Test.YtdallmabajeajaaGreatDoorG1
import Derived.MapKept
import Derived.OrdersHeld
import Derived.Scope
import Derived.Test.YtdallmabajeajaaGreatDoorProg
import Derived.KernelRfl
set_option linter.all false
set_option linter.all false
namespace Go.Proofs.YtdallmabajeajaaGreatDoor.Fw
open Go
def kvs (es : Array MapEntry) : List (Value × Value) := es.toList.map fun e => (e.key, e.val)
@[reducible] def vInt (k : IntKind) (n : Int) : Value := .int k n
def vAgg {α : Type} (c : α → List Value) (x : α) : Value := .agg ⟨c x⟩
def Mp {κ ν : Type} (r : Nat) (kc : κ → Value) (vc : ν → Value) (m : List (κ × ν)) : HP := fun h =>
  ∃ (es : Array MapEntry) (clock : Nat), kvs es = m.map (fun x => (kc x.1, vc x.2)) ∧ (es.toList.map (·.born)).Pairwise (· < ·) ∧ (∀ e ∈ es.toList, e.born < clock) ∧ h = hone r (.map es clock)
structure KeyOK (P : Program) (kt : TypeId) {κ : Type} [DecidableEq κ] (kc : κ → Value) : Prop where
  find : ∀ (k : κ) (l : List MapEntry) (ks : List κ) (w : World), l.map (·.key) = ks.map kc → (Instr.findKey kt (kc k) l).run P w = .ok ((ks.findIdx? (fun x => decide (k = x))).bind fun i => (l[i]?).map fun e => (i, e.val)) w
  check : ∀ (e : Bool) (k : κ) (w : World), (Instr.checkKey e 10000 kt (kc k)).run P w = .ok () w
  same : ∀ k, Instr.sameBits 10000 (kc k) (kc k) = true
section
variable {κ ν : Type} [DecidableEq κ]
def midx (m : List (κ × ν)) (k : κ) : Option Nat := (m.map (·.1)).findIdx? (fun x => decide (k = x))
def mget (m : List (κ × ν)) (k : κ) : Option ν := (midx m k).bind fun i => (m[i]?).map (·.2)
def mset (m : List (κ × ν)) (k : κ) (v : ν) : List (κ × ν) := match midx m k with
  | some i => m.set i (k, v)
  | none => m ++ [(k, v)]
def mdel (m : List (κ × ν)) (k : κ) : List (κ × ν) := match midx m k with
  | some i => m.eraseIdx i
  | none => m
theorem midx_get {m : List (κ × ν)} {k : κ} {i : Nat} (h : midx m k = some i) : ∃ v, m[i]? = some (k, v) := by
  unfold midx at h
  rw [List.findIdx?_eq_some_iff_getElem] at h
  obtain ⟨h1, h2, _⟩ := h
  simp only [List.length_map] at h1
  simp only [List.getElem_map, decide_eq_true_eq] at h2
  exact ⟨m[i].2, by rw [List.getElem?_eq_getElem h1, h2]⟩
end
theorem key_int {P : Program} {kt : TypeId} {kk : IntKind} (h : P.underlying kt = some (.int kk)) : KeyOK P kt (vInt kk) where
  find k l ks w hl := by
    have key : ∀ (l : List MapEntry) (ks : List Int) (i : Nat), l.map (·.key) = ks.map (fun n : Int => Value.int kk n) → Instr.findNow (.int kk) (.int kk k) l i = some ((ks.findIdx? (fun x => decide (k = x))).bind fun j => (l[j]?).map fun e => (i + j, e.val)) := by
      intro l
      induction l with
      | nil => intro ks i hl; cases ks <;> simp_all [Instr.findNow]
      | cons e l ih =>
        intro ks i hl
        cases ks with
        | nil => simp at hl
        | cons a ks =>
          simp only [List.map_cons, List.cons.injEq] at hl
          have h2 := ih ks (i + 1) hl.2
          simp only [Instr.findNow, hl.1, Instr.sameNow, if_true]
          by_cases hk : k = a
          · subst hk; simp [List.findIdx?_cons]
          · have : (k == a) = false := by simpa using hk
            rw [this]
            simp only [h2, List.findIdx?_cons, hk, decide_false, Bool.false_eq_true, if_false]
            cases List.findIdx? (fun x => decide (k = x)) ks <;> simp
            rename_i j
            cases l[j]? <;> simp
            omega
    exact MapKept.run_findKey h (by simpa using key l ks 0 hl)
  check e k w := MapKept.run_checkKey h (by simp [MapKept.IsKey]) e 9999
  same k := by simp [Instr.sameBits]
def zvI (P : Program) (T : TypeId) : Option Value := (P.info? T).bind (·.zero)
theorem run_zero {P : Program} {T : TypeId} {z : Value} (h : zvI P T = some z) (w : World) : (zeroValue T).run P w = .ok z w := by
  unfold zvI at h
  cases hi : P.info? T with
  | none => simp [hi] at h
  | some i =>
    simp only [hi, Option.bind_some] at h
    simp [zeroValue, typeInfo, bind, Sem.bind, Sem.run, Sem.run_bind', program, hi, h, pure, Result.andThen]
section
variable {κ ν : Type} {iκ : DecidableEq κ} {kc : κ → Value} {vc : ν → Value} {ms : List (κ × ν)} {P : Program} {w w0 : World} {R : Hh} {Ps Qs : List HP} {r : Nat} {K V T : TypeId} {k : κ} {u : ν} {z : Value}
theorem look_map (m : Hp w0 R Ps w) (hP : Rem Ps (Mp r kc vc ms) Qs) : ∃ (es : Array MapEntry) (clock : Nat), kvs es = ms.map (fun x => (kc x.1, vc x.2)) ∧ (es.toList.map (·.born)).Pairwise (· < ·) ∧ (∀ e ∈ es.toList, e.born < clock) ∧ w.heap[r]? = some (.map es clock) := by
  obtain ⟨g, ⟨es, clock, h1, h2, h3, h4⟩, l⟩ := m.look hP
  exact ⟨es, clock, h1, h2, h3, l r _ (by rw [h4]; simp [hone])⟩
theorem kvs_keys {es : Array MapEntry} (h : kvs es = ms.map (fun x => (kc x.1, vc x.2))) : es.toList.map (·.key) = (ms.map (·.1)).map kc := by
  have := congrArg (List.map Prod.fst) h
  simpa [kvs, List.map_map, Function.comp_def] using this
theorem kvs_at {es : Array MapEntry} (h : kvs es = ms.map (fun x => (kc x.1, vc x.2))) (i : Nat) : (es.toList[i]?).map (fun e => (e.key, e.val)) = (ms[i]?).map fun x => (kc x.1, vc x.2) := by
  have := congrArg (·[i]?) h
  simpa [kvs, List.getElem?_map] using this
theorem run_find (hK : KeyOK P K kc) {es : Array MapEntry} (h : kvs es = ms.map (fun x => (kc x.1, vc x.2))) (k : κ) (w : World) : (Instr.findKey K (kc k) es.toList).run P w = .ok ((midx ms k).bind fun i => (mget ms k).map fun u => (i, vc u)) w := by
  rw [hK.find k es.toList (ms.map (·.1)) w (kvs_keys h)]
  congr 1
  show (midx ms k).bind _ = _
  unfold mget
  cases hi : midx ms k with
  | none => rfl
  | some i =>
    simp only [Option.bind_some, Option.map_map]
    have := kvs_at h i
    cases he : es.toList[i]? with
    | none => rw [he] at this; simp only [Option.map_none] at this; cases hm : ms[i]? <;> simp_all
    | some e =>
      rw [he] at this
      cases hm : ms[i]? with
      | none => simp_all
      | some x => simp_all [Function.comp_def]
theorem run_lookup (hT : maI P T = some (K, V)) (hz : zvI P V = some z) (hK : KeyOK P K kc) (m : Hp w0 R Ps w) (hP : Rem Ps (Mp r kc vc ms) Qs) (c : Bool) :
    (Instr.lookup T (.map (some r)) (kc k) c).run P w = .ok (if c then .tuple ⟨[((mget ms k).map vc).getD z, .bool (mget ms k).isSome]⟩ else ((mget ms k).map vc).getD z) w := by
  obtain ⟨es, clock, h1, h2, h3, h4⟩ := look_map m hP
  have hT' := maI_spec hT
  unfold Instr.lookup
  simp only [bind, Sem.run_bind', run_underlying hT', Result.andThen, MapKept.run_getObj_map h4, pure, Sem.run, hK.check, run_find hK h1]
  cases hi : midx ms k with
  | none =>
    have : mget ms k = none := by simp [mget, hi]
    simp [this, Sem.run_bind', run_zero hz, Result.andThen, pure, Sem.run]
  | some i =>
    obtain ⟨v, hv⟩ := midx_get hi
    have : mget ms k = some v := by simp [mget, hi, hv]
    simp [this, Sem.run_bind', Result.andThen, pure, Sem.run]
section
variable {C : World → Prop} {L : List (Nat × Value)} {od : Option Tmp} {ty : TypeId} {pos : String} {aft : Array Edge} {gd : Option (Nat × Bool)} {x y v : Operand} {n d : Nat} {ops : Array Oper} {Q : Exit → Act → World → Prop} {rest : List Oper}
theorem h1_ (hx : ev L x = some (.map (some r))) (hk : ev L y = some (kc k)) (hT : maI P T = some (K, V)) (hz : zvI P V = some z) (hP : Rem Ps (Mp r kc vc ms) Qs) (hK : KeyOK P K kc) : OkS P (Hp w0 R Ps) L ⟨od, .lookup T x y true, ty, pos, aft, gd⟩ (.tuple ⟨[((mget ms k).map vc).getD z, .bool (mget ms k).isSome]⟩) := ⟨fun ρ ha w hw => by
  have := run_lookup (k := k) hT hz hK hw hP true
  simp [execOp, ha x _ hx, ha y _ hk, bind, Sem.run_bind', this, pure, Sem.run, Result.andThen]⟩
theorem h2_ (hx : ev L x = some (.map (some r))) (hk : ev L y = some (kc k)) (hT : maI P T = some (K, V)) (hz : zvI P V = some z) (hP : Rem Ps (Mp r kc vc ms) Qs) (hK : KeyOK P K kc) : OkS P (Hp w0 R Ps) L ⟨od, .lookup T x y false, ty, pos, aft, gd⟩ (((mget ms k).map vc).getD z) := ⟨fun ρ ha w hw => by
  have := run_lookup (k := k) hT hz hK hw hP false
  simp [execOp, ha x _ hx, ha y _ hk, bind, Sem.run_bind', this, pure, Sem.run, Result.andThen]⟩
theorem h3_ (hx : ev L x = some (.map (some r))) (hT : maI P T = some (K, V)) (hP : Rem Ps (Mp r kc vc ms) Qs) : OkS P (Hp w0 R Ps) L ⟨od, .call ⟨.builtin .len, #[x], #[T]⟩, ty, pos, aft, gd⟩ (.int .i64 (ms.length : Int)) := ⟨fun ρ ha w hw => by
  obtain ⟨es, clock, h1, h2, h3, h4⟩ := look_map hw hP
  have hT' := maI_spec hT
  have hl : es.size = ms.length := by have := congrArg List.length h1; simpa [kvs] using this
  simp [execOp, resolve, invoke, builtin, Builtin.len_, ha x _ hx, bind, Sem.run_bind', run_underlying hT', MapKept.run_getObj_map h4, pure, Sem.run, Result.andThen, goInt, hl]⟩
theorem h4_ {u0 : ν} (hx : ev L x = some (.map (some r))) (hP : Rem Ps (Mp r kc vc ms) Qs) (hk : ev L y = some (kc k)) (hT : maI P T = some (K, V)) (hK : KeyOK P K kc) (hz : zvI P V = some (vc u0)) : OkS P (Hp w0 R Ps) L ⟨od, .lookup T x y true, ty, pos, aft, gd⟩ (.tuple ⟨[vc ((mget ms k).getD u0), .bool (mget ms k).isSome]⟩) := by
  have := h1_ (od := od) (ty := ty) (pos := pos) (aft := aft) (gd := gd) (w0 := w0) (R := R) hx hk hT hz hP hK
  cases h : mget ms k <;> simpa [h] using this
theorem h5_ {u0 : ν} (hx : ev L x = some (.map (some r))) (hP : Rem Ps (Mp r kc vc ms) Qs) (hk : ev L y = some (kc k)) (hT : maI P T = some (K, V)) (hK : KeyOK P K kc) (hz : zvI P V = some (vc u0)) : OkS P (Hp w0 R Ps) L ⟨od, .lookup T x y false, ty, pos, aft, gd⟩ (vc ((mget ms k).getD u0)) := by
  have := h2_ (od := od) (ty := ty) (pos := pos) (aft := aft) (gd := gd) (w0 := w0) (R := R) hx hk hT hz hP hK
  cases h : mget ms k <;> simpa [h] using this
theorem Hp.turn {o o' : Obj} {w' : World} (m : Hp w0 R ((fun h => h = hone r o) :: Ps) w) (hw : w'.heap = w.heap.setIfInBounds r o') (hos : w'.os = w.os) (htape : w'.tape = w.tape) (hout : w'.output = w.output ∧ w.drawn ≤ w'.drawn) : Hp w0 R ((fun h => h = hone r o') :: Ps) w' := m.block hw hos htape hout
theorem Mp.un (m : Hp w0 R Ps w) (hP : Rem Ps (Mp r kc vc ms) Qs) : ∃ (es : Array MapEntry) (clock : Nat), kvs es = ms.map (fun x => (kc x.1, vc x.2)) ∧ (es.toList.map (·.born)).Pairwise (· < ·) ∧ (∀ e ∈ es.toList, e.born < clock) ∧ w.heap[r]? = some (.map es clock) ∧ Hp w0 R ((fun h => h = hone r (.map es clock)) :: Qs) w := by
  obtain ⟨g, ⟨es, clock, h1, h2, h3, h4⟩, l, m'⟩ := (m.front hP).exact
  exact ⟨es, clock, h1, h2, h3, l r _ (by rw [h4]; simp [hone]), by rw [h4] at m'; exact m'⟩
theorem Mp.mk' {es : Array MapEntry} {clock : Nat} (m : Hp w0 R ((fun h => h = hone r (.map es clock)) :: Qs) w) (h1 : kvs es = ms.map (fun x => (kc x.1, vc x.2))) (h2 : (es.toList.map (·.born)).Pairwise (· < ·)) (h3 : ∀ e ∈ es.toList, e.born < clock) : Hp w0 R (Mp r kc vc ms :: Qs) w :=
  m.map fun _ => SepL.head fun h e => ⟨es, clock, h1, h2, h3, e⟩
theorem run_update (hT : maI P T = some (K, V)) (hK : KeyOK P K kc) (m : Hp w0 R Ps w) (hP : Rem Ps (Mp r kc vc ms) Qs) (k : κ) (u : ν) :
    ∃ w', (Instr.mapUpdate T (.map (some r)) (kc k) (vc u)).run P w = .ok () w' ∧ Hp w0 R (Mp r kc vc (mset ms k u) :: Qs) w' := by
  obtain ⟨es, clock, h1, h2, h3, h4, m'⟩ := Mp.un m hP
  have hT' := maI_spec hT
  unfold Instr.mapUpdate
  simp only [bind, Sem.run_bind', run_underlying hT', Result.andThen, MapKept.run_getObj_map h4, pure, Sem.run, hK.check, run_find hK h1]
  cases hi : midx ms k with
  | none =>
    simp only [Option.bind_none]
    refine ⟨_, by rw [MapKept.run_setObj_map _ h4], ?_⟩
    refine Mp.mk' (es := es.push { key := kc k, val := vc u, born := clock }) (clock := clock + 1) (m'.turn rfl rfl rfl ⟨rfl, Nat.le_refl _⟩) ?_ ?_ ?_
    · simp only [kvs, Array.toList_push, List.map_append, List.map_cons, List.map_nil, mset, hi]
      rw [show es.toList.map (fun e => (e.key, e.val)) = _ from h1]
    · simp only [Array.toList_push, List.map_append, List.map_cons, List.map_nil, List.pairwise_append, List.pairwise_cons, List.mem_map, List.mem_cons, List.not_mem_nil, or_false]
      refine ⟨h2, ⟨by simp, .nil⟩, ?_⟩
      rintro _ ⟨e, he, rfl⟩ _ rfl
      exact h3 e he
    · intro e he
      simp only [Array.toList_push, List.mem_append, List.mem_cons, List.not_mem_nil, or_false] at he
      rcases he with he | rfl
      · have := h3 e he; omega
      · simp
  | some i =>
    obtain ⟨v, hv⟩ := midx_get hi
    have hg : mget ms k = some v := by simp [mget, hi, hv]
    have hkv := kvs_at h1 i
    rw [hv] at hkv
    cases he : es.toList[i]? with
    | none => rw [he] at hkv; cases hkv
    | some e =>
      rw [he] at hkv
      simp only [Option.map_some, Option.some.injEq, Prod.mk.injEq] at hkv
      have hes : es[i]? = some e := by rw [← Array.getElem?_toList]; exact he
      simp only [Option.bind_some, hg, Option.map_some, hes, Option.getD_some, hkv.1, Instr.keyThatStays, hK.same, if_true, pure, Sem.run, Sem.bind]
      refine ⟨_, by rw [MapKept.run_setObj_map _ h4], ?_⟩
      refine Mp.mk' (m'.turn rfl rfl rfl ⟨rfl, Nat.le_refl _⟩) ?_ ?_ ?_
      · simp only [mset, hi]
        rw [List.map_set, ← h1]
        simp only [kvs, Array.toList_modify]
        apply List.ext_getElem?
        intro j
        simp only [List.getElem?_map, List.getElem?_modify, List.getElem?_set, List.length_map]
        by_cases hij : i = j
        · subst hij
          have hlt : i < es.toList.length := (List.getElem?_eq_some_iff.1 he).1
          simp [he]
          simpa using hlt
        · simp [hij]
      · have e1 : (es.modify i fun e => { e with key := kc k, val := vc u }).toList.map (·.born) = es.toList.map (·.born) := by
          simp only [Array.toList_modify]
          apply List.ext_getElem?
          intro j
          simp only [List.getElem?_map, List.getElem?_modify]
          by_cases hij : i = j
          · subst hij; simp [he]
          · simp [hij]
        rw [e1]
        exact h2
      · intro x hx
        obtain ⟨j, hj⟩ := List.mem_iff_getElem?.1 hx
        simp only [Array.toList_modify, List.getElem?_modify] at hj
        cases hq : es.toList[j]? with
        | none => rw [hq] at hj; simp at hj
        | some y =>
          rw [hq] at hj
          have := h3 y (List.mem_of_getElem? hq)
          by_cases hij : i = j
          · simp [hij] at hj; subst hj; exact this
          · simp [hij] at hj; subst hj; exact this
theorem map_eraseIdx' {α β : Type} (f : α → β) : ∀ (l : List α) (i : Nat), (l.eraseIdx i).map f = (l.map f).eraseIdx i
  | [], _ => rfl
  | _ :: _, 0 => rfl
  | a :: l, i + 1 => by simp [map_eraseIdx' f l i]
theorem run_delete {tr : TypeId} (hT : maI P T = some (K, V)) (hK : KeyOK P K kc) (m : Hp w0 R Ps w) (hP : Rem Ps (Mp r kc vc ms) Qs) (k : κ) :
    ∃ w', (Builtin.delete_ #[T] tr #[.map (some r), kc k]).run P w = .ok (.tuple #[]) w' ∧ Hp w0 R (Mp r kc vc (mdel ms k) :: Qs) w' := by
  obtain ⟨es, clock, h1, h2, h3, h4, m'⟩ := Mp.un m hP
  have hT' := maI_spec hT
  unfold Builtin.delete_
  simp [bind, Sem.run_bind', run_underlying hT', Result.andThen, MapKept.run_getObj_map h4, pure, Sem.run, hK.check, run_find hK h1]
  cases hi : midx ms k with
  | none =>
    simp only [Option.bind_none]
    refine ⟨_, by rw [Sem.run_bind', MapKept.run_setObj_map _ h4]; rfl, ?_⟩
    refine Mp.mk' (m'.turn rfl rfl rfl ⟨rfl, Nat.le_refl _⟩) ?_ h2 h3
    simpa [mdel, hi] using h1
  | some i =>
    obtain ⟨v, hv⟩ := midx_get hi
    have hg : mget ms k = some v := by simp [mget, hi, hv]
    simp only [Option.bind_some, hg, Option.map_some]
    refine ⟨_, by rw [Sem.run_bind', MapKept.run_setObj_map _ h4]; rfl, ?_⟩
    refine Mp.mk' (m'.turn rfl rfl rfl ⟨rfl, Nat.le_refl _⟩) ?_ ?_ ?_
    · simp only [mdel, hi, kvs, Array.toList_eraseIdxIfInBounds]
      rw [map_eraseIdx', map_eraseIdx', ← h1]
      rfl
    · rw [Array.toList_eraseIdxIfInBounds, map_eraseIdx']
      exact h2.sublist (List.eraseIdx_sublist _ _)
    · intro e he
      rw [Array.toList_eraseIdxIfInBounds] at he
      exact h3 e (List.mem_of_mem_eraseIdx he)
theorem mup_ {mo ko vo : Operand} (hx : ev L mo = some (.map (some r))) (hk : ev L ko = some (kc k)) (hv : ev L vo = some (vc u)) (hT : maI P T = some (K, V)) (hP : Rem Ps (Mp r kc vc ms) Qs) (hK : KeyOK P K kc) (kk : Gl n w0 R L (Mp r kc vc (mset ms k u) :: Qs) (.li P ops Q rest)) :
    Gl n w0 R L Ps (.li P ops Q (⟨none, .mapUpdate T mo ko vo, ty, pos, aft, none⟩ :: rest)) := fun a w hs m => by
  obtain ⟨w', h1, h2⟩ := run_update hT hK m hP k u
  refine step_skip rfl rfl hs (w' := w') ?_ (kk a w' hs h2)
  simp [execOp, hs.evs mo _ hx, hs.evs ko _ hk, hs.evs vo _ hv, bind, Sem.run_bind', h1, pure, Sem.run, Result.andThen]
theorem mde_ {mo ko : Operand} (hx : ev L mo = some (.map (some r))) (hk : ev L ko = some (kc k)) (hT : maI P T = some (K, V)) (hP : Rem Ps (Mp r kc vc ms) Qs) (hK : KeyOK P K kc) (kk : Gl n w0 R L (Mp r kc vc (mdel ms k) :: Qs) (.li P ops Q rest)) {t2 : TypeId} :
    Gl n w0 R L Ps (.li P ops Q (⟨none, .call ⟨.builtin .delete, #[mo, ko], #[T, t2]⟩, ty, pos, aft, none⟩ :: rest)) := fun a w hs m => by
  obtain ⟨w', h1, h2⟩ := run_delete (tr := ty) hT hK m hP k
  refine step_val0 rfl rfl hs (v := .tuple #[]) (w' := w') ?_ (kk a w' hs h2)
  have h1' : (Builtin.delete_ #[T, t2] ty #[.map (some r), kc k]).run P w = .ok (.tuple #[]) w' := h1
  simp [execOp, resolve, invoke, builtin, hs.evs mo _ hx, hs.evs ko _ hk, bind, Sem.run_bind', h1', pure, Sem.run, Result.andThen]
theorem mma_ {E : TypeId} (kc : κ → Value) (vc : ν → Value) (kk : ∀ r, Gl n w0 R ((d, .map (some r)) :: L) (Mp r kc vc [] :: Ps) (.li P ops Q rest)) (hd : Nat.blt d n = true) : Gl n w0 R L Ps (.li P ops Q (⟨some d, .makeMap E none, ty, pos, aft, none⟩ :: rest)) := fun a w hs m => by
  refine step_val rfl rfl hs hd (v := .map (some w.heap.size)) (w' := w.alloc (.map #[] 0)) ?_ fun a' hs' => kk _ a' _ hs' ?_
  · simp [execOp, Instr.makeMap, bind, Sem.run_bind', alloc_run, pure, Sem.run, Result.andThen]
  · exact Mp.mk' (m.alloc _) rfl .nil (by simp)
def Ri (b r : Nat) (kc : κ → Value) (vc : ν → Value) (ms left : List (κ × ν)) : HP := fun h =>
  ∃ (es : Array MapEntry) (clock : Nat) (seen : Array Nat) (last : Nat), kvs es = ms.map (fun x => (kc x.1, vc x.2)) ∧ (es.toList.map (·.born)).Pairwise (· < ·) ∧ (∀ e ∈ es.toList, e.born < clock) ∧
    kvs (es.filter fun e => !seen.contains e.born) = left.map (fun x => (kc x.1, vc x.2)) ∧ last ≤ clock ∧ (seen.isEmpty = false → last = clock) ∧ r ≠ b ∧ h = hu (hone r (.map es clock)) (hone b (.mapIter (some r) clock seen last))
def Re (b r : Nat) (kc : κ → Value) (vc : ν → Value) (ms left : List (κ × ν)) (x : κ × ν) : HP := fun h =>
  ∃ (es : Array MapEntry) (clock : Nat) (seen : Array Nat) (E : MapEntry), kvs es = ms.map (fun x => (kc x.1, vc x.2)) ∧ (es.toList.map (·.born)).Pairwise (· < ·) ∧ (∀ e ∈ es.toList, e.born < clock) ∧
    kvs (es.filter fun e => !seen.contains e.born) = left.map (fun x => (kc x.1, vc x.2)) ∧ seen.back? = some E.born ∧ es.find? (fun e => e.born == E.born) = some E ∧ E.key = kc x.1 ∧ E.val = vc x.2 ∧ r ≠ b ∧ h = hu (hone r (.map es clock)) (hone b (.mapIter (some r) clock seen clock))
theorem hh_two {h : Hh} {b : Nat} {o p : Obj} (hne : r ≠ b) : hu (hone r o) (hone b p) b = some p ∧ hu (hone r o) (hone b p) r = some o := by
  refine ⟨?_, ?_⟩
  · simp [hu, hone, Ne.symm hne]
  · simp [hu, hone]
theorem Hp.two {b : Nat} {o p p' : Obj} {w' : World} (hne : r ≠ b) (m : Hp w0 R ((fun h => h = hu (hone r o) (hone b p)) :: Ps) w) (hw : w'.heap = w.heap.setIfInBounds b p') (hos : w'.os = w.os) (htape : w'.tape = w.tape) (hout : w'.output = w.output ∧ w.drawn ≤ w'.drawn) : Hp w0 R ((fun h => h = hu (hone r o) (hone b p')) :: Ps) w' := by
  have hd0 : ∀ q, hd (hone r o) (hone b q) := fun q i => by
    by_cases hi : i = r
    · exact .inr (by simp [hone, hi, hne])
    · exact .inl (by simp [hone, hi])
  have e1 : Hp w0 R ((fun h => h = hone b p) :: (fun h => h = hone r o) :: Ps) w := by
    refine m.map fun h s => ?_
    obtain ⟨h1, h2, rfl, s2, d, rfl⟩ := s
    have d' := hd_hu_left.1 d
    refine ⟨hone b p, hu (hone r o) h2, rfl, ⟨hone r o, h2, rfl, s2, d'.1, rfl⟩, hd_hu_right.2 ⟨hd_comm (hd0 p), d'.2⟩, ?_⟩
    rw [← hu_assoc, hu_comm (hd0 p)]
  have e2 := e1.turn (o' := p') hw hos htape hout
  refine e2.map fun h s => ?_
  obtain ⟨h1, h2, rfl, ⟨h3, h4, rfl, s2, d2, rfl⟩, d, rfl⟩ := s
  have d' := hd_hu_right.1 d
  exact ⟨hu (hone r o) (hone b p'), h4, rfl, s2, hd_hu_left.2 ⟨d2, d'.2⟩, by rw [← hu_assoc, hu_comm (hd_comm d'.1)]⟩
theorem ran_ {mo : Operand} (kk : ∀ b, Gl n w0 R ((d, .pointer (some ⟨b, 0, none⟩)) :: L) (Ri b r kc vc ms ms :: Qs) (.li P ops Q rest)) (hx : ev L mo = some (.map (some r))) (hT : maI P T = some (K, V)) (hP : Rem Ps (Mp r kc vc ms) Qs) (hd : Nat.blt d n = true) :
    Gl n w0 R L Ps (.li P ops Q (⟨some d, .range T mo, ty, pos, aft, none⟩ :: rest)) := fun a w hs m => by
  obtain ⟨es, clock, h1, h2, h3, h4, m'⟩ := Mp.un m hP
  have hT' := maI_spec hT
  refine step_val rfl rfl hs hd (v := .pointer (some ⟨w.heap.size, 0, none⟩)) (w' := w.alloc (.mapIter (some r) clock #[] clock)) ?_ fun a' hs' => kk _ a' _ hs' ?_
  · simp [execOp, hs.evs mo _ hx, Instr.range, bind, Sem.run_bind', run_underlying hT', MapKept.run_getObj_map h4, alloc_run, pure, Sem.run, Result.andThen]
  · have hlt : r < w.heap.size := (Array.getElem?_eq_some_iff.1 h4).1
    have m2 := m'.alloc (.mapIter (some r) clock #[] clock)
    refine m2.map fun h s => ?_
    obtain ⟨h1', h2', rfl, ⟨h3', h4', rfl, s2, d2, rfl⟩, d, rfl⟩ := s
    have d' := hd_hu_right.1 d
    refine ⟨hu (hone r (.map es clock)) (hone w.heap.size (.mapIter (some r) clock #[] clock)), h4', ⟨es, clock, #[], clock, h1, h2, h3, ?_, Nat.le_refl _, by simp, by omega, rfl⟩, s2, hd_hu_left.2 ⟨d2, d'.2⟩, by rw [← hu_assoc, hu_comm (hd_comm d'.1)]⟩
    have : (es.filter fun e => !(#[] : Array Nat).contains e.born) = es := by simp
    rw [this]; exact h1
theorem Ri.un {b : Nat} {left : List (κ × ν)} (m : Hp w0 R Ps w) (hP : Rem Ps (Ri b r kc vc ms left) Qs) : ∃ (es : Array MapEntry) (clock : Nat) (seen : Array Nat) (last : Nat), kvs es = ms.map (fun x => (kc x.1, vc x.2)) ∧ (es.toList.map (·.born)).Pairwise (· < ·) ∧ (∀ e ∈ es.toList, e.born < clock) ∧
    kvs (es.filter fun e => !seen.contains e.born) = left.map (fun x => (kc x.1, vc x.2)) ∧ last ≤ clock ∧ (seen.isEmpty = false → last = clock) ∧ r ≠ b ∧ w.heap[r]? = some (.map es clock) ∧ w.heap[b]? = some (.mapIter (some r) clock seen last) ∧
    Hp w0 R ((fun h => h = hu (hone r (.map es clock)) (hone b (.mapIter (some r) clock seen last))) :: Qs) w := by
  obtain ⟨g, ⟨es, clock, seen, last, h1, h2, h3, h4, h5, h6, h7, h8⟩, l, m'⟩ := (m.front hP).exact
  subst h8
  have := hh_two (h := hnil) (o := .map es clock) (p := .mapIter (some r) clock seen last) h7
  exact ⟨es, clock, seen, last, h1, h2, h3, h4, h5, h6, h7, l _ _ this.2, l _ _ this.1, m'⟩
theorem ue0_ {b : Nat} {left : List (κ × ν)} {x : κ × ν} {F : GF} (hP : Rem Ps (Re b r kc vc ms left x) Qs) (kk : Gl n w0 R L (Ri b r kc vc ms left :: Qs) F) : Gl n w0 R L Ps F := fun a w hs m =>
  kk a w hs ((m.front hP).map fun h s => s.head fun h ⟨es, clock, seen, E, h1, h2, h3, h4, _, _, _, _, h7, h8⟩ => ⟨es, clock, seen, clock, h1, h2, h3, h4, Nat.le_refl _, fun _ => rfl, h7, h8⟩)
theorem ent_ {b : Nat} {left : List (κ × ν)} {xe : κ × ν} {it : Operand} (hx : ev L it = some (.pointer (some ⟨b, 0, none⟩))) (hP : Rem Ps (Re b r kc vc ms left xe) Qs) : OkS P (Hp w0 R Ps) L ⟨od, .entry it, ty, pos, aft, gd⟩ (.tuple ⟨[kc xe.1, vc xe.2]⟩) := ⟨fun ρ ha w hw => by
  obtain ⟨g, ⟨es, clock, seen, E, h1, h2, h3, h4, h5, h6, h7, h8, h9, h10⟩, l⟩ := hw.look hP
  subst h10
  have := hh_two (h := hnil) (o := .map es clock) (p := .mapIter (some r) clock seen clock) h9
  have e1 : w.heap[r]? = some (.map es clock) := l _ _ this.2
  have e2 : w.heap[b]? = some (.mapIter (some r) clock seen clock) := l _ _ this.1
  have hg1 : (getObj b).run P w = .ok (.mapIter (some r) clock seen clock) w := by simp [getObj, Sem.run, e2]
  simp [execOp, Instr.entry, ha it _ hx, bind, Sem.run_bind', hg1, MapKept.run_getObj_map e1, h5, h6, h7, h8, pure, Sem.run, Result.andThen]⟩
theorem unri_ {b : Nat} {left : List (κ × ν)} {F : GF} (hP : Rem Ps (Ri b r kc vc ms left) Qs) (kk : Gl n w0 R L (Mp r kc vc ms :: Qs) F) : Gl n w0 R L Ps F := fun a w hs m => by
  obtain ⟨es, clock, seen, last, h1, h2, h3, h4, h5, h6, h7, h8, h9, m'⟩ := Ri.un m hP
  refine kk a w hs ?_
  have e1 : Hp w0 R ((fun h => h = hone b (.mapIter (some r) clock seen last)) :: (fun h => h = hone r (.map es clock)) :: Qs) w := by
    refine m'.map fun h s => ?_
    obtain ⟨h1, h2, rfl, s2, d, rfl⟩ := s
    have d' := hd_hu_left.1 d
    have hd0 : hd (hone r (.map es clock)) (hone b (.mapIter (some r) clock seen last)) := fun i => by
      by_cases hi : i = r
      · exact .inr (by simp [hone, hi, h7])
      · exact .inl (by simp [hone, hi])
    refine ⟨_, hu (hone r (.map es clock)) h2, rfl, ⟨_, h2, rfl, s2, d'.1, rfl⟩, hd_hu_right.2 ⟨hd_comm hd0, d'.2⟩, ?_⟩
    rw [← hu_assoc, hu_comm hd0]
  exact Mp.mk' e1.drop h1 h2 h3
theorem filter_erase {l : List MapEntry} (hl : (l.map (·.born)).Pairwise (· < ·)) : ∀ {i : Nat} {e : MapEntry}, l[i]? = some e → l.filter (fun x => !(x.born == e.born)) = l.eraseIdx i := by
  induction l with
  | nil => intro i e h; simp at h
  | cons a l ih =>
    intro i e h
    simp only [List.map_cons, List.pairwise_cons, List.mem_map, forall_exists_index, and_imp, forall_apply_eq_imp_iff₂] at hl
    cases i with
    | zero =>
      simp only [List.getElem?_cons_zero, Option.some.injEq] at h
      subst h
      simp only [List.filter_cons, beq_self_eq_true, Bool.not_true, Bool.false_eq_true, if_false, List.eraseIdx_cons_zero]
      exact List.filter_eq_self.2 fun x hx => by have := hl.1 x hx; simp; omega
    | succ i =>
      simp only [List.getElem?_cons_succ] at h
      have := hl.1 e (List.mem_of_getElem? h)
      have hne : (a.born == e.born) = false := by simp; omega
      simp only [List.filter_cons, hne, Bool.not_false, if_true, List.eraseIdx_cons_succ, ih hl.2 h]
theorem run_choose_map {n : Nat} (hn : 0 < n) (w : World) : ∃ i k, i < n ∧ (choose (.mapNext n)).run P w = .ok i { w with drawn := k } ∧ w.drawn ≤ k := by
  unfold choose
  simp only [Sem.run]
  by_cases h : n ≤ 1
  · refine ⟨0, w.drawn, hn, ?_, Nat.le_refl _⟩
    simp [Question.forced, h, Sem.run]
  · refine ⟨w.tape w.drawn (.mapNext n) % n, w.drawn + 1, Nat.mod_lt _ hn, ?_, Nat.le_succ _⟩
    simp [Question.forced, h, Sem.run, Question.cut]
theorem find_born {es : Array MapEntry} (hl : (es.toList.map (·.born)).Pairwise (· < ·)) {E : MapEntry} (hE : E ∈ es.toList) : es.find? (fun e => e.born == E.born) = some E := by
  rw [← Array.find?_toList]
  have key : ∀ l : List MapEntry, (l.map (·.born)).Pairwise (· < ·) → E ∈ l → l.find? (fun e => e.born == E.born) = some E := by
    intro l
    induction l with
    | nil => intro _ h; cases h
    | cons a l ih =>
      intro h1 h2
      simp only [List.map_cons, List.pairwise_cons, List.mem_map, forall_exists_index, and_imp, forall_apply_eq_imp_iff₂] at h1
      rcases List.mem_cons.1 h2 with rfl | h2
      · simp
      · have := h1.1 E h2
        rw [List.find?_cons_of_neg (by simp; omega)]
        exact ih h1.2 h2
  exact key _ hl hE
theorem run_next {b : Nat} {left : List (κ × ν)} (m : Hp w0 R Ps w) (hP : Rem Ps (Ri b r kc vc ms left) Qs) (tyy : TypeId) :
    (left = [] ∧ ∃ w', (Instr.next (.pointer (some ⟨b, 0, none⟩)) false tyy).run P w = .ok (.tuple #[.bool false]) w' ∧ Hp w0 R (Ri b r kc vc ms [] :: Qs) w') ∨
    ∃ i e w', left[i]? = some e ∧ (Instr.next (.pointer (some ⟨b, 0, none⟩)) false tyy).run P w = .ok (.tuple #[.bool true, kc e.1, vc e.2]) w' ∧ Hp w0 R (Re b r kc vc ms (left.eraseIdx i) e :: Qs) w' := by
  obtain ⟨es, clock, seen, last, h1, h2, h3, h4, h5, h6, h7, h8, h9, m'⟩ := Ri.un m hP
  have hg1 : (getObj b).run P w = .ok (.mapIter (some r) clock seen last) w := by simp [getObj, Sem.run, h9]
  have hc : (!seen.isEmpty && !es.isEmpty && es.all (fun e => decide (e.born ≥ last))) = false := by
    cases hs : seen.isEmpty with
    | true => simp
    | false =>
      cases he : es.isEmpty with
      | true => simp
      | false =>
        have hl := h6 hs
        subst hl
        simp only [Bool.not_false, Bool.true_and]
        cases hes : es.toList with
        | nil => exfalso; simp at hes; simp [hes] at he
        | cons a l =>
          have := h3 a (by rw [hes]; simp)
          rw [← Bool.not_eq_true, Array.all_eq_true_iff_forall_mem]
          intro hall
          have := hall a (by rw [← Array.mem_toList_iff, hes]; simp)
          simp at this
          omega
  have hold : (es.filter fun e => !seen.contains e.born).filter (fun e => decide (e.born < clock)) = es.filter fun e => !seen.contains e.born := by
    rw [Array.filter_eq_self]
    intro a ha
    have : a ∈ es := by simp only [Array.mem_filter] at ha; exact ha.1
    simpa using h3 a (by simpa using this)
  have hnew : (es.filter fun e => !seen.contains e.born).filter (fun e => decide (e.born ≥ clock)) = #[] := by
    rw [Array.filter_eq_empty_iff]
    intro a ha
    have : a ∈ es := by simp only [Array.mem_filter] at ha; exact ha.1
    have := h3 a (by simpa using this)
    simp; omega
  have hlen : (es.filter fun e => !seen.contains e.born).size = left.length := by
    have := congrArg List.length h4
    rw [List.length_map, kvs, List.length_map, Array.length_toList] at this
    exact this
  unfold Instr.next
  simp only [bind, Sem.run_bind', hg1, Result.andThen, MapKept.run_getObj_map h8, hc, Bool.false_eq_true, if_false, hold, hnew, Array.append_empty, pure, Sem.run]
  cases left with
  | nil =>
    left
    refine ⟨rfl, ?_⟩
    have h0 : (es.filter fun e => !seen.contains e.born) = #[] := Array.eq_empty_of_size_eq_zero (by simpa using hlen)
    rw [h0]
    refine ⟨w, ?_, m'.map fun h s => s.head fun h e => ⟨es, clock, seen, last, h1, h2, h3, h4, h5, h6, h7, e⟩⟩
    simp [choose, Sem.run, Question.forced, Sem.run_bind', Result.andThen]
  | cons x left =>
    right
    have hpos : 0 < (es.filter fun e => !seen.contains e.born).size := by rw [hlen]; simp
    have hne : (es.filter fun e => !seen.contains e.born).isEmpty = false := by
      rw [← Bool.not_eq_true, Array.isEmpty_iff_size_eq_zero]; omega
    obtain ⟨i, dr, hi, hch⟩ := run_choose_map (P := P) hpos w
    have hi2 : i < (es.filter fun e => !seen.contains e.born).toList.length := by rw [Array.length_toList]; exact hi
    have hkv : kvs (es.filter fun e => !seen.contains e.born) = (x :: left).map (fun x => (kc x.1, vc x.2)) := h4
    have he := List.getElem?_eq_getElem hi2
    generalize hE : (es.filter fun e => !seen.contains e.born).toList[i] = E at he
    have hat : (x :: left)[i]? = some ((x :: left)[i]'(by rw [← hlen]; exact hi)) := List.getElem?_eq_getElem _
    generalize hX : (x :: left)[i]'(by rw [← hlen]; exact hi) = X at hat
    have hkx : (E.key, E.val) = (kc X.1, vc X.2) := by
      have := congrArg (·[i]?) hkv
      simp only [kvs, List.getElem?_map, he, hat, Option.map_some, Option.some.injEq] at this
      exact this
    have heA : (es.filter fun e => !seen.contains e.born)[i]? = some E := by rw [← Array.getElem?_toList]; exact he
    refine ⟨i, X, { w with heap := w.heap.setIfInBounds b (.mapIter (some r) clock (seen.push E.born) clock), drawn := dr }, hat, ?_, ?_⟩
    rotate_left
    · have m2 := Hp.two (p' := .mapIter (some r) clock (seen.push E.born) clock) (w' := { w with heap := w.heap.setIfInBounds b (.mapIter (some r) clock (seen.push E.born) clock), drawn := dr }) h7 m' rfl rfl rfl ⟨rfl, hch.2⟩
      have hEm : E ∈ es.toList := by
        have := List.mem_of_getElem? he
        rw [Array.toList_filter, List.mem_filter] at this
        exact this.1
      refine m2.map fun h s => s.head fun h e => ⟨es, clock, seen.push E.born, E, h1, h2, h3, ?_, by simp, find_born h2 hEm, (Prod.mk.inj hkx).1, (Prod.mk.inj hkx).2, h7, e⟩
      have hf : (es.filter fun e => !(seen.push E.born).contains e.born).toList = (es.filter fun e => !seen.contains e.born).toList.eraseIdx i := by
        have hpw : ((es.filter fun e => !seen.contains e.born).toList.map (·.born)).Pairwise (· < ·) := by
          rw [Array.toList_filter]
          exact h2.sublist (List.filter_sublist.map _)
        rw [← filter_erase hpw he, Array.toList_filter, Array.toList_filter, List.filter_filter]
        congr 1
        funext y
        simp [Array.contains_push, Bool.beq_eq_decide_eq, or_comm, and_comm, eq_comm]
      unfold kvs
      rw [hf, map_eraseIdx', map_eraseIdx', ← hkv]
      rfl
    · simp only [hne, Bool.false_eq_true, if_false, Array.empty_append, Array.size_map, Sem.run_bind', hch.1, Result.andThen, Array.getElem?_map, heA, Option.map_some]
      have hb' : ({ w with drawn := dr } : World).heap[b]? = some (.mapIter (some r) clock seen last) := h9
      simp only [setObj, Sem.run, Sem.bind, hb', pure]
      simp only [Prod.mk.injEq] at hkx
      rw [hkx.1, hkx.2]
theorem nxt_ {it : Operand} {b : Nat} {left : List (κ × ν)} (k0 : left = [] → Gl n w0 R ((d, .tuple #[.bool false]) :: L) (Ri b r kc vc ms [] :: Qs) (.li P ops Q rest)) (k1 : ∀ i e, left[i]? = some e → Gl n w0 R ((d, .tuple #[.bool true, kc e.1, vc e.2]) :: L) (Re b r kc vc ms (left.eraseIdx i) e :: Qs) (.li P ops Q rest))
    (hx : ev L it = some (.pointer (some ⟨b, 0, none⟩))) (hP : Rem Ps (Ri b r kc vc ms left) Qs) (hd : Nat.blt d n = true) : Gl n w0 R L Ps (.li P ops Q (⟨some d, .next it false, ty, pos, aft, none⟩ :: rest)) := fun a w hs m => by
  rcases run_next (P := P) m hP ty with ⟨h0, w', h1, h2⟩ | ⟨i, e, w', h0, h1, h2⟩
  · refine step_val rfl rfl hs hd (w' := w') ?_ fun a' hs' => k0 h0 a' w' hs' h2
    simp [execOp, hs.evs it _ hx, bind, Sem.run_bind', h1, pure, Sem.run, Result.andThen]
  · refine step_val rfl rfl hs hd (w' := w') ?_ fun a' hs' => k1 i e h0 a' w' hs' h2
    simp [execOp, hs.evs it _ hx, bind, Sem.run_bind', h1, pure, Sem.run, Result.andThen]
end
end
theorem perm_erase {α : Type} : ∀ {l : List α} {i : Nat} {e : α}, l[i]? = some e → l.Perm (e :: l.eraseIdx i)
  | a :: l, 0, e, h => by simp at h; subst h; exact .refl _
  | a :: l, i + 1, e, h => by
    simp only [List.getElem?_cons_succ] at h
    exact ((perm_erase h).cons a).trans (.swap e a _)
theorem key_two {κ : Type} {iκ : DecidableEq κ} {c : κ → List Value} {ks : List LK} {P : Program} {kt : TypeId} {fs : Array Field} {f1 f2 : Field} {k1 k2 : IntKind} (hu : P.underlying kt = some (.struct fs)) (hf : fs = #[f1, f2]) (h1 : P.underlying f1.type = some (.int k1)) (h2 : P.underlying f2.type = some (.int k2)) (he : EqT P kt ks) (hF : Fk c iκ ks)
    (hp1 : ∀ k w, ∃ v, (part f1.type ⟨c k⟩ f1.offset).run P w = .ok v w) (hp2 : ∀ k w, ∃ v, (part f2.type ⟨c k⟩ f2.offset).run P w = .ok v w) (hs : ∀ k, Instr.sameBits 10000 (.agg ⟨c k⟩) (.agg ⟨c k⟩) = true) : KeyOK P kt (vAgg c) where
  find k l ks' w hl := by
    have hEq : ∀ a b : κ, (Op.equal kt (vAgg c a) (vAgg c b)).run P w = .ok (decide (a = b)) w := fun a b => by
      show (Op.equal kt (.agg ⟨c a⟩) (.agg ⟨c b⟩)).run P w = _
      rw [run_equal he (hF.f a) (hF.f b)]
      congr 1
      by_cases h : a = b
      · subst h; rw [decide_eq_true rfl]; exact (eqAll_self_iff (hF.f a) (hF.f a)).2 rfl
      · rw [decide_eq_false h]
        cases hx : eqAll (c a) (c b) with
        | false => rfl
        | true => exact absurd ((hF.i a b).1 ((eqAll_self_iff (hF.f a) (hF.f b)).1 hx)) h
    have key : ∀ (l : List MapEntry) (ks' : List κ) (i : Nat), l.map (·.key) = ks'.map (vAgg c) → (Instr.findAsking kt (vAgg c k) l i).run P w = .ok ((ks'.findIdx? (fun x => decide (k = x))).bind fun j => (l[j]?).map fun e => (i + j, e.val)) w := by
      intro l
      induction l with
      | nil => intro ks' i hl; cases ks' <;> simp_all [Instr.findAsking, pure, Sem.run]
      | cons e l ih =>
        intro ks' i hl
        cases ks' with
        | nil => simp at hl
        | cons a ks' =>
          simp only [List.map_cons, List.cons.injEq] at hl
          have h2 := ih ks' (i + 1) hl.2
          unfold Instr.findAsking
          simp only [bind, Sem.run_bind', hl.1, hEq, Result.andThen]
          by_cases hk : k = a
          · subst hk; simp [List.findIdx?_cons, pure, Sem.run]
          · simp only [hk, decide_false, Bool.false_eq_true, if_false, h2, List.findIdx?_cons]
            cases List.findIdx? (fun x => decide (k = x)) ks' <;> simp
            rename_i j
            cases l[j]? <;> simp
            omega
    unfold Instr.findKey
    simp only [bind, Sem.run_bind', run_underlying hu, Result.andThen]
    cases l with
    | nil => cases ks' <;> simp_all [Instr.findNow, pure, Sem.run]
    | cons e l =>
      cases ks' with
      | nil => simp at hl
      | cons a ks' =>
        have hl' := hl
        simp only [List.map_cons, List.cons.injEq] at hl'
        have : Instr.findNow (.struct fs) (vAgg c k) (e :: l) 0 = none := by simp [Instr.findNow, hl'.1, Instr.sameNow, vAgg]
        rw [this]
        simpa using key (e :: l) (a :: ks') 0 hl
  check e k w := by
    obtain ⟨v1, hv1⟩ := hp1 k w
    obtain ⟨v2, hv2⟩ := hp2 k w
    have hc : ∀ (t : TypeId) (kk : IntKind) (v : Value), P.underlying t = some (.int kk) → (Instr.checkKey e 9999 t v).run P w = .ok () w := fun t kk v ht => by
      unfold Instr.checkKey
      simp [bind, Sem.run_bind', run_underlying ht, Result.andThen, pure, Sem.run]
    unfold Instr.checkKey vAgg
    simp only [bind, Sem.run_bind', run_underlying hu, Result.andThen, hf]
    by_cases n1 : f1.name = "_" <;> by_cases n2 : f2.name = "_" <;> simp [Sem.run_bind', Result.andThen, n1, n2, hv1, hv2, hc _ _ _ h1, hc _ _ _ h2, pure, Sem.run, bind, Sem.bind, ForIn.forIn]
  same := hs
def zvB (P : Program) (T : TypeId) (zs : List Value) (ag : Bool) : Bool := match zvI P T with
  | some (.agg ⟨l⟩) => ag && sameV l zs
  | some v => !ag && sameV [v] zs
  | none => false
theorem zvB_agg {P : Program} {T : TypeId} {zs : List Value} (h : zvB P T zs true = true) : zvI P T = some (.agg ⟨zs⟩) := by
  unfold zvB at h
  split at h
  · rename_i l hl
    have h3 := sameV_eq (l := l) (m := zs) (by simpa using h)
    rw [hl, h3]
  · simp at h
  · cases h
theorem zvB_sc {P : Program} {T : TypeId} {z : Value} (h : zvB P T [z] false = true) : zvI P T = some z := by
  unfold zvB at h
  cases hz : zvI P T with
  | none => rw [hz] at h; cases h
  | some v =>
    have h2 : sameV [v] [z] = true := by rw [hz] at h; cases v <;> first | exact h | (simp at h)
    have h3 := sameV_eq h2
    simp only [List.cons.injEq, and_true] at h3
    rw [h3]
class Ky (P : Program) (K : TypeId) {κ : Type} (iκ : outParam (DecidableEq κ)) (kc : κ → Value) : Prop where
  h : KeyOK P K kc
/-! ### windows of slices -/
section
variable {P : Program} {L : List (Nat × Value)} {C : World → Prop} {od : Option Tmp} {ty : TypeId} {pos : String} {aft : Array Edge} {gd : Option (Nat × Bool)} {o : Operand} {lo hi mx : Option Operand} {T E : TypeId} {ag : Bool} {k : Nat} {X : SH} {α : Type} {c : α → List Value} {xs : List α} {zl zh zm : Int}
end
end Go.Proofs.YtdallmabajeajaaGreatDoor.Fw
set_option linter.all false
namespace Go.Proofs.YtdallmabajeajaaGreatDoor.Fw
open Go
section
variable {P : Program} {ops : Array Oper} {Q : Exit → Act → World → Prop} {rest : List Oper} {n : Nat} {L : List (Nat × Value)} {w w0 : World} {R : Hh} {Ps Qs : List HP} {F : GF} {d : Nat} {v : Value} {ty : TypeId} {pos : String} {aft : Array Edge}
  {α : Type} {c : α → List Value} {xs ys : List α} {T T2 E : TypeId} {ag : Bool} {k i j : Nat} {x y : Operand} {X Y : SH}
theorem subH3_0 (i : Nat) : subH3 k X 0 i X.c = upH X i := by rw [← subH_eq3, subH_0]
theorem apf_ (kk : Gl n w0 R ((d, (upH X (i + ys.length)).v) :: L) (Sv k E (upH X (i + ys.length)).v ((xs.take i ++ ys).map c) :: Qs) (.li P ops Q rest)) (hx : ev L x = some (subH3 k X 0 i X.c).v) (hy : ev L y = some Y.v) (hT : slI P T = some E) (hT2 : notInt P T2 = true) (hE : tyI P E = some (ag, k))
    (hP : Rem Ps (Sv k E X.v (xs.map c)) Qs) (hu : RC (Hp w0 R Ps) k Y.v (ys.map c)) (ho : Cs c k) (hf : i + ys.length ≤ xs.length) (hd : Nat.blt d n = true) :
    Gl n w0 R L Ps (.li P ops Q (⟨some d, .call ⟨.builtin .append, #[x, y], #[T, T2]⟩, ty, pos, aft, none⟩ :: rest)) := fun a w hs m => by
  have hn := (m.rdv hP).ncapM
  have hb := (m.rdv hP).2.1
  simp only [List.length_map] at hb
  have m1 := (m.front hP).shrinkM (hi := i) s0 (by omega)
  have hl : (xs.take i).length = i := by rw [List.length_take]; omega
  rw [subH3_0] at hx
  refine r_appendFitM (x := upH X i) (xs := xs.take i) (es := ys) hs m1 hx hy hT hT2 hE r0 (hu w m) ho.o (by rw [hl]; show i + ys.length ≤ X.c; omega) (by rw [hl]; omega) hd ?_
  intro w' m' a' hs'
  rw [hl] at m' hs'
  exact kk a' w' hs' m'
theorem run_copy0 {w : World} {a ua : Option Addr} {lu uc cc : Nat} (hT : slI P T = some E) (hE : tyI P E = some (ag, k)) : (Builtin.copy_ #[T, T2] ty #[.slice a 0 cc, .slice ua lu uc]).run P w = .ok (.int .i64 0) w := by
  have hfc := run_firstCellsN (P := P) (w := w) (k := k) (n := 0) (v := .slice ua lu uc) (es := []) ⟨ua, lu, uc, rfl, by simp, by simp, ua, uc, rfl, by simp, by simp⟩ rfl
  have hlen : (Builtin.lenOf (.slice ua lu uc)).run P w = .ok lu w := by simp [Builtin.lenOf, pure, Sem.run]
  have hz : Nat.min lu 0 = 0 := by show min lu 0 = 0; omega
  cases a <;> simp [Builtin.copy_, bind, Sem.run_bind', run_underlying (slI_spec hT), Result.andThen, pure, Sem.run, hlen, run_sizeOf' hE, hfc, hz, goInt, storeCells]
theorem cpi_ (kk : Gl n w0 R ((d, .int .i64 ((xs.length - j : Nat) : Int)) :: L) (Sv k E X.v ((xs.take j ++ (xs.drop i).take (xs.length - j)).map c) :: Qs) (.li P ops Q rest)) (hx : ev L x = some (subH3 k X j xs.length X.c).v) (hy : ev L y = some (subH3 k X i xs.length X.c).v) (hT : slI P T = some E) (hE : tyI P E = some (ag, k))
    (hP : Rem Ps (Sv k E X.v (xs.map c)) Qs) (ho : Cs c k) (hij : i ≤ j) (hj : j ≤ xs.length) (hd : Nat.blt d n = true) :
    Gl n w0 R L Ps (.li P ops Q (⟨some d, .call ⟨.builtin .copy, #[x, y], #[T, T2]⟩, ty, pos, aft, none⟩ :: rest)) := fun a w hs m => by
  have hn := (m.rdv hP).ncapM
  have hb := (m.rdv hP).2.1
  simp only [List.length_map] at hb
  have hle : ((xs.drop i).take (xs.length - j)).length = xs.length - j := by rw [List.length_take, List.length_drop]; omega
  by_cases hc : j < X.c
  · refine r_copyM (x := X) (xs := xs) (es := (xs.drop i).take (xs.length - j)) (lo := j) (dl := xs.length - j) (N := xs.length) hs m hx hy hT hE hP (by rw [← subH_eq3]; exact subH_lt hc) ⟨X.a.map (·.add (i * k)), xs.length - i, X.c - i, by rw [← subH_eq3]; exact subH_lt (by omega), by rw [hle]; omega, ?_⟩ ho.o hj (by rw [hle]; omega) (by rw [hle]; omega) rfl (by rw [hle]; omega) hd ?_
    · have h1 := (m.rdv hP).win (lo := i) (hi := i + (xs.length - j)) (mx := X.c) (by omega) (by omega) (by omega) (Nat.le_refl _) rfl
      have h2 : (subH3 k X i (i + (xs.length - j)) X.c).v = .slice (X.a.map (·.add (i * k))) (xs.length - j) (X.c - i) := by
        rw [← subH_eq3, subH_lt (by omega)]; congr 1; omega
      rw [h2, ← List.take_drop] at h1
      rw [hle]
      exact h1
    · intro w' m' a' hs'
      rw [hle] at m' hs'
      have h3 : xs.drop (j + (xs.length - j)) = [] := List.drop_eq_nil_of_le (by omega)
      rw [h3, List.append_nil] at m'
      have h4 : upH X xs.length = X := by rw [← hn.1]; rfl
      rw [h4] at m'
      exact kk a' w' hs' m'
  · have h1 : xs.length - j = 0 := by omega
    have e1 : (subH3 k X j xs.length X.c).v = .slice X.a 0 0 := by
      simp only [subH3, SH.v, show X.c = j by omega, if_true]; congr 1 <;> omega
    rw [e1] at hx
    have hrun := run_copy0 (P := P) (w := w) (T := T) (T2 := T2) (ty := ty) (a := X.a) (cc := 0) (ua := (subH3 k X i xs.length X.c).a) (lu := (subH3 k X i xs.length X.c).n) (uc := (subH3 k X i xs.length X.c).c) hT hE
    refine step_val rfl rfl hs hd (v := .int .i64 0) (w' := w) ?_ (fun a' hs' => kk a' w (by rw [h1]; exact hs') ?_)
    · simp [execOp, resolve, invoke, builtin, hs.evs x _ hx, hs.evs y _ hy, bind, Sem.run_bind', pure, Sem.run, Result.andThen, SH.v] at hrun ⊢
      simp [hrun]
    · have h2 : xs.take j ++ (xs.drop i).take (xs.length - j) = xs := by rw [h1, List.take_zero, List.append_nil, List.take_of_length_le (by omega)]
      rw [h2]
      exact m.front hP
end
/-! ### guards that are met, struck -/
theorem gq_strip {P : Program} {ops : Array Oper} {C : World → Prop} {Q : Act → Prop} {rest : List Oper} {n : Nat} {L : List (Nat × Value)} {a : Act} {d : Option Tmp} {op : Op} {ty : TypeId} {pos : String} {aft : Array Edge} {j : Nat} {want b : Bool} {t : Nat} (hs : St n L a) (hj : (ops[j]?).bind (·.dst) = some t) (ht : lk L t = some (.bool b)) (hb : b = want)
    (h : wpQuiet P ops C Q (⟨d, op, ty, pos, aft, none⟩ :: rest) a) : wpQuiet P ops C Q (⟨d, op, ty, pos, aft, some (j, want)⟩ :: rest) a := by
  have hy : Region.wanted ⟨d, op, ty, pos, aft, some (j, want)⟩ (yielded ops a.tmps) = true := by
    simp only [Region.wanted, yielded, hj, Option.bind_some, hs.at_ t _ ht, hb]
    simp
  have hn : Region.wanted ⟨d, op, ty, pos, aft, none⟩ (yielded ops a.tmps) = true := by simp [Region.wanted]
  unfold wpQuiet at h ⊢
  rw [if_pos hn] at h
  rw [if_pos hy]
  unfold Oper.quiet at h ⊢
  exact h
section
variable {P : Program} {ops : Array Oper} {Q : Exit → Act → World → Prop} {rest : List Oper} {n : Nat} {L : List (Nat × Value)} {w0 : World} {R : Hh} {Ps : List HP} {F : GF} {od : Option Tmp} {op : Op} {ty : TypeId} {pos : String} {aft : Array Edge} {j t : Nat} {want b : Bool}
theorem v40_ (hj : (ops[j]?).bind (·.dst) = some t) (ht : lk L t = some (.bool b)) (hb : b = want) : Av n w0 R L Ps (.li P ops Q (⟨od, op, ty, pos, aft, some (j, want)⟩ :: rest)) L Ps (.li P ops Q (⟨od, op, ty, pos, aft, none⟩ :: rest)) := ⟨fun k a w hs m => g_strip hs hj ht hb (k a w hs m)⟩
theorem v41_ (hj : (ops[j]?).bind (·.dst) = some t) (ht : lk L t = some (.bool b)) (hb : b = want) : Av n w0 R L Ps (.qu P ops (Hp w0 R Ps) F (⟨od, op, ty, pos, aft, some (j, want)⟩ :: rest)) L Ps (.qu P ops (Hp w0 R Ps) F (⟨od, op, ty, pos, aft, none⟩ :: rest)) := ⟨fun k a w hs m => gq_strip hs hj ht hb (k a w hs m)⟩
end
/-! ### a result that is kept in a variable -/
section
variable {P : Program} {n : Nat} {L : List (Nat × Value)} {w0 : World} {R : Hh} {Ps Qs : List HP} {τ : Type} {fn : Func} {φ : τ → Prop} {V : τ → Value} {Z : τ → List HP} {t : Tmp} {T E : TypeId} {cs : List Value} {p : Addr} {z : Nat}
theorem resC_ {w : World} (m : Hp w0 R Ps w) (hx : lk L t = some (.pointer (some (padd p 0)))) (ht : tyI P T = some (true, z)) (hP : Rem Ps (Bx p E cs) Qs) (hl : Nat.beq cs.length z = true) : ResVs P L w [.cell t T] [.agg ⟨cs⟩] := ⟨resv_cell m hx ht hP (Nat.eq_of_beq_eq_true hl), trivial⟩
theorem retC_ (x : τ) (k : φ x) (hx : lk L t = some (.pointer (some (padd p 0)))) (ht : tyI P T = some (true, z)) (hP : Rem Ps (Bx p E cs) Qs) (hl : Nat.beq cs.length z = true) (hv : .agg ⟨cs⟩ = V x) (hz : Sub (Z x) Ps) (hr : fn.results = ⟨[.cell t T]⟩) :
    Gl n w0 R L Ps (.ex (bodyPost P fn fun e w' => ∃ x, φ x ∧ e = .returned (V x) ∧ Hp w0 R (Z x) w') .ret) :=
  fun a w hs m => leave hs hr (resC_ m hx ht hP hl) ⟨x, k, by rw [← hv]; rfl, m.sub hz⟩
end
/-! ### quotients of numbers that are not below zero -/
section
variable {P : Program} {C : World → Prop} {L : List (Nat × Value)} {od : Option Tmp} {ty : TypeId} {pos : String} {aft : Array Edge} {gd : Option (Nat × Bool)} {x y : Operand} {T T2 : TypeId} {n1 n2 : Int}
theorem m1_ (hx : ev L x = some (.int .i64 n1)) (hy : ev L y = some (.int .i64 n2)) (h1 : -9223372036854775808 ≤ n1 * n2) (h2 : n1 * n2 ≤ 9223372036854775807) : OkS P C L ⟨od, .binOp .mul T x y T2, ty, pos, aft, gd⟩ (.int .i64 (n1 * n2)) := ⟨ok_bin hx hy (by show some (Value.int .i64 (IntKind.i64.wrap (n1 * n2))) = _; rw [wrap_i64 h1 h2])⟩
theorem f6n_ (hx : ev L x = some (.int .i64 n1)) (hy : ev L y = some (.int .i64 n2)) (h0 : 0 ≤ n1) (h1 : 0 < n2) (h2 : n1 < 9223372036854775808) : OkS P C L ⟨od, .binOp .quo T x y T2, ty, pos, aft, gd⟩ (.int .i64 (n1 / n2)) := ⟨ok_quo hx hy (by omega) (by
  rw [Int.tdiv_eq_ediv_of_nonneg h0]
  have h3 := Int.ediv_nonneg h0 (Int.le_of_lt h1)
  have h4 := Int.ediv_le_self n2 h0
  exact wrap_i64 (by omega) (by omega))⟩
theorem f7n_ (hx : ev L x = some (.int .i64 n1)) (hy : ev L y = some (.int .i64 n2)) (h0 : 0 ≤ n1) (h1 : 0 < n2) : OkS P C L ⟨od, .binOp .rem T x y T2, ty, pos, aft, gd⟩ (.int .i64 (n1 % n2)) := ⟨ok_rem hx hy (by omega) (Int.tmod_eq_emod_of_nonneg h0)⟩
end
end Go.Proofs.YtdallmabajeajaaGreatDoor.Fw
set_option linter.all false
namespace Go.Proofs.YtdallmabajeajaaGreatDoor.Fw
open Go
section
variable {P : Program} {ops : Array Oper} {Q Q0 : Exit → Act → World → Prop} {S : World → Prop}
theorem wpOp_monoQ {i : Nat} {K : Act → World → Prop} (h : ∀ c a w, Q0 (.panic c) a w → Q (.panic c) a w) (hl : LetsOut Q0 → LetsOut Q) {a : Act} {w : World} (hh : wpOp P ops Q0 i K a w) : wpOp P ops Q i K a w := by
  unfold wpOp at *
  cases ho : ops[i]? with
  | none => rw [ho] at hh; exact hh
  | some o =>
    rw [ho] at hh
    simp only at hh ⊢
    split at hh
    · rename_i hw
      rw [if_pos hw]
      rcases hh with hh | ⟨h1, h2⟩
      · refine .inl ?_
        unfold Oper.wp at *
        generalize (execOp a.eval o).run P w = r at *
        cases r with
        | ok n w' =>
          cases n <;> simp only [Oper.upon] at hh ⊢ <;>
            first
              | exact hh
              | exact Calls.mono hh (fun e w'' he => by cases e <;> first | exact he | exact h _ _ _ he | exact hl he)
        | halt x w' => cases x <;> simp only [Oper.upon] at hh ⊢ <;> first | exact hh | exact h _ _ _ hh
      · exact .inr ⟨h1, hl h2⟩
    · rename_i hw
      rw [if_neg hw]
      exact hh
theorem wpAny_monoQ (h : ∀ e a w, Q0 e a w → Q e a w) (hl : LetsOut Q0 → LetsOut Q) : ∀ (f : Nat) (ls : Array Bool) (a : Act) (w : World), wpAny P .any ops Q0 f ls a w → wpAny P .any ops Q f ls a w
  | 0, ls, a, w, hh => ⟨hh.1, h _ _ _ hh.2⟩
  | f + 1, ls, a, w, hh => ⟨fun h0 => h _ _ _ (hh.1 h0), fun i hi => wpOp_mono (fun a w h' => wpAny_monoQ h hl f _ a w h') (wpOp_monoQ (fun c => h _) hl (hh.2 i hi))⟩
def onN (K : Act → World → Prop) : Exit → Act → World → Prop := Exit.then K fun _ _ _ => False
theorem onN_le {e : Exit} {a : Act} {w : World} (h : onN (Q .normal) e a w) : Q e a w := by
  unfold onN Exit.then at h
  split at h
  · exact h
  · exact h.elim
theorem onN_lets {K : Act → World → Prop} (h : LetsOut (onN K)) : LetsOut Q := by
  obtain ⟨a, w, h⟩ := h
  exact h.elim
def doneL (n : Nat) (D : List Nat) : Array Bool := ((List.range n).map fun i => kinN D i).toArray
theorem doneL_size {n : Nat} {D : List Nat} : (doneL n D).size = n := by simp [doneL]
theorem doneL_get {n : Nat} {D : List Nat} {j : Nat} : (doneL n D).getD j false = (decide (j < n) && kinN D j) := by
  unfold doneL
  by_cases h : j < n
  · simp [Array.getD_eq_getD_getElem?, h]
  · simp [Array.getD_eq_getD_getElem?, h]
theorem kinN_cons {i j : Nat} {D : List Nat} : kinN (i :: D) j = (decide (i = j) || kinN D j) := by
  rw [kinN]
  cases h : Nat.beq i j
  · have : i ≠ j := fun e => by rw [e, Nat.beq_refl] at h; cases h
    simp [this]
  · simp [Nat.eq_of_beq_eq_true h]
theorem doneL_set {n i : Nat} {D : List Nat} : (doneL n D).setIfInBounds i true = doneL n (i :: D) := by
  refine arr_ext (by simp [doneL_size]) fun j => ?_
  rw [set_get, doneL_get, doneL_get, doneL_size, kinN_cons]
  by_cases h : j < n <;> by_cases h2 : i = j <;> simp [h, h2]
def isVal (o : Oper) : Bool := match o.op with
  | .move _ | .assign _ | .pick .. | .load .. | .nilCheck _ | .binOp .. | .unOp .. | .convert .. | .makeFunc .. | .slice .. | .fieldAddr .. | .field .. | .indexAddr .. | .index .. | .lookup .. | .extract .. | .build .. | .makeInterface .. => true
  | .call ⟨.builtin .len, _, _⟩ | .call ⟨.builtin .cap, _, _⟩ | .call ⟨.builtin .min, _, _⟩ | .call ⟨.builtin .max, _, _⟩ => true
  | _ => false
theorem v_val {s : Sem Value} {w w' : World} {n : Go.Next} (h : ((do pure (Go.Next.value (← s))) : Sem Go.Next).run P w = .ok n w') : ∃ v, n = .value v := by
  simp only [bind, Sem.run_bind'] at h
  cases hs : s.run P w with
  | ok v w1 =>
    rw [hs] at h
    simp only [Result.andThen, pure, Sem.run, Result.ok.injEq] at h
    exact ⟨v, h.1.symm⟩
  | halt x w1 => rw [hs] at h; simp [Result.andThen] at h
def NV (P : Program) (s : Sem Go.Next) : Prop := ∀ w n w', s.run P w = .ok n w' → ∃ u, n = Go.Next.value u
theorem nv_bind {α : Type} {s : Sem α} {f : α → Sem Go.Next} (h : ∀ x, NV P (f x)) : NV P (s >>= f) := fun w n w' hr => by
  simp only [bind, Sem.run_bind'] at hr
  cases hs : s.run P w with
  | ok v w1 => rw [hs] at hr; exact h v w1 n w' hr
  | halt x w1 => rw [hs] at hr; simp [Result.andThen] at hr
theorem nv_pure {v : Value} : NV P (pure (Go.Next.value v)) := fun w n w' hr => by
  simp only [pure, Sem.run, Result.ok.injEq] at hr; exact ⟨_, hr.1.symm⟩
theorem val_of_quiet {o : Oper} {a : Act} {C : World → Prop} {w : World} {v : Value} (ho : isVal o = true) (h : o.quietAt P a C w v) : (execOp a.eval o).run P w = .ok (.value v) w := by
  have key : ∀ n w', (execOp a.eval o).run P w = .ok n w' → ∃ u, n = .value u := by
    intro n w' hr
    obtain ⟨od, op, ty, pos, aft, gd⟩ := o
    unfold isVal at ho
    split at ho <;> first | (cases ho; done) | skip
    all_goals (rename_i he; simp only at he; subst he)
    all_goals (first
      | exact v_val hr
      | (simp only [execOp, pure, Sem.run, Result.ok.injEq] at hr; exact ⟨_, hr.1.symm⟩)
      | skip)
    · simp only [execOp, bind, Sem.run_bind'] at hr
      revert hr
      generalize (asBool _).run P w = r
      intro hr
      cases r with
      | ok v w1 =>
        simp only [Result.andThen, pure, Sem.run, Result.ok.injEq] at hr
        exact ⟨_, hr.1.symm⟩
      | halt x w1 => simp [Result.andThen] at hr
    · simp only [execOp] at hr
      revert hr
      split
      · intro hr; simp [runtimePanic, bind, Sem.run_bind', Sem.run] at hr
      · intro hr; simp [runtimePanic] at hr
      · intro hr; simp [runtimePanic] at hr
      · split
        · intro hr; simp [runtimePanic] at hr
        · intro hr
          refine nv_bind (fun p => nv_bind fun b => ?_) w n w' hr
          split
          · exact nv_bind fun _ => nv_pure
          · exact nv_pure
        · intro hr; simp only [pure, Sem.run, Result.ok.injEq] at hr; exact ⟨_, hr.1.symm⟩
      · intro hr; simp only [pure, Sem.run, Result.ok.injEq] at hr; exact ⟨_, hr.1.symm⟩
    all_goals (simp only [execOp, resolve, bind, Sem.run_bind', pure, Sem.run, Result.andThen, invoke, builtin] at hr; exact v_val hr)
  unfold Oper.quietAt Oper.quietUpon at h
  split at h
  · rename_i u w' hr
    rw [hr]; rw [h.1, h.2]
  · rename_i w' hr
    obtain ⟨u, hu⟩ := key _ _ hr
    cases hu
  · rename_i f args w' hr
    obtain ⟨u, hu⟩ := key _ _ hr
    cases hu
  · exact h.elim
theorem yieldsIf_of_in {C : World → Prop} {o : Oper} {v : Value} {a : Act} (ho : isVal o = true) (h : YieldsIn P ops C o v a) : YieldsIf P ops C o v a := by
  rcases h with ⟨h1, h2⟩ | h
  · exact .inl ⟨h1, fun w hw => val_of_quiet ho (h2 w hw)⟩
  · exact .inr h
def reach (ops : Array Oper) (i : Nat) : Nat → Nat → Bool
  | 0, _ => false
  | f + 1, j => match ops[j]? with
    | some o => o.after.any fun e => Region.binds .any e && (Nat.beq e.on i || reach ops i f e.on)
    | none => false
def rea (ops : Array Oper) (j i : Nat) : Bool := reach ops i ops.size j
def wpAnyG (P : Program) (ops : Array Oper) (Q : Exit → Act → World → Prop) (T : Nat → World → Prop) : Nat → Array Bool → Act → World → Prop
  | 0, ls, a, w => Region.ready .any ops ls = [] ∧ Q .normal a w
  | f + 1, ls, a, w => (Region.ready .any ops ls = [] → Q .normal a w) ∧
    ∀ i ∈ Region.ready .any ops ls, wpOp P ops Q i (fun a' w' => (w' = w ∨ ∀ k, ls.getD k false = true → rea ops i k = false → T k w') ∧ wpAnyG P ops Q T f (ls.setIfInBounds i true) a' w') a w
section
variable {T : Nat → World → Prop}
theorem wpAny_of_g : ∀ (f : Nat) (ls : Array Bool) (a : Act) (w : World), wpAnyG P ops Q T f ls a w → wpAny P .any ops Q f ls a w
  | 0, _, _, _, h => h
  | f + 1, ls, a, w, h => ⟨h.1, fun i hi => wpOp_mono (fun a' w' h' => wpAny_of_g f _ a' w' h'.2) (h.2 i hi)⟩
theorem reach_up {ls : Array Bool} (hD : Down ops ls) {i : Nat} : ∀ (f j : Nat), (∀ o, ops[j]? = some o → ∀ e ∈ o.after, Region.binds .any e = true → ls.getD e.on false = true) → reach ops i f j = true → ls.getD i false = true
  | 0, _, _, h => by cases h
  | f + 1, j, hd, h => by
    unfold reach at h
    split at h
    · rename_i o ho
      obtain ⟨e, he, hb⟩ := Array.any_eq_true'.1 h
      simp only [Bool.and_eq_true, Bool.or_eq_true] at hb
      have hl := hd o ho e he hb.1
      rcases hb.2 with h1 | h1
      · rw [← Nat.eq_of_beq_eq_true h1]; exact hl
      · exact reach_up hD f e.on (fun o' ho' e' he' hb' => hD e.on o' hl ho' e' he' hb') h1
    · cases h
theorem rea_ready {ls : Array Bool} (hD : Down ops ls) {i j : Nat} (hi : i ∈ Region.ready .any ops ls) (hj : j ∈ Region.ready .any ops ls) : rea ops j i = false := by
  cases h : rea ops j i with
  | false => rfl
  | true =>
    have h1 := reach_up hD ops.size j (fun o ho e he hb => by
      obtain ⟨_, o', ho', hd⟩ := mem_ready.1 hj
      rw [ho] at ho'; cases ho'
      exact hd e he hb) h
    have h0 := (mem_ready.1 hi).1
    rcases Nat.lt_or_ge i ls.size with h' | h'
    · simp [h'] at h0 h1; rw [h0] at h1; cases h1
    · simp [Array.getElem?_eq_none h'] at h1
theorem down_set {ls : Array Bool} (hD : Down ops ls) {i : Nat} (hi : i ∈ Region.ready .any ops ls) : Down ops (ls.setIfInBounds i true) := by
  intro j o hj ho e he hb
  rw [set_get] at hj ⊢
  simp only [Bool.or_eq_true, Bool.and_eq_true, decide_eq_true_eq] at hj ⊢
  rcases hj with hj | hj
  · exact .inl (hD j o hj ho e he hb)
  · obtain ⟨rfl, _⟩ := hj
    obtain ⟨_, o', ho', hdeps⟩ := mem_ready.1 hi
    rw [ho] at ho'
    simp only [Option.some.injEq] at ho'
    subst ho'
    exact .inl (hdeps e he hb)
theorem wpAnyG_first {i : Nat} {oi : Oper} {v : Value} (hi : ops[i]? = some oi) (hsel : ∀ (j : Nat) (o : Oper) cs b, ops[j]? = some o → o.op ≠ .select cs b)
    (hQ : ∀ c a w, Q (.panic c) (a.put oi.dst v) w → Q (.panic c) a w) :
    ∀ (fuel : Nat) (listed : Array Bool) (a : Act) (w : World), Down ops listed → i < listed.size →
      (∀ j oj, ops[j]? = some oj → j ≠ i → listed.getD j true = false → (∀ e ∈ oj.after, Region.binds .any e = true → e.on ≠ i) → oi.apart ops oj = true) →
      i ∈ Region.ready .any ops listed → YieldsIf P ops (T i) oi v a → T i w →
      wpAnyG P ops Q T fuel (listed.setIfInBounds i true) (a.put oi.dst v) w → wpAnyG P ops Q T (fuel + 1) listed a w := by
  intro fuel
  induction fuel with
  | zero =>
    intro listed a w hD hlt _ hr hy hS H
    refine ⟨fun h => (by rw [h] at hr; cases hr), fun j hj => ?_⟩
    by_cases hji : j = i
    · subst hji; exact hy.wpOp hi hS ⟨.inl rfl, H⟩
    · have := ready_mono hj hji
      rw [H.1] at this
      cases this
  | succ fuel ih =>
    intro listed a w hD hlt hfree hr hy hS H
    refine ⟨fun h => (by rw [h] at hr; cases hr), fun j hj => ?_⟩
    by_cases hji : j = i
    · subst hji; exact hy.wpOp hi hS ⟨.inl rfl, H⟩
    · have h1 := H.2 j (ready_mono hj hji)
      obtain ⟨hjun, oj, hoj, hall⟩ := mem_ready.1 hj
      have hnot : ∀ e ∈ oj.after, Region.binds .any e = true → e.on ≠ i := fun e he hb heq => by
        have h1 := hall e he hb
        have h0 := (mem_ready.1 hr).1
        rw [heq] at h1
        rcases Nat.lt_or_ge i listed.size with h' | h'
        · simp [h'] at h0 h1; rw [h0] at h1; cases h1
        · simp [Array.getElem?_eq_none h'] at h1
      have h2 := wpOp_putIf hoj (hfree j oj hoj hji hjun hnot) (fun cs b => hsel i oi cs b hi) (fun cs b => hsel j oj cs b hoj) hQ hy h1
      have hfree' : ∀ k ok, ops[k]? = some ok → k ≠ i → (listed.setIfInBounds j true).getD k true = false →
          (∀ e ∈ ok.after, Region.binds .any e = true → e.on ≠ i) → oi.apart ops ok = true := fun k ok hk hki hun hno => by
        refine hfree k ok hk hki ?_ hno
        by_cases hjk : j = k
        · subst hjk; exact hjun
        · rw [getD_set_ne true hjk] at hun; exact hun
      refine wpOp_mono (fun a' w' h3 => ?_) h2
      have hT : T i w' := by
        rcases h3.2.1 with h4 | h4
        · rw [h4]; exact hS
        · exact h4 i (by rw [set_get]; simp [hlt]) (rea_ready hD hr hj)
      refine ⟨h3.2.1.imp id fun h4 k hk hk2 => h4 k (by rw [set_get, hk]; simp) hk2, ih (listed.setIfInBounds j true) a' w' (down_set hD hj) (by simpa using hlt) hfree' (ready_mono hr (Ne.symm hji)) h3.1 hT ?_⟩
      rw [Array.setIfInBounds_comm _ _ hji]
      exact h3.2.2
end
def takeB (ops : Array Oper) : List Nat → List Nat → Bool
  | D, [] => true
  | D, i :: is => (match ops[i]? with | some o => isVal o | none => false) && (Region.ready .any ops (doneL ops.size D)).contains i && Region.free .any ops (doneL ops.size D) i && takeB ops (i :: D) is
def opsAt (ops : Array Oper) : List Nat → List Oper
  | [] => []
  | i :: is => match ops[i]? with
    | some o => o :: opsAt ops is
    | none => []
theorem ready_lt {ls : Array Bool} {i : Nat} (h : i ∈ Region.ready .any ops ls) : i < ops.size := by
  obtain ⟨_, o, ho, _⟩ := mem_ready.1 h
  exact (Array.getElem?_eq_some_iff.1 ho).1
theorem kin_mem {D : List Nat} {i : Nat} : kinN D i = true ↔ i ∈ D := by
  induction D with
  | nil => simp [kinN]
  | cons j D ih => rw [kinN_cons, Bool.or_eq_true, decide_eq_true_eq, ih, List.mem_cons]; constructor <;> (rintro (h | h) <;> simp [h])
theorem nd_len : ∀ (n : Nat) (l : List Nat), l.Nodup → (∀ x ∈ l, x < n) → l.length ≤ n
  | 0, l, _, h => by
    cases l with
    | nil => simp
    | cons a l => exact absurd (h a (by simp)) (by omega)
  | n + 1, l, d, h => by
    have h2 := nd_len n (l.erase n) (d.erase n) fun x hx => by
      have h3 := (List.Nodup.mem_erase_iff d).1 hx
      have := h x h3.2
      omega
    by_cases hm : n ∈ l
    · rw [List.length_erase_of_mem hm] at h2; omega
    · rw [List.erase_of_not_mem hm] at h2; omega
theorem len_lt {n : Nat} {D : List Nat} {i : Nat} (hd : D.Nodup) (hb : ∀ j ∈ D, j < n) (hi : i < n) (hn : i ∉ D) : D.length < n := by
  have h1 : (i :: D).Nodup := List.nodup_cons.2 ⟨hn, hd⟩
  have h2 := nd_len n (i :: D) h1 fun j hj => by
    rcases List.mem_cons.1 hj with rfl | hj
    · exact hi
    · exact hb j hj
  simp only [List.length_cons] at h2
  omega
abbrev PE := List Nat × List HP
def TK (w0 : World) (R : Hh) (pl0 : List PE) (k : Nat) (w : World) : Prop := ∀ e ∈ pl0, k ∈ e.1 → Hp w0 R e.2 w
structure okP (ops : Array Oper) (pl0 : List PE) (D : List Nat) (dn pl : List PE) : Prop where
  nd : D.Nodup
  lt : ∀ j ∈ D, j < ops.size
  dw : Down ops (doneL ops.size D)
  sp : ∀ e ∈ pl0, e ∈ dn ∨ e ∈ pl
  sb : ∀ e ∈ pl, e ∈ pl0
  un : ∀ e ∈ pl, ∀ k ∈ e.1, k ∉ D
  dd : ∀ e ∈ dn, ∀ k ∈ e.1, k ∈ D
def disj (is : List Nat) (pl : List PE) : Bool := pl.all fun e => e.1.all fun k => !kinN is k
theorem disj_spec {is : List Nat} {pl : List PE} (h : disj is pl = true) : ∀ e ∈ pl, ∀ k ∈ e.1, k ∉ is := fun e he k hk hm => by
  have := List.all_eq_true.1 (List.all_eq_true.1 h e he) k hk
  rw [kin_mem.2 hm] at this
  cases this
theorem ready_facts {D : List Nat} {i : Nat} (nd : D.Nodup) (lt : ∀ j ∈ D, j < ops.size) (hi : i ∈ Region.ready .any ops (doneL ops.size D)) : i ∉ D ∧ i < ops.size ∧ D.length < ops.size := by
  have hlt := ready_lt hi
  have hn : i ∉ D := fun hm => by
    have h0 := (mem_ready.1 hi).1
    rw [getD_tf (by rw [doneL_size]; exact hlt), doneL_get, kin_mem.2 hm] at h0
    simp [hlt] at h0
  exact ⟨hn, hlt, len_lt nd lt hlt hn⟩
def RH (P : Program) (ops : Array Oper) (K : Act → World → Prop) (T : Nat → World → Prop) (D : List Nat) : Act → World → Prop := fun a w => wpAnyG P ops (onN K) T (ops.size - D.length) (doneL ops.size D) a w
theorem rg_stretch {K : Act → World → Prop} {T : Nat → World → Prop} {S : World → Prop} (hns : Region.noSelect ops = true) {w : World} : ∀ (is D : List Nat) (a : Act) (T' : Act → Prop), (∀ i ∈ is, ∀ w, T i w → S w) → (∀ i ∈ is, T i w) → D.Nodup → (∀ j ∈ D, j < ops.size) → Down ops (doneL ops.size D) → takeB ops D is = true → wpQuiet P ops S T' (opsAt ops is) a →
    ((is.reverse ++ D).Nodup → (∀ j ∈ is.reverse ++ D, j < ops.size) → Down ops (doneL ops.size (is.reverse ++ D)) → ∀ a', T' a' → RH P ops K T (is.reverse ++ D) a' w) → RH P ops K T D a w
  | [], D, a, T', _, _, nd, lt, dw, _, h, k => k nd lt dw a h
  | i :: is, D, a, T', hTS, hT, nd, lt, dw, hB, h, k => by
    unfold takeB at hB
    cases ho : ops[i]? with
    | none => rw [ho] at hB; simp at hB
    | some o =>
      rw [ho] at hB
      simp only [Bool.and_eq_true] at hB
      obtain ⟨⟨⟨h1, h2⟩, h3⟩, h4⟩ := hB
      have hr : i ∈ Region.ready .any ops (doneL ops.size D) := by simpa using h2
      have e : opsAt ops (i :: is) = o :: opsAt ops is := by simp [opsAt, ho]
      rw [e] at h
      have hq : qOp P ops S i (wpQuiet P ops S T' (opsAt ops is)) a := by unfold qOp; simp only [ho]; exact h
      obtain ⟨v, hy, hK⟩ := yieldsIn_of_qOp ho hq
      obtain ⟨hn, hlt, hl⟩ := ready_facts nd lt hr
      have ih := rg_stretch (K := K) (T := T) hns is (i :: D) (a.put o.dst v) T' (fun j hj => hTS j (by simp [hj])) (fun j hj => hT j (by simp [hj])) (List.nodup_cons.2 ⟨hn, nd⟩) (fun j hj => by
        rcases List.mem_cons.1 hj with rfl | hj
        · exact hlt
        · exact lt j hj) (by rw [← doneL_set]; exact down_set dw hr) h4 hK (fun nd' lt' dw' a' ht => by
        have e : is.reverse ++ i :: D = (i :: is).reverse ++ D := by simp
        rw [e] at nd' lt' dw' ⊢
        exact k nd' lt' dw' a' ht)
      unfold RH at ih ⊢
      rw [List.length_cons, ← doneL_set] at ih
      have e2 : ops.size - D.length = (ops.size - (D.length + 1)) + 1 := by omega
      rw [e2]
      have hy2 : YieldsIf P ops (T i) o v a := (yieldsIf_of_in h1 hy).imp (fun ⟨h5, h6⟩ => ⟨h5, fun w hw => h6 w (hTS i (by simp) w hw)⟩) id
      exact wpAnyG_first ho (Region.noSelect_spec hns) (fun c a w hx => hx.elim) _ _ a w dw (by rw [doneL_size]; exact hlt) (Region.free_spec ho h3) hr hy2 (hT i (by simp)) ih
theorem rg_effect {K : Act → World → Prop} {T : Nat → World → Prop} {c : Nat} {o : Oper} {D : List Nat} {a : Act} {w : World} (nd : D.Nodup) (lt : ∀ j ∈ D, j < ops.size) (hr : Region.ready .any ops (doneL ops.size D) = [c]) (ho : ops[c]? = some o)
    (h : wpList P ops (Exit.then (fun a w => (∀ k ∈ D, rea ops c k = false → T k w) ∧ RH P ops K T (c :: D) a w) fun _ _ _ => False) [o] a w) : RH P ops K T D a w := by
  have hm : c ∈ Region.ready .any ops (doneL ops.size D) := by rw [hr]; simp
  obtain ⟨hn, hlt, hl⟩ := ready_facts nd lt hm
  unfold RH
  have e2 : ops.size - D.length = (ops.size - (D.length + 1)) + 1 := by omega
  rw [e2]
  refine ⟨fun h0 => (by rw [hr] at h0; cases h0), fun i hi => ?_⟩
  have hi : i = c := by rw [hr] at hi; simpa using hi
  subst hi
  have h2 : wpOp P ops (Exit.then (fun a w => (∀ k ∈ D, rea ops i k = false → T k w) ∧ RH P ops K T (i :: D) a w) fun _ _ _ => False) i (fun a w => (∀ k ∈ D, rea ops i k = false → T k w) ∧ RH P ops K T (i :: D) a w) a w := by
    unfold wpOp
    rw [ho]
    simp only [wpList] at h ⊢
    split
    · rename_i hw
      rw [if_pos hw] at h
      rcases h with h | h
      · exact .inl h
      · exact .inr h
    · rename_i hw
      rw [if_neg hw] at h
      exact h
  refine wpOp_monoQ (fun e a w hx => hx.elim) (fun ⟨a, w, hx⟩ => hx.elim) (wpOp_mono (fun a w hx => ⟨.inr fun k hk hk2 => hx.1 k ?_ hk2, ?_⟩) h2)
  · have := hx.2
    unfold RH at this
    rw [List.length_cons, ← doneL_set] at this
    exact this
  · rw [doneL_get, Bool.and_eq_true] at hk
    exact kin_mem.1 hk.2
end
/-! ### the rules -/
def exN (Q : Exit → Act → World → Prop) : Act → World → Prop := Q .normal
def RP (P : Program) (ops : Array Oper) (K : Act → World → Prop) (w0 : World) (R : Hh) (pl0 : List PE) (D : List Nat) (dn pl : List PE) : Act → World → Prop := fun a w => okP ops pl0 D dn pl → RH P ops K (TK w0 R pl0) D a w
def HA (ops : Array Oper) (w0 : World) (R : Hh) (c : Nat) (dn : List PE) (w : World) : Prop := ∀ e ∈ dn, (e.1.any fun k => !rea ops c k) = true → Hp w0 R e.2 w
inductive SA (ops : Array Oper) (c : Nat) (Ps : List HP) : List PE → Prop
  | n : SA ops c Ps []
  | s {is : List Nat} {Qs : List HP} {dn : List PE} : (is.any fun k => !rea ops c k) = false → SA ops c Ps dn → SA ops c Ps ((is, Qs) :: dn)
  | c {is : List Nat} {Qs : List HP} {dn : List PE} : Sub Qs Ps → SA ops c Ps dn → SA ops c Ps ((is, Qs) :: dn)
theorem SA.ha {ops : Array Oper} {c : Nat} {Ps : List HP} {dn : List PE} {w0 w : World} {R : Hh} (h : SA ops c Ps dn) (m : Hp w0 R Ps w) : HA ops w0 R c dn w := by
  induction h with
  | n => exact fun e he => by cases he
  | s h _ ih =>
    intro e he hx
    rcases List.mem_cons.1 he with rfl | he
    · rw [h] at hx; cases hx
    · exact ih e he hx
  | c h _ ih =>
    intro e he hx
    rcases List.mem_cons.1 he with rfl | he
    · exact m.sub h
    · exact ih e he hx
theorem wpList_monoQ {P : Program} {ops : Array Oper} {K K' : Act → World → Prop} {o : Oper} {a : Act} {w : World} (h : ∀ a w, K a w → K' a w) (hh : wpList P ops (Exit.then K fun _ _ _ => False) [o] a w) : wpList P ops (Exit.then K' fun _ _ _ => False) [o] a w := by
  simp only [wpList] at hh ⊢
  split at hh
  · rename_i hw
    rw [if_pos hw]
    rcases hh with hh | ⟨h1, a', w', h2⟩
    · refine .inl ?_
      unfold Oper.wp at *
      generalize (execOp a.eval o).run P w = r at *
      cases r with
      | ok n w' =>
        cases n <;> simp only [Oper.upon] at hh ⊢ <;>
          first
            | exact hh
            | exact h _ _ hh
            | exact Calls.mono hh (fun e w'' he => by cases e <;> first | exact h _ _ he | exact he.elim | exact (let ⟨_, _, h⟩ := he; h.elim))
            | exact Rows.mono hh (fun _ _ he => h _ _ he)
      | halt x w' => cases x <;> simp only [Oper.upon] at hh ⊢ <;> exact hh
    · exact h2.elim
  · rename_i hw
    rw [if_neg hw]
    exact h _ _ hh
def mkPl : List (List Nat) → List (List HP) → List PE
  | [], _ => []
  | is :: l, [] => (is, []) :: mkPl l []
  | is :: l, Q :: Qs => (is, Q) :: mkPl l Qs
section
variable {P : Program} {ops : Array Oper} {Q Q' : Exit → Act → World → Prop} {n : Nat} {L L' : List (Nat × Value)} {w0 : World} {R : Hh} {Ps Qs Ps' : List HP} {F F' : GF} {o : Oper} {y : Code} {id : Nat} {l : List Oper} {K : Act → World → Prop} {D : List Nat} {is : List Nat} {c : Nat} {pl pl0 dn : List PE}
theorem hb_ {k : Nat} (pl : List PE) (kk : Gl n w0 R L Ps (.ex (fun _ => RP P ops (exN Q) w0 R pl (List.range k) [] pl) .normal)) (hk : (Nat.ble k ops.size && downB ops k && disj (List.range k) pl) = true) : Gl n w0 R L Ps (.an P ops Q k) := fun a w hs m => by
  simp only [Bool.and_eq_true] at hk
  have hk1 := Nat.le_of_ble_eq_true hk.1.1
  have e : doneL ops.size (List.range k) = pre ops.size k := arr_ext (by rw [doneL_size, pre_size]) fun j => by
    rw [doneL_get, pre_get]
    congr 1
    rw [Bool.eq_iff_iff, kin_mem, List.mem_range, decide_eq_true_eq]
  have h := kk a w hs m ⟨List.nodup_range, fun j hj => by have := List.mem_range.1 hj; omega, by rw [e]; exact downB_spec hk.1.2, fun e he => .inr he, fun e he => he, fun e he k hk1 => disj_spec hk.2 e he k hk1, fun e he => by cases he⟩
  unfold RH at h
  rw [List.length_range, e] at h
  exact wpAny_monoQ (fun e a w h => onN_le h) (fun h => onN_lets h) _ _ _ _ (wpAny_of_g _ _ _ _ h)
theorem hs_ (hB : (Region.noSelect ops && takeB ops D is && disj is pl) = true) (hP : Sub Qs Ps) (r : ∀ F1, Av n w0 R L Qs (.qu P ops (Hp w0 R Qs) F1 (opsAt ops is)) L' Qs (.qu P ops (Hp w0 R Qs) F1 [])) :
    Av n w0 R L Ps (.ex (fun _ => RP P ops K w0 R pl0 D dn ((is, Qs) :: pl)) .normal) L' Ps (.ex (fun _ => RP P ops K w0 R pl0 (is.reverse ++ D) ((is, Qs) :: dn) pl) .normal) := ⟨fun k a w hs m hk => by
  simp only [Bool.and_eq_true] at hB
  have hw := m.sub hP
  have he := hk.sb (is, Qs) (by simp)
  refine rg_stretch (S := Hp w0 R Qs) hB.1.1 is D a (St n L') (fun i hi w ht => ht _ he hi) (fun i hi e he2 hi2 => ?_) hk.nd hk.lt hk.dw hB.1.2 ?_ fun nd lt dw a' hs' => k a' w hs' m ?_
  · rcases hk.sp e he2 with h1 | h1
    · exact absurd (hk.dd e h1 i hi2) (hk.un (is, Qs) (by simp) i hi)
    · rcases List.mem_cons.1 h1 with rfl | h1
      · exact hw
      · exact absurd hi (disj_spec hB.2 e h1 i hi2)
  · exact wpQuiet_mono' (fun a h => h w hw) ((r (.ex (fun _ a _ => St n L' a) .normal)).g (fun a w hs m => wpQuiet_nil fun w' m' => hs) a w hs hw)
  · refine ⟨nd, lt, dw, fun e he => ?_, fun e he => hk.sb e (by simp [he]), fun e he k hk1 hm => ?_, fun e he k hk1 => ?_⟩
    · rcases hk.sp e he with h1 | h1
      · exact .inl (by simp [h1])
      · rcases List.mem_cons.1 h1 with rfl | h1
        · exact .inl (by simp)
        · exact .inr h1
    · rcases List.mem_append.1 hm with h1 | h1
      · exact disj_spec hB.2 e he k hk1 (by simpa using h1)
      · exact hk.un e (by simp [he]) k hk1 h1
    · rcases List.mem_cons.1 he with rfl | he
      · exact List.mem_append_left _ (by simpa using hk1)
      · exact List.mem_append_right _ (hk.dd e he k hk1)⟩
theorem he_ (ho : ops[c]? = some o) (hra : ((Region.ready .any ops (doneL ops.size D)) == [c]) = true) (hrb : disj [c] pl = true) : Av n w0 R L Ps (.ex (fun _ => RP P ops K w0 R pl0 D dn (([c], Qs) :: pl)) .normal) L Ps (.li P ops (Exit.then (fun a w => HA ops w0 R c dn w ∧ RP P ops K w0 R pl0 (c :: D) (([c], Qs) :: dn) pl a w) fun _ _ _ => False) [o]) := ⟨fun k a w hs m hk => by
  have hr1 := eq_of_beq hra
  have hm : c ∈ Region.ready .any ops (doneL ops.size D) := by rw [hr1]; simp
  obtain ⟨hn, hlt, hl⟩ := ready_facts hk.nd hk.lt hm
  have hk' : okP ops pl0 (c :: D) (([c], Qs) :: dn) pl := ⟨List.nodup_cons.2 ⟨hn, hk.nd⟩, fun j hj => by
      rcases List.mem_cons.1 hj with rfl | hj
      · exact hlt
      · exact hk.lt j hj, by rw [← doneL_set]; exact down_set hk.dw hm, fun e he => by
      rcases hk.sp e he with h1 | h1
      · exact .inl (by simp [h1])
      · rcases List.mem_cons.1 h1 with rfl | h1
        · exact .inl (by simp)
        · exact .inr h1, fun e he => hk.sb e (by simp [he]), fun e he u hk1 hm => by
      rcases List.mem_cons.1 hm with h1 | h1
      · exact disj_spec hrb e he u hk1 (by simp [h1])
      · exact hk.un e (by simp [he]) u hk1 h1, fun e he u hk1 => by
      rcases List.mem_cons.1 he with rfl | he
      · have : u = c := by simpa using hk1
        rw [this]; simp
      · exact List.mem_cons_of_mem _ (hk.dd e he u hk1)⟩
  refine rg_effect hk.nd hk.lt hr1 ho (wpList_monoQ (fun a w hx => ⟨fun k hkD hk2 e he hke => ?_, hx.2 hk'⟩) (k a w hs m))
  rcases hk.sp e he with h1 | h1
  · exact hx.1 e h1 (List.any_eq_true.2 ⟨k, hke, by rw [hk2]; rfl⟩)
  · exact absurd hkD (hk.un e h1 k hke)⟩
theorem hn_ (hP : SA ops c Ps dn) : Av n w0 R L Ps (.ex (Exit.then (fun a w => HA ops w0 R c dn w ∧ RP P ops K w0 R pl0 (c :: D) (([c], Qs) :: dn) pl a w) Q') .normal) L Ps (.ex (fun _ => RP P ops K w0 R pl0 (c :: D) (([c], Qs) :: dn) pl) .normal) := ⟨fun k a w hs m => ⟨hP.ha m, k a w hs m⟩⟩
theorem hz_ (hr : (Region.ready .any ops (doneL ops.size D)).isEmpty = true) : Av n w0 R L Ps (.ex (fun _ => RP P ops K w0 R pl0 D dn []) .normal) L Ps (.ex (fun _ => K) .normal) := ⟨fun k a w hs m hk => by
  have hr : Region.ready .any ops (doneL ops.size D) = [] := by simpa using hr
  unfold RH
  cases ops.size - D.length with
  | zero => exact ⟨hr, k a w hs m⟩
  | succ f => exact ⟨fun _ => k a w hs m, fun i hi => by rw [hr] at hi; cases hi⟩⟩
theorem hx_ : Av n w0 R L Ps (.ex (fun _ => exN Q) .normal) L Ps (.ex Q .normal) := ⟨fun k => k⟩
end
section
variable {P : Program} {C : World → Prop} {L : List (Nat × Value)} {od : Option Tmp} {ty : TypeId} {pos : String} {aft : Array Edge} {gd : Option (Nat × Bool)} {x y z : Operand} {T E : TypeId} {ag : Bool} {k : Nat} {X : SH} {α : Type} {c : α → List Value} {xs : List α} {K K2 : IntKind} {i j : Int}
theorem sl1_ (hx : ev L x = some X.v) (hy : ev L y = some (.int K j)) (hT : slI P T = some E) (hE : tyI P E = some (ag, k)) (hr : RC C k X.v (xs.map c)) (h0 : 0 ≤ j) (h1 : j ≤ xs.length) : OkS P C L ⟨od, .slice T x none (some y) none, ty, pos, aft, gd⟩ (upH X j.toNat).v := ⟨fun ρ ha w hw => by
  have hn := (hr w hw).ncapM
  rw [← sub3_0 k]
  exact ok_sliceH (C := C) (hi := some y) (lo := none) (mx := none) hx hT hE rfl ⟨K, by rw [hy]; congr 2; omega⟩ rfl (by simp) (by omega) (by omega) (Nat.le_refl _) ρ ha w hw⟩
theorem sl2_ (hx : ev L x = some X.v) (hy : ev L y = some (.int K i)) (hT : slI P T = some E) (hE : tyI P E = some (ag, k)) (hr : RC C k X.v (xs.map c)) (h0 : 0 ≤ i) (h1 : i ≤ xs.length) : OkS P C L ⟨od, .slice T x (some y) none none, ty, pos, aft, gd⟩ (subH3 k X i.toNat xs.length X.c).v := ⟨fun ρ ha w hw => by
  have hn := (hr w hw).ncapM
  exact ok_sliceH (C := C) (hi := none) (lo := some y) (mx := none) hx hT hE ⟨K, by rw [hy]; congr 2; omega⟩ hn.1.symm rfl (by simp) (by omega) (by omega) (Nat.le_refl _) ρ ha w hw⟩
theorem sl3_ (hx : ev L x = some X.v) (hy : ev L y = some (.int K i)) (hz : ev L z = some (.int K2 j)) (hT : slI P T = some E) (hE : tyI P E = some (ag, k)) (hr : RC C k X.v (xs.map c)) (h0 : 0 ≤ i) (h1 : i ≤ j) (h2 : j ≤ xs.length) : OkS P C L ⟨od, .slice T x (some y) (some z) none, ty, pos, aft, gd⟩ (subH3 k X i.toNat j.toNat X.c).v := ⟨fun ρ ha w hw => by
  have hn := (hr w hw).ncapM
  exact ok_sliceH (C := C) (hi := some z) (lo := some y) (mx := none) hx hT hE ⟨K, by rw [hy]; congr 2; omega⟩ ⟨K2, by rw [hz]; congr 2; omega⟩ rfl (by simp) (by omega) (by omega) (Nat.le_refl _) ρ ha w hw⟩
theorem shu_ {n : Nat} {w0 : World} {R : Hh} {Ps Qs : List HP} {F : GF} (i : Nat) (kk : Gl n w0 R L (Sv k E (upH X i).v ((xs.take i).map c) :: Qs) F) (hP : Rem Ps (Sv k E X.v (xs.map c)) Qs) (h : i ≤ xs.length) : Gl n w0 R L Ps F := fun a w hs m => kk a w hs ((m.front hP).shrinkM (hi := i) s0 h)
end
theorem mf_ {P : Program} {C : World → Prop} {L : List (Nat × Value)} {od : Option Tmp} {ty : TypeId} {pos : String} {aft : Array Edge} {gd : Option (Nat × Bool)} {f : Fn} {xs ys : List Operand} {us vs : List Value} (hx : evs L xs = some us) (hy : evs L ys = some vs) : OkS P C L ⟨od, .makeFunc f ⟨xs⟩ ⟨ys⟩, ty, pos, aft, gd⟩ (.func f ⟨us⟩ ⟨vs⟩) := ⟨ok_makeFunc hx hy⟩
theorem Rem.app {p : HP} {l r : List HP} : Rem (p :: l) p l := r0
theorem Sub.rfl' : ∀ {l : List HP}, Sub l l
  | [] => .n
  | _ :: _ => .c r0 Sub.rfl'
section
variable {P : Program} {ops : Array Oper} {Q : Exit → Act → World → Prop} {rest : List Oper} {n : Nat} {L : List (Nat × Value)} {w0 : World} {R : Hh} {Ps Qs : List HP} {d : Nat} {ty : TypeId} {pos : String} {aft : Array Edge} {α : Type} {ct : α → List Value} {xs : List α} {T T2 E : TypeId} {ag : Bool} {k : Nat} {x y : Operand} {X : SH}
theorem rcw_ (j : Nat) (hP : Rem Ps (Sv k E X.v (xs.map ct)) Qs) (h : j ≤ xs.length) : RC (Hp w0 R Ps) k (subH3 k X j xs.length X.c).v ((xs.drop j).map ct) := fun w m => by
  have hr := m.rdv hP
  have hn := hr.ncapM
  exact hr.win h (Nat.le_refl _) (by omega) (Nat.le_refl _) (by simp)
theorem afx_ (i j : Nat) (kk : Gl n w0 R ((d, (upH X (i + (xs.length - j))).v) :: L) (Sv k E (upH X (i + (xs.length - j))).v ((xs.take i ++ xs.drop j).map ct) :: Qs) (.li P ops Q rest)) (hx : ev L x = some (upH X i).v) (hy : ev L y = some (subH3 k X j xs.length X.c).v) (hP : Rem Ps (Sv k E X.v (xs.map ct)) Qs) (hT : slI P T = some E) (hT2 : notInt P T2 = true) (hE : tyI P E = some (ag, k)) (ho : Cs ct k) (h1 : i ≤ j) (h2 : j ≤ xs.length) (hd : Nat.blt d n = true) :
    Gl n w0 R L Ps (.li P ops Q (⟨some d, .call ⟨.builtin .append, #[x, y], #[T, T2]⟩, ty, pos, aft, none⟩ :: rest)) := by
  have hl : (xs.drop j).length = xs.length - j := by simp
  refine apf_ (i := i) (ys := xs.drop j) (Y := subH3 k X j xs.length X.c) ?_ (by rw [subH3_0]; exact hx) hy hT hT2 hE hP (rcw_ j hP h2) ho (by rw [hl]; omega) hd
  rw [hl]; exact kk
end
section
variable {P : Program} {Q : Exit → Act → World → Prop} {n : Nat} {L : List (Nat × Value)} {w0 : World} {R : Hh} {Ps Qs : List HP} {x : Code} {id l : Nat}
theorem v50_ : Av n w0 R L Ps (.co P (.scope x) Q) L Ps (.co P x (Exit.noGoto Q)) := ⟨fun k a w hs m => wp_scope_straight (k a w hs m)⟩
theorem v51_ : Av n w0 R L Ps (.co P (.label l) Q) L Ps (.ex Q .normal) := ⟨fun k a w hs m => wp_label (k a w hs m)⟩
theorem v52_ : Av n w0 R L Ps (.ex (Exit.noGoto Q) .normal) L Ps (.ex Q .normal) := ⟨fun k => k⟩
theorem v53_ : Av n w0 R L Ps (.ex (Exit.noGoto Q) .ret) L Ps (.ex Q .ret) := ⟨fun k => k⟩
theorem v54_ : Av n w0 R L Ps (.ex (Exit.noGoto Q) (.exit id)) L Ps (.ex Q (.exit id)) := ⟨fun k => k⟩
inductive RV (P : Program) (L : List (Nat × Value)) (Ps : List HP) : List ResultVar → List Value → Prop
  | n : RV P L Ps [] []
  | t {t : Tmp} {v : Value} {rs : List ResultVar} {vs : List Value} : lk L t = some v → RV P L Ps rs vs → RV P L Ps (.tmp t :: rs) (v :: vs)
  | c {t : Tmp} {T E : TypeId} {z : Nat} {p : Addr} {cs : List Value} {Qs : List HP} {rs : List ResultVar} {vs : List Value} : lk L t = some (.pointer (some (padd p 0))) → tyI P T = some (true, z) → Rem Ps (Bx p E cs) Qs → Nat.beq cs.length z = true → RV P L Ps rs vs → RV P L Ps (.cell t T :: rs) (.agg ⟨cs⟩ :: vs)
  | s {t : Tmp} {T E : TypeId} {z : Nat} {p : Addr} {v : Value} {Qs : List HP} {rs : List ResultVar} {vs : List Value} : lk L t = some (.pointer (some (padd p 0))) → tyI P T = some (false, z) → Rem Ps (Bx p E [v]) Qs → RV P L Ps rs vs → RV P L Ps (.cell t T :: rs) (v :: vs)
theorem RV.vs {w : World} {rs : List ResultVar} {vs : List Value} (h : RV P L Ps rs vs) (m : Hp w0 R Ps w) : ResVs P L w rs vs := by
  induction h with
  | n => trivial
  | t h _ ih => exact ⟨h, ih⟩
  | c h1 h2 h3 h4 _ ih => exact ⟨resv_cell m h1 h2 h3 (Nat.eq_of_beq_eq_true h4), ih⟩
  | s h1 h2 h3 _ ih => exact ⟨resv_cell1 m h1 h2 h3, ih⟩
variable {τ : Type} {fn : Func} {φ : τ → Prop} {V : τ → Value} {Z : τ → List HP} {rs : List ResultVar} {vs : List Value}
theorem retM_ (x : τ) (k : φ x) (hr : fn.results = ⟨rs⟩) (h : RV P L Ps rs vs) (hv : pack vs = V x) (hz : Sub (Z x) Ps) :
    Gl n w0 R L Ps (.ex (bodyPost P fn fun e w' => ∃ x, φ x ∧ e = .returned (V x) ∧ Hp w0 R (Z x) w') .ret) := fun a w hs m => leave hs hr (h.vs m) ⟨x, k, by rw [hv], m.sub hz⟩
theorem retMN_ (x : τ) (k : φ x) (hr : fn.results = ⟨rs⟩) (h : RV P L Ps rs vs) (hv : pack vs = V x) (hz : Sub (Z x) Ps) :
    Gl n w0 R L Ps (.ex (bodyPost P fn fun e w' => ∃ x, φ x ∧ e = .returned (V x) ∧ Hp w0 R (Z x) w') .normal) := fun a w hs m => leaveN hs hr (h.vs m) ⟨x, k, by rw [hv], m.sub hz⟩
end
section
variable {ι : Type} {P : Program} {Q : Exit → Act → World → Prop} {n : Nat} {L L0 : List (Nat × Value)} {w0 : World} {R : Hh} {Ps Pr J0 : List HP} {x : Code}
theorem joinM_ (M : ι → List (Nat × Value)) (J : ι → List HP) (φ : ι → Prop) (h : Gl n w0 R L Ps (.co P x (Exit.then (JN n w0 R (fun i => M i ++ L) (fun i => J i ++ Pr) φ) Q))) (k : ∀ i, φ i → Gl n w0 R (M i ++ L) (J i ++ Pr) (.ex Q .normal)) : Gl n w0 R L Ps (.co P x Q) := fun a w hs m =>
  Code.wp_mono (fun e a w q => by
    cases e <;> first | exact q | (obtain ⟨i, h1, h2, h3⟩ := q; exact k i h1 a w h2 h3)) (h a w hs m)
theorem meetM_ {M : ι → List (Nat × Value)} {J : ι → List HP} {φ : ι → Prop} (j : ι) (h1 : φ j) (hL : Bk L (M j) L0) (hP : Sub (J j ++ Pr) Ps) :
    Gl n w0 R L Ps (.ex (fun _ => JN n w0 R (fun i => M i ++ L0) (fun i => J i ++ Pr) φ) .normal) := fun a w hs ms => ⟨j, h1, hs.bk hL, ms.sub hP⟩
theorem rcu_ {α : Type} {ct : α → List Value} {xs : List α} {E : TypeId} {k : Nat} {X : SH} {Qs : List HP} (i : Nat) (hP : Rem Ps (Sv k E X.v (xs.map ct)) Qs) (h : i ≤ xs.length) : RC (Hp w0 R Ps) k (upH X i).v ((xs.take i).map ct) := fun w m => by
  have hr := m.rdv hP
  have hn := hr.ncapM
  have := hr.win (lo := 0) (hi := i) (mx := X.c) (ys := xs.take i) (by omega) h (by omega) (Nat.le_refl _) (by simp)
  rw [sub3_0] at this
  exact this
end
theorem rq_ {R' : Hh} {Pr Qs : List HP} {k : Nat} {E : TypeId} {v : Value} {ds : List (List Value)} (q : ∃ y, SepL Pr y ∧ hle y R') (h : Rem Pr (Sv k E v ds) Qs) : RdS R' k v ds := by
  obtain ⟨y, sy, hy⟩ := q
  obtain ⟨g, hg, l⟩ := sy.look h
  exact (Sv.reads hg).le (fun i o e => hy i o (l i o e))
theorem Rqw {R' : Hh} {k : Nat} {X : SH} {α : Type} {ct : α → List Value} {xs : List α} (hr : RdS R' k X.v (xs.map ct)) (j : Nat) (h : j ≤ xs.length) : RdS R' k (subH3 k X j xs.length X.c).v ((xs.drop j).map ct) := by
  have hn := hr.ncapM
  exact hr.win h (Nat.le_refl _) (by omega) (Nat.le_refl _) (by simp)
section
variable {P : Program} {ops : Array Oper} {Q : Exit → Act → World → Prop} {rest : List Oper} {n : Nat} {L : List (Nat × Value)} {w0 : World} {R : Hh} {Ps : List HP} {d : Nat} {op : Op} {ty : TypeId} {pos : String} {aft : Array Edge} {j t : Nat} {want b : Bool}
theorem v42_ (hj : (ops[j]?).bind (·.dst) = some t) (ht : lk L t = some (.bool b)) (hd : Nat.blt d n = true) (hb : b = !want) : Av n w0 R L Ps (.li P ops Q (⟨some d, op, ty, pos, aft, some (j, want)⟩ :: rest)) ((d, undef) :: L) Ps (.li P ops Q rest) := ⟨fun k a w hs m => (po_ (P := P) (C := Hp w0 R Ps) (op := op) (ty := ty) (pos := pos) (aft := aft) hb hj ht hd).g Q rest a w hs m fun a' hs' => k a' w hs' m⟩
theorem v43_ (hj : (ops[j]?).bind (·.dst) = some t) (ht : lk L t = some undef) (hd : Nat.blt d n = true) : Av n w0 R L Ps (.li P ops Q (⟨some d, op, ty, pos, aft, some (j, want)⟩ :: rest)) ((d, undef) :: L) Ps (.li P ops Q rest) := ⟨fun k a w hs m => (pu_ (P := P) (C := Hp w0 R Ps) (op := op) (ty := ty) (pos := pos) (aft := aft) hj ht hd).g Q rest a w hs m fun a' hs' => k a' w hs' m⟩
end
section
variable {C : World → Prop} {α : Type} {ct : α → List Value} {xs : List α} {k : Nat} {X : SH}
theorem rcW_ {j : Nat} (hr : RC C k X.v (xs.map ct)) (h : j ≤ xs.length) : RC C k (subH3 k X j xs.length X.c).v ((xs.drop j).map ct) := fun w m => Rqw (hr w m) j h
theorem Rqu {R' : Hh} (hr : RdS R' k X.v (xs.map ct)) (i : Nat) (h : i ≤ xs.length) : RdS R' k (upH X i).v ((xs.take i).map ct) := by
  have hn := hr.ncapM
  have := hr.win (lo := 0) (hi := i) (mx := X.c) (ys := xs.take i) (by omega) h (by omega) (Nat.le_refl _) (by simp)
  rw [sub3_0] at this
  exact this
theorem rcU_ {i : Nat} (hr : RC C k X.v (xs.map ct)) (h : i ≤ xs.length) : RC C k (upH X i).v ((xs.take i).map ct) := fun w m => Rqu (hr w m) i h
end
end Go.Proofs.YtdallmabajeajaaGreatDoor.Fw
set_option linter.all false
namespace Go.Proofs.YtdallmabajeajaaGreatDoor.Fw
open Go
structure QPrefix where
  Addr : Int
  Len : Int
  deriving DecidableEq, Inhabited
def cPrefix (x : QPrefix) : List Value := [.int .u32 x.Addr, .int .i64 x.Len]
instance {a0 : Int} {a1 : Int}  : Mk cPrefix [.int .u32 a0, .int .i64 a1] ⟨a0, a1⟩ := ⟨rfl⟩
theorem iPrefix {x y : QPrefix} : cPrefix x = cPrefix y ↔ x = y := by
  refine ⟨fun h => ?_, fun h => h ▸ rfl⟩
  obtain ⟨x0, x1⟩ := x; obtain ⟨y0, y1⟩ := y
  simp only [cPrefix, List.cons.injEq, Value.int.injEq, Value.bool.injEq, Value.string.injEq, true_and, and_true] at h
  obtain ⟨rfl, rfl⟩ := h; rfl
def RPrefix (x : QPrefix) : Prop := IntKind.u32.wrap x.Addr = x.Addr ∧ IntKind.i64.wrap x.Len = x.Len
def kPrefix : List LK := [.i .u32, .i .i64]
instance : Cs cPrefix 2 := ⟨fun _ => rfl, fun _ => rfl⟩
instance : Fk cPrefix inferInstance kPrefix := ⟨fun _ => rfl, fun _ _ => iPrefix⟩
structure QConfig where
  Network : QPrefix
  SubnetLen : Int
  Min : Int
  Max : Int
  VNI : Int
  Port : Int
  MTU : Int
  TTL : Int
  Renew : Int
  Log : Int
  Hosts : Int
  First : Int
  Routes : Int
  Neighs : Int
  Fdbs : Int
  Room : Int
  Reserved : SH
  deriving Inhabited
def cConfig (x : QConfig) : List Value := [.int .u32 x.Network.Addr, .int .i64 x.Network.Len, .int .i64 x.SubnetLen, .int .u32 x.Min, .int .u32 x.Max, .int .i64 x.VNI, .int .i64 x.Port, .int .i64 x.MTU, .int .i64 x.TTL, .int .i64 x.Renew, .int .i64 x.Log, .int .i64 x.Hosts, .int .u32 x.First, .int .i64 x.Routes, .int .i64 x.Neighs, .int .i64 x.Fdbs, .int .i64 x.Room, x.Reserved.v]
instance {a0 : Int} {a1 : Int} {a2 : Int} {a3 : Int} {a4 : Int} {a5 : Int} {a6 : Int} {a7 : Int} {a8 : Int} {a9 : Int} {a10 : Int} {a11 : Int} {a12 : Int} {a13 : Int} {a14 : Int} {a15 : Int} {a16 : Int} {a17 : Value} {ya17 : SH} [la17 : Lf a17 ya17] : Mk cConfig [.int .u32 a0, .int .i64 a1, .int .i64 a2, .int .u32 a3, .int .u32 a4, .int .i64 a5, .int .i64 a6, .int .i64 a7, .int .i64 a8, .int .i64 a9, .int .i64 a10, .int .i64 a11, .int .u32 a12, .int .i64 a13, .int .i64 a14, .int .i64 a15, .int .i64 a16, a17] ⟨⟨a0, a1⟩, a2, a3, a4, a5, a6, a7, a8, a9, a10, a11, a12, a13, a14, a15, a16, ya17⟩ := ⟨by simp only [cConfig, la17.h]⟩
def RConfig (x : QConfig) : Prop := RPrefix x.Network ∧ IntKind.i64.wrap x.SubnetLen = x.SubnetLen ∧ IntKind.u32.wrap x.Min = x.Min ∧ IntKind.u32.wrap x.Max = x.Max ∧ IntKind.i64.wrap x.VNI = x.VNI ∧ IntKind.i64.wrap x.Port = x.Port ∧ IntKind.i64.wrap x.MTU = x.MTU ∧ IntKind.i64.wrap x.TTL = x.TTL ∧ IntKind.i64.wrap x.Renew = x.Renew ∧ IntKind.i64.wrap x.Log = x.Log ∧ IntKind.i64.wrap x.Hosts = x.Hosts ∧ IntKind.u32.wrap x.First = x.First ∧ IntKind.i64.wrap x.Routes = x.Routes ∧ IntKind.i64.wrap x.Neighs = x.Neighs ∧ IntKind.i64.wrap x.Fdbs = x.Fdbs ∧ IntKind.i64.wrap x.Room = x.Room
instance : Cs cConfig 18 := ⟨fun _ => rfl, fun _ => rfl⟩
structure QMAC where
  b0 : Int
  b1 : Int
  b2 : Int
  b3 : Int
  b4 : Int
  b5 : Int
  deriving DecidableEq, Inhabited
def cMAC (x : QMAC) : List Value := [.int .u8 x.b0, .int .u8 x.b1, .int .u8 x.b2, .int .u8 x.b3, .int .u8 x.b4, .int .u8 x.b5]
instance {a0 : Int} {a1 : Int} {a2 : Int} {a3 : Int} {a4 : Int} {a5 : Int}  : Mk cMAC [.int .u8 a0, .int .u8 a1, .int .u8 a2, .int .u8 a3, .int .u8 a4, .int .u8 a5] ⟨a0, a1, a2, a3, a4, a5⟩ := ⟨rfl⟩
theorem iMAC {x y : QMAC} : cMAC x = cMAC y ↔ x = y := by
  refine ⟨fun h => ?_, fun h => h ▸ rfl⟩
  obtain ⟨x0, x1, x2, x3, x4, x5⟩ := x; obtain ⟨y0, y1, y2, y3, y4, y5⟩ := y
  simp only [cMAC, List.cons.injEq, Value.int.injEq, Value.bool.injEq, Value.string.injEq, true_and, and_true] at h
  obtain ⟨rfl, rfl, rfl, rfl, rfl, rfl⟩ := h; rfl
def RMAC (x : QMAC) : Prop := IntKind.u8.wrap x.b0 = x.b0 ∧ IntKind.u8.wrap x.b1 = x.b1 ∧ IntKind.u8.wrap x.b2 = x.b2 ∧ IntKind.u8.wrap x.b3 = x.b3 ∧ IntKind.u8.wrap x.b4 = x.b4 ∧ IntKind.u8.wrap x.b5 = x.b5
def kMAC : List LK := [.i .u8, .i .u8, .i .u8, .i .u8, .i .u8, .i .u8]
instance : Cs cMAC 6 := ⟨fun _ => rfl, fun _ => rfl⟩
instance : Fk cMAC inferInstance kMAC := ⟨fun _ => rfl, fun _ _ => iMAC⟩
structure QLease where
  Host : Int
  Subnet : QPrefix
  Pub : Int
  MAC : QMAC
  Until : Int
  Rev : Int
  deriving DecidableEq, Inhabited
def cLease (x : QLease) : List Value := [.int .i64 x.Host, .int .u32 x.Subnet.Addr, .int .i64 x.Subnet.Len, .int .u32 x.Pub, .int .u8 x.MAC.b0, .int .u8 x.MAC.b1, .int .u8 x.MAC.b2, .int .u8 x.MAC.b3, .int .u8 x.MAC.b4, .int .u8 x.MAC.b5, .int .i64 x.Until, .int .i64 x.Rev]
instance {a0 : Int} {a1 : Int} {a2 : Int} {a3 : Int} {a4 : Int} {a5 : Int} {a6 : Int} {a7 : Int} {a8 : Int} {a9 : Int} {a10 : Int} {a11 : Int}  : Mk cLease [.int .i64 a0, .int .u32 a1, .int .i64 a2, .int .u32 a3, .int .u8 a4, .int .u8 a5, .int .u8 a6, .int .u8 a7, .int .u8 a8, .int .u8 a9, .int .i64 a10, .int .i64 a11] ⟨a0, ⟨a1, a2⟩, a3, ⟨a4, a5, a6, a7, a8, a9⟩, a10, a11⟩ := ⟨rfl⟩
theorem iLease {x y : QLease} : cLease x = cLease y ↔ x = y := by
  refine ⟨fun h => ?_, fun h => h ▸ rfl⟩
  obtain ⟨x0, ⟨x1, x2⟩, x3, ⟨x4, x5, x6, x7, x8, x9⟩, x10, x11⟩ := x; obtain ⟨y0, ⟨y1, y2⟩, y3, ⟨y4, y5, y6, y7, y8, y9⟩, y10, y11⟩ := y
  simp only [cLease, List.cons.injEq, Value.int.injEq, Value.bool.injEq, Value.string.injEq, true_and, and_true] at h
  obtain ⟨rfl, rfl, rfl, rfl, rfl, rfl, rfl, rfl, rfl, rfl, rfl, rfl⟩ := h; rfl
def kLease : List LK := [.i .i64, .i .u32, .i .i64, .i .u32, .i .u8, .i .u8, .i .u8, .i .u8, .i .u8, .i .u8, .i .i64, .i .i64]
instance : Cs cLease 12 := ⟨fun _ => rfl, fun _ => rfl⟩
instance : Fk cLease inferInstance kLease := ⟨fun _ => rfl, fun _ _ => iLease⟩
structure QAnswer where
  Err : Int
  Lease : QLease
  Rev : Int
  Now : Int
  deriving DecidableEq, Inhabited
def cAnswer (x : QAnswer) : List Value := [.int .i64 x.Err, .int .i64 x.Lease.Host, .int .u32 x.Lease.Subnet.Addr, .int .i64 x.Lease.Subnet.Len, .int .u32 x.Lease.Pub, .int .u8 x.Lease.MAC.b0, .int .u8 x.Lease.MAC.b1, .int .u8 x.Lease.MAC.b2, .int .u8 x.Lease.MAC.b3, .int .u8 x.Lease.MAC.b4, .int .u8 x.Lease.MAC.b5, .int .i64 x.Lease.Until, .int .i64 x.Lease.Rev, .int .i64 x.Rev, .int .i64 x.Now]
instance {a0 : Int} {a1 : Int} {a2 : Int} {a3 : Int} {a4 : Int} {a5 : Int} {a6 : Int} {a7 : Int} {a8 : Int} {a9 : Int} {a10 : Int} {a11 : Int} {a12 : Int} {a13 : Int} {a14 : Int}  : Mk cAnswer [.int .i64 a0, .int .i64 a1, .int .u32 a2, .int .i64 a3, .int .u32 a4, .int .u8 a5, .int .u8 a6, .int .u8 a7, .int .u8 a8, .int .u8 a9, .int .u8 a10, .int .i64 a11, .int .i64 a12, .int .i64 a13, .int .i64 a14] ⟨a0, ⟨a1, ⟨a2, a3⟩, a4, ⟨a5, a6, a7, a8, a9, a10⟩, a11, a12⟩, a13, a14⟩ := ⟨rfl⟩
theorem iAnswer {x y : QAnswer} : cAnswer x = cAnswer y ↔ x = y := by
  refine ⟨fun h => ?_, fun h => h ▸ rfl⟩
  obtain ⟨x0, ⟨x1, ⟨x2, x3⟩, x4, ⟨x5, x6, x7, x8, x9, x10⟩, x11, x12⟩, x13, x14⟩ := x; obtain ⟨y0, ⟨y1, ⟨y2, y3⟩, y4, ⟨y5, y6, y7, y8, y9, y10⟩, y11, y12⟩, y13, y14⟩ := y
  simp only [cAnswer, List.cons.injEq, Value.int.injEq, Value.bool.injEq, Value.string.injEq, true_and, and_true] at h
  obtain ⟨rfl, rfl, rfl, rfl, rfl, rfl, rfl, rfl, rfl, rfl, rfl, rfl, rfl, rfl, rfl⟩ := h; rfl
def kAnswer : List LK := [.i .i64, .i .i64, .i .u32, .i .i64, .i .u32, .i .u8, .i .u8, .i .u8, .i .u8, .i .u8, .i .u8, .i .i64, .i .i64, .i .i64, .i .i64]
instance : Cs cAnswer 15 := ⟨fun _ => rfl, fun _ => rfl⟩
instance : Fk cAnswer inferInstance kAnswer := ⟨fun _ => rfl, fun _ _ => iAnswer⟩
structure QCmd where
  Kind : Int
  Host : Int
  Subnet : QPrefix
  Pub : Int
  MAC : QMAC
  N : Int
  deriving DecidableEq, Inhabited
def cCmd (x : QCmd) : List Value := [.int .i64 x.Kind, .int .i64 x.Host, .int .u32 x.Subnet.Addr, .int .i64 x.Subnet.Len, .int .u32 x.Pub, .int .u8 x.MAC.b0, .int .u8 x.MAC.b1, .int .u8 x.MAC.b2, .int .u8 x.MAC.b3, .int .u8 x.MAC.b4, .int .u8 x.MAC.b5, .int .i64 x.N]
instance {a0 : Int} {a1 : Int} {a2 : Int} {a3 : Int} {a4 : Int} {a5 : Int} {a6 : Int} {a7 : Int} {a8 : Int} {a9 : Int} {a10 : Int} {a11 : Int}  : Mk cCmd [.int .i64 a0, .int .i64 a1, .int .u32 a2, .int .i64 a3, .int .u32 a4, .int .u8 a5, .int .u8 a6, .int .u8 a7, .int .u8 a8, .int .u8 a9, .int .u8 a10, .int .i64 a11] ⟨a0, a1, ⟨a2, a3⟩, a4, ⟨a5, a6, a7, a8, a9, a10⟩, a11⟩ := ⟨rfl⟩
theorem iCmd {x y : QCmd} : cCmd x = cCmd y ↔ x = y := by
  refine ⟨fun h => ?_, fun h => h ▸ rfl⟩
  obtain ⟨x0, x1, ⟨x2, x3⟩, x4, ⟨x5, x6, x7, x8, x9, x10⟩, x11⟩ := x; obtain ⟨y0, y1, ⟨y2, y3⟩, y4, ⟨y5, y6, y7, y8, y9, y10⟩, y11⟩ := y
  simp only [cCmd, List.cons.injEq, Value.int.injEq, Value.bool.injEq, Value.string.injEq, true_and, and_true] at h
  obtain ⟨rfl, rfl, rfl, rfl, rfl, rfl, rfl, rfl, rfl, rfl, rfl, rfl⟩ := h; rfl
def RCmd (x : QCmd) : Prop := IntKind.i64.wrap x.Kind = x.Kind ∧ IntKind.i64.wrap x.Host = x.Host ∧ RPrefix x.Subnet ∧ IntKind.u32.wrap x.Pub = x.Pub ∧ RMAC x.MAC ∧ IntKind.i64.wrap x.N = x.N
def kCmd : List LK := [.i .i64, .i .i64, .i .u32, .i .i64, .i .u32, .i .u8, .i .u8, .i .u8, .i .u8, .i .u8, .i .u8, .i .i64]
instance : Cs cCmd 12 := ⟨fun _ => rfl, fun _ => rfl⟩
instance : Fk cCmd inferInstance kCmd := ⟨fun _ => rfl, fun _ _ => iCmd⟩
structure QSnap where
  Rev : Int
  Now : Int
  Leases : SH
  deriving Inhabited
def cSnap (x : QSnap) : List Value := [.int .i64 x.Rev, .int .i64 x.Now, x.Leases.v]
instance {a0 : Int} {a1 : Int} {a2 : Value} {ya2 : SH} [la2 : Lf a2 ya2] : Mk cSnap [.int .i64 a0, .int .i64 a1, a2] ⟨a0, a1, ya2⟩ := ⟨by simp only [cSnap, la2.h]⟩
instance : Cs cSnap 3 := ⟨fun _ => rfl, fun _ => rfl⟩
structure QReserve where
  Host : Int
  Subnet : QPrefix
  deriving DecidableEq, Inhabited
def cReserve (x : QReserve) : List Value := [.int .i64 x.Host, .int .u32 x.Subnet.Addr, .int .i64 x.Subnet.Len]
instance {a0 : Int} {a1 : Int} {a2 : Int}  : Mk cReserve [.int .i64 a0, .int .u32 a1, .int .i64 a2] ⟨a0, ⟨a1, a2⟩⟩ := ⟨rfl⟩
theorem iReserve {x y : QReserve} : cReserve x = cReserve y ↔ x = y := by
  refine ⟨fun h => ?_, fun h => h ▸ rfl⟩
  obtain ⟨x0, ⟨x1, x2⟩⟩ := x; obtain ⟨y0, ⟨y1, y2⟩⟩ := y
  simp only [cReserve, List.cons.injEq, Value.int.injEq, Value.bool.injEq, Value.string.injEq, true_and, and_true] at h
  obtain ⟨rfl, rfl, rfl⟩ := h; rfl
def RReserve (x : QReserve) : Prop := IntKind.i64.wrap x.Host = x.Host ∧ RPrefix x.Subnet
def kReserve : List LK := [.i .i64, .i .u32, .i .i64]
instance : Cs cReserve 3 := ⟨fun _ => rfl, fun _ => rfl⟩
instance : Fk cReserve inferInstance kReserve := ⟨fun _ => rfl, fun _ _ => iReserve⟩
structure QImage where
  Rev : Int
  Now : Int
  Leases : SH
  Events : SH
  deriving Inhabited
def cImage (x : QImage) : List Value := [.int .i64 x.Rev, .int .i64 x.Now, x.Leases.v, x.Events.v]
instance {a0 : Int} {a1 : Int} {a2 : Value} {ya2 : SH} {a3 : Value} {ya3 : SH} [la2 : Lf a2 ya2] [la3 : Lf a3 ya3] : Mk cImage [.int .i64 a0, .int .i64 a1, a2, a3] ⟨a0, a1, ya2, ya3⟩ := ⟨by simp only [cImage, la2.h, la3.h]⟩
instance : Cs cImage 4 := ⟨fun _ => rfl, fun _ => rfl⟩
structure QEvent where
  Rev : Int
  Kind : Int
  Lease : QLease
  deriving DecidableEq, Inhabited
def cEvent (x : QEvent) : List Value := [.int .i64 x.Rev, .int .i64 x.Kind, .int .i64 x.Lease.Host, .int .u32 x.Lease.Subnet.Addr, .int .i64 x.Lease.Subnet.Len, .int .u32 x.Lease.Pub, .int .u8 x.Lease.MAC.b0, .int .u8 x.Lease.MAC.b1, .int .u8 x.Lease.MAC.b2, .int .u8 x.Lease.MAC.b3, .int .u8 x.Lease.MAC.b4, .int .u8 x.Lease.MAC.b5, .int .i64 x.Lease.Until, .int .i64 x.Lease.Rev]
instance {a0 : Int} {a1 : Int} {a2 : Int} {a3 : Int} {a4 : Int} {a5 : Int} {a6 : Int} {a7 : Int} {a8 : Int} {a9 : Int} {a10 : Int} {a11 : Int} {a12 : Int} {a13 : Int}  : Mk cEvent [.int .i64 a0, .int .i64 a1, .int .i64 a2, .int .u32 a3, .int .i64 a4, .int .u32 a5, .int .u8 a6, .int .u8 a7, .int .u8 a8, .int .u8 a9, .int .u8 a10, .int .u8 a11, .int .i64 a12, .int .i64 a13] ⟨a0, a1, ⟨a2, ⟨a3, a4⟩, a5, ⟨a6, a7, a8, a9, a10, a11⟩, a12, a13⟩⟩ := ⟨rfl⟩
theorem iEvent {x y : QEvent} : cEvent x = cEvent y ↔ x = y := by
  refine ⟨fun h => ?_, fun h => h ▸ rfl⟩
  obtain ⟨x0, x1, ⟨x2, ⟨x3, x4⟩, x5, ⟨x6, x7, x8, x9, x10, x11⟩, x12, x13⟩⟩ := x; obtain ⟨y0, y1, ⟨y2, ⟨y3, y4⟩, y5, ⟨y6, y7, y8, y9, y10, y11⟩, y12, y13⟩⟩ := y
  simp only [cEvent, List.cons.injEq, Value.int.injEq, Value.bool.injEq, Value.string.injEq, true_and, and_true] at h
  obtain ⟨rfl, rfl, rfl, rfl, rfl, rfl, rfl, rfl, rfl, rfl, rfl, rfl, rfl, rfl⟩ := h; rfl
def kEvent : List LK := [.i .i64, .i .i64, .i .i64, .i .u32, .i .i64, .i .u32, .i .u8, .i .u8, .i .u8, .i .u8, .i .u8, .i .u8, .i .i64, .i .i64]
instance : Cs cEvent 14 := ⟨fun _ => rfl, fun _ => rfl⟩
instance : Fk cEvent inferInstance kEvent := ⟨fun _ => rfl, fun _ _ => iEvent⟩
structure Qweftlaw11_Pair where
  c : QConfig
  a : Option Addr
  b : Option Addr
  deriving Inhabited
def cweftlaw11_Pair (x : Qweftlaw11_Pair) : List Value := [.int .u32 x.c.Network.Addr, .int .i64 x.c.Network.Len, .int .i64 x.c.SubnetLen, .int .u32 x.c.Min, .int .u32 x.c.Max, .int .i64 x.c.VNI, .int .i64 x.c.Port, .int .i64 x.c.MTU, .int .i64 x.c.TTL, .int .i64 x.c.Renew, .int .i64 x.c.Log, .int .i64 x.c.Hosts, .int .u32 x.c.First, .int .i64 x.c.Routes, .int .i64 x.c.Neighs, .int .i64 x.c.Fdbs, .int .i64 x.c.Room, x.c.Reserved.v, .pointer x.a, .pointer x.b]
instance {a0 : Int} {a1 : Int} {a2 : Int} {a3 : Int} {a4 : Int} {a5 : Int} {a6 : Int} {a7 : Int} {a8 : Int} {a9 : Int} {a10 : Int} {a11 : Int} {a12 : Int} {a13 : Int} {a14 : Int} {a15 : Int} {a16 : Int} {a17 : Value} {ya17 : SH} {a18 : Option Addr} {a19 : Option Addr} [la17 : Lf a17 ya17] : Mk cweftlaw11_Pair [.int .u32 a0, .int .i64 a1, .int .i64 a2, .int .u32 a3, .int .u32 a4, .int .i64 a5, .int .i64 a6, .int .i64 a7, .int .i64 a8, .int .i64 a9, .int .i64 a10, .int .i64 a11, .int .u32 a12, .int .i64 a13, .int .i64 a14, .int .i64 a15, .int .i64 a16, a17, .pointer a18, .pointer a19] ⟨⟨⟨a0, a1⟩, a2, a3, a4, a5, a6, a7, a8, a9, a10, a11, a12, a13, a14, a15, a16, ya17⟩, a18, a19⟩ := ⟨by simp only [cweftlaw11_Pair, la17.h]⟩
instance : Cs cweftlaw11_Pair 20 := ⟨fun _ => rfl, fun _ => rfl⟩
structure Qweftlaw11_Op where
  Kind : Int
  Which : Int
  Cmd : QCmd
  From : Int
  Max : Int
  A : Int
  deriving DecidableEq, Inhabited
def cweftlaw11_Op (x : Qweftlaw11_Op) : List Value := [.int .i64 x.Kind, .int .i64 x.Which, .int .i64 x.Cmd.Kind, .int .i64 x.Cmd.Host, .int .u32 x.Cmd.Subnet.Addr, .int .i64 x.Cmd.Subnet.Len, .int .u32 x.Cmd.Pub, .int .u8 x.Cmd.MAC.b0, .int .u8 x.Cmd.MAC.b1, .int .u8 x.Cmd.MAC.b2, .int .u8 x.Cmd.MAC.b3, .int .u8 x.Cmd.MAC.b4, .int .u8 x.Cmd.MAC.b5, .int .i64 x.Cmd.N, .int .i64 x.From, .int .i64 x.Max, .int .u32 x.A]
instance {a0 : Int} {a1 : Int} {a2 : Int} {a3 : Int} {a4 : Int} {a5 : Int} {a6 : Int} {a7 : Int} {a8 : Int} {a9 : Int} {a10 : Int} {a11 : Int} {a12 : Int} {a13 : Int} {a14 : Int} {a15 : Int} {a16 : Int}  : Mk cweftlaw11_Op [.int .i64 a0, .int .i64 a1, .int .i64 a2, .int .i64 a3, .int .u32 a4, .int .i64 a5, .int .u32 a6, .int .u8 a7, .int .u8 a8, .int .u8 a9, .int .u8 a10, .int .u8 a11, .int .u8 a12, .int .i64 a13, .int .i64 a14, .int .i64 a15, .int .u32 a16] ⟨a0, a1, ⟨a2, a3, ⟨a4, a5⟩, a6, ⟨a7, a8, a9, a10, a11, a12⟩, a13⟩, a14, a15, a16⟩ := ⟨rfl⟩
theorem iweftlaw11_Op {x y : Qweftlaw11_Op} : cweftlaw11_Op x = cweftlaw11_Op y ↔ x = y := by
  refine ⟨fun h => ?_, fun h => h ▸ rfl⟩
  obtain ⟨x0, x1, ⟨x2, x3, ⟨x4, x5⟩, x6, ⟨x7, x8, x9, x10, x11, x12⟩, x13⟩, x14, x15, x16⟩ := x; obtain ⟨y0, y1, ⟨y2, y3, ⟨y4, y5⟩, y6, ⟨y7, y8, y9, y10, y11, y12⟩, y13⟩, y14, y15, y16⟩ := y
  simp only [cweftlaw11_Op, List.cons.injEq, Value.int.injEq, Value.bool.injEq, Value.string.injEq, true_and, and_true] at h
  obtain ⟨rfl, rfl, rfl, rfl, rfl, rfl, rfl, rfl, rfl, rfl, rfl, rfl, rfl, rfl, rfl, rfl, rfl⟩ := h; rfl
def kweftlaw11_Op : List LK := [.i .i64, .i .i64, .i .i64, .i .i64, .i .u32, .i .i64, .i .u32, .i .u8, .i .u8, .i .u8, .i .u8, .i .u8, .i .u8, .i .i64, .i .i64, .i .i64, .i .u32]
instance : Cs cweftlaw11_Op 17 := ⟨fun _ => rfl, fun _ => rfl⟩
instance : Fk cweftlaw11_Op inferInstance kweftlaw11_Op := ⟨fun _ => rfl, fun _ _ => iweftlaw11_Op⟩
structure Qweftlaw11_Book where
  leases : SH
  events : SH
  much : Int
  deriving Inhabited
def cweftlaw11_Book (x : Qweftlaw11_Book) : List Value := [x.leases.v, x.events.v, .int .i64 x.much]
instance {a0 : Value} {ya0 : SH} {a1 : Value} {ya1 : SH} {a2 : Int} [la0 : Lf a0 ya0] [la1 : Lf a1 ya1] : Mk cweftlaw11_Book [a0, a1, .int .i64 a2] ⟨ya0, ya1, a2⟩ := ⟨by simp only [cweftlaw11_Book, la0.h, la1.h]⟩
instance : Cs cweftlaw11_Book 3 := ⟨fun _ => rfl, fun _ => rfl⟩
structure Qlease_history where
  bound : Int
  events : SH
  deriving Inhabited
def clease_history (x : Qlease_history) : List Value := [.int .i64 x.bound, x.events.v]
instance {a0 : Int} {a1 : Value} {ya1 : SH} [la1 : Lf a1 ya1] : Mk clease_history [.int .i64 a0, a1] ⟨a0, ya1⟩ := ⟨by simp only [clease_history, la1.h]⟩
instance : Cs clease_history 2 := ⟨fun _ => rfl, fun _ => rfl⟩
structure Qlease_clock where
  now : Int
  rev : Int
  deriving DecidableEq, Inhabited
def clease_clock (x : Qlease_clock) : List Value := [.int .i64 x.now, .int .i64 x.rev]
instance {a0 : Int} {a1 : Int}  : Mk clease_clock [.int .i64 a0, .int .i64 a1] ⟨a0, a1⟩ := ⟨rfl⟩
theorem ilease_clock {x y : Qlease_clock} : clease_clock x = clease_clock y ↔ x = y := by
  refine ⟨fun h => ?_, fun h => h ▸ rfl⟩
  obtain ⟨x0, x1⟩ := x; obtain ⟨y0, y1⟩ := y
  simp only [clease_clock, List.cons.injEq, Value.int.injEq, Value.bool.injEq, Value.string.injEq, true_and, and_true] at h
  obtain ⟨rfl, rfl⟩ := h; rfl
def klease_clock : List LK := [.i .i64, .i .i64]
instance : Cs clease_clock 2 := ⟨fun _ => rfl, fun _ => rfl⟩
instance : Fk clease_clock inferInstance klease_clock := ⟨fun _ => rfl, fun _ _ => ilease_clock⟩
structure Qlease_Store where
  clock : Qlease_clock
  history : Qlease_history
  config : QConfig
  live : Option Nat
  kept : Option Nat
  ends : Option Addr
  free : Option Addr
  deriving Inhabited
def clease_Store (x : Qlease_Store) : List Value := [.int .i64 x.clock.now, .int .i64 x.clock.rev, .int .i64 x.history.bound, x.history.events.v, .int .u32 x.config.Network.Addr, .int .i64 x.config.Network.Len, .int .i64 x.config.SubnetLen, .int .u32 x.config.Min, .int .u32 x.config.Max, .int .i64 x.config.VNI, .int .i64 x.config.Port, .int .i64 x.config.MTU, .int .i64 x.config.TTL, .int .i64 x.config.Renew, .int .i64 x.config.Log, .int .i64 x.config.Hosts, .int .u32 x.config.First, .int .i64 x.config.Routes, .int .i64 x.config.Neighs, .int .i64 x.config.Fdbs, .int .i64 x.config.Room, x.config.Reserved.v, .map x.live, .map x.kept, .pointer x.ends, .pointer x.free]
instance {a0 : Int} {a1 : Int} {a2 : Int} {a3 : Value} {ya3 : SH} {a4 : Int} {a5 : Int} {a6 : Int} {a7 : Int} {a8 : Int} {a9 : Int} {a10 : Int} {a11 : Int} {a12 : Int} {a13 : Int} {a14 : Int} {a15 : Int} {a16 : Int} {a17 : Int} {a18 : Int} {a19 : Int} {a20 : Int} {a21 : Value} {ya21 : SH} {a22 : Option Nat} {a23 : Option Nat} {a24 : Option Addr} {a25 : Option Addr} [la3 : Lf a3 ya3] [la21 : Lf a21 ya21] : Mk clease_Store [.int .i64 a0, .int .i64 a1, .int .i64 a2, a3, .int .u32 a4, .int .i64 a5, .int .i64 a6, .int .u32 a7, .int .u32 a8, .int .i64 a9, .int .i64 a10, .int .i64 a11, .int .i64 a12, .int .i64 a13, .int .i64 a14, .int .i64 a15, .int .u32 a16, .int .i64 a17, .int .i64 a18, .int .i64 a19, .int .i64 a20, a21, .map a22, .map a23, .pointer a24, .pointer a25] ⟨⟨a0, a1⟩, ⟨a2, ya3⟩, ⟨⟨a4, a5⟩, a6, a7, a8, a9, a10, a11, a12, a13, a14, a15, a16, a17, a18, a19, a20, ya21⟩, a22, a23, a24, a25⟩ := ⟨by simp only [clease_Store, la3.h, la21.h]⟩
instance : Cs clease_Store 26 := ⟨fun _ => rfl, fun _ => rfl⟩
structure Qweftref11_Store where
  c : QConfig
  now : Int
  rev : Int
  leases : SH
  events : SH
  deriving Inhabited
def cweftref11_Store (x : Qweftref11_Store) : List Value := [.int .u32 x.c.Network.Addr, .int .i64 x.c.Network.Len, .int .i64 x.c.SubnetLen, .int .u32 x.c.Min, .int .u32 x.c.Max, .int .i64 x.c.VNI, .int .i64 x.c.Port, .int .i64 x.c.MTU, .int .i64 x.c.TTL, .int .i64 x.c.Renew, .int .i64 x.c.Log, .int .i64 x.c.Hosts, .int .u32 x.c.First, .int .i64 x.c.Routes, .int .i64 x.c.Neighs, .int .i64 x.c.Fdbs, .int .i64 x.c.Room, x.c.Reserved.v, .int .i64 x.now, .int .i64 x.rev, x.leases.v, x.events.v]
instance {a0 : Int} {a1 : Int} {a2 : Int} {a3 : Int} {a4 : Int} {a5 : Int} {a6 : Int} {a7 : Int} {a8 : Int} {a9 : Int} {a10 : Int} {a11 : Int} {a12 : Int} {a13 : Int} {a14 : Int} {a15 : Int} {a16 : Int} {a17 : Value} {ya17 : SH} {a18 : Int} {a19 : Int} {a20 : Value} {ya20 : SH} {a21 : Value} {ya21 : SH} [la17 : Lf a17 ya17] [la20 : Lf a20 ya20] [la21 : Lf a21 ya21] : Mk cweftref11_Store [.int .u32 a0, .int .i64 a1, .int .i64 a2, .int .u32 a3, .int .u32 a4, .int .i64 a5, .int .i64 a6, .int .i64 a7, .int .i64 a8, .int .i64 a9, .int .i64 a10, .int .i64 a11, .int .u32 a12, .int .i64 a13, .int .i64 a14, .int .i64 a15, .int .i64 a16, a17, .int .i64 a18, .int .i64 a19, a20, a21] ⟨⟨⟨a0, a1⟩, a2, a3, a4, a5, a6, a7, a8, a9, a10, a11, a12, a13, a14, a15, a16, ya17⟩, a18, a19, ya20, ya21⟩ := ⟨by simp only [cweftref11_Store, la17.h, la20.h, la21.h]⟩
instance : Cs cweftref11_Store 22 := ⟨fun _ => rfl, fun _ => rfl⟩
structure Qweftlaw11_Quiet where
  leases : SH
  wantLeases : SH
  events : SH
  wantEvents : SH
  much : Int
  deriving Inhabited
def cweftlaw11_Quiet (x : Qweftlaw11_Quiet) : List Value := [x.leases.v, x.wantLeases.v, x.events.v, x.wantEvents.v, .int .i64 x.much]
instance {a0 : Value} {ya0 : SH} {a1 : Value} {ya1 : SH} {a2 : Value} {ya2 : SH} {a3 : Value} {ya3 : SH} {a4 : Int} [la0 : Lf a0 ya0] [la1 : Lf a1 ya1] [la2 : Lf a2 ya2] [la3 : Lf a3 ya3] : Mk cweftlaw11_Quiet [a0, a1, a2, a3, .int .i64 a4] ⟨ya0, ya1, ya2, ya3, a4⟩ := ⟨by simp only [cweftlaw11_Quiet, la0.h, la1.h, la2.h, la3.h]⟩
instance : Cs cweftlaw11_Quiet 5 := ⟨fun _ => rfl, fun _ => rfl⟩
structure Qtimer_Timers where
  limit : Int
  heap : SH
  place : Option Nat
  deriving Inhabited
def ctimer_Timers (x : Qtimer_Timers) : List Value := [.int .i64 x.limit, x.heap.v, .map x.place]
instance {a0 : Int} {a1 : Value} {ya1 : SH} {a2 : Option Nat} [la1 : Lf a1 ya1] : Mk ctimer_Timers [.int .i64 a0, a1, .map a2] ⟨a0, ya1, a2⟩ := ⟨by simp only [ctimer_Timers, la1.h]⟩
instance : Cs ctimer_Timers 3 := ⟨fun _ => rfl, fun _ => rfl⟩
structure Qpool_Pool where
  network : QPrefix
  sublen : Int
  min : Int
  max : Int
  kept : SH
  isKept : Option Nat
  runs : SH
  deriving Inhabited
def cpool_Pool (x : Qpool_Pool) : List Value := [.int .u32 x.network.Addr, .int .i64 x.network.Len, .int .i64 x.sublen, .int .i64 x.min, .int .i64 x.max, x.kept.v, .map x.isKept, x.runs.v]
instance {a0 : Int} {a1 : Int} {a2 : Int} {a3 : Int} {a4 : Int} {a5 : Value} {ya5 : SH} {a6 : Option Nat} {a7 : Value} {ya7 : SH} [la5 : Lf a5 ya5] [la7 : Lf a7 ya7] : Mk cpool_Pool [.int .u32 a0, .int .i64 a1, .int .i64 a2, .int .i64 a3, .int .i64 a4, a5, .map a6, a7] ⟨⟨a0, a1⟩, a2, a3, a4, ya5, a6, ya7⟩ := ⟨by simp only [cpool_Pool, la5.h, la7.h]⟩
instance : Cs cpool_Pool 8 := ⟨fun _ => rfl, fun _ => rfl⟩
structure Qaddr_class where
  at_ : QPrefix
  num : Int
  deriving DecidableEq, Inhabited
def caddr_class (x : Qaddr_class) : List Value := [.int .u32 x.at_.Addr, .int .i64 x.at_.Len, .int .i64 x.num]
instance {a0 : Int} {a1 : Int} {a2 : Int}  : Mk caddr_class [.int .u32 a0, .int .i64 a1, .int .i64 a2] ⟨⟨a0, a1⟩, a2⟩ := ⟨rfl⟩
theorem iaddr_class {x y : Qaddr_class} : caddr_class x = caddr_class y ↔ x = y := by
  refine ⟨fun h => ?_, fun h => h ▸ rfl⟩
  obtain ⟨⟨x0, x1⟩, x2⟩ := x; obtain ⟨⟨y0, y1⟩, y2⟩ := y
  simp only [caddr_class, List.cons.injEq, Value.int.injEq, Value.bool.injEq, Value.string.injEq, true_and, and_true] at h
  obtain ⟨rfl, rfl, rfl⟩ := h; rfl
def kaddr_class : List LK := [.i .u32, .i .i64, .i .i64]
instance : Cs caddr_class 3 := ⟨fun _ => rfl, fun _ => rfl⟩
instance : Fk caddr_class inferInstance kaddr_class := ⟨fun _ => rfl, fun _ _ => iaddr_class⟩
structure Qpool_run where
  from_ : Int
  to : Int
  deriving DecidableEq, Inhabited
def cpool_run (x : Qpool_run) : List Value := [.int .i64 x.from_, .int .i64 x.to]
instance {a0 : Int} {a1 : Int}  : Mk cpool_run [.int .i64 a0, .int .i64 a1] ⟨a0, a1⟩ := ⟨rfl⟩
theorem ipool_run {x y : Qpool_run} : cpool_run x = cpool_run y ↔ x = y := by
  refine ⟨fun h => ?_, fun h => h ▸ rfl⟩
  obtain ⟨x0, x1⟩ := x; obtain ⟨y0, y1⟩ := y
  simp only [cpool_run, List.cons.injEq, Value.int.injEq, Value.bool.injEq, Value.string.injEq, true_and, and_true] at h
  obtain ⟨rfl, rfl⟩ := h; rfl
def kpool_run : List LK := [.i .i64, .i .i64]
instance : Cs cpool_run 2 := ⟨fun _ => rfl, fun _ => rfl⟩
instance : Fk cpool_run inferInstance kpool_run := ⟨fun _ => rfl, fun _ _ => ipool_run⟩
structure Qtimer_one where
  id : Int
  at_ : Int
  deriving DecidableEq, Inhabited
def ctimer_one (x : Qtimer_one) : List Value := [.int .i64 x.id, .int .i64 x.at_]
instance {a0 : Int} {a1 : Int}  : Mk ctimer_one [.int .i64 a0, .int .i64 a1] ⟨a0, a1⟩ := ⟨rfl⟩
theorem itimer_one {x y : Qtimer_one} : ctimer_one x = ctimer_one y ↔ x = y := by
  refine ⟨fun h => ?_, fun h => h ▸ rfl⟩
  obtain ⟨x0, x1⟩ := x; obtain ⟨y0, y1⟩ := y
  simp only [ctimer_one, List.cons.injEq, Value.int.injEq, Value.bool.injEq, Value.string.injEq, true_and, and_true] at h
  obtain ⟨rfl, rfl⟩ := h; rfl
def ktimer_one : List LK := [.i .i64, .i .i64]
instance : Cs ctimer_one 2 := ⟨fun _ => rfl, fun _ => rfl⟩
instance : Fk ctimer_one inferInstance ktimer_one := ⟨fun _ => rfl, fun _ _ => itimer_one⟩
instance (x : QPrefix) : Pt (cPrefix x) 0 2 (cPrefix x) := ⟨rfl⟩
instance (x : QConfig) : Pt (cConfig x) 0 18 (cConfig x) := ⟨rfl⟩
instance (x : QConfig) : Pt (cConfig x) 0 2 (cPrefix x.Network) := ⟨rfl⟩
instance (x : QMAC) : Pt (cMAC x) 0 6 (cMAC x) := ⟨rfl⟩
instance (x : QLease) : Pt (cLease x) 0 12 (cLease x) := ⟨rfl⟩
instance (x : QLease) : Pt (cLease x) 1 2 (cPrefix x.Subnet) := ⟨rfl⟩
instance (x : QLease) : Pt (cLease x) 4 6 (cMAC x.MAC) := ⟨rfl⟩
instance (x : QAnswer) : Pt (cAnswer x) 0 15 (cAnswer x) := ⟨rfl⟩
instance (x : QAnswer) : Pt (cAnswer x) 1 12 (cLease x.Lease) := ⟨rfl⟩
instance (x : QAnswer) : Pt (cAnswer x) 2 2 (cPrefix x.Lease.Subnet) := ⟨rfl⟩
instance (x : QAnswer) : Pt (cAnswer x) 5 6 (cMAC x.Lease.MAC) := ⟨rfl⟩
instance (x : QCmd) : Pt (cCmd x) 0 12 (cCmd x) := ⟨rfl⟩
instance (x : QCmd) : Pt (cCmd x) 2 2 (cPrefix x.Subnet) := ⟨rfl⟩
instance (x : QCmd) : Pt (cCmd x) 5 6 (cMAC x.MAC) := ⟨rfl⟩
instance (x : QSnap) : Pt (cSnap x) 0 3 (cSnap x) := ⟨rfl⟩
instance (x : QReserve) : Pt (cReserve x) 0 3 (cReserve x) := ⟨rfl⟩
instance (x : QReserve) : Pt (cReserve x) 1 2 (cPrefix x.Subnet) := ⟨rfl⟩
instance (x : QImage) : Pt (cImage x) 0 4 (cImage x) := ⟨rfl⟩
instance (x : QEvent) : Pt (cEvent x) 0 14 (cEvent x) := ⟨rfl⟩
instance (x : QEvent) : Pt (cEvent x) 2 12 (cLease x.Lease) := ⟨rfl⟩
instance (x : QEvent) : Pt (cEvent x) 3 2 (cPrefix x.Lease.Subnet) := ⟨rfl⟩
instance (x : QEvent) : Pt (cEvent x) 6 6 (cMAC x.Lease.MAC) := ⟨rfl⟩
instance (x : Qweftlaw11_Pair) : Pt (cweftlaw11_Pair x) 0 20 (cweftlaw11_Pair x) := ⟨rfl⟩
instance (x : Qweftlaw11_Pair) : Pt (cweftlaw11_Pair x) 0 18 (cConfig x.c) := ⟨rfl⟩
instance (x : Qweftlaw11_Pair) : Pt (cweftlaw11_Pair x) 0 2 (cPrefix x.c.Network) := ⟨rfl⟩
instance (x : Qweftlaw11_Op) : Pt (cweftlaw11_Op x) 0 17 (cweftlaw11_Op x) := ⟨rfl⟩
instance (x : Qweftlaw11_Op) : Pt (cweftlaw11_Op x) 2 12 (cCmd x.Cmd) := ⟨rfl⟩
instance (x : Qweftlaw11_Op) : Pt (cweftlaw11_Op x) 4 2 (cPrefix x.Cmd.Subnet) := ⟨rfl⟩
instance (x : Qweftlaw11_Op) : Pt (cweftlaw11_Op x) 7 6 (cMAC x.Cmd.MAC) := ⟨rfl⟩
instance (x : Qweftlaw11_Book) : Pt (cweftlaw11_Book x) 0 3 (cweftlaw11_Book x) := ⟨rfl⟩
instance (x : Qlease_history) : Pt (clease_history x) 0 2 (clease_history x) := ⟨rfl⟩
instance (x : Qlease_clock) : Pt (clease_clock x) 0 2 (clease_clock x) := ⟨rfl⟩
instance (x : Qlease_Store) : Pt (clease_Store x) 0 26 (clease_Store x) := ⟨rfl⟩
instance (x : Qlease_Store) : Pt (clease_Store x) 0 2 (clease_clock x.clock) := ⟨rfl⟩
instance (x : Qlease_Store) : Pt (clease_Store x) 2 2 (clease_history x.history) := ⟨rfl⟩
instance (x : Qlease_Store) : Pt (clease_Store x) 4 18 (cConfig x.config) := ⟨rfl⟩
instance (x : Qlease_Store) : Pt (clease_Store x) 4 2 (cPrefix x.config.Network) := ⟨rfl⟩
instance (x : Qweftref11_Store) : Pt (cweftref11_Store x) 0 22 (cweftref11_Store x) := ⟨rfl⟩
instance (x : Qweftref11_Store) : Pt (cweftref11_Store x) 0 18 (cConfig x.c) := ⟨rfl⟩
instance (x : Qweftref11_Store) : Pt (cweftref11_Store x) 0 2 (cPrefix x.c.Network) := ⟨rfl⟩
instance (x : Qweftlaw11_Quiet) : Pt (cweftlaw11_Quiet x) 0 5 (cweftlaw11_Quiet x) := ⟨rfl⟩
instance (x : Qtimer_Timers) : Pt (ctimer_Timers x) 0 3 (ctimer_Timers x) := ⟨rfl⟩
instance (x : Qpool_Pool) : Pt (cpool_Pool x) 0 8 (cpool_Pool x) := ⟨rfl⟩
instance (x : Qpool_Pool) : Pt (cpool_Pool x) 0 2 (cPrefix x.network) := ⟨rfl⟩
instance (x : Qaddr_class) : Pt (caddr_class x) 0 3 (caddr_class x) := ⟨rfl⟩
instance (x : Qaddr_class) : Pt (caddr_class x) 0 2 (cPrefix x.at_) := ⟨rfl⟩
instance (x : Qpool_run) : Pt (cpool_run x) 0 2 (cpool_run x) := ⟨rfl⟩
instance (x : Qtimer_one) : Pt (ctimer_one x) 0 2 (ctimer_one x) := ⟨rfl⟩
instance : TyR 2 Int (cInt .i64) := ⟨trivial⟩
instance : TyR 3 Int (cInt .i64) := ⟨trivial⟩
instance : TyR 4 Bool cBool := ⟨trivial⟩
instance : TyR 5 Int (cInt .u8) := ⟨trivial⟩
instance : TyR 22 Int (cInt .u32) := ⟨trivial⟩
instance : TyR 23 Int (cInt .u32) := ⟨trivial⟩
instance : TyR 25 QPrefix cPrefix := ⟨trivial⟩
instance : TyR 28 QConfig cConfig := ⟨trivial⟩
instance : TyR 33 Int (cInt .i64) := ⟨trivial⟩
instance : TyR 37 QMAC cMAC := ⟨trivial⟩
instance : TyR 39 QLease cLease := ⟨trivial⟩
instance : TyR 41 QAnswer cAnswer := ⟨trivial⟩
instance : TyR 44 QCmd cCmd := ⟨trivial⟩
instance : TyR 52 QSnap cSnap := ⟨trivial⟩
instance : TyR 58 QReserve cReserve := ⟨trivial⟩
instance : TyR 65 QImage cImage := ⟨trivial⟩
instance : TyR 72 QEvent cEvent := ⟨trivial⟩
instance : TyR 94 Qweftlaw11_Pair cweftlaw11_Pair := ⟨trivial⟩
instance : TyR 97 Qweftlaw11_Op cweftlaw11_Op := ⟨trivial⟩
instance : TyR 106 Qweftlaw11_Book cweftlaw11_Book := ⟨trivial⟩
instance : TyR 112 Qlease_history clease_history := ⟨trivial⟩
instance : TyR 116 Qlease_clock clease_clock := ⟨trivial⟩
instance : TyR 120 Qlease_Store clease_Store := ⟨trivial⟩
instance : TyR 130 Int (cInt .u64) := ⟨trivial⟩
instance : TyR 141 Qweftref11_Store cweftref11_Store := ⟨trivial⟩
instance : TyR 146 Qweftlaw11_Quiet cweftlaw11_Quiet := ⟨trivial⟩
instance : TyR 153 Int (cInt .u64) := ⟨trivial⟩
instance : TyR 157 Qtimer_Timers ctimer_Timers := ⟨trivial⟩
instance : TyR 163 Qpool_Pool cpool_Pool := ⟨trivial⟩
instance : TyR 192 Qaddr_class caddr_class := ⟨trivial⟩
instance : TyR 196 Int (cInt .u64) := ⟨trivial⟩
instance : TyR 222 Qpool_run cpool_run := ⟨trivial⟩
instance : TyR 224 Qtimer_one ctimer_one := ⟨trivial⟩
instance : TyR 235 Int (cInt .i64) := ⟨trivial⟩
instance : TyR 247 Int (cInt .i64) := ⟨trivial⟩
instance : TyR 257 Int (cInt .u64) := ⟨trivial⟩
instance : TyR 264 Int (cInt .u64) := ⟨trivial⟩
theorem cs_ : (∀ x, cPrefix x = [.int .u32 x.Addr, .int .i64 x.Len]) ∧ (∀ x, cConfig x = [.int .u32 x.Network.Addr, .int .i64 x.Network.Len, .int .i64 x.SubnetLen, .int .u32 x.Min, .int .u32 x.Max, .int .i64 x.VNI, .int .i64 x.Port, .int .i64 x.MTU, .int .i64 x.TTL, .int .i64 x.Renew, .int .i64 x.Log, .int .i64 x.Hosts, .int .u32 x.First, .int .i64 x.Routes, .int .i64 x.Neighs, .int .i64 x.Fdbs, .int .i64 x.Room, x.Reserved.v]) ∧ (∀ x, cMAC x = [.int .u8 x.b0, .int .u8 x.b1, .int .u8 x.b2, .int .u8 x.b3, .int .u8 x.b4, .int .u8 x.b5]) ∧ (∀ x, cLease x = [.int .i64 x.Host, .int .u32 x.Subnet.Addr, .int .i64 x.Subnet.Len, .int .u32 x.Pub, .int .u8 x.MAC.b0, .int .u8 x.MAC.b1, .int .u8 x.MAC.b2, .int .u8 x.MAC.b3, .int .u8 x.MAC.b4, .int .u8 x.MAC.b5, .int .i64 x.Until, .int .i64 x.Rev]) ∧ (∀ x, cAnswer x = [.int .i64 x.Err, .int .i64 x.Lease.Host, .int .u32 x.Lease.Subnet.Addr, .int .i64 x.Lease.Subnet.Len, .int .u32 x.Lease.Pub, .int .u8 x.Lease.MAC.b0, .int .u8 x.Lease.MAC.b1, .int .u8 x.Lease.MAC.b2, .int .u8 x.Lease.MAC.b3, .int .u8 x.Lease.MAC.b4, .int .u8 x.Lease.MAC.b5, .int .i64 x.Lease.Until, .int .i64 x.Lease.Rev, .int .i64 x.Rev, .int .i64 x.Now]) ∧ (∀ x, cCmd x = [.int .i64 x.Kind, .int .i64 x.Host, .int .u32 x.Subnet.Addr, .int .i64 x.Subnet.Len, .int .u32 x.Pub, .int .u8 x.MAC.b0, .int .u8 x.MAC.b1, .int .u8 x.MAC.b2, .int .u8 x.MAC.b3, .int .u8 x.MAC.b4, .int .u8 x.MAC.b5, .int .i64 x.N]) ∧ (∀ x, cSnap x = [.int .i64 x.Rev, .int .i64 x.Now, x.Leases.v]) ∧ (∀ x, cReserve x = [.int .i64 x.Host, .int .u32 x.Subnet.Addr, .int .i64 x.Subnet.Len]) ∧ (∀ x, cImage x = [.int .i64 x.Rev, .int .i64 x.Now, x.Leases.v, x.Events.v]) ∧ (∀ x, cEvent x = [.int .i64 x.Rev, .int .i64 x.Kind, .int .i64 x.Lease.Host, .int .u32 x.Lease.Subnet.Addr, .int .i64 x.Lease.Subnet.Len, .int .u32 x.Lease.Pub, .int .u8 x.Lease.MAC.b0, .int .u8 x.Lease.MAC.b1, .int .u8 x.Lease.MAC.b2, .int .u8 x.Lease.MAC.b3, .int .u8 x.Lease.MAC.b4, .int .u8 x.Lease.MAC.b5, .int .i64 x.Lease.Until, .int .i64 x.Lease.Rev]) ∧ (∀ x, cweftlaw11_Pair x = [.int .u32 x.c.Network.Addr, .int .i64 x.c.Network.Len, .int .i64 x.c.SubnetLen, .int .u32 x.c.Min, .int .u32 x.c.Max, .int .i64 x.c.VNI, .int .i64 x.c.Port, .int .i64 x.c.MTU, .int .i64 x.c.TTL, .int .i64 x.c.Renew, .int .i64 x.c.Log, .int .i64 x.c.Hosts, .int .u32 x.c.First, .int .i64 x.c.Routes, .int .i64 x.c.Neighs, .int .i64 x.c.Fdbs, .int .i64 x.c.Room, x.c.Reserved.v, .pointer x.a, .pointer x.b]) ∧ (∀ x, cweftlaw11_Op x = [.int .i64 x.Kind, .int .i64 x.Which, .int .i64 x.Cmd.Kind, .int .i64 x.Cmd.Host, .int .u32 x.Cmd.Subnet.Addr, .int .i64 x.Cmd.Subnet.Len, .int .u32 x.Cmd.Pub, .int .u8 x.Cmd.MAC.b0, .int .u8 x.Cmd.MAC.b1, .int .u8 x.Cmd.MAC.b2, .int .u8 x.Cmd.MAC.b3, .int .u8 x.Cmd.MAC.b4, .int .u8 x.Cmd.MAC.b5, .int .i64 x.Cmd.N, .int .i64 x.From, .int .i64 x.Max, .int .u32 x.A]) ∧ (∀ x, cweftlaw11_Book x = [x.leases.v, x.events.v, .int .i64 x.much]) ∧ (∀ x, clease_history x = [.int .i64 x.bound, x.events.v]) ∧ (∀ x, clease_clock x = [.int .i64 x.now, .int .i64 x.rev]) ∧ (∀ x, clease_Store x = [.int .i64 x.clock.now, .int .i64 x.clock.rev, .int .i64 x.history.bound, x.history.events.v, .int .u32 x.config.Network.Addr, .int .i64 x.config.Network.Len, .int .i64 x.config.SubnetLen, .int .u32 x.config.Min, .int .u32 x.config.Max, .int .i64 x.config.VNI, .int .i64 x.config.Port, .int .i64 x.config.MTU, .int .i64 x.config.TTL, .int .i64 x.config.Renew, .int .i64 x.config.Log, .int .i64 x.config.Hosts, .int .u32 x.config.First, .int .i64 x.config.Routes, .int .i64 x.config.Neighs, .int .i64 x.config.Fdbs, .int .i64 x.config.Room, x.config.Reserved.v, .map x.live, .map x.kept, .pointer x.ends, .pointer x.free]) ∧ (∀ x, cweftref11_Store x = [.int .u32 x.c.Network.Addr, .int .i64 x.c.Network.Len, .int .i64 x.c.SubnetLen, .int .u32 x.c.Min, .int .u32 x.c.Max, .int .i64 x.c.VNI, .int .i64 x.c.Port, .int .i64 x.c.MTU, .int .i64 x.c.TTL, .int .i64 x.c.Renew, .int .i64 x.c.Log, .int .i64 x.c.Hosts, .int .u32 x.c.First, .int .i64 x.c.Routes, .int .i64 x.c.Neighs, .int .i64 x.c.Fdbs, .int .i64 x.c.Room, x.c.Reserved.v, .int .i64 x.now, .int .i64 x.rev, x.leases.v, x.events.v]) ∧ (∀ x, cweftlaw11_Quiet x = [x.leases.v, x.wantLeases.v, x.events.v, x.wantEvents.v, .int .i64 x.much]) ∧ (∀ x, ctimer_Timers x = [.int .i64 x.limit, x.heap.v, .map x.place]) ∧ (∀ x, cpool_Pool x = [.int .u32 x.network.Addr, .int .i64 x.network.Len, .int .i64 x.sublen, .int .i64 x.min, .int .i64 x.max, x.kept.v, .map x.isKept, x.runs.v]) ∧ (∀ x, caddr_class x = [.int .u32 x.at_.Addr, .int .i64 x.at_.Len, .int .i64 x.num]) ∧ (∀ x, cpool_run x = [.int .i64 x.from_, .int .i64 x.to]) ∧ (∀ x, ctimer_one x = [.int .i64 x.id, .int .i64 x.at_]) := ⟨fun _ => rfl, fun _ => rfl, fun _ => rfl, fun _ => rfl, fun _ => rfl, fun _ => rfl, fun _ => rfl, fun _ => rfl, fun _ => rfl, fun _ => rfl, fun _ => rfl, fun _ => rfl, fun _ => rfl, fun _ => rfl, fun _ => rfl, fun _ => rfl, fun _ => rfl, fun _ => rfl, fun _ => rfl, fun _ => rfl, fun _ => rfl, fun _ => rfl, fun _ => rfl⟩
end Go.Proofs.YtdallmabajeajaaGreatDoor.Fw
set_option linter.all false
set_option maxRecDepth 100000
namespace Go.Proofs.YtdallmabajeajaaGreatDoor.Fw
open Go
def tyTab : List (Nat × (Bool × Nat)) := [(2, false, 1), (3, false, 1), (4, false, 1), (5, false, 1), (9, false, 1), (17, false, 1), (22, false, 1), (23, false, 1), (25, true, 2), (26, false, 1), (28, true, 18), (29, false, 1), (32, false, 1), (33, false, 1), (37, true, 6), (39, true, 12), (41, true, 15), (44, true, 12), (49, false, 1), (50, false, 1), (52, true, 3), (58, true, 3), (62, false, 1), (63, false, 1), (65, true, 4), (72, true, 14), (78, false, 1), (79, true, 36), (80, false, 1), (86, false, 1), (92, false, 1), (94, true, 20), (97, true, 17), (103, false, 1), (104, false, 1), (106, true, 3), (112, true, 2), (113, false, 1), (114, false, 1), (116, true, 2), (117, false, 1), (118, false, 1), (120, true, 26), (130, false, 1), (134, true, 8), (141, true, 22), (146, true, 5), (153, false, 1), (154, false, 1), (155, false, 1), (157, true, 3), (159, false, 1), (160, false, 1), (161, false, 1), (163, true, 8), (190, false, 1), (192, true, 3), (195, false, 1), (196, false, 1), (198, true, 3), (200, false, 1), (206, true, 2), (208, false, 1), (222, true, 2), (224, true, 2), (235, false, 1), (247, false, 1), (257, false, 1), (264, false, 1)]
def fdTab : List (Nat × (List (Nat × Nat))) := [(25, [(0, 23), (1, 3)]), (28, [(0, 25), (2, 3), (3, 23), (4, 23), (5, 3), (6, 3), (7, 3), (8, 2), (9, 2), (10, 3), (11, 3), (12, 23), (13, 3), (14, 3), (15, 3), (16, 3), (17, 26)]), (39, [(0, 3), (1, 25), (3, 23), (4, 37), (10, 2), (11, 2)]), (41, [(0, 33), (1, 39), (13, 2), (14, 2)]), (44, [(0, 3), (1, 3), (2, 25), (4, 23), (5, 37), (11, 2)]), (52, [(0, 2), (1, 2), (2, 50)]), (58, [(0, 3), (1, 25)]), (65, [(0, 2), (1, 2), (2, 50), (3, 63)]), (72, [(0, 2), (1, 3), (2, 39)]), (94, [(0, 28), (18, 32), (19, 86)]), (97, [(0, 3), (1, 3), (2, 44), (14, 2), (15, 3), (16, 23)]), (106, [(0, 103), (1, 104), (2, 3)]), (112, [(0, 3), (1, 63)]), (116, [(0, 2), (1, 2)]), (120, [(0, 116), (2, 112), (4, 28), (22, 113), (23, 114), (24, 117), (25, 118)]), (141, [(0, 28), (18, 2), (19, 2), (20, 50), (21, 63)]), (146, [(0, 103), (1, 103), (2, 104), (3, 104), (4, 3)]), (157, [(0, 3), (1, 155), (2, 154)]), (163, [(0, 25), (2, 3), (3, 2), (4, 2), (5, 160), (6, 159), (7, 161)]), (192, [(0, 25), (2, 3)]), (198, [(0, 17), (1, 195), (2, 196)]), (206, [(0, 78), (1, 200)]), (222, [(0, 2), (1, 2)]), (224, [(0, 3), (1, 2)])]
def stTab : List (Nat × (List (Nat × Nat))) := [(25, [(0, 1), (1, 1)]), (28, [(0, 2), (2, 1), (3, 1), (4, 1), (5, 1), (6, 1), (7, 1), (8, 1), (9, 1), (10, 1), (11, 1), (12, 1), (13, 1), (14, 1), (15, 1), (16, 1), (17, 1)]), (39, [(0, 1), (1, 2), (3, 1), (4, 6), (10, 1), (11, 1)]), (41, [(0, 1), (1, 12), (13, 1), (14, 1)]), (44, [(0, 1), (1, 1), (2, 2), (4, 1), (5, 6), (11, 1)]), (52, [(0, 1), (1, 1), (2, 1)]), (58, [(0, 1), (1, 2)]), (65, [(0, 1), (1, 1), (2, 1), (3, 1)]), (72, [(0, 1), (1, 1), (2, 12)]), (94, [(0, 18), (18, 1), (19, 1)]), (97, [(0, 1), (1, 1), (2, 12), (14, 1), (15, 1), (16, 1)]), (106, [(0, 1), (1, 1), (2, 1)]), (112, [(0, 1), (1, 1)]), (116, [(0, 1), (1, 1)]), (120, [(0, 2), (2, 2), (4, 18), (22, 1), (23, 1), (24, 1), (25, 1)]), (141, [(0, 18), (18, 1), (19, 1), (20, 1), (21, 1)]), (146, [(0, 1), (1, 1), (2, 1), (3, 1), (4, 1)]), (157, [(0, 1), (1, 1), (2, 1)]), (163, [(0, 2), (2, 1), (3, 1), (4, 1), (5, 1), (6, 1), (7, 1)]), (192, [(0, 2), (2, 1)]), (198, [(0, 1), (1, 1), (2, 1)]), (206, [(0, 1), (1, 1)]), (222, [(0, 1), (1, 1)]), (224, [(0, 1), (1, 1)])]
def slTab : List (Nat × Nat) := [(26, 58), (29, 5), (49, 25), (50, 39), (62, 44), (63, 72), (80, 97), (103, 50), (104, 63), (155, 224), (160, 2), (161, 222), (190, 192), (208, 3)]
def ptTab : List (Nat × Nat) := [(32, 120), (86, 141), (92, 94), (102, 106), (117, 157), (118, 163), (144, 146), (241, 116), (245, 112), (261, 3), (267, 257), (270, 264), (281, 5)]
def arTab : List (Nat × (Nat × Nat)) := [(37, 6, 5), (79, 2, 28), (134, 8, 92)]
def inTab : List (Nat × IntKind) := [(2, .i64), (3, .i64), (5, .u8), (22, .u32), (23, .u32), (33, .i64), (130, .u64), (153, .u64), (196, .u64), (235, .i64), (247, .i64), (257, .u64), (264, .u64)]
def zeTab : List (Nat × (List Value)) := [(2, [.int .i64 0]), (3, [.int .i64 0]), (4, [.bool false]), (5, [.int .u8 0]), (9, [.string .empty]), (17, [.pointer none]), (22, [.int .u32 0]), (23, [.int .u32 0]), (25, [.int .u32 0, .int .i64 0]), (26, [.slice none 0 0]), (28, [.int .u32 0, .int .i64 0, .int .i64 0, .int .u32 0, .int .u32 0, .int .i64 0, .int .i64 0, .int .i64 0, .int .i64 0, .int .i64 0, .int .i64 0, .int .i64 0, .int .u32 0, .int .i64 0, .int .i64 0, .int .i64 0, .int .i64 0, .slice none 0 0]), (29, [.slice none 0 0]), (32, [.pointer none]), (33, [.int .i64 0]), (37, [.int .u8 0, .int .u8 0, .int .u8 0, .int .u8 0, .int .u8 0, .int .u8 0]), (39, [.int .i64 0, .int .u32 0, .int .i64 0, .int .u32 0, .int .u8 0, .int .u8 0, .int .u8 0, .int .u8 0, .int .u8 0, .int .u8 0, .int .i64 0, .int .i64 0]), (41, [.int .i64 0, .int .i64 0, .int .u32 0, .int .i64 0, .int .u32 0, .int .u8 0, .int .u8 0, .int .u8 0, .int .u8 0, .int .u8 0, .int .u8 0, .int .i64 0, .int .i64 0, .int .i64 0, .int .i64 0]), (44, [.int .i64 0, .int .i64 0, .int .u32 0, .int .i64 0, .int .u32 0, .int .u8 0, .int .u8 0, .int .u8 0, .int .u8 0, .int .u8 0, .int .u8 0, .int .i64 0]), (49, [.slice none 0 0]), (50, [.slice none 0 0]), (52, [.int .i64 0, .int .i64 0, .slice none 0 0]), (58, [.int .i64 0, .int .u32 0, .int .i64 0]), (62, [.slice none 0 0]), (63, [.slice none 0 0]), (65, [.int .i64 0, .int .i64 0, .slice none 0 0, .slice none 0 0]), (72, [.int .i64 0, .int .i64 0, .int .i64 0, .int .u32 0, .int .i64 0, .int .u32 0, .int .u8 0, .int .u8 0, .int .u8 0, .int .u8 0, .int .u8 0, .int .u8 0, .int .i64 0, .int .i64 0]), (78, [.nilFunc]), (79, [.int .u32 0, .int .i64 0, .int .i64 0, .int .u32 0, .int .u32 0, .int .i64 0, .int .i64 0, .int .i64 0, .int .i64 0, .int .i64 0, .int .i64 0, .int .i64 0, .int .u32 0, .int .i64 0, .int .i64 0, .int .i64 0, .int .i64 0, .slice none 0 0, .int .u32 0, .int .i64 0, .int .i64 0, .int .u32 0, .int .u32 0, .int .i64 0, .int .i64 0, .int .i64 0, .int .i64 0, .int .i64 0, .int .i64 0, .int .i64 0, .int .u32 0, .int .i64 0, .int .i64 0, .int .i64 0, .int .i64 0, .slice none 0 0]), (80, [.slice none 0 0]), (86, [.pointer none]), (92, [.pointer none]), (94, [.int .u32 0, .int .i64 0, .int .i64 0, .int .u32 0, .int .u32 0, .int .i64 0, .int .i64 0, .int .i64 0, .int .i64 0, .int .i64 0, .int .i64 0, .int .i64 0, .int .u32 0, .int .i64 0, .int .i64 0, .int .i64 0, .int .i64 0, .slice none 0 0, .pointer none, .pointer none]), (97, [.int .i64 0, .int .i64 0, .int .i64 0, .int .i64 0, .int .u32 0, .int .i64 0, .int .u32 0, .int .u8 0, .int .u8 0, .int .u8 0, .int .u8 0, .int .u8 0, .int .u8 0, .int .i64 0, .int .i64 0, .int .i64 0, .int .u32 0]), (103, [.slice none 0 0]), (104, [.slice none 0 0]), (106, [.slice none 0 0, .slice none 0 0, .int .i64 0]), (112, [.int .i64 0, .slice none 0 0]), (113, [.map none]), (114, [.map none]), (116, [.int .i64 0, .int .i64 0]), (117, [.pointer none]), (118, [.pointer none]), (120, [.int .i64 0, .int .i64 0, .int .i64 0, .slice none 0 0, .int .u32 0, .int .i64 0, .int .i64 0, .int .u32 0, .int .u32 0, .int .i64 0, .int .i64 0, .int .i64 0, .int .i64 0, .int .i64 0, .int .i64 0, .int .i64 0, .int .u32 0, .int .i64 0, .int .i64 0, .int .i64 0, .int .i64 0, .slice none 0 0, .map none, .map none, .pointer none, .pointer none]), (130, [.int .u64 0]), (134, [.pointer none, .pointer none, .pointer none, .pointer none, .pointer none, .pointer none, .pointer none, .pointer none]), (141, [.int .u32 0, .int .i64 0, .int .i64 0, .int .u32 0, .int .u32 0, .int .i64 0, .int .i64 0, .int .i64 0, .int .i64 0, .int .i64 0, .int .i64 0, .int .i64 0, .int .u32 0, .int .i64 0, .int .i64 0, .int .i64 0, .int .i64 0, .slice none 0 0, .int .i64 0, .int .i64 0, .slice none 0 0, .slice none 0 0]), (146, [.slice none 0 0, .slice none 0 0, .slice none 0 0, .slice none 0 0, .int .i64 0]), (153, [.int .u64 0]), (154, [.map none]), (155, [.slice none 0 0]), (157, [.int .i64 0, .slice none 0 0, .map none]), (159, [.map none]), (160, [.slice none 0 0]), (161, [.slice none 0 0]), (163, [.int .u32 0, .int .i64 0, .int .i64 0, .int .i64 0, .int .i64 0, .slice none 0 0, .map none, .slice none 0 0]), (190, [.slice none 0 0]), (192, [.int .u32 0, .int .i64 0, .int .i64 0]), (196, [.int .u64 0]), (200, [.nilFunc]), (206, [.nilFunc, .nilFunc]), (208, [.slice none 0 0]), (222, [.int .i64 0, .int .i64 0]), (224, [.int .i64 0, .int .i64 0]), (235, [.int .i64 0]), (247, [.int .i64 0]), (257, [.int .u64 0]), (264, [.int .u64 0])]
def byTab : List (Nat × Nat) := [(2, 8), (3, 8), (4, 1), (5, 1), (9, 16), (17, 8), (22, 4), (23, 4), (25, 16), (26, 24), (28, 152), (29, 24), (32, 8), (33, 8), (37, 6), (39, 56), (41, 80), (44, 56), (49, 24), (50, 24), (52, 40), (58, 24), (62, 24), (63, 24), (65, 64), (72, 72), (78, 8), (79, 304), (80, 24), (86, 8), (92, 8), (94, 168), (97, 96), (103, 24), (104, 24), (106, 56), (112, 32), (113, 8), (114, 8), (116, 16), (117, 8), (118, 8), (120, 232), (130, 8), (134, 64), (141, 216), (146, 104), (153, 8), (154, 8), (155, 24), (157, 40), (159, 8), (160, 24), (161, 24), (163, 96), (190, 24), (192, 24), (196, 8), (200, 8), (206, 16), (208, 24), (222, 16), (224, 16), (235, 8), (247, 8), (257, 8), (264, 8)]
def maTab : List (Nat × (Nat × Nat)) := [(113, 3, 39), (114, 3, 25), (154, 3, 3), (159, 2, 3), (175, 3, 72), (193, 25, 3)]
def eqTab : List (Nat × (List LK)) := [(25, kPrefix), (37, kMAC), (39, kLease), (41, kAnswer), (44, kCmd), (58, kReserve), (72, kEvent), (97, kweftlaw11_Op), (116, klease_clock), (192, kaddr_class), (222, kpool_run), (224, ktimer_one)]
def niTab : List (Nat × Unit) := [(4, ()), (9, ()), (17, ()), (25, ()), (26, ()), (28, ()), (29, ()), (32, ()), (37, ()), (39, ()), (41, ()), (44, ()), (49, ()), (50, ()), (52, ()), (58, ()), (62, ()), (63, ()), (65, ()), (72, ()), (78, ()), (79, ()), (80, ()), (86, ()), (92, ()), (94, ()), (97, ()), (103, ()), (104, ()), (106, ()), (112, ()), (113, ()), (114, ()), (116, ()), (117, ()), (118, ()), (120, ()), (134, ()), (141, ()), (146, ()), (154, ()), (155, ()), (157, ()), (159, ()), (160, ()), (161, ()), (163, ()), (190, ()), (192, ()), (195, ()), (198, ()), (200, ()), (206, ()), (208, ()), (222, ()), (224, ())]
def boTab : List (Nat × Unit) := [(4, ())]
theorem tyOk : (tyTab.all fun p => decide (tyI Tryz.prog p.1 = some p.2)) = true := by kernel_rfl
theorem tt {T : TypeId} {x : Bool × Nat} (h : lkN tyTab T = some x) : tyI Tryz.prog T = some x := of_decide_eq_true (List.all_eq_true.1 tyOk _ (lkN_mem h))
theorem stOk : (stTab.all fun p => decide (stI Tryz.prog p.1 = some p.2)) = true := by kernel_rfl
theorem stt {T : TypeId} {x : List (Nat × Nat)} (h : lkN stTab T = some x) : stI Tryz.prog T = some x := of_decide_eq_true (List.all_eq_true.1 stOk _ (lkN_mem h))
theorem slOk : (slTab.all fun p => decide (slI Tryz.prog p.1 = some p.2)) = true := by kernel_rfl
theorem slt {T : TypeId} {x : Nat} (h : lkN slTab T = some x) : slI Tryz.prog T = some x := of_decide_eq_true (List.all_eq_true.1 slOk _ (lkN_mem h))
theorem ptOk : (ptTab.all fun p => decide (ptI Tryz.prog p.1 = some p.2)) = true := by kernel_rfl
theorem ptt {T : TypeId} {x : Nat} (h : lkN ptTab T = some x) : ptI Tryz.prog T = some x := of_decide_eq_true (List.all_eq_true.1 ptOk _ (lkN_mem h))
theorem arOk : (arTab.all fun p => decide (arI Tryz.prog p.1 = some p.2)) = true := by kernel_rfl
theorem art {T : TypeId} {x : Nat × Nat} (h : lkN arTab T = some x) : arI Tryz.prog T = some x := of_decide_eq_true (List.all_eq_true.1 arOk _ (lkN_mem h))
theorem inOk : (inTab.all fun p => decide (inI Tryz.prog p.1 = some p.2)) = true := by kernel_rfl
theorem int_ {T : TypeId} {x : IntKind} (h : lkN inTab T = some x) : inI Tryz.prog T = some x := of_decide_eq_true (List.all_eq_true.1 inOk _ (lkN_mem h))
theorem zeOk : (zeTab.all fun p => match zeI Tryz.prog p.1 with | some l => sameV l p.2 | none => false) = true := by kernel_rfl
theorem zet {T : TypeId} {x : List Value} (h : lkN zeTab T = some x) : zeI Tryz.prog T = some x := zeOf zeOk h
theorem byOk : (byTab.all fun p => decide (byI Tryz.prog p.1 = some p.2)) = true := by kernel_rfl
theorem byt {T : TypeId} {x : Nat} (h : lkN byTab T = some x) : byI Tryz.prog T = some x := of_decide_eq_true (List.all_eq_true.1 byOk _ (lkN_mem h))
theorem maOk : (maTab.all fun p => decide (maI Tryz.prog p.1 = some p.2)) = true := by kernel_rfl
theorem mat {T : TypeId} {x : Nat × Nat} (h : lkN maTab T = some x) : maI Tryz.prog T = some x := of_decide_eq_true (List.all_eq_true.1 maOk _ (lkN_mem h))
theorem fdOk : (fdTab.all fun p => (List.range p.2.length).all fun i => decide (fdI Tryz.prog p.1 i = p.2[i]?)) = true := by kernel_rfl
theorem ft {T : TypeId} {l : List (Nat × Nat)} {i : Nat} {x : Nat × Nat} (h : lkN fdTab T = some l) (hi : l[i]? = some x) : fdI Tryz.prog T i = some x := by
  have h1 := of_decide_eq_true (List.all_eq_true.1 (List.all_eq_true.1 fdOk _ (lkN_mem h)) i (List.mem_range.2 (List.getElem?_eq_some_iff.1 hi).1)); rw [h1]; exact hi
theorem niOk : (niTab.all fun p => notInt Tryz.prog p.1) = true := by kernel_rfl
theorem nit {T : TypeId} (h : lkN niTab T = some ()) : notInt Tryz.prog T = true := List.all_eq_true.1 niOk _ (lkN_mem h)
theorem boOk : (boTab.all fun p => match Tryz.prog.underlying p.1 with | some .bool => true | _ => false) = true := by kernel_rfl
theorem bot {T : TypeId} (h : lkN boTab T = some ()) : Tryz.prog.underlying T = some .bool := by
  have h1 := List.all_eq_true.1 boOk _ (lkN_mem h); revert h1; simp only; split <;> simp_all
theorem eqOk : (eqTab.all fun p => eqTB Tryz.prog p.1 p.2) = true := by kernel_rfl
theorem eqt {T : TypeId} {ks : List LK} (h : lkN eqTab T = some ks) : EqT Tryz.prog T ks := eqTB_spec (List.all_eq_true.1 eqOk _ (lkN_mem h))
def caTab : List Nat := [3, 4, 5, 6, 7, 8, 9, 10, 11, 12, 13, 14, 15, 16, 17, 18, 19, 20, 21, 22, 23, 24, 25, 26, 27, 28, 29, 30, 31, 32, 33, 34, 35, 36, 37, 38, 39, 40, 41, 42, 43, 44, 45, 46, 47, 48, 49, 50, 51, 52, 53, 54, 55, 56, 57, 58, 59, 60, 61, 62, 63, 64, 65, 66, 67, 68, 69, 70, 71, 72, 73, 74, 75, 76, 77, 78, 79, 80, 81, 82, 83, 84, 85, 86, 87, 88, 89, 90, 91, 92, 93, 94, 95, 96, 97, 98, 99, 100, 101, 102, 103, 104, 105, 106, 107, 108, 109, 110, 111, 112, 113, 114, 115, 116, 117, 118, 119, 123, 124, 125, 126, 127, 128, 129, 130, 131, 132, 133, 134, 135, 136, 137, 138, 139, 140, 141, 142, 143, 144, 145, 146, 147, 148, 149, 150, 151, 152, 153, 154, 164, 165, 166, 167, 168, 169, 170, 171, 172, 173, 174, 175, 176, 177, 178, 179, 180, 181, 182, 183, 184, 185, 186, 187, 188, 189, 190, 191, 192, 193, 194, 195, 196, 197, 198, 199, 200, 201, 202, 203, 204, 205]
theorem caOk : (caTab.all fun f => callable Tryz.prog f) = true := by kernel_rfl
theorem cat {f : FuncId} (h : caTab.elem f = true) : callable Tryz.prog f = true := List.all_eq_true.1 caOk _ (List.mem_of_elem_eq_true h)
def zvTab : List (Nat × (List Value × Bool)) := [(3, [.int .i64 0], false), (25, [.int .u32 0, .int .i64 0], true), (39, [.int .i64 0, .int .u32 0, .int .i64 0, .int .u32 0, .int .u8 0, .int .u8 0, .int .u8 0, .int .u8 0, .int .u8 0, .int .u8 0, .int .i64 0, .int .i64 0], true), (72, [.int .i64 0, .int .i64 0, .int .i64 0, .int .u32 0, .int .i64 0, .int .u32 0, .int .u8 0, .int .u8 0, .int .u8 0, .int .u8 0, .int .u8 0, .int .u8 0, .int .i64 0, .int .i64 0], true)]
theorem zvOk : (zvTab.all fun p => zvB Tryz.prog p.1 p.2.1 p.2.2) = true := by kernel_rfl
theorem zva_ {α : Type} {c : α → List Value} {T : TypeId} {zs : List Value} {u : α} (h : lkN zvTab T = some (zs, true)) (hm : Mk c zs u) : zvI Tryz.prog T = some (vAgg c u) := by have := zvB_agg (List.all_eq_true.1 zvOk _ (lkN_mem h)); rw [this, vAgg, hm.h]
theorem zvs_ {T : TypeId} {k : IntKind} {n : Int} (h : lkN zvTab T = some ([.int k n], false)) : zvI Tryz.prog T = some (vInt k n) := zvB_sc (List.all_eq_true.1 zvOk _ (lkN_mem h))
instance : Ky Tryz.prog 2 inferInstance (vInt .i64) := ⟨key_int (inI_spec (int_ rfl))⟩
instance : Ky Tryz.prog 3 inferInstance (vInt .i64) := ⟨key_int (inI_spec (int_ rfl))⟩
def pureTab : List Nat := [23, 27, 29, 34, 57, 59, 68, 83, 84, 85, 86, 87, 88, 90, 99, 101, 102, 111, 115, 116, 117, 118, 119, 125, 130, 138, 139, 146, 151, 153, 154, 175, 185, 186, 187]
theorem mo : Tryz.prog.follows .mixedOrders = true := by kernel_rfl
end Go.Proofs.YtdallmabajeajaaGreatDoor.Fw
set_option linter.all false
namespace Go.Proofs.YtdallmabajeajaaGreatDoor.Fw
open Go
theorem RCa_ {w0 : World} {R : Hh} {Ps : List HP} {k : Nat} {v : Value} {ds : List (List Value)} (h : RC (Hp w0 R Ps) k v ds := by first | (apply rc_own; (first | exact r0 | exact r1 | exact r2 | exact r3 | exact r4 | exact r5 | exact r6 | exact r7 | exact r8 | exact r9 | exact r10 | exact r11 | exact r12 | exact r13 | exact r14 | exact r15 | exact r16 | exact r17 | exact r18 | exact r19)) | (apply rc_fr; assumption) | (apply rcW_; (first | (apply rc_own; (first | exact r0 | exact r1 | exact r2 | exact r3 | exact r4 | exact r5 | exact r6 | exact r7 | exact r8 | exact r9 | exact r10 | exact r11 | exact r12 | exact r13 | exact r14 | exact r15 | exact r16 | exact r17 | exact r18 | exact r19)) | (apply rc_fr; assumption)); (try simp only [List.length_map]); omega) | (apply rcU_; (first | (apply rc_own; (first | exact r0 | exact r1 | exact r2 | exact r3 | exact r4 | exact r5 | exact r6 | exact r7 | exact r8 | exact r9 | exact r10 | exact r11 | exact r12 | exact r13 | exact r14 | exact r15 | exact r16 | exact r17 | exact r18 | exact r19)) | (apply rc_fr; assumption) | (apply rcW_; (first | (apply rc_own; (first | exact r0 | exact r1 | exact r2 | exact r3 | exact r4 | exact r5 | exact r6 | exact r7 | exact r8 | exact r9 | exact r10 | exact r11 | exact r12 | exact r13 | exact r14 | exact r15 | exact r16 | exact r17 | exact r18 | exact r19)) | (apply rc_fr; assumption)); (try simp only [List.length_map]); omega)); (try simp only [List.length_map, List.length_drop]); omega)) : RC (Hp w0 R Ps) k v ds := h
section
variable {n : Nat} {L : List (Nat × Value)} {C : World → Prop} {d : Nat} {op : Op} {ty : TypeId} {pos : String} {aft : Array Edge} {v : Value} {gd : Option (Nat × Bool)} {od : Option Tmp} {o : Oper} {ops : Array Oper}
theorem OA_ (h : OkS Tryz.prog C L ⟨od, op, ty, pos, aft, gd⟩ v := by first
  | (apply e1_; rfl)
  | (apply e3_; rfl; exact ft rfl rfl; exact tt rfl; (simp only [Nat.reduceAdd]; rfl))
  | (apply e5_; rfl; exact tt rfl; (first | (apply bx_at; (first | exact r0 | exact r1 | exact r2 | exact r3 | exact r4 | exact r5 | exact r6 | exact r7 | exact r8 | exact r9 | exact r10 | exact r11 | exact r12 | exact r13 | exact r14 | exact r15 | exact r16 | exact r17 | exact r18 | exact r19)) | (apply fr_at; assumption)); rfl)
  | (apply e4_; rfl)
  | (apply e2_; rfl)
  | (apply e6_; rfl)
  | (apply e7_; rfl; rfl)
  | (apply e8_; rfl; exact ft rfl rfl; exact tt rfl; rfl)
  | (apply e9_; rfl; rfl; omega; omega)
  | (apply e10_; rfl; rfl; omega; omega)
  | (apply m1_; rfl; rfl; omega; omega)
  | (apply e11_; rfl; rfl; rfl)
  | (apply e13_; rfl; rfl)
  | (apply f1_; rfl; rfl; rfl; assumption)
  | (apply f2_; rfl; rfl; rfl; assumption)
  | (apply e15_; rfl; rfl; rfl)
  | (apply g1_; rfl; exact slt rfl; (exact RCa_))
  | (apply g2_; rfl; rfl; exact slt rfl; exact tt rfl; (exact RCa_); omega; omega)
  | (apply e5_; rfl; exact tt rfl; (apply at_cat; (exact RCa_); omega; omega; infer_instance); rfl)
  | (apply f12_; rfl; exact tt rfl; (first | (apply bx_at; (first | exact r0 | exact r1 | exact r2 | exact r3 | exact r4 | exact r5 | exact r6 | exact r7 | exact r8 | exact r9 | exact r10 | exact r11 | exact r12 | exact r13 | exact r14 | exact r15 | exact r16 | exact r17 | exact r18 | exact r19)) | (apply fr_at; assumption)); infer_instance; rfl)
  | (apply f10_; rfl; exact tt rfl; (first | (apply bx_at; (first | exact r0 | exact r1 | exact r2 | exact r3 | exact r4 | exact r5 | exact r6 | exact r7 | exact r8 | exact r9 | exact r10 | exact r11 | exact r12 | exact r13 | exact r14 | exact r15 | exact r16 | exact r17 | exact r18 | exact r19)) | (apply fr_at; assumption)); rfl; rfl)
  | (apply f12_; rfl; exact tt rfl; (apply at_cat; (exact RCa_); omega; omega; infer_instance); infer_instance; rfl)
  | (apply f10_; rfl; exact tt rfl; (apply at_cat; (exact RCa_); omega; omega; infer_instance); rfl; rfl)
  | (apply f13_; rfl; exact ft rfl rfl; exact tt rfl; infer_instance)
  | (apply f11_; rfl; exact ft rfl rfl; exact tt rfl; rfl)
  | (apply g3_; rfl; rfl; exact eqt rfl; infer_instance)
  | (apply g4_; rfl; rfl; exact eqt rfl; infer_instance)
  | (apply OkS.mk; apply ok_eqB; rfl; rfl; exact bot rfl)
  | (apply OkS.mk; apply ok_neB; rfl; rfl; exact bot rfl)
  | (apply f5_; rfl; exact int_ rfl; exact int_ rfl)
  | (apply f3_; rfl; rfl; omega)
  | (apply f4_; rfl; rfl; omega)
  | (apply g5_; exact stt rfl; exact zet rfl; rfl; (repeat (first | exact fill_nil | (apply fill_step; rfl; rfl; rfl; (simp only [cs_, putAt, List.set_cons_succ, List.set_cons_zero, Nat.add_zero]; rfl)))); infer_instance; infer_instance)
  | (apply OkS.mk; apply ok_build; exact stt rfl; exact zet rfl; rfl; rfl)
  | (apply OkS.mk; apply ok_min; rfl; rfl; rfl)
  | (apply OkS.mk; apply ok_max; rfl; rfl; rfl)
  | (apply h4_; rfl; (first | exact r0 | exact r1 | exact r2 | exact r3 | exact r4 | exact r5 | exact r6 | exact r7 | exact r8 | exact r9 | exact r10 | exact r11 | exact r12 | exact r13 | exact r14 | exact r15 | exact r16 | exact r17 | exact r18 | exact r19); rfl; exact mat rfl; exact Ky.h; (first | (apply zva_; rfl; infer_instance) | (apply zvs_; rfl)))
  | (apply h5_; rfl; (first | exact r0 | exact r1 | exact r2 | exact r3 | exact r4 | exact r5 | exact r6 | exact r7 | exact r8 | exact r9 | exact r10 | exact r11 | exact r12 | exact r13 | exact r14 | exact r15 | exact r16 | exact r17 | exact r18 | exact r19); rfl; exact mat rfl; exact Ky.h; (first | (apply zva_; rfl; infer_instance) | (apply zvs_; rfl)))
  | (apply h3_; rfl; exact mat rfl; (first | exact r0 | exact r1 | exact r2 | exact r3 | exact r4 | exact r5 | exact r6 | exact r7 | exact r8 | exact r9 | exact r10 | exact r11 | exact r12 | exact r13 | exact r14 | exact r15 | exact r16 | exact r17 | exact r18 | exact r19))
  | (apply f6n_; rfl; rfl; omega; omega; omega)
  | (apply f7n_; rfl; rfl; omega; omega)
  | (apply f6_; rfl; rfl; omega)
  | (apply f7_; rfl; rfl; omega)
  | (apply f8_; rfl)
  | (apply mf_; rfl; rfl)
  | (apply OkS.mk; apply ok_isNilS; rfl; rfl; exact slt rfl)
  | (apply OkS.mk; apply ok_notNilS; rfl; rfl; exact slt rfl)
  | (apply ent_; rfl; (first | exact r0 | exact r1 | exact r2 | exact r3 | exact r4 | exact r5 | exact r6 | exact r7 | exact r8 | exact r9 | exact r10 | exact r11 | exact r12 | exact r13 | exact r14 | exact r15 | exact r16 | exact r17 | exact r18 | exact r19))
  | (apply sl1_; rfl; rfl; exact slt rfl; exact tt rfl; (exact RCa_); omega; omega)
  | (apply sl2_; rfl; rfl; exact slt rfl; exact tt rfl; (exact RCa_); omega; omega)
  | (apply sl3_; rfl; rfl; rfl; exact slt rfl; exact tt rfl; (exact RCa_); omega; omega; omega)) : Ok Tryz.prog C L ⟨od, op, ty, pos, aft, gd⟩ v := h.h
theorem SA_ (h : Stp Tryz.prog ops n C L o d v := by first | (apply p_; (exact OA_); rfl) | (apply pgx_; rfl; rfl; rfl; (first | rfl | assumption); exact OA_) | (apply pox_; rfl; rfl; rfl; (first | rfl | assumption)) | exact pu_) : Stp Tryz.prog ops n C L o d v := h
theorem QA_ (h : Stq Tryz.prog ops n C L o d v := by first | (apply q_; (exact OA_); rfl) | (apply qgx_; rfl; rfl; rfl; (first | rfl | assumption); exact OA_) | (apply qox_; rfl; rfl; rfl; (first | rfl | assumption)) | exact qu_) : Stq Tryz.prog ops n C L o d v := h
end
class Cp (f : FuncId) (us : List Value) (R : Hh) (Ps : List HP) (pre : outParam Prop) (v : outParam Value) : Prop where
  h : pre → Ctp Tryz.prog f us R Ps v
section
variable {ops : Array Oper} {Q : Exit → Act → World → Prop} {rest : List Oper} {n : Nat} {L : List (Nat × Value)} {w w0 : World} {R : Hh} {Ps Pc Pr : List HP} {d : Nat} {v : Value} {ty : TypeId} {pos : String} {aft : Array Edge} {c : Operand} {f : FuncId} {first cap vs us : List Value} {xs : List Operand} {tys : Array TypeId} {P : Program} {pre : Prop}
theorem v24_ (hc : ev L c = some (.func (.func f) #[] #[])) (hx : evs L xs = some us) (hd : Nat.blt d n = true) (hf : callable Tryz.prog f = true) (h : ∀ R, Cp f us R [] pre v) (hp : pre) : Av n w0 R L Ps (.li Tryz.prog ops Q (⟨some d, .call ⟨.value c, ⟨xs⟩, tys⟩, ty, pos, aft, none⟩ :: rest)) ((d, v) :: L) Ps (.li Tryz.prog ops Q rest) :=
  ctp_li (fun _ _ _ => (h _).h hp) .n hf hc hx (by simp) hd
theorem v25_ (hc : ev L c = some (.func (.func f) #[] #[])) (hx : evs L xs = some us) (hd : Nat.blt d n = true) (hf : callable Tryz.prog f = true) (h : ∀ R, Cp f us R [] pre v) (hp : pre) {F : GF} : Av n w0 R L Ps (.qu Tryz.prog ops (Hp w0 R Ps) F (⟨some d, .call ⟨.value c, ⟨xs⟩, tys⟩, ty, pos, aft, none⟩ :: rest)) ((d, v) :: L) Ps (.qu Tryz.prog ops (Hp w0 R Ps) F rest) :=
  ctp_qu (fun _ _ _ => (h _).h hp) .n hf hc hx (by simp) hd
end
section
variable {n : Nat} {L L' : List (Nat × Value)} {w0 : World} {R : Hh} {Ps Ps' : List HP} {F F' : GF}
theorem A1_ (h : Av n w0 R L Ps F L' Ps' F' := by first
  | (apply v1_ (pt := pureTab); rfl; exact SA_)
  | (apply v22_; exact QA_)
  | exact v2_
  | exact v3_
  | exact v6_
  | exact v9_
  | (apply v20_ (pt := pureTab) mo; rfl; kernel_rfl)
  | exact v23_
  | exact v8_
  | exact v7_
  | (apply v21_ (pt := pureTab) mo; rfl; kernel_rfl)
  | (apply v18_; rfl)
  | (apply v19_; rfl)
  | exact v5_
  | exact v10_
  | exact v11_
  | exact v12_
  | exact v13_
  | exact v14_
  | exact v15_
  | exact v16_
  | (apply v17_; rfl)
  | exact v34_
  | (apply hn_; (repeat (first | exact SA.n | (apply SA.s; decide +kernel) | (apply SA.c; (focus ((repeat (first | exact Sub.n | (apply Sub.c; (first | exact r0 | exact r1 | exact r2 | exact r3 | exact r4 | exact r5 | exact r6 | exact r7 | exact r8 | exact r9 | exact r10 | exact r11 | exact r12 | exact r13 | exact r14 | exact r15 | exact r16 | exact r17 | exact r18 | exact r19)))); done))))); done)
  | exact v4_
  | exact v30_ mo
  | exact v31_ mo
  | (apply v32_ (pt := pureTab); rfl; decide +kernel)
  | (apply v33_ (pt := pureTab); rfl; decide +kernel)
  | (apply v28_; rfl; rfl; exact tt rfl; rfl; (first | exact s0 | exact s1 | exact s2 | exact s3 | exact s4 | exact s5 | exact s6 | exact s7 | exact s8 | exact s9 | exact s10 | exact s11 | exact s12 | exact s13 | exact s14 | exact s15 | exact s16 | exact s17 | exact s18 | exact s19); infer_instance; (simp only [cs_, putAt, List.set_cons_succ, List.set_cons_zero, Nat.add_zero]; rfl); infer_instance; rfl)
  | (apply v26_; rfl; rfl; exact tt rfl; rfl; (first | exact s0 | exact s1 | exact s2 | exact s3 | exact s4 | exact s5 | exact s6 | exact s7 | exact s8 | exact s9 | exact s10 | exact s11 | exact s12 | exact s13 | exact s14 | exact s15 | exact s16 | exact s17 | exact s18 | exact s19); (simp only [cs_, putAt, List.set_cons_succ, List.set_cons_zero, Nat.add_zero]; rfl); rfl)
  | (apply v29_; rfl; rfl; exact tt rfl; (first | exact r0 | exact r1 | exact r2 | exact r3 | exact r4 | exact r5 | exact r6 | exact r7 | exact r8 | exact r9 | exact r10 | exact r11 | exact r12 | exact r13 | exact r14 | exact r15 | exact r16 | exact r17 | exact r18 | exact r19); rfl; omega; omega; infer_instance)
  | (apply v27_; rfl; rfl; exact tt rfl; rfl; (first | exact r0 | exact r1 | exact r2 | exact r3 | exact r4 | exact r5 | exact r6 | exact r7 | exact r8 | exact r9 | exact r10 | exact r11 | exact r12 | exact r13 | exact r14 | exact r15 | exact r16 | exact r17 | exact r18 | exact r19); omega; omega; (simp only [cs_, putAt, List.set_cons_succ, List.set_cons_zero, Nat.add_zero]; rfl); infer_instance; rfl; (try infer_instance))
  | (apply v24_; rfl; rfl; rfl; exact cat rfl; exact fun _ => inferInstance; (first | trivial | omega | assumption))
  | (apply v25_; rfl; rfl; rfl; exact cat rfl; exact fun _ => inferInstance; (first | trivial | omega | assumption))
  | exact hx_
  | exact v52_
  | exact v53_
  | exact v54_
  | exact v50_
  | exact v51_
  | (apply hz_; decide +kernel)
  | (apply he_; rfl; decide +kernel; kernel_rfl)
  | (apply v40_; rfl; rfl; (first | rfl | assumption))
  | (apply v42_; rfl; rfl; rfl; (first | rfl | assumption))
  | (apply v43_; rfl; rfl; rfl)
  | (apply v41_; rfl; rfl; (first | rfl | assumption))) : Av n w0 R L Ps F L' Ps' F' := h
theorem ext_ {T L : List (Nat × Value)} (h : Ext T L := by first | exact ⟨0, rfl, rfl⟩ | exact ⟨1, rfl, rfl⟩ | exact ⟨2, rfl, rfl⟩ | exact ⟨3, rfl, rfl⟩ | exact ⟨4, rfl, rfl⟩ | exact ⟨5, rfl, rfl⟩ | exact ⟨6, rfl, rfl⟩ | exact ⟨7, rfl, rfl⟩ | exact ⟨8, rfl, rfl⟩ | exact ⟨9, rfl, rfl⟩ | exact ⟨10, rfl, rfl⟩ | exact ⟨11, rfl, rfl⟩ | exact ⟨12, rfl, rfl⟩ | exact ⟨13, rfl, rfl⟩ | exact ⟨14, rfl, rfl⟩ | exact ⟨15, rfl, rfl⟩ | exact ⟨16, rfl, rfl⟩ | exact ⟨17, rfl, rfl⟩ | exact ⟨18, rfl, rfl⟩ | exact ⟨19, rfl, rfl⟩ | exact ⟨20, rfl, rfl⟩ | exact ⟨21, rfl, rfl⟩ | exact ⟨22, rfl, rfl⟩ | exact ⟨23, rfl, rfl⟩ | exact ⟨24, rfl, rfl⟩ | exact ⟨25, rfl, rfl⟩ | exact ⟨26, rfl, rfl⟩ | exact ⟨27, rfl, rfl⟩ | exact ⟨28, rfl, rfl⟩ | exact ⟨29, rfl, rfl⟩) : Ext T L := h
theorem A2_ (h : Av n w0 R L Ps F L' Ps' F' := by first
  | exact A1_
  | (apply hs_; kernel_rfl; (repeat (first | exact Sub.n | (apply Sub.c; (first | exact r0 | exact r1 | exact r2 | exact r3 | exact r4 | exact r5 | exact r6 | exact r7 | exact r8 | exact r9 | exact r10 | exact r11 | exact r12 | exact r13 | exact r14 | exact r15 | exact r16 | exact r17 | exact r18 | exact r19)))); (intro F1; repeat (first | exact av_r | (apply x_; exact A1_))))
  | (apply sc_; rfl; rfl; rfl; rfl; (intro hb Q1; have hbp := hb; (try simp only [bz_, bp_] at hbp); repeat (first | exact av_r | (apply x_; exact A1_))); (intro hb Q1; have hbp := hb; (try simp only [bz_, bp_] at hbp); repeat (first | exact av_r | (apply x_; exact A1_))); exact ext_; exact ext_)
  | (apply scq_; rfl; rfl; rfl; rfl; (intro hb Q1; have hbp := hb; (try simp only [bz_, bp_] at hbp); repeat (first | exact av_r | (apply x_; exact A1_))); (intro hb Q1; have hbp := hb; (try simp only [bz_, bp_] at hbp); repeat (first | exact av_r | (apply x_; exact A1_))); exact ext_; exact ext_)) : Av n w0 R L Ps F L' Ps' F' := h
theorem A3_ (h : Av n w0 R L Ps F L' Ps' F' := by first
  | exact A1_
  | (apply hs_; kernel_rfl; (repeat (first | exact Sub.n | (apply Sub.c; (first | exact r0 | exact r1 | exact r2 | exact r3 | exact r4 | exact r5 | exact r6 | exact r7 | exact r8 | exact r9 | exact r10 | exact r11 | exact r12 | exact r13 | exact r14 | exact r15 | exact r16 | exact r17 | exact r18 | exact r19)))); (intro F1; repeat (first | exact av_r | (apply x_; exact A2_))))
  | (apply sc_; rfl; rfl; rfl; rfl; (intro hb Q1; have hbp := hb; (try simp only [bz_, bp_] at hbp); repeat (first | exact av_r | (apply x_; exact A2_))); (intro hb Q1; have hbp := hb; (try simp only [bz_, bp_] at hbp); repeat (first | exact av_r | (apply x_; exact A2_))); exact ext_; exact ext_)
  | (apply scq_; rfl; rfl; rfl; rfl; (intro hb Q1; have hbp := hb; (try simp only [bz_, bp_] at hbp); repeat (first | exact av_r | (apply x_; exact A2_))); (intro hb Q1; have hbp := hb; (try simp only [bz_, bp_] at hbp); repeat (first | exact av_r | (apply x_; exact A2_))); exact ext_; exact ext_)) : Av n w0 R L Ps F L' Ps' F' := h
theorem A4_ (h : Av n w0 R L Ps F L' Ps' F' := by first
  | exact A1_
  | (apply hs_; kernel_rfl; (repeat (first | exact Sub.n | (apply Sub.c; (first | exact r0 | exact r1 | exact r2 | exact r3 | exact r4 | exact r5 | exact r6 | exact r7 | exact r8 | exact r9 | exact r10 | exact r11 | exact r12 | exact r13 | exact r14 | exact r15 | exact r16 | exact r17 | exact r18 | exact r19)))); (intro F1; repeat (first | exact av_r | (apply x_; exact A3_))))
  | (apply sc_; rfl; rfl; rfl; rfl; (intro hb Q1; have hbp := hb; (try simp only [bz_, bp_] at hbp); repeat (first | exact av_r | (apply x_; exact A3_))); (intro hb Q1; have hbp := hb; (try simp only [bz_, bp_] at hbp); repeat (first | exact av_r | (apply x_; exact A3_))); exact ext_; exact ext_)
  | (apply scq_; rfl; rfl; rfl; rfl; (intro hb Q1; have hbp := hb; (try simp only [bz_, bp_] at hbp); repeat (first | exact av_r | (apply x_; exact A3_))); (intro hb Q1; have hbp := hb; (try simp only [bz_, bp_] at hbp); repeat (first | exact av_r | (apply x_; exact A3_))); exact ext_; exact ext_)) : Av n w0 R L Ps F L' Ps' F' := h
theorem run_ (k : Gl n w0 R L' Ps' F') (h : Av n w0 R L Ps F L' Ps' F' := by (repeat (apply x_; exact A3_)); exact av_r) : Gl n w0 R L Ps F := h.g k
theorem run4_ (k : Gl n w0 R L' Ps' F') (h : Av n w0 R L Ps F L' Ps' F' := by (repeat (apply x_; exact A4_)); exact av_r) : Gl n w0 R L Ps F := h.g k
end
section
variable {P : Program} {ops : Array Oper} {Q : Exit → Act → World → Prop} {rest : List Oper} {n : Nat} {L L1 L2 : List (Nat × Value)} {w w0 : World} {R : Hh} {Ps Ps1 Ps2 Qs : List HP} {F F1 F2 : GF} {d : Nat} {v : Value} {ty : TypeId} {pos : String} {aft : Array Edge} {x y cd : Code} {c : Operand} {b : Bool} {pt pf : Prop}
theorem hh_ {Pz : Program} {k : Nat} (is : List (List Nat)) (Qss : List (List HP)) (kk : Gl n w0 R L1 Ps1 F1) (hk : (Nat.ble k ops.size && downB ops k && disj (List.range k) (mkPl is Qss)) = true := by kernel_rfl) (r : Av n w0 R L Ps (.ex (fun _ => RP Pz ops (exN Q) w0 R (mkPl is Qss) (List.range k) [] (mkPl is Qss)) .normal) L1 Ps1 F1 := by (repeat (apply x_; exact A3_)); exact av_r) : Gl n w0 R L Ps (.an Pz ops Q k) := hb_ _ (r.g kk) hk
theorem if_ (ht : pt → Gl n w0 R L1 Ps1 F1) (hf : pf → Gl n w0 R L2 Ps2 F2) (hc : ev L c = some (.bool b) := by rfl) (et : (b = true) = pt := by first | (simp only [bz_, bp_]; rfl) | rfl) (ef : (b = false) = pf := by first | (simp only [bz_, bp_]; rfl) | rfl)
    (rt : pt → Av n w0 R L Ps (.co P x Q) L1 Ps1 F1 := by intro zh9; (repeat (apply x_; exact A3_)); exact av_r) (rf : pf → Av n w0 R L Ps (.co P y Q) L2 Ps2 F2 := by intro zh9; (repeat (apply x_; exact A3_)); exact av_r) : Gl n w0 R L Ps (.co P (.cond c x y) Q) :=
  cond_ (fun h => (rt (et ▸ h)).g (ht (et ▸ h))) (fun h => (rf (ef ▸ h)).g (hf (ef ▸ h))) hc
section
variable {τ : Type} {fn : Func} {rs : List ResultVar} {vs : List Value} {φ : τ → Prop} {V : τ → Value} {Z : τ → List HP} {f : FuncId} {args first cap us : List Value} {Pc Pr : List HP} {xs : List Operand} {tys : Array TypeId}
theorem rt_ (x : τ) (k : φ x) (hr : fn.results = ⟨rs⟩ := by rfl) (h : resT L rs = some vs := by rfl) (hv : pack vs = V x := by rfl) (hz : Sub (Z x) Ps := by (repeat (first | exact Sub.n | (apply Sub.c; (first | exact r0 | exact r1 | exact r2 | exact r3 | exact r4 | exact r5 | exact r6 | exact r7 | exact r8 | exact r9 | exact r10 | exact r11 | exact r12 | exact r13 | exact r14 | exact r15 | exact r16 | exact r17 | exact r18 | exact r19))))) : Gl n w0 R L Ps (.ex (bodyPost P fn fun e w' => ∃ x, φ x ∧ e = .returned (V x) ∧ Hp w0 R (Z x) w') .ret) := ret_ x k hv hz hr h
theorem rtC_ {t : Tmp} {T E : TypeId} {cs : List Value} {p : Addr} {zz : Nat} (x : τ) (k : φ x) (hr : fn.results = ⟨[.cell t T]⟩ := by rfl) (hx : lk L t = some (.pointer (some (padd p 0))) := by rfl) (ht : tyI Tryz.prog T = some (true, zz) := by exact tt rfl) (hP : Rem Ps (Bx p E cs) Qs := by first | exact r0 | exact r1 | exact r2 | exact r3 | exact r4 | exact r5 | exact r6 | exact r7 | exact r8 | exact r9 | exact r10 | exact r11 | exact r12 | exact r13 | exact r14 | exact r15 | exact r16 | exact r17 | exact r18 | exact r19) (hl : Nat.beq cs.length zz = true := by rfl) (hv : .agg ⟨cs⟩ = V x := by rfl) (hz : Sub (Z x) Ps := by (repeat (first | exact Sub.n | (apply Sub.c; (first | exact r0 | exact r1 | exact r2 | exact r3 | exact r4 | exact r5 | exact r6 | exact r7 | exact r8 | exact r9 | exact r10 | exact r11 | exact r12 | exact r13 | exact r14 | exact r15 | exact r16 | exact r17 | exact r18 | exact r19))))) : Gl n w0 R L Ps (.ex (bodyPost Tryz.prog fn fun e w' => ∃ x, φ x ∧ e = .returned (V x) ∧ Hp w0 R (Z x) w') .ret) := retC_ x k hx ht hP hl hv hz hr
theorem reC_ {t : Tmp} {T E : TypeId} {cs : List Value} {p : Addr} {zz : Nat} {v : Value} {Zu : Unit → List HP} (k : (.agg ⟨cs⟩ : Value) = v) (hr : fn.results = ⟨[.cell t T]⟩ := by rfl) (hx : lk L t = some (.pointer (some (padd p 0))) := by rfl) (ht : tyI Tryz.prog T = some (true, zz) := by exact tt rfl) (hP : Rem Ps (Bx p E cs) Qs := by first | exact r0 | exact r1 | exact r2 | exact r3 | exact r4 | exact r5 | exact r6 | exact r7 | exact r8 | exact r9 | exact r10 | exact r11 | exact r12 | exact r13 | exact r14 | exact r15 | exact r16 | exact r17 | exact r18 | exact r19) (hl : Nat.beq cs.length zz = true := by rfl) (hz : Sub (Zu ()) Ps := by (repeat (first | exact Sub.n | (apply Sub.c; (first | exact r0 | exact r1 | exact r2 | exact r3 | exact r4 | exact r5 | exact r6 | exact r7 | exact r8 | exact r9 | exact r10 | exact r11 | exact r12 | exact r13 | exact r14 | exact r15 | exact r16 | exact r17 | exact r18 | exact r19))))) : Gl n w0 R L Ps (.ex (bodyPost Tryz.prog fn fun e w' => ∃ x, (fun _ : Unit => True) x ∧ e = .returned ((fun _ : Unit => v) x) ∧ Hp w0 R (Zu x) w') .ret) := retC_ (V := fun _ => v) () trivial hx ht hP hl k hz hr
theorem rm_ (x : τ) (k : φ x) (hr : fn.results = ⟨rs⟩ := by rfl) (h : RV Tryz.prog L Ps rs vs := by (repeat (first | exact RV.n | (apply RV.t; rfl) | (apply RV.c; rfl; exact tt rfl; (first | exact r0 | exact r1 | exact r2 | exact r3 | exact r4 | exact r5 | exact r6 | exact r7 | exact r8 | exact r9 | exact r10 | exact r11 | exact r12 | exact r13 | exact r14 | exact r15 | exact r16 | exact r17 | exact r18 | exact r19); rfl) | (apply RV.s; rfl; exact tt rfl; (first | exact r0 | exact r1 | exact r2 | exact r3 | exact r4 | exact r5 | exact r6 | exact r7 | exact r8 | exact r9 | exact r10 | exact r11 | exact r12 | exact r13 | exact r14 | exact r15 | exact r16 | exact r17 | exact r18 | exact r19))))) (hv : pack vs = V x := by rfl) (hz : Sub (Z x) Ps := by (repeat (first | exact Sub.n | (apply Sub.c; (first | exact r0 | exact r1 | exact r2 | exact r3 | exact r4 | exact r5 | exact r6 | exact r7 | exact r8 | exact r9 | exact r10 | exact r11 | exact r12 | exact r13 | exact r14 | exact r15 | exact r16 | exact r17 | exact r18 | exact r19))))) : Gl n w0 R L Ps (.ex (bodyPost Tryz.prog fn fun e w' => ∃ x, φ x ∧ e = .returned (V x) ∧ Hp w0 R (Z x) w') .ret) := retM_ x k hr h hv hz
theorem rmN_ (x : τ) (k : φ x) (hr : fn.results = ⟨rs⟩ := by rfl) (h : RV Tryz.prog L Ps rs vs := by (repeat (first | exact RV.n | (apply RV.t; rfl) | (apply RV.c; rfl; exact tt rfl; (first | exact r0 | exact r1 | exact r2 | exact r3 | exact r4 | exact r5 | exact r6 | exact r7 | exact r8 | exact r9 | exact r10 | exact r11 | exact r12 | exact r13 | exact r14 | exact r15 | exact r16 | exact r17 | exact r18 | exact r19); rfl) | (apply RV.s; rfl; exact tt rfl; (first | exact r0 | exact r1 | exact r2 | exact r3 | exact r4 | exact r5 | exact r6 | exact r7 | exact r8 | exact r9 | exact r10 | exact r11 | exact r12 | exact r13 | exact r14 | exact r15 | exact r16 | exact r17 | exact r18 | exact r19))))) (hv : pack vs = V x := by rfl) (hz : Sub (Z x) Ps := by (repeat (first | exact Sub.n | (apply Sub.c; (first | exact r0 | exact r1 | exact r2 | exact r3 | exact r4 | exact r5 | exact r6 | exact r7 | exact r8 | exact r9 | exact r10 | exact r11 | exact r12 | exact r13 | exact r14 | exact r15 | exact r16 | exact r17 | exact r18 | exact r19))))) : Gl n w0 R L Ps (.ex (bodyPost Tryz.prog fn fun e w' => ∃ x, φ x ∧ e = .returned (V x) ∧ Hp w0 R (Z x) w') .normal) := retMN_ x k hr h hv hz
theorem rn_ (x : τ) (k : φ x) (hr : fn.results = ⟨[]⟩ := by rfl) (hv : pack [] = V x := by rfl) (hz : Sub (Z x) Ps := by (repeat (first | exact Sub.n | (apply Sub.c; (first | exact r0 | exact r1 | exact r2 | exact r3 | exact r4 | exact r5 | exact r6 | exact r7 | exact r8 | exact r9 | exact r10 | exact r11 | exact r12 | exact r13 | exact r14 | exact r15 | exact r16 | exact r17 | exact r18 | exact r19))))) : Gl n w0 R L Ps (.ex (bodyPost P fn fun e w' => ∃ x, φ x ∧ e = .returned (V x) ∧ Hp w0 R (Z x) w') .normal) := retN_ x k hv hz hr
theorem re_ {v : Value} {Z : Unit → List HP} (hv : pack vs = v) (hr : fn.results = ⟨rs⟩ := by rfl) (h : resT L rs = some vs := by rfl) (hz : Sub (Z ()) Ps := by (repeat (first | exact Sub.n | (apply Sub.c; (first | exact r0 | exact r1 | exact r2 | exact r3 | exact r4 | exact r5 | exact r6 | exact r7 | exact r8 | exact r9 | exact r10 | exact r11 | exact r12 | exact r13 | exact r14 | exact r15 | exact r16 | exact r17 | exact r18 | exact r19))))) : Gl n w0 R L Ps (.ex (bodyPost P fn fun e w' => ∃ x, (fun _ : Unit => True) x ∧ e = .returned ((fun _ : Unit => v) x) ∧ Hp w0 R (Z x) w') .ret) := ret_ (V := fun _ => v) () trivial hv hz hr h
theorem in_ {F1 : World → GF} (hf : Tryz.prog.funcs[f]? = some fn) (k : ∀ w0, Gl fn.ntmps w0 R L1 Ps1 (F1 w0)) (hb : fn.body = some cd := by rfl) (ha : Nat.ble args.length fn.ntmps = true := by rfl)
    (h : ∀ w0, Av fn.ntmps w0 R (num 0 args) Ps (.co Tryz.prog cd (bodyPost Tryz.prog fn fun e w' => ∃ x, φ x ∧ e = .returned (V x) ∧ Hp w0 R (Z x) w')) L1 Ps1 (F1 w0) := by intro zw9; (repeat (apply x_; exact A3_)); exact av_r) : Ctr Tryz.prog f args R Ps φ V Z := enter_ hf hb rfl ha fun w0 => (h w0).g (k w0)
theorem ca_ {L1 : τ → List (Nat × Value)} {Ps1 : τ → List HP} {F1 : τ → GF} (h : ∀ R', hle R R' → (∃ y, SepL Pr y ∧ hle y R') → Ctr Tryz.prog f us R' Pc φ V Z) (k : ∀ x, φ x → Gl n w0 R (L1 x) (Ps1 x) (F1 x)) (hc : ev L c = some (.func (.func f) ⟨first⟩ ⟨cap⟩) := by rfl) (hx : evs L xs = some vs := by rfl) (hu : first ++ vs ++ cap = us := by rfl) (hp : Tk Pc Ps Pr := by (repeat (first | exact Tk.n | (apply Tk.c; (first | exact r0 | exact r1 | exact r2 | exact r3 | exact r4 | exact r5 | exact r6 | exact r7 | exact r8 | exact r9 | exact r10 | exact r11 | exact r12 | exact r13 | exact r14 | exact r15 | exact r16 | exact r17 | exact r18 | exact r19))))) (hf : callable Tryz.prog f = true := by exact cat rfl) (hd : Nat.blt d n = true := by rfl)
    (r : ∀ x, Av n w0 R ((d, V x) :: L) (Z x ++ Pr) (.li Tryz.prog ops Q rest) (L1 x) (Ps1 x) (F1 x) := by intro zx9; (repeat (apply x_; exact A3_)); exact av_r) : Gl n w0 R L Ps (.li Tryz.prog ops Q (⟨some d, .call ⟨.value c, ⟨xs⟩, tys⟩, ty, pos, aft, none⟩ :: rest)) := call_ h (fun x hx => (r x).g (k x hx)) hp hf hc hx hu hd
theorem csm_ (h : Ctp Tryz.prog f us R Ps v) (k : Gl n w0 R L1 Ps1 F1) (hc : ev L c = some (.func (.func f) ⟨first⟩ ⟨cap⟩) := by rfl) (hx : evs L xs = some vs := by rfl) (hu : first ++ vs ++ cap = us := by rfl) (hf : callable Tryz.prog f = true := by exact cat rfl) (hd : Nat.blt d n = true := by rfl)
    (r : Av n w0 R ((d, v) :: L) Ps (.li Tryz.prog ops Q rest) L1 Ps1 F1 := by (repeat (apply x_; exact A3_)); exact av_r) : Gl n w0 R L Ps (.li Tryz.prog ops Q (⟨some d, .call ⟨.value c, ⟨xs⟩, tys⟩, ty, pos, aft, none⟩ :: rest)) := fun a w hs m =>
  r_call (Rc := fun u w' => u = v ∧ Hp w0 R Ps w') hs hc hx hf hu ((h w0 w m).mono fun e w' he => by obtain ⟨_, _, h1, h3⟩ := he; exact ⟨v, h1, rfl, h3⟩) hd fun u w' he a' hs' => by obtain ⟨rfl, h2⟩ := he; exact r.g k a' w' hs' h2
theorem cp_ (h : ∀ R', hle R R' → (∃ y, SepL Pr y ∧ hle y R') → Ctp Tryz.prog f us R' Pc v) (k : Gl n w0 R L1 Ps1 F1) (hc : ev L c = some (.func (.func f) ⟨first⟩ ⟨cap⟩) := by rfl) (hx : evs L xs = some vs := by rfl) (hu : first ++ vs ++ cap = us := by rfl) (hp : Tk Pc Ps Pr := by (repeat (first | exact Tk.n | (apply Tk.c; (first | exact r0 | exact r1 | exact r2 | exact r3 | exact r4 | exact r5 | exact r6 | exact r7 | exact r8 | exact r9 | exact r10 | exact r11 | exact r12 | exact r13 | exact r14 | exact r15 | exact r16 | exact r17 | exact r18 | exact r19))))) (hf : callable Tryz.prog f = true := by exact cat rfl) (hd : Nat.blt d n = true := by rfl)
    (r : Av n w0 R ((d, v) :: L) Ps (.li Tryz.prog ops Q rest) L1 Ps1 F1 := by (repeat (apply x_; exact A3_)); exact av_r) : Gl n w0 R L Ps (.li Tryz.prog ops Q (⟨some d, .call ⟨.value c, ⟨xs⟩, tys⟩, ty, pos, aft, none⟩ :: rest)) := (ctp_li h hp hf hc hx hu hd).g (r.g k)
theorem cq_ {F : GF} (h : ∀ R', hle R R' → (∃ y, SepL Pr y ∧ hle y R') → Ctp Tryz.prog f us R' Pc v) (k : Gl n w0 R L1 Ps1 F1) (hc : ev L c = some (.func (.func f) ⟨first⟩ ⟨cap⟩) := by rfl) (hx : evs L xs = some vs := by rfl) (hu : first ++ vs ++ cap = us := by rfl) (hp : Tk Pc Ps Pr := by (repeat (first | exact Tk.n | (apply Tk.c; (first | exact r0 | exact r1 | exact r2 | exact r3 | exact r4 | exact r5 | exact r6 | exact r7 | exact r8 | exact r9 | exact r10 | exact r11 | exact r12 | exact r13 | exact r14 | exact r15 | exact r16 | exact r17 | exact r18 | exact r19))))) (hf : callable Tryz.prog f = true := by exact cat rfl) (hd : Nat.blt d n = true := by rfl)
    (r : Av n w0 R ((d, v) :: L) Ps (.qu Tryz.prog ops (Hp w0 R Ps) F rest) L1 Ps1 F1 := by (repeat (apply x_; exact A3_)); exact av_r) : Gl n w0 R L Ps (.qu Tryz.prog ops (Hp w0 R Ps) F (⟨some d, .call ⟨.value c, ⟨xs⟩, tys⟩, ty, pos, aft, none⟩ :: rest)) := (ctp_qu h hp hf hc hx hu hd).g (r.g k)
end
theorem bo_' {E : TypeId} {x : Operand} {cs : List Value} {L1 : Addr → List (Nat × Value)} {Ps1 : Addr → List HP} {F1 : Addr → GF} (k : ∀ p, Gl n w0 R (L1 p) (Ps1 p) (F1 p)) (hx : ev L x = some v := by rfl) (hc : v.cells = ⟨cs⟩ := by rfl) (hd : Nat.blt d n = true := by rfl) (r : ∀ p, Av n w0 R ((d, .pointer (some (padd p 0))) :: L) (Bx p E cs :: Ps) (.li P ops Q rest) (L1 p) (Ps1 p) (F1 p) := by intro zp9; (repeat (apply x_; exact A3_)); exact av_r) :
    Gl n w0 R L Ps (.li P ops Q (⟨some d, .box E x, ty, pos, aft, none⟩ :: rest)) := box_ (fun p => (r p).g (k p)) hx hc hd
theorem al_ {E : TypeId} {cs : List Value} {L1 : Addr → List (Nat × Value)} {Ps1 : Addr → List HP} {F1 : Addr → GF} (k : ∀ p, Gl n w0 R (L1 p) (Ps1 p) (F1 p)) (hz : zeI Tryz.prog E = some cs := by exact zet rfl) (hd : Nat.blt d n = true := by rfl) (r : ∀ p, Av n w0 R ((d, .pointer (some (padd p 0))) :: L) (Bx p E cs :: Ps) (.li Tryz.prog ops Q rest) (L1 p) (Ps1 p) (F1 p) := by intro zp9; (repeat (apply x_; exact A3_)); exact av_r) :
    Gl n w0 R L Ps (.li Tryz.prog ops Q (⟨some d, .alloc E, ty, pos, aft, none⟩ :: rest)) := alloc_ (fun p => (r p).g (k p)) hz hd
theorem bx_ {α : Type} {ct : α → List Value} {e : α} {E : TypeId} {x : Operand} {cs : List Value} {L1 : Addr → List (Nat × Value)} {Ps1 : Addr → List HP} {F1 : Addr → GF} (k : ∀ p, Gl n w0 R (L1 p) (Ps1 p) (F1 p)) (hx : ev L x = some v := by rfl) (hr : TyR E α ct := by infer_instance) (hc : v.cells = ⟨cs⟩ := by rfl) (he : ct e = cs := by first | rfl | exact (show Mk ct cs _ from inferInstance).h) (hd : Nat.blt d n = true := by rfl) (r : ∀ p, Av n w0 R ((d, .pointer (some (padd p 0))) :: L) (Bx p E (ct e) :: Ps) (.li P ops Q rest) (L1 p) (Ps1 p) (F1 p) := by intro zp9; (repeat (apply x_; exact A3_)); exact av_r) :
    Gl n w0 R L Ps (.li P ops Q (⟨some d, .box E x, ty, pos, aft, none⟩ :: rest)) := box_ (fun p => (r p).g (k p)) hx (by rw [hc, he]) hd
theorem ax_ {α : Type} {ct : α → List Value} {e : α} {E : TypeId} {cs : List Value} {L1 : Addr → List (Nat × Value)} {Ps1 : Addr → List HP} {F1 : Addr → GF} (k : ∀ p, Gl n w0 R (L1 p) (Ps1 p) (F1 p)) (hz : zeI Tryz.prog E = some cs := by exact zet rfl) (hr : TyR E α ct := by infer_instance) (he : Mk ct cs e := by infer_instance) (hd : Nat.blt d n = true := by rfl) (r : ∀ p, Av n w0 R ((d, .pointer (some (padd p 0))) :: L) (Bx p E (ct e) :: Ps) (.li Tryz.prog ops Q rest) (L1 p) (Ps1 p) (F1 p) := by intro zp9; (repeat (apply x_; exact A3_)); exact av_r) :
    Gl n w0 R L Ps (.li Tryz.prog ops Q (⟨some d, .alloc E, ty, pos, aft, none⟩ :: rest)) := alloc_ (fun p => (r p).g (k p)) (he.h ▸ hz) hd
theorem sw_ {α : Type} {c : α → List Value} {xs : List α} {E : TypeId} {k : Nat} {X : SH} (i : Nat) (hk0 : Gl n w0 R L (Sv k E (upH X i).v ((xs.take i).map c) :: Qs) F) (hP : Rem Ps (Sv k E X.v (xs.map c)) Qs := by first | exact r0 | exact r1 | exact r2 | exact r3 | exact r4 | exact r5 | exact r6 | exact r7 | exact r8 | exact r9 | exact r10 | exact r11 | exact r12 | exact r13 | exact r14 | exact r15 | exact r16 | exact r17 | exact r18 | exact r19) (h : i ≤ xs.length := by omega) : Gl n w0 R L Ps F := shu_ i hk0 hP h
theorem af_ {α : Type} {ct : α → List Value} {xs : List α} {T T2 E : TypeId} {ag : Bool} {k : Nat} {x y : Operand} {X : SH} (i j : Nat) (kk : Gl n w0 R L1 Ps1 F1) (hx : ev L x = some (upH X i).v := by rfl) (hy : ev L y = some (subH3 k X j xs.length X.c).v := by rfl) (hP : Rem Ps (Sv k E X.v (xs.map ct)) Qs := by first | exact r0 | exact r1 | exact r2 | exact r3 | exact r4 | exact r5 | exact r6 | exact r7 | exact r8 | exact r9 | exact r10 | exact r11 | exact r12 | exact r13 | exact r14 | exact r15 | exact r16 | exact r17 | exact r18 | exact r19) (hT : slI Tryz.prog T = some E := by exact slt rfl) (hT2 : notInt Tryz.prog T2 = true := by exact nit rfl) (hE : tyI Tryz.prog E = some (ag, k) := by exact tt rfl) (ho : Cs ct k := by infer_instance) (h1 : i ≤ j := by omega) (h2 : j ≤ xs.length := by omega) (hd : Nat.blt d n = true := by rfl)
    (r : Av n w0 R ((d, (upH X (i + (xs.length - j))).v) :: L) (Sv k E (upH X (i + (xs.length - j))).v ((xs.take i ++ xs.drop j).map ct) :: Qs) (.li Tryz.prog ops Q rest) L1 Ps1 F1 := by (repeat (apply x_; exact A3_)); exact av_r) : Gl n w0 R L Ps (.li Tryz.prog ops Q (⟨some d, .call ⟨.builtin .append, #[x, y], #[T, T2]⟩, ty, pos, aft, none⟩ :: rest)) := afx_ i j (r.g kk) hx hy hP hT hT2 hE ho h1 h2 hd
theorem ci_ {α : Type} {ct : α → List Value} {xs : List α} {T T2 E : TypeId} {ag : Bool} {k : Nat} {x y : Operand} {X : SH} (i j : Nat) (kk : Gl n w0 R L1 Ps1 F1) (hx : ev L x = some (subH3 k X j xs.length X.c).v := by rfl) (hy : ev L y = some (subH3 k X i xs.length X.c).v := by rfl) (hP : Rem Ps (Sv k E X.v (xs.map ct)) Qs := by first | exact r0 | exact r1 | exact r2 | exact r3 | exact r4 | exact r5 | exact r6 | exact r7 | exact r8 | exact r9 | exact r10 | exact r11 | exact r12 | exact r13 | exact r14 | exact r15 | exact r16 | exact r17 | exact r18 | exact r19) (hT : slI Tryz.prog T = some E := by exact slt rfl) (hE : tyI Tryz.prog E = some (ag, k) := by exact tt rfl) (ho : Cs ct k := by infer_instance) (h1 : i ≤ j := by omega) (h2 : j ≤ xs.length := by omega) (hd : Nat.blt d n = true := by rfl)
    (r : Av n w0 R ((d, .int .i64 ((xs.length - j : Nat) : Int)) :: L) (Sv k E X.v ((xs.take j ++ (xs.drop i).take (xs.length - j)).map ct) :: Qs) (.li Tryz.prog ops Q rest) L1 Ps1 F1 := by (repeat (apply x_; exact A3_)); exact av_r) : Gl n w0 R L Ps (.li Tryz.prog ops Q (⟨some d, .call ⟨.builtin .copy, #[x, y], #[T, T2]⟩, ty, pos, aft, none⟩ :: rest)) := cpi_ (r.g kk) hx hy hT hE hP ho h1 h2 hd
theorem slz_ {α : Type} {ct : α → List Value} {e1 e2 : α} {T E : TypeId} {ag : Bool} {k : Nat} {x y : Operand} {v1 v2 : Value} {cs1 cs2 zs : List Value} {L1 : SH → List (Nat × Value)} {Ps1 : SH → List HP} {F1 : SH → GF} (kk : ∀ X, Gl n w0 R (L1 X) (Ps1 X) (F1 X)) (hT : slI Tryz.prog T = some E := by exact slt rfl) (hE : tyI Tryz.prog E = some (ag, k) := by exact tt rfl) (hz : zeI Tryz.prog E = some zs := by exact zet rfl) (hzl : zs.length = k := by rfl) (hx : ev L x = some v1 := by rfl) (hy : ev L y = some v2 := by rfl) (hr : TyR E α ct := by infer_instance) (hc1 : v1.cells = ⟨cs1⟩ := by rfl) (hc2 : v2.cells = ⟨cs2⟩ := by rfl)
    (he1 : ct e1 = cs1 := by first | rfl | exact (show Mk ct cs1 _ from inferInstance).h) (he2 : ct e2 = cs2 := by first | rfl | exact (show Mk ct cs2 _ from inferInstance).h) (hk : Cs ct k := by infer_instance) (hsz : Nat.ble (2 * k) 16777216 = true := by rfl) (hd : Nat.blt d n = true := by rfl) (r : ∀ X : SH, Av n w0 R ((d, X.v) :: L) (Sv k E X.v ([e1, e2].map ct) :: Ps) (.li Tryz.prog ops Q rest) (L1 X) (Ps1 X) (F1 X) := by intro zx9; (repeat (apply x_; exact A3_)); exact av_r) :
    Gl n w0 R L Ps (.li Tryz.prog ops Q (⟨some d, .buildSlice T 2 ⟨[(0, x), (1, y)]⟩, ty, pos, aft, none⟩ :: rest)) := slice_ (ys := [e1, e2]) (vs := [(0, v1), (1, v2)]) (fun X => (r X).g (kk X)) hT hE hz hzl (by simp [partsOf, hx, hy]) rfl rfl (by simp [hc1, hc2, he1, he2]) hk hsz rfl hd
theorem sl0_ {α : Type} (ct : α → List Value) {T E : TypeId} {ag : Bool} {k : Nat} {zs : List Value} {L1 : SH → List (Nat × Value)} {Ps1 : SH → List HP} {F1 : SH → GF} (kk : ∀ X, Gl n w0 R (L1 X) (Ps1 X) (F1 X)) (hT : slI Tryz.prog T = some E := by exact slt rfl) (hE : tyI Tryz.prog E = some (ag, k) := by exact tt rfl) (hz : zeI Tryz.prog E = some zs := by exact zet rfl) (hzl : zs.length = k := by rfl) (hk : Cs ct k := by infer_instance) (hd : Nat.blt d n = true := by rfl) (r : ∀ X : SH, Av n w0 R ((d, X.v) :: L) (Sv k E X.v (([] : List α).map ct) :: Ps) (.li Tryz.prog ops Q rest) (L1 X) (Ps1 X) (F1 X) := by intro zx9; (repeat (apply x_; exact A3_)); exact av_r) :
    Gl n w0 R L Ps (.li Tryz.prog ops Q (⟨some d, .buildSlice T 0 ⟨[]⟩, ty, pos, aft, none⟩ :: rest)) := slice_ (ys := ([] : List α)) (vs := []) (fun X => (r X).g (kk X)) hT hE hz hzl rfl rfl rfl rfl hk (by simp [Nat.ble]) rfl hd
theorem sl_ {α : Type} {ct : α → List Value} {e : α} {T E : TypeId} {ag : Bool} {k : Nat} {x : Operand} {cs zs : List Value} {L1 : SH → List (Nat × Value)} {Ps1 : SH → List HP} {F1 : SH → GF} (kk : ∀ X, Gl n w0 R (L1 X) (Ps1 X) (F1 X)) (hT : slI Tryz.prog T = some E := by exact slt rfl) (hE : tyI Tryz.prog E = some (ag, k) := by exact tt rfl) (hz : zeI Tryz.prog E = some zs := by exact zet rfl) (hzl : zs.length = k := by rfl) (hx : ev L x = some v := by rfl) (hr : TyR E α ct := by infer_instance) (hc : v.cells = ⟨cs⟩ := by rfl)
    (he : ct e = cs := by first | rfl | exact (show Mk ct cs _ from inferInstance).h) (hk : Cs ct k := by infer_instance) (hsz : Nat.ble (1 * k) 16777216 = true := by rfl) (hd : Nat.blt d n = true := by rfl) (r : ∀ X : SH, Av n w0 R ((d, X.v) :: L) (Sv k E X.v ([e].map ct) :: Ps) (.li Tryz.prog ops Q rest) (L1 X) (Ps1 X) (F1 X) := by intro zx9; (repeat (apply x_; exact A3_)); exact av_r) :
    Gl n w0 R L Ps (.li Tryz.prog ops Q (⟨some d, .buildSlice T 1 ⟨[(0, x)]⟩, ty, pos, aft, none⟩ :: rest)) := slice_ (ys := [e]) (vs := [(0, v)]) (fun X => (r X).g (kk X)) hT hE hz hzl (by simp [partsOf, hx]) rfl rfl (by simp [hc, he]) hk hsz rfl hd
theorem ap_ {α : Type} {ct : α → List Value} {xs ys : List α} {T T2 E : TypeId} {ag : Bool} {k bytes : Nat} {x y : Operand} {X Y : SH} {zs : List Value} {L1 : SH → List (Nat × Value)} {Ps1 : SH → List HP} {F1 : SH → GF} (kk : ∀ Z, Gl n w0 R (L1 Z) (Ps1 Z) (F1 Z)) (hx : ev L x = some X.v := by rfl) (hy : ev L y = some Y.v := by rfl) (hP : Rem Ps (Sv k E X.v (xs.map ct)) Qs := by first | exact r0 | exact r1 | exact r2 | exact r3 | exact r4 | exact r5 | exact r6 | exact r7 | exact r8 | exact r9 | exact r10 | exact r11 | exact r12 | exact r13 | exact r14 | exact r15 | exact r16 | exact r17 | exact r18 | exact r19) (hu : RC (Hp w0 R Ps) k Y.v (ys.map ct) := by first | (apply rc_own; (first | exact r0 | exact r1 | exact r2 | exact r3 | exact r4 | exact r5 | exact r6 | exact r7 | exact r8 | exact r9 | exact r10 | exact r11 | exact r12 | exact r13 | exact r14 | exact r15 | exact r16 | exact r17 | exact r18 | exact r19)) | (apply rc_fr; assumption))
    (hT : slI Tryz.prog T = some E := by exact slt rfl) (hT2 : notInt Tryz.prog T2 = true := by exact nit rfl) (hE : tyI Tryz.prog E = some (ag, k) := by exact tt rfl) (hz : zeI Tryz.prog E = some zs := by exact zet rfl) (hzl : zs.length = k := by rfl) (hb : byI Tryz.prog E = some bytes := by exact byt rfl) (hbb : Nat.ble bytes 4096 = true := by rfl) (ho : Cs ct k := by infer_instance)
    (hlen : xs.length + ys.length ≤ 140737488355328 ∧ (2 * (xs.length + ys.length) + 192) * bytes ≤ 281474976710656 := by (try simp only [List.length_append, List.length_cons, List.length_nil]); omega) (hd : Nat.blt d n = true := by rfl) (r : ∀ Z : SH, Av n w0 R ((d, Z.v) :: L) (Sv k E Z.v ((xs ++ ys).map ct) :: Qs) (.li Tryz.prog ops Q rest) (L1 Z) (Ps1 Z) (F1 Z) := by intro zx9; (repeat (apply x_; exact A3_)); exact av_r) :
    Gl n w0 R L Ps (.li Tryz.prog ops Q (⟨some d, .call ⟨.builtin .append, #[x, y], #[T, T2]⟩, ty, pos, aft, none⟩ :: rest)) := append_ (fun Z => (r Z).g (kk Z)) hx hy hT hT2 hE hz hzl hb hbb hP hu ho hlen hd
theorem an_ {α : Type} {ct : α → List Value} {ys : List α} {T T2 E : TypeId} {ag : Bool} {k bytes : Nat} {x y : Operand} {Y : SH} {zs : List Value} {L1 : SH → List (Nat × Value)} {Ps1 : SH → List HP} {F1 : SH → GF} (kk : ∀ Z, Gl n w0 R (L1 Z) (Ps1 Z) (F1 Z)) (hx : ev L x = some (.slice none 0 0) := by rfl) (hy : ev L y = some Y.v := by rfl) (hu : RC (Hp w0 R Ps) k Y.v (ys.map ct) := by first | (apply rc_own; (first | exact r0 | exact r1 | exact r2 | exact r3 | exact r4 | exact r5 | exact r6 | exact r7 | exact r8 | exact r9 | exact r10 | exact r11 | exact r12 | exact r13 | exact r14 | exact r15 | exact r16 | exact r17 | exact r18 | exact r19)) | (apply rc_fr; assumption))
    (hT : slI Tryz.prog T = some E := by exact slt rfl) (hT2 : notInt Tryz.prog T2 = true := by exact nit rfl) (hE : tyI Tryz.prog E = some (ag, k) := by exact tt rfl) (hz : zeI Tryz.prog E = some zs := by exact zet rfl) (hzl : zs.length = k := by rfl) (hb : byI Tryz.prog E = some bytes := by exact byt rfl) (hbb : Nat.ble bytes 4096 = true := by rfl) (ho : Cs ct k := by infer_instance)
    (hlen : ys.length ≤ 140737488355328 ∧ (2 * ys.length + 192) * bytes ≤ 281474976710656 := by (try simp only [List.length_append, List.length_cons, List.length_nil]); omega) (hd : Nat.blt d n = true := by rfl) (r : ∀ Z : SH, Av n w0 R ((d, Z.v) :: L) (Sv k E Z.v (ys.map ct) :: Ps) (.li Tryz.prog ops Q rest) (L1 Z) (Ps1 Z) (F1 Z) := by intro zx9; (repeat (apply x_; exact A3_)); exact av_r) :
    Gl n w0 R L Ps (.li Tryz.prog ops Q (⟨some d, .call ⟨.builtin .append, #[x, y], #[T, T2]⟩, ty, pos, aft, none⟩ :: rest)) :=
  nil_ ct k E (append_ (X := nilH) (xs := []) (fun Z => (r Z).g (kk Z)) hx hy hT hT2 hE hz hzl hb hbb r0 (fun w m => hu w m.drop) ho (by simpa using hlen) hd)
theorem anu_ {α : Type} {ct : α → List Value} {zs0 : List α} {T T2 E : TypeId} {ag : Bool} {k bytes : Nat} {x y : Operand} {Y : SH} {zs : List Value} {L1 : SH → List (Nat × Value)} {Ps1 : SH → List HP} {F1 : SH → GF} (i : Nat) (kk : ∀ Z, Gl n w0 R (L1 Z) (Ps1 Z) (F1 Z)) (hx : ev L x = some (.slice none 0 0) := by rfl) (hy : ev L y = some (upH Y i).v := by rfl) (hP : Rem Ps (Sv k E Y.v (zs0.map ct)) Qs := by first | exact r0 | exact r1 | exact r2 | exact r3 | exact r4 | exact r5 | exact r6 | exact r7 | exact r8 | exact r9 | exact r10 | exact r11 | exact r12 | exact r13 | exact r14 | exact r15 | exact r16 | exact r17 | exact r18 | exact r19) (hi : i ≤ zs0.length := by omega)
    (hT : slI Tryz.prog T = some E := by exact slt rfl) (hT2 : notInt Tryz.prog T2 = true := by exact nit rfl) (hE : tyI Tryz.prog E = some (ag, k) := by exact tt rfl) (hz : zeI Tryz.prog E = some zs := by exact zet rfl) (hzl : zs.length = k := by rfl) (hb : byI Tryz.prog E = some bytes := by exact byt rfl) (hbb : Nat.ble bytes 4096 = true := by rfl) (ho : Cs ct k := by infer_instance)
    (hlen : zs0.length ≤ 140737488355328 ∧ (2 * zs0.length + 192) * bytes ≤ 281474976710656 := by omega) (hd : Nat.blt d n = true := by rfl) (r : ∀ Z : SH, Av n w0 R ((d, Z.v) :: L) (Sv k E Z.v ((zs0.take i).map ct) :: Ps) (.li Tryz.prog ops Q rest) (L1 Z) (Ps1 Z) (F1 Z) := by intro zx9; (repeat (apply x_; exact A3_)); exact av_r) :
    Gl n w0 R L Ps (.li Tryz.prog ops Q (⟨some d, .call ⟨.builtin .append, #[x, y], #[T, T2]⟩, ty, pos, aft, none⟩ :: rest)) :=
  an_ (ys := zs0.take i) kk hx hy (rcu_ i hP hi) hT hT2 hE hz hzl hb hbb ho ⟨by rw [List.length_take]; omega, Nat.le_trans (Nat.mul_le_mul_right _ (by rw [List.length_take]; omega)) hlen.2⟩ hd r
theorem apw_ {α : Type} {ct : α → List Value} {xs zs0 : List α} {T T2 E : TypeId} {ag : Bool} {k bytes : Nat} {x y : Operand} {X Y : SH} {zs : List Value} {Qs2 : List HP} {L1 : SH → List (Nat × Value)} {Ps1 : SH → List HP} {F1 : SH → GF} (j : Nat) (kk : ∀ Z, Gl n w0 R (L1 Z) (Ps1 Z) (F1 Z)) (hx : ev L x = some X.v := by rfl) (hy : ev L y = some (subH3 k Y j zs0.length Y.c).v := by rfl) (hP : Rem Ps (Sv k E X.v (xs.map ct)) Qs := by first | exact r0 | exact r1 | exact r2 | exact r3 | exact r4 | exact r5 | exact r6 | exact r7 | exact r8 | exact r9 | exact r10 | exact r11 | exact r12 | exact r13 | exact r14 | exact r15 | exact r16 | exact r17 | exact r18 | exact r19) (hP2 : Rem Ps (Sv k E Y.v (zs0.map ct)) Qs2 := by first | exact r0 | exact r1 | exact r2 | exact r3 | exact r4 | exact r5 | exact r6 | exact r7 | exact r8 | exact r9 | exact r10 | exact r11 | exact r12 | exact r13 | exact r14 | exact r15 | exact r16 | exact r17 | exact r18 | exact r19) (hj : j ≤ zs0.length := by omega)
    (hT : slI Tryz.prog T = some E := by exact slt rfl) (hT2 : notInt Tryz.prog T2 = true := by exact nit rfl) (hE : tyI Tryz.prog E = some (ag, k) := by exact tt rfl) (hz : zeI Tryz.prog E = some zs := by exact zet rfl) (hzl : zs.length = k := by rfl) (hb : byI Tryz.prog E = some bytes := by exact byt rfl) (hbb : Nat.ble bytes 4096 = true := by rfl) (ho : Cs ct k := by infer_instance)
    (hlen : xs.length + zs0.length ≤ 140737488355328 ∧ (2 * (xs.length + zs0.length) + 192) * bytes ≤ 281474976710656 := by (try simp only [List.length_append, List.length_cons, List.length_nil]); omega) (hd : Nat.blt d n = true := by rfl) (r : ∀ Z : SH, Av n w0 R ((d, Z.v) :: L) (Sv k E Z.v ((xs ++ zs0.drop j).map ct) :: Qs) (.li Tryz.prog ops Q rest) (L1 Z) (Ps1 Z) (F1 Z) := by intro zx9; (repeat (apply x_; exact A3_)); exact av_r) :
    Gl n w0 R L Ps (.li Tryz.prog ops Q (⟨some d, .call ⟨.builtin .append, #[x, y], #[T, T2]⟩, ty, pos, aft, none⟩ :: rest)) :=
  ap_ (ys := zs0.drop j) kk hx hy hP (rcw_ j hP2 hj) hT hT2 hE hz hzl hb hbb ho ⟨by rw [List.length_drop]; omega, Nat.le_trans (Nat.mul_le_mul_right _ (by rw [List.length_drop]; omega)) hlen.2⟩ hd r
section
variable {κ ν : Type} {iκ : DecidableEq κ} {kc : κ → Value} {vc : ν → Value} {ms : List (κ × ν)} {r : Nat} {K V T : TypeId} {kx : κ} {ux : ν} {mo ko vo : Operand}
theorem mu_ (hk0 : Gl n w0 R L1 Ps1 F1) (hx : ev L mo = some (.map (some r)) := by rfl) (hP : Rem Ps (Mp r kc vc ms) Qs := by first | exact r0 | exact r1 | exact r2 | exact r3 | exact r4 | exact r5 | exact r6 | exact r7 | exact r8 | exact r9 | exact r10 | exact r11 | exact r12 | exact r13 | exact r14 | exact r15 | exact r16 | exact r17 | exact r18 | exact r19) (hk : ev L ko = some (kc kx) := by rfl) (hv : ev L vo = some (vc ux) := by rfl) (hT : maI Tryz.prog T = some (K, V) := by exact mat rfl) (hK : KeyOK Tryz.prog K kc := by exact Ky.h) (rr : Av n w0 R L (Mp r kc vc (mset ms kx ux) :: Qs) (.li Tryz.prog ops Q rest) L1 Ps1 F1 := by (repeat (apply x_; exact A3_)); exact av_r) :
    Gl n w0 R L Ps (.li Tryz.prog ops Q (⟨none, .mapUpdate T mo ko vo, ty, pos, aft, none⟩ :: rest)) := mup_ hx hk hv hT hP hK (rr.g hk0)
theorem md_ {t2 : TypeId} (hk0 : Gl n w0 R L1 Ps1 F1) (hx : ev L mo = some (.map (some r)) := by rfl) (hP : Rem Ps (Mp r kc vc ms) Qs := by first | exact r0 | exact r1 | exact r2 | exact r3 | exact r4 | exact r5 | exact r6 | exact r7 | exact r8 | exact r9 | exact r10 | exact r11 | exact r12 | exact r13 | exact r14 | exact r15 | exact r16 | exact r17 | exact r18 | exact r19) (hk : ev L ko = some (kc kx) := by rfl) (hT : maI Tryz.prog T = some (K, V) := by exact mat rfl) (hK : KeyOK Tryz.prog K kc := by exact Ky.h) (rr : Av n w0 R L (Mp r kc vc (mdel ms kx) :: Qs) (.li Tryz.prog ops Q rest) L1 Ps1 F1 := by (repeat (apply x_; exact A3_)); exact av_r) :
    Gl n w0 R L Ps (.li Tryz.prog ops Q (⟨none, .call ⟨.builtin .delete, #[mo, ko], #[T, t2]⟩, ty, pos, aft, none⟩ :: rest)) := mde_ hx hk hT hP hK (rr.g hk0)
theorem mm_ {E : TypeId} (kc : κ → Value) (vc : ν → Value) {L1 : Nat → List (Nat × Value)} {Ps1 : Nat → List HP} {F1 : Nat → GF} (hk0 : ∀ r, Gl n w0 R (L1 r) (Ps1 r) (F1 r)) (hd : Nat.blt d n = true := by rfl) (rr : ∀ r, Av n w0 R ((d, .map (some r)) :: L) (Mp r kc vc [] :: Ps) (.li P ops Q rest) (L1 r) (Ps1 r) (F1 r) := by intro zr9; (repeat (apply x_; exact A3_)); exact av_r) :
    Gl n w0 R L Ps (.li P ops Q (⟨some d, .makeMap E none, ty, pos, aft, none⟩ :: rest)) := mma_ kc vc (fun r => (rr r).g (hk0 r)) hd
theorem rg_ {L1 : Nat → List (Nat × Value)} {Ps1 : Nat → List HP} {F1 : Nat → GF} (hk0 : ∀ b, Gl n w0 R (L1 b) (Ps1 b) (F1 b)) (hx : ev L mo = some (.map (some r)) := by rfl) (hP : Rem Ps (Mp r kc vc ms) Qs := by first | exact r0 | exact r1 | exact r2 | exact r3 | exact r4 | exact r5 | exact r6 | exact r7 | exact r8 | exact r9 | exact r10 | exact r11 | exact r12 | exact r13 | exact r14 | exact r15 | exact r16 | exact r17 | exact r18 | exact r19) (hT : maI Tryz.prog T = some (K, V) := by exact mat rfl) (hd : Nat.blt d n = true := by rfl) (rr : ∀ b, Av n w0 R ((d, .pointer (some ⟨b, 0, none⟩)) :: L) (Ri b r kc vc ms ms :: Qs) (.li Tryz.prog ops Q rest) (L1 b) (Ps1 b) (F1 b) := by intro zb9; (repeat (apply x_; exact A3_)); exact av_r) :
    Gl n w0 R L Ps (.li Tryz.prog ops Q (⟨some d, .range T mo, ty, pos, aft, none⟩ :: rest)) := ran_ (fun b => (rr b).g (hk0 b)) hx hT hP hd
theorem nx_ {it : Operand} {b : Nat} {left : List (κ × ν)} {L2 : Nat → κ × ν → List (Nat × Value)} {Ps2 : Nat → κ × ν → List HP} {F2 : Nat → κ × ν → GF} (k0 : left = [] → Gl n w0 R L1 Ps1 F1) (k1 : ∀ i e, left[i]? = some e → Gl n w0 R (L2 i e) (Ps2 i e) (F2 i e)) (hx : ev L it = some (.pointer (some ⟨b, 0, none⟩)) := by rfl) (hP : Rem Ps (Ri b r kc vc ms left) Qs := by first | exact r0 | exact r1 | exact r2 | exact r3 | exact r4 | exact r5 | exact r6 | exact r7 | exact r8 | exact r9 | exact r10 | exact r11 | exact r12 | exact r13 | exact r14 | exact r15 | exact r16 | exact r17 | exact r18 | exact r19) (hd : Nat.blt d n = true := by rfl)
    (r0 : left = [] → Av n w0 R ((d, .tuple #[.bool false]) :: L) (Ri b r kc vc ms [] :: Qs) (.li P ops Q rest) L1 Ps1 F1 := by intro zh9; (repeat (apply x_; exact A3_)); exact av_r) (r1 : ∀ i e, left[i]? = some e → Av n w0 R ((d, .tuple #[.bool true, kc e.1, vc e.2]) :: L) (Re b r kc vc ms (left.eraseIdx i) e :: Qs) (.li P ops Q rest) (L2 i e) (Ps2 i e) (F2 i e) := by intro zi9 ze9 zh9; (repeat (apply x_; exact A3_)); exact av_r) :
    Gl n w0 R L Ps (.li P ops Q (⟨some d, .next it false, ty, pos, aft, none⟩ :: rest)) := nxt_ (fun h => (r0 h).g (k0 h)) (fun i e h => (r1 i e h).g (k1 i e h)) hx hP hd
theorem ue_ {b : Nat} {left : List (κ × ν)} {xe : κ × ν} (hk0 : Gl n w0 R L (Ri b r kc vc ms left :: Qs) F) (hP : Rem Ps (Re b r kc vc ms left xe) Qs := by first | exact r0 | exact r1 | exact r2 | exact r3 | exact r4 | exact r5 | exact r6 | exact r7 | exact r8 | exact r9 | exact r10 | exact r11 | exact r12 | exact r13 | exact r14 | exact r15 | exact r16 | exact r17 | exact r18 | exact r19) : Gl n w0 R L Ps F := ue0_ hP hk0
theorem ur_ {b : Nat} {left : List (κ × ν)} (hk0 : Gl n w0 R L (Mp r kc vc ms :: Qs) F) (hP : Rem Ps (Ri b r kc vc ms left) Qs := by first | exact r0 | exact r1 | exact r2 | exact r3 | exact r4 | exact r5 | exact r6 | exact r7 | exact r8 | exact r9 | exact r10 | exact r11 | exact r12 | exact r13 | exact r14 | exact r15 | exact r16 | exact r17 | exact r18 | exact r19) : Gl n w0 R L Ps F := unri_ hP hk0
end
section
variable {ι : Type} {m : Nat} {L0 : List (Nat × Value)} {Pr : List HP} {cd : Code} {L1 : ι → List (Nat × Value)} {Ps1 : ι → List HP} {F1 : ι → GF}
theorem lo_ (M : ι → List (Nat × Value)) (J : ι → List HP) (φ : ι → Prop) (μ : ι → Nat) (i0 : ι) (h0 : φ i0) (k : ∀ i, φ i → Gl n w0 R (L1 i) (Ps1 i) (F1 i)) (hP : Tk (J i0) Ps Pr := by (repeat (first | exact Tk.n | (apply Tk.c; (first | exact r0 | exact r1 | exact r2 | exact r3 | exact r4 | exact r5 | exact r6 | exact r7 | exact r8 | exact r9 | exact r10 | exact r11 | exact r12 | exact r13 | exact r14 | exact r15 | exact r16 | exact r17 | exact r18 | exact r19))))) (hL : vals L (M i0) := by (repeat (first | exact trivial | (refine ⟨rfl, ?_⟩))))
    (r : ∀ i, φ i → Av n w0 R (M i ++ L) (J i ++ Pr) (.co P cd (Exit.then (LN n w0 R (fun i => M i ++ L) (fun i => J i ++ Pr) φ μ (μ i)) Q)) (L1 i) (Ps1 i) (F1 i) := by intro zi9 zh9; (try dsimp only at zh9); (repeat (apply x_; exact A3_)); exact av_r) : Gl n w0 R L Ps (.co P (.loop cd) Q) := loop_ M J φ μ i0 h0 (fun i h => (r i h).g (k i h)) hP hL
theorem ba_ {M : ι → List (Nat × Value)} {J : ι → List HP} {φ : ι → Prop} {μ : ι → Nat} (j : ι) (h1 : φ j) (h2 : μ j < m := by first | omega | (dsimp only; omega) | (simp only [List.length_set, List.length_append, List.length_cons, List.length_nil]; omega)) (hL : Bk L (M j) L0 := by exact ⟨by (repeat (first | exact trivial | (refine ⟨rfl, ?_⟩))), by kernel_rfl, by kernel_rfl⟩) (hP : Sub (J j ++ Pr) Ps := by (repeat (first | exact Sub.n | (apply Sub.c; (first | exact r0 | exact r1 | exact r2 | exact r3 | exact r4 | exact r5 | exact r6 | exact r7 | exact r8 | exact r9 | exact r10 | exact r11 | exact r12 | exact r13 | exact r14 | exact r15 | exact r16 | exact r17 | exact r18 | exact r19))))) :
    Gl n w0 R L Ps (.ex (fun _ => LN n w0 R (fun i => M i ++ L0) (fun i => J i ++ Pr) φ μ m) .normal) := back_ j h1 h2 hL hP
theorem jm_ {Lh : List (Nat × Value)} {Psh : List HP} {Fh : GF} (M : ι → List (Nat × Value)) (J : ι → List HP) (J0 : List HP) (φ : ι → Prop) (h : Gl n w0 R Lh Psh Fh) (k : ∀ i, φ i → Gl n w0 R (L1 i) (Ps1 i) (F1 i)) (hP : Tk J0 Ps Pr := by (repeat (first | exact Tk.n | (apply Tk.c; (first | exact r0 | exact r1 | exact r2 | exact r3 | exact r4 | exact r5 | exact r6 | exact r7 | exact r8 | exact r9 | exact r10 | exact r11 | exact r12 | exact r13 | exact r14 | exact r15 | exact r16 | exact r17 | exact r18 | exact r19))))) (rh : Av n w0 R L Ps (.co P x (Exit.then (JN n w0 R (fun i => M i ++ L) (fun i => J i ++ Pr) φ) Q)) Lh Psh Fh := by (repeat (apply x_; exact A3_)); exact av_r)
    (r : ∀ i, φ i → Av n w0 R (M i ++ L) (J i ++ Pr) (.ex Q .normal) (L1 i) (Ps1 i) (F1 i) := by intro zi9 zh9; (try dsimp only at zh9); (repeat (apply x_; exact A3_)); exact av_r) : Gl n w0 R L Ps (.co P x Q) := joinM_ M J φ (rh.g h) fun i h => (r i h).g (k i h)
theorem ma_ {M : ι → List (Nat × Value)} {J : ι → List HP} {φ : ι → Prop} (j : ι) (h1 : φ j) (hL : Bk L (M j) L0 := by exact ⟨by (repeat (first | exact trivial | (refine ⟨rfl, ?_⟩))), by kernel_rfl, by kernel_rfl⟩) (hP : Sub (J j ++ Pr) Ps := by (repeat (first | exact Sub.n | (apply Sub.c; (first | exact r0 | exact r1 | exact r2 | exact r3 | exact r4 | exact r5 | exact r6 | exact r7 | exact r8 | exact r9 | exact r10 | exact r11 | exact r12 | exact r13 | exact r14 | exact r15 | exact r16 | exact r17 | exact r18 | exact r19))))) :
    Gl n w0 R L Ps (.ex (fun _ => JN n w0 R (fun i => M i ++ L0) (fun i => J i ++ Pr) φ) .normal) := meetM_ j h1 hL hP
end
end
end Go.Proofs.YtdallmabajeajaaGreatDoor.Fw
set_option linter.all false
set_option maxHeartbeats 4000000
namespace Go.Proofs.YtdallmabajeajaaGreatDoor.Fw
open Go
section
variable {P : Program} {n : Nat} {w0 : World} {R : Hh} {Ps : List HP} {L : List (Nat × Value)} {ops : Array Oper} {Q : Exit → Act → World → Prop} {rest : List Oper} {d : Nat} {ty : TypeId} {pos : String} {aft : Array Edge} {op : Op} {j t : Nat} {want b : Bool}
theorem gsp_ (k1 : b = want → Gl n w0 R L Ps (.li P ops Q (⟨some d, op, ty, pos, aft, none⟩ :: rest))) (k2 : b = !want → Gl n w0 R ((d, undef) :: L) Ps (.li P ops Q rest)) (hj : (ops[j]?).bind (·.dst) = some t := by rfl) (ht : lk L t = some (.bool b) := by rfl) (hd : Nat.blt d n = true := by rfl) :
    Gl n w0 R L Ps (.li P ops Q (⟨some d, op, ty, pos, aft, some (j, want)⟩ :: rest)) := by
  by_cases h : b = want
  · exact (v40_ hj ht h).g (k1 h)
  · have h2 : b = !want := by cases b <;> cases want <;> simp_all
    exact (v42_ hj ht hd h2).g (k2 h2)
end
section
variable {n : Nat} {w0 : World} {R : Hh} {Ps : List HP} {L : List (Nat × Value)} {ops : Array Oper} {Q : Exit → Act → World → Prop} {rest : List Oper} {d : Nat} {ty T T2 E : TypeId} {pos : String} {aft : Array Edge} {x y : Operand} {p : Addr} {t j : Nat} {want b : Bool}
theorem pnn_ {L1 : List (Nat × Value)} {Ps1 : List HP} {F1 : GF} (k : Gl n w0 R L1 Ps1 F1) (hx : ev L x = some (.pointer (some p)) := by rfl) (hy : ev L y = some (.pointer none) := by rfl) (hT : ptI Tryz.prog T = some E := by exact ptt rfl) (hd : Nat.blt d n = true := by rfl)
    (r : Av n w0 R ((d, .bool false) :: L) Ps (.li Tryz.prog ops Q rest) L1 Ps1 F1 := by (repeat (apply x_; exact A3_)); exact av_r) : Gl n w0 R L Ps (.li Tryz.prog ops Q (⟨some d, .binOp .eql T x y T2, ty, pos, aft, none⟩ :: rest)) :=
  fun a w hs m => (p_ (C := Hp w0 R Ps) (ok_isNilP hx hy hT) hd).g _ _ _ _ hs m fun a hs => r.g k a w hs m
end
section
variable {n : Nat} {w0 : World} {R : Hh} {Ps : List HP} {L : List (Nat × Value)} {ops : Array Oper} {Q : Exit → Act → World → Prop} {rest : List Oper} {d : Nat} {ty T E : TypeId} {pos : String} {aft : Array Edge} {qs : List (Nat × Operand)} {us : List (Nat × Value)} {m k : Nat} {ag : Bool} {zs : List Value}
theorem bua_ (cs : List Value) {L1 : List (Nat × Value)} {Ps1 : List HP} {F1 : GF} (kk : Gl n w0 R L1 Ps1 F1) (hf : arI Tryz.prog T = some (m, E) := by exact art rfl) (hE : tyI Tryz.prog E = some (ag, k) := by exact tt rfl) (hz : zeI Tryz.prog T = some zs := by exact zet rfl) (hx : partsOf L qs = some us := by rfl) (hc : fillP (fun i => some (i * k, k)) zs us = some cs := by kernel_rfl) (hd : Nat.blt d n = true := by rfl)
    (r : Av n w0 R ((d, .agg ⟨cs⟩) :: L) Ps (.li Tryz.prog ops Q rest) L1 Ps1 F1 := by (repeat (apply x_; exact A3_)); exact av_r) : Gl n w0 R L Ps (.li Tryz.prog ops Q (⟨some d, .build T ⟨qs⟩, ty, pos, aft, none⟩ :: rest)) :=
  fun a w hs m => (p_ (C := Hp w0 R Ps) (ok_buildArr hf hE hz hx hc) hd).g _ _ _ _ hs m fun a hs => r.g kk a w hs m
end
structure CfgR (c : QConfig) : Prop where
  n : 0 ≤ c.Network.Addr ∧ c.Network.Addr < 4294967296
  mn : 0 ≤ c.Min ∧ c.Min < 4294967296
  mx : 0 ≤ c.Max ∧ c.Max < 4294967296
  f : 0 ≤ c.First ∧ c.First < 4294967296
structure CmdR (x : QCmd) : Prop where
  p0 : 0 ≤ x.Subnet.Addr
  p1 : x.Subnet.Addr < 4294967296
  n1 : x.N ≤ 9223372036854775807
def clsL : List Qaddr_class := [⟨⟨0, 8⟩, 1⟩, ⟨⟨2130706432, 8⟩, 2⟩, ⟨⟨3758096384, 4⟩, 3⟩, ⟨⟨4026531840, 4⟩, 4⟩]
structure ClsR (R : Hh) (X : SH) : Prop where
  g : CellsAt R ⟨0, 0, none⟩ [X.v]
  l : RdS R 3 X.v (clsL.map caddr_class)
theorem ClsR.le {R R' : Hh} {X : SH} (h : ClsR R X) (l : hle R R') : ClsR R' X := ⟨h.g.le l, h.l.le l⟩
end Go.Proofs.YtdallmabajeajaaGreatDoor.Fw
set_option linter.all false
namespace Go.Proofs.YtdallmabajeajaaGreatDoor.Fw
section
variable {α : Type} [Inhabited α]
def gt (h : List α) (i : Nat) : α := h.getD i default
theorem gt_set_eq {h : List α} {i : Nat} {x : α} (hi : i < h.length) : gt (h.set i x) i = x := by simp [gt, List.getD_eq_getElem?_getD, hi]
theorem gt_set_ne {h : List α} {i j : Nat} {x : α} (hij : i ≠ j) : gt (h.set i x) j = gt h j := by simp [gt, List.getD_eq_getElem?_getD, hij]
theorem gt_app {h l : List α} {i : Nat} (hi : i < h.length) : gt (h ++ l) i = gt h i := by simp [gt, List.getD_eq_getElem?_getD, List.getElem?_append_left hi]
theorem gt_last {h : List α} {x : α} : gt (h ++ [x]) h.length = x := by simp [gt, List.getD_eq_getElem?_getD]
def par (i : Nat) : Nat := (i - 1) / 2
structure Ord (lt : α → α → Prop) : Prop where
  «as» : ∀ {a b}, lt a b → ¬ lt b a
  tr : ∀ {a b c}, ¬ lt a b → ¬ lt b c → ¬ lt a c
def Heap (lt : α → α → Prop) (h : List α) : Prop := ∀ j, 1 ≤ j → j < h.length → ¬ lt (gt h j) (gt h (par j))
def HeapAt (lt : α → α → Prop) (h : List α) (i : Nat) : Prop := (∀ j, 1 ≤ j → j < h.length → j ≠ i → par j ≠ i → ¬ lt (gt h j) (gt h (par j))) ∧ (1 ≤ i → ∀ j, 1 ≤ j → j < h.length → par j = i → ¬ lt (gt h j) (gt h (par i)))
def HeapUp (lt : α → α → Prop) (h : List α) (i : Nat) : Prop := HeapAt lt h i ∧ (1 ≤ i → ¬ lt (gt h i) (gt h (par i)))
variable {lt : α → α → Prop} {h : List α} {i k : Nat} {x : α}
theorem par_lt (h1 : 1 ≤ i) : par i < i := by unfold par; omega
theorem heap_set (o : Ord lt) (H : Heap lt h) : HeapAt lt (h.set i x) i := by
  refine ⟨fun j h1 h2 h3 h4 => ?_, fun h0 j h1 h2 h3 => ?_⟩
  · rw [gt_set_ne (Ne.symm h3), gt_set_ne (Ne.symm h4)]
    exact H j h1 (by simpa using h2)
  · have hij : i ≠ j := by have := par_lt h1; omega
    have hp : i ≠ par i := by have := par_lt h0; omega
    rw [gt_set_ne hij, gt_set_ne hp]
    simp only [List.length_set] at h2
    have e1 := H j h1 h2
    rw [h3] at e1
    have hi : i < h.length := by have := par_lt h1; omega
    exact o.tr e1 (H i h0 hi)
theorem heap_app (H : Heap lt h) : HeapAt lt (h ++ [x]) h.length := by
  refine ⟨fun j h1 h2 h3 h4 => ?_, fun h0 j h1 h2 h3 => ?_⟩
  · simp only [List.length_append, List.length_cons, List.length_nil] at h2
    have hp := par_lt h1
    rw [gt_app (by omega), gt_app (by omega)]
    exact H j h1 (by omega)
  · simp only [List.length_append, List.length_cons, List.length_nil] at h2
    have hp := par_lt h1
    omega
theorem heap_shrink {l : List α} (H : Heap lt (h ++ l)) : Heap lt h := fun j h1 h2 => by
  have := H j h1 (by simp; omega)
  have hp := par_lt h1
  rwa [gt_app h2, gt_app (by omega)] at this
theorem heap_up (o : Ord lt) (hi : i < h.length) (h0 : 1 ≤ i) (H : HeapAt lt (h.set i x) i) (hx : lt x (gt h (par i))) : HeapAt lt ((h.set i (gt h (par i))).set (par i) x) (par i) := by
  have hp := par_lt h0
  have hne : i ≠ par i := by omega
  obtain ⟨H1, H2⟩ := H
  have H2 := H2 h0
  refine ⟨fun j h1 h2 h3 h4 => ?_, fun h5 j h1 h2 h3 => ?_⟩
  · simp only [List.length_set] at h2
    by_cases hj : j = i
    · exact absurd (by rw [hj]) h4
    · have hjp := par_lt h1
      rw [gt_set_ne (Ne.symm h3), gt_set_ne (Ne.symm hj)]
      by_cases hc : par j = i
      · rw [hc, gt_set_ne (Ne.symm hne), gt_set_eq hi]
        have := H2 j h1 (by simpa using h2) hc
        rwa [gt_set_ne (Ne.symm hj), gt_set_ne hne] at this
      · rw [gt_set_ne (Ne.symm h4), gt_set_ne (Ne.symm hc)]
        have := H1 j h1 (by simpa using h2) hj hc
        rwa [gt_set_ne (Ne.symm hj), gt_set_ne (Ne.symm hc)] at this
  · simp only [List.length_set] at h2
    have hpp := par_lt h5
    have e3 : ¬ lt (gt h (par i)) (gt h (par (par i))) := by
      have := H1 (par i) h5 (by simp; omega) (by omega) (by omega)
      rwa [gt_set_ne (by omega), gt_set_ne (by omega)] at this
    by_cases hj : j = i
    · subst hj
      rw [gt_set_ne (Ne.symm hne), gt_set_eq hi, gt_set_ne (by omega), gt_set_ne (by omega)]
      exact e3
    · rw [gt_set_ne (by have := par_lt h1; omega), gt_set_ne (Ne.symm hj), gt_set_ne (by omega), gt_set_ne (by omega)]
      have := H1 j h1 (by simpa using h2) hj (by omega)
      rw [gt_set_ne (Ne.symm hj), gt_set_ne (by omega), h3] at this
      exact o.tr this e3
theorem heap_upstop (H : HeapAt lt (h.set i x) i) (hi : i < h.length) (hx : 1 ≤ i → ¬ lt x (gt h (par i))) : HeapUp lt (h.set i x) i := ⟨H, fun h0 => by
  have hp := par_lt h0
  rw [gt_set_eq hi, gt_set_ne (by omega)]
  exact hx h0⟩
theorem heap_down (o : Ord lt) (hk : k < h.length) (h0 : 1 ≤ k) (hp : par k = i) (H : HeapUp lt (h.set i x) i) (hx : lt (gt h k) x) (hf : ∀ j, 1 ≤ j → j < h.length → par j = i → ¬ lt (gt h j) (gt h k)) : HeapUp lt ((h.set i (gt h k)).set k x) k := by
  have hki := par_lt h0
  have hi : i < h.length := by omega
  have hne : i ≠ k := by omega
  obtain ⟨⟨H1, H2⟩, H3⟩ := H
  refine ⟨⟨fun j h1 h2 h3 h4 => ?_, fun _ j h1 h2 h3 => ?_⟩, fun _ => ?_⟩
  · simp only [List.length_set] at h2
    have hjp := par_lt h1
    by_cases hj : j = i
    · subst hj
      rw [gt_set_ne (Ne.symm hne), gt_set_eq hi, gt_set_ne (Ne.symm h4), gt_set_ne (by omega)]
      have := H2 h1 k h0 (by simpa using hk) hp
      rwa [gt_set_ne hne, gt_set_ne (by omega)] at this
    · rw [gt_set_ne (Ne.symm h3), gt_set_ne (Ne.symm hj), gt_set_ne (Ne.symm h4)]
      by_cases hc : par j = i
      · rw [hc, gt_set_eq hi]
        exact hf j h1 h2 hc
      · rw [gt_set_ne (Ne.symm hc)]
        have := H1 j h1 (by simpa using h2) hj hc
        rwa [gt_set_ne (Ne.symm hj), gt_set_ne (Ne.symm hc)] at this
  · simp only [List.length_set] at h2
    have hjp := par_lt h1
    rw [gt_set_ne (by omega), gt_set_ne (by omega), hp, gt_set_ne (Ne.symm hne), gt_set_eq hi]
    have := H1 j h1 (by simpa using h2) (by omega) (by omega)
    rwa [gt_set_ne (by omega), gt_set_ne (by omega), h3] at this
  · rw [gt_set_eq (by simpa using hk), hp, gt_set_ne (Ne.symm hne), gt_set_eq hi]
    exact o.as hx
theorem heap_downstop (H : HeapUp lt (h.set i x) i) (hi : i < h.length) (hf : ∀ j, 1 ≤ j → j < h.length → par j = i → ¬ lt (gt h j) x) : Heap lt (h.set i x) := fun j h1 h2 => by
  have hjp := par_lt h1
  by_cases hj : j = i
  · subst hj; exact H.2 h1
  · by_cases hc : par j = i
    · rw [hc, gt_set_eq hi, gt_set_ne (Ne.symm hj)]
      exact hf j h1 (by simpa using h2) hc
    · exact H.1.1 j h1 h2 hj hc
theorem heap_top (o : Ord lt) (H : Heap lt h) : ∀ j, j < h.length → ¬ lt (gt h j) (gt h 0) := by
  intro j
  induction j using Nat.strongRecOn with
  | _ j ih =>
    intro hj
    by_cases h0 : j = 0
    · subst h0
      intro e
      exact o.as e e
    · have hp := par_lt (show 1 ≤ j by omega)
      exact o.tr (H j (by omega) hj) (ih _ hp (by omega))
end
end Go.Proofs.YtdallmabajeajaaGreatDoor.Fw
set_option linter.all false
namespace Go.Proofs.YtdallmabajeajaaGreatDoor.Fw
theorem sorted_uniq {α : Type} {lt : α → α → Prop} : ∀ {l1 l2 : List α}, l1.Perm l2 → l1.Pairwise (fun a b => ¬ lt b a) → l2.Pairwise (fun a b => ¬ lt b a) → (∀ a ∈ l1, ∀ b ∈ l1, ¬ lt a b → ¬ lt b a → a = b) → l1 = l2
  | [], l2, p, _, _, _ => by rw [List.Perm.nil_eq p]
  | a :: l1, [], p, _, _, _ => by simpa using p.length_eq
  | a :: l1, b :: l2, p, h1, h2, t => by
    have e : a = b := by
      have ha : a ∈ b :: l2 := p.mem_iff.1 (by simp)
      have hb : b ∈ a :: l1 := p.mem_iff.2 (by simp)
      rw [List.pairwise_cons] at h1 h2
      rcases List.mem_cons.1 ha with h | h
      · exact h
      · rcases List.mem_cons.1 hb with h3 | h3
        · exact h3.symm
        · exact t a (by simp) b hb (h2.1 a h) (h1.1 b h3)
    subst e
    rw [List.pairwise_cons] at h1 h2
    rw [sorted_uniq ((List.perm_cons a).1 p) h1.2 h2.2 fun x hx y hy => t x (by simp [hx]) y (by simp [hy])]
end Go.Proofs.YtdallmabajeajaaGreatDoor.Fw
set_option linter.all false
namespace Go.Proofs.YtdallmabajeajaaGreatDoor.Fw
section
variable {κ ν : Type} [DecidableEq κ] {m : List (κ × ν)} {k j : κ} {u v : ν}
def KD (m : List (κ × ν)) : Prop := (m.map (·.1)).Nodup
theorem mget_none : mget m k = none ↔ ∀ e ∈ m, e.1 ≠ k := by
  unfold mget
  cases h : midx m k with
  | none =>
    have h' := h
    unfold midx at h'
    rw [List.findIdx?_eq_none_iff] at h'
    simp only [Option.bind_none, true_iff]
    intro e he hk
    have := h' e.1 (List.mem_map_of_mem he)
    simp [hk] at this
  | some i =>
    obtain ⟨w, hw⟩ := midx_get h
    simp only [Option.bind_some, hw, Option.map_some, reduceCtorEq, false_iff]
    intro h2
    exact h2 _ (List.mem_of_getElem? hw) rfl
theorem msplit (h : mget m k = some v) : ∃ A B, m = A ++ (k, v) :: B ∧ (∀ e ∈ A, e.1 ≠ k) ∧ mdel m k = A ++ B ∧ ∀ u, mset m k u = A ++ (k, u) :: B := by
  unfold mget at h
  cases hi : midx m k with
  | none => rw [hi] at h; cases h
  | some i =>
    obtain ⟨w, hw⟩ := midx_get hi
    rw [hi] at h
    simp only [Option.bind_some, hw, Option.map_some, Option.some.injEq] at h
    subst h
    have hl := (List.getElem?_eq_some_iff.1 hw).1
    have hg := (List.getElem?_eq_some_iff.1 hw).2
    refine ⟨m.take i, m.drop (i + 1), ?_, ?_, ?_, fun u => ?_⟩
    · conv => lhs; rw [← List.take_append_drop i m, List.drop_eq_getElem_cons hl, hg]
    · intro e he hk
      have h' := hi
      unfold midx at h'
      rw [List.findIdx?_eq_some_iff_getElem] at h'
      obtain ⟨h1, h2, h3⟩ := h'
      obtain ⟨a, ha, hb⟩ := List.mem_iff_getElem.1 he
      simp only [List.length_take] at ha
      have := h3 a (by omega)
      simp only [List.getElem_map] at this
      rw [List.getElem_take] at hb
      rw [hb, hk] at this
      simp at this
    · unfold mdel
      rw [hi]
      simp only [List.eraseIdx_eq_take_drop_succ]
    · unfold mset
      rw [hi]
      simp only [List.set_eq_take_append_cons_drop, hl, if_true]
theorem mset_new (h : mget m k = none) : mset m k v = m ++ [(k, v)] := by
  unfold mset
  cases hi : midx m k with
  | none => rfl
  | some i =>
    obtain ⟨w, hw⟩ := midx_get hi
    exact absurd rfl (mget_none.1 h _ (List.mem_of_getElem? hw))
theorem mdel_none (h : mget m k = none) : mdel m k = m := by
  unfold mdel
  cases hi : midx m k with
  | none => rfl
  | some i =>
    obtain ⟨w, hw⟩ := midx_get hi
    exact absurd rfl (mget_none.1 h _ (List.mem_of_getElem? hw))
theorem mget_in (h : mget m k = some v) : (k, v) ∈ m := by
  obtain ⟨A, B, e, _⟩ := msplit h
  rw [e]; simp
theorem mget_mem (d : KD m) (h : (k, v) ∈ m) : mget m k = some v := by
  cases hg : mget m k with
  | none => exact absurd rfl (mget_none.1 hg _ h)
  | some w =>
    obtain ⟨A, B, e, hA, _⟩ := msplit hg
    rw [e] at h
    rcases List.mem_append.1 h with h1 | h1
    · exact absurd rfl (hA _ h1)
    · rcases List.mem_cons.1 h1 with h2 | h2
      · simp only [Prod.mk.injEq, true_and] at h2; rw [h2]
      · unfold KD at d
        rw [e, List.map_append, List.map_cons, List.nodup_append, List.nodup_cons] at d
        exact absurd (List.mem_map_of_mem (f := (·.1)) h2) d.2.1.1
theorem mget_iff (d : KD m) : mget m k = some v ↔ (k, v) ∈ m := ⟨mget_in, mget_mem d⟩
theorem mset_perm (h : mget m k = some v) : ∃ r, m.Perm ((k, v) :: r) ∧ (∀ u, (mset m k u).Perm ((k, u) :: r)) ∧ (mdel m k).Perm r := by
  obtain ⟨A, B, e, _, h2, h3⟩ := msplit h
  exact ⟨A ++ B, e ▸ List.perm_middle, fun u => h3 u ▸ List.perm_middle, h2 ▸ .refl _⟩
theorem KD.perm {l : List (κ × ν)} (h : m.Perm l) : KD m ↔ KD l := (h.map _).nodup_iff
theorem KD.set (d : KD m) : KD (mset m k u) := by
  cases h : mget m k with
  | none =>
    rw [mset_new h]
    unfold KD
    rw [List.map_append, List.nodup_append]
    refine ⟨d, by simp, ?_⟩
    intro a ha b hb
    simp only [List.map_cons, List.map_nil, List.mem_singleton] at hb
    obtain ⟨e, he, rfl⟩ := List.mem_map.1 ha
    rw [hb]
    exact mget_none.1 h e he
  | some v =>
    obtain ⟨r, h1, h2, _⟩ := mset_perm h
    rw [KD.perm (h2 u)]
    rw [KD.perm h1] at d
    exact d
theorem KD.del (d : KD m) : KD (mdel m k) := by
  cases h : mget m k with
  | none => rw [mdel_none h]; exact d
  | some v =>
    obtain ⟨r, h1, _, h2⟩ := mset_perm h
    rw [KD.perm h2]
    rw [KD.perm h1] at d
    unfold KD at d ⊢
    rw [List.map_cons, List.nodup_cons] at d
    exact d.2
theorem mget_set (d : KD m) : mget (mset m k u) j = if j = k then some u else mget m j := by
  have d2 := d.set (k := k) (u := u)
  split
  · rename_i h; subst h
    apply mget_mem d2
    cases h : mget m j with
    | none => rw [mset_new h]; simp
    | some v => obtain ⟨A, B, _, _, _, h3⟩ := msplit h; rw [h3]; simp
  · rename_i hjk
    apply Option.ext
    intro w
    rw [mget_iff d2, mget_iff d]
    cases h : mget m k with
    | none => rw [mset_new h]; simp [hjk]
    | some v => obtain ⟨A, B, e, _, _, h3⟩ := msplit h; rw [h3, e]; simp [hjk]
theorem mget_del (d : KD m) : mget (mdel m k) j = if j = k then none else mget m j := by
  have d2 := d.del (k := k)
  cases h : mget m k with
  | none =>
    rw [mdel_none h]
    split
    · rename_i h2; rw [h2, h]
    · rfl
  | some v =>
    obtain ⟨A, B, e, hA, h2, h3⟩ := msplit h
    split
    · rename_i hj; subst hj
      rw [mget_none, h2]
      intro e' he'
      rcases List.mem_append.1 he' with h4 | h4
      · exact hA _ h4
      · unfold KD at d
        rw [e, List.map_append, List.map_cons, List.nodup_append, List.nodup_cons] at d
        intro hk
        exact d.2.1.1 (hk ▸ List.mem_map_of_mem (f := (·.1)) h4)
    · rename_i hjk
      apply Option.ext
      intro w
      rw [mget_iff d2, mget_iff d, h2, e]
      simp [hjk]
end
end Go.Proofs.YtdallmabajeajaaGreatDoor.Fw
set_option linter.all false
namespace Go.Proofs.YtdallmabajeajaaGreatDoor.Fw
open Go
def maskM (n : Int) : Int := if n = 0 then 0 else IntKind.u32.wrap (4294967295 * 2 ^ (min (32 - n).toNat 32))
def pw (n : Int) : Int := 2 ^ (32 - n).toNat
theorem pw_pos {n : Int} : 0 < pw n := Int.pow_pos (by omega)
theorem pw_le {n : Int} (h0 : 0 ≤ n) : pw n ≤ 4294967296 := by
  have h : pw n = ((2 ^ (32 - n).toNat : Nat) : Int) := by simp [pw]
  have h2 : (2 : Nat) ^ (32 - n).toNat ≤ 2 ^ 32 := Nat.pow_le_pow_right (by omega) (by omega)
  rw [h]; omega
theorem mask_bits : ∀ k : Fin 33, (~~~BitVec.ofInt 32 (maskM (32 - (k.val : Int)))).toNat = 2 ^ k.val - 1 := by decide +kernel
theorem mask_dvd {n : Int} (h0 : 0 ≤ n) (h1 : n ≤ 32) : ∃ k : Nat, k ≤ 32 ∧ n = 32 - (k : Int) ∧ pw n = ((2 ^ k : Nat) : Int) := ⟨(32 - n).toNat, by omega, by omega, by simp [pw]⟩
theorem wrap32 {a : Int} (h0 : 0 ≤ a) (h1 : a < 4294967296) : IntKind.u32.wrap a = a := by
  simp [IntKind.wrap, IntKind.bits, IntKind.signed]; omega
theorem andNot_mask {a n : Int} (h0 : 0 ≤ n) (h1 : n ≤ 32) (ha : 0 ≤ a) (hb : a < 4294967296) : bAndNot .u32 a (maskM n) = a % pw n := by
  obtain ⟨k, hk, rfl, e⟩ := mask_dvd h0 h1
  obtain ⟨m, rfl⟩ : ∃ m : Nat, a = (m : Int) := ⟨a.toNat, by omega⟩
  have hm := mask_bits ⟨k, by omega⟩
  simp only at hm
  rw [e]
  have e2 : (BitVec.ofInt IntKind.u32.bits (m : Int) &&& ~~~BitVec.ofInt IntKind.u32.bits (maskM (32 - (k : Int)))).toNat = m % 2 ^ k := by
    show (BitVec.ofInt 32 (m : Int) &&& ~~~BitVec.ofInt 32 (maskM (32 - (k : Int)))).toNat = _
    rw [BitVec.toNat_and, hm, Nat.and_two_pow_sub_one_eq_mod]
    congr 1
    simp [BitVec.toNat_ofInt]
    omega
  unfold bAndNot
  rw [e2]
  have : m % 2 ^ k ≤ m := Nat.mod_le _ _
  rw [wrap32 (by omega) (by omega)]
  simp
theorem and_mask {a n : Int} (h0 : 0 ≤ n) (h1 : n ≤ 32) (ha : 0 ≤ a) (hb : a < 4294967296) : bAnd .u32 a (maskM n) = a - a % pw n := by
  obtain ⟨k, hk, rfl, e⟩ := mask_dvd h0 h1
  obtain ⟨m, rfl⟩ : ∃ m : Nat, a = (m : Int) := ⟨a.toNat, by omega⟩
  have hm := mask_bits ⟨k, by omega⟩
  simp only at hm
  rw [e]
  have e2 : (BitVec.ofInt IntKind.u32.bits (m : Int) &&& BitVec.ofInt IntKind.u32.bits (maskM (32 - (k : Int)))).toNat = m - m % 2 ^ k := by
    show (BitVec.ofInt 32 (m : Int) &&& BitVec.ofInt 32 (maskM (32 - (k : Int)))).toNat = _
    generalize hx : BitVec.ofInt 32 (maskM (32 - (k : Int))) = x at hm ⊢
    generalize hy : BitVec.ofInt 32 (m : Int) = y
    have hy2 : y.toNat = m := by rw [← hy]; simp [BitVec.toNat_ofInt]; omega
    have h3 : (y &&& x).toNat + (y &&& ~~~x).toNat = y.toNat := by
      have h4 : y = (y &&& x) ||| (y &&& ~~~x) := by
        apply BitVec.eq_of_getLsbD_eq; intro i hi
        simp
        cases y.getLsbD i <;> cases x.getLsbD i <;> simp [hi]
      have h5 : (y &&& x) &&& (y &&& ~~~x) = 0#32 := by
        apply BitVec.eq_of_getLsbD_eq; intro i hi
        simp
        cases y.getLsbD i <;> cases x.getLsbD i <;> simp
      have h6 := BitVec.toNat_add_of_and_eq_zero h5
      rw [BitVec.add_eq_or_of_and_eq_zero _ _ h5, ← h4] at h6
      omega
    have h7 : (y &&& ~~~x).toNat = m % 2 ^ k := by
      rw [BitVec.toNat_and, hm, Nat.and_two_pow_sub_one_eq_mod, hy2]
    omega
  unfold bAnd
  rw [e2]
  have : m % 2 ^ k ≤ m := Nat.mod_le _ _
  rw [wrap32 (by omega) (by omega)]
  omega
end Go.Proofs.YtdallmabajeajaaGreatDoor.Fw
set_option linter.all false
namespace Go.Proofs.YtdallmabajeajaaGreatDoor.Fw
open Go
/-! ### prefixes -/
def Vld (p : QPrefix) : Prop := 0 ≤ p.Len ∧ p.Len ≤ 32 ∧ p.Addr % pw p.Len = 0
def Cnt (p : QPrefix) (a : Int) : Prop := Vld p ∧ p.Addr ≤ a ∧ a < p.Addr + pw p.Len
instance {p} : Decidable (Vld p) := by unfold Vld; infer_instance
instance {p a} : Decidable (Cnt p a) := by unfold Cnt; infer_instance
theorem mod_iff {s A a : Int} (hs : 0 < s) (hA : A % s = 0) : a - a % s = A ↔ A ≤ a ∧ a < A + s := by
  constructor
  · intro h
    have h1 := Int.emod_nonneg a (Int.ne_of_gt hs)
    have h2 := Int.emod_lt_of_pos a hs
    omega
  · rintro ⟨h1, h2⟩
    have h3 : a % s = a - A := by
      conv => lhs; rw [show a = A + (a - A) by omega]
      rw [Int.add_emod, hA, Int.zero_add, Int.emod_emod_of_dvd _ (Int.dvd_refl s), Int.emod_eq_of_lt (by omega) (by omega)]
    omega
theorem vld_top {p : QPrefix} (v : Vld p) (h0 : 0 ≤ p.Addr) (h1 : p.Addr < 4294967296) : p.Addr + pw p.Len ≤ 4294967296 := by
  obtain ⟨v1, v2, v3⟩ := v
  obtain ⟨k, hk, e1, e2⟩ := mask_dvd v1 v2
  rw [e2] at v3 ⊢
  obtain ⟨m, hm⟩ : ∃ m : Nat, p.Addr = (m : Int) := ⟨p.Addr.toNat, by omega⟩
  rw [hm] at v3 h1 ⊢
  have h2 : m % 2 ^ k = 0 := by exact_mod_cast v3
  obtain ⟨q, hq⟩ := Nat.dvd_of_mod_eq_zero h2
  have h3 : 2 ^ 32 = 2 ^ k * 2 ^ (32 - k) := by rw [← Nat.pow_add]; congr 1; omega
  have h4 : q < 2 ^ (32 - k) := by
    apply Nat.lt_of_mul_lt_mul_left (a := 2 ^ k)
    rw [← h3, ← hq]; omega
  have h5 : 2 ^ k * (q + 1) ≤ 2 ^ k * 2 ^ (32 - k) := Nat.mul_le_mul_left _ h4
  rw [← h3, Nat.mul_add, ← hq] at h5
  omega
/-! what the program reckons -/
def faultM (p : QPrefix) : Int := if p.Len < 0 ∨ 32 < p.Len then 11 else if bAndNot .u32 p.Addr (maskM p.Len) = 0 then 0 else 12
def validM (p : QPrefix) : Bool := decide (faultM p = 0)
def contM (p : QPrefix) (a : Int) : Bool := validM p && decide (bAnd .u32 a (maskM p.Len) = p.Addr)
theorem validM_iff {p : QPrefix} (h0 : 0 ≤ p.Addr) (h1 : p.Addr < 4294967296) : validM p = true ↔ Vld p := by
  unfold validM faultM Vld
  rw [decide_eq_true_eq]
  by_cases h : p.Len < 0 ∨ 32 < p.Len
  · simp only [h, if_true]; constructor
    · intro h; omega
    · intro h; omega
  · simp only [h, if_false]
    rw [andNot_mask (by omega) (by omega) h0 h1]
    split
    · rename_i e; simp only [true_iff]; exact ⟨by omega, by omega, e⟩
    · rename_i e; constructor
      · intro h; omega
      · intro h; exact absurd h.2.2 e
theorem contM_iff {p : QPrefix} {a : Int} (h0 : 0 ≤ p.Addr) (h1 : p.Addr < 4294967296) (h2 : 0 ≤ a) (h3 : a < 4294967296) : contM p a = true ↔ Cnt p a := by
  unfold contM Cnt
  rw [Bool.and_eq_true, validM_iff h0 h1, decide_eq_true_eq]
  constructor
  · rintro ⟨v, e⟩
    rw [and_mask v.1 v.2.1 h2 h3] at e
    exact ⟨v, (mod_iff pw_pos v.2.2).1 e⟩
  · rintro ⟨v, e⟩
    refine ⟨v, ?_⟩
    rw [and_mask v.1 v.2.1 h2 h3]
    exact (mod_iff pw_pos v.2.2).2 e
/-! ### the configuration -/
def cls (a : Int) : Int := if a / 16777216 = 0 then 1 else if a / 16777216 = 127 then 2 else if 240 ≤ a / 16777216 then 4 else if 224 ≤ a / 16777216 then 3 else 0
def base (c : QConfig) (a : Int) : Prop := Cnt c.Network a ∧ a % pw c.SubnetLen = 0
structure FieldsOK (c : QConfig) : Prop where
  net : Vld c.Network ∧ 8 ≤ c.Network.Len ∧ c.Network.Len ≤ 28 ∧ cls c.Network.Addr = 0
  sub : c.Network.Len + 1 ≤ c.SubnetLen ∧ c.SubnetLen ≤ 30 ∧ base c c.Min ∧ base c c.Max
  num : 0 ≤ c.VNI ∧ c.VNI ≤ 16777215 ∧ 1 ≤ c.Port ∧ c.Port ≤ 65535 ∧ 126 ≤ c.MTU ∧ c.MTU ≤ 9000
  ttl : 2 ≤ c.TTL ∧ c.TTL ≤ 1099511627776 ∧ 1 ≤ c.Renew ∧ c.Renew < c.TTL
  log : 1 ≤ c.Log ∧ c.Log ≤ 256 ∧ 1 ≤ c.Hosts ∧ c.Hosts ≤ 64 ∧ 1 ≤ c.Routes ∧ c.Routes ≤ 256
  cap : 1 ≤ c.Neighs ∧ c.Neighs ≤ 256 ∧ 1 ≤ c.Fdbs ∧ c.Fdbs ≤ 256 ∧ 1 ≤ c.Room ∧ c.Room ≤ 256
  top : c.First + c.Hosts - 1 ≤ 4294967295
  cls : ∀ h : Int, 0 ≤ h → h < c.Hosts → cls (c.First + h) = 0
structure PoolOK (c : QConfig) (rs : List QReserve) : Prop where
  row : c.Min ≤ c.Max
  out : ∀ h : Int, 0 ≤ h → h < c.Hosts → ¬ Cnt c.Network (c.First + h)
  host : ∀ r ∈ rs, 0 ≤ r.Host ∧ r.Host < c.Hosts ∧ r.Subnet.Len = c.SubnetLen ∧ base c r.Subnet.Addr
  rise : rs.Pairwise fun a b => a.Host < b.Host
  apart : rs.Pairwise fun a b => a.Subnet ≠ b.Subnet
open Classical in
noncomputable def checkS (c : QConfig) (rs : List QReserve) : Int := if ¬ FieldsOK c then 26 else if ¬ PoolOK c rs then 28 else 0
/-! ### the store -/
structure LS where
  now : Int
  rev : Int
  ls : List QLease
  es : List QEvent
def zL : QLease := ⟨0, ⟨0, 0⟩, 0, ⟨0, 0, 0, 0, 0, 0⟩, 0, 0⟩
def never : Int := 9223372036854775807
def maxRev : Int := 1099511627776
def aft (a n : Int) : Int := if a + n ≤ never then a + n else never
section
variable (c : QConfig) (rs : List QReserve)
def own (h : Int) : Option QPrefix := (rs.find? fun r => decide (r.Host = h)).map (·.Subnet)
def Frei (p : QPrefix) : Prop := p.Len = c.SubnetLen ∧ Cnt c.Network p.Addr ∧ Vld p ∧ (∀ r ∈ rs, r.Subnet ≠ p) ∧ c.Min ≤ p.Addr ∧ p.Addr ≤ c.Max
instance {p} : Decidable (Frei c rs p) := by unfold Frei; infer_instance
def May (h : Int) (p : QPrefix) : Prop := match own rs h with
  | some q => p = q
  | none => Frei c rs p
instance {h p} : Decidable (May c rs h p) := by unfold May; split <;> infer_instance
end
def free (l : List QLease) (p : QPrefix) : Prop := ∀ x ∈ l, x.Subnet ≠ p
instance {l p} : Decidable (free l p) := by unfold free; infer_instance
section
variable (c : QConfig) (rs : List QReserve)
def rowAt (k : Nat) : QPrefix := ⟨c.Min + k * pw c.SubnetLen, c.SubnetLen⟩
def rowN : Nat := ((c.Max - c.Min) / pw c.SubnetLen).toNat + 1
def lowest (l : List QLease) : Option QPrefix := ((List.range (rowN c)).map (rowAt c)).find? fun p => decide (Frei c rs p ∧ free l p)
def choose (l : List QLease) (h : Int) (wish : QPrefix) : Option QPrefix := match own rs h with
  | some q => if free l q then some q else none
  | none => if Frei c rs wish ∧ free l wish then some wish else lowest c rs l
def ofH (l : List QLease) (h : Int) : Option QLease := l.find? fun x => decide (x.Host = h)
def ins : List QLease → QLease → List QLease
  | [], x => [x]
  | y :: l, x => if x.Subnet.Addr < y.Subnet.Addr then x :: y :: l else y :: ins l x
def upd (l : List QLease) (x : QLease) : List QLease := l.map fun y => if y.Host = x.Host then x else y
def del (l : List QLease) (h : Int) : List QLease := l.filter fun y => decide (y.Host ≠ h)
def remS (s : LS) (x : QLease) : LS := ⟨s.now, s.rev + 1, del s.ls x.Host, s.es ++ [⟨s.rev + 1, 2, x⟩]⟩
def leU (a b : QLease) : Bool := decide (a.Until < b.Until ∨ a.Until = b.Until ∧ a.Subnet.Addr ≤ b.Subnet.Addr)
def dueS (s : LS) (now : Int) : List QLease := (s.ls.filter fun x => decide (x.Until ≤ now)).mergeSort leU
def tickS (s : LS) (n : Int) : LS := (dueS s (aft s.now n)).foldl remS ⟨aft s.now n, s.rev, s.ls, s.es⟩
def cmdS (s : LS) (x : QCmd) : LS × QLease × Int :=
  if x.Kind < 1 ∨ 4 < x.Kind then (s, zL, 110)
  else if x.Kind = 4 then (if x.N < 0 then (s, zL, 1) else (tickS s x.N, zL, 0))
  else if x.Host < 0 ∨ c.Hosts ≤ x.Host then (s, zL, 1)
  else match ofH s.ls x.Host with
  | some l =>
    if x.Kind = 1 then
      if l.Pub = x.Pub ∧ l.MAC = x.MAC then (⟨s.now, s.rev, upd s.ls { l with Until := aft s.now c.TTL }, s.es⟩, { l with Until := aft s.now c.TTL }, 0)
      else
        let y : QLease := ⟨l.Host, l.Subnet, x.Pub, x.MAC, aft s.now c.TTL, s.rev + 1⟩
        (⟨s.now, s.rev + 1, upd s.ls y, s.es ++ [⟨s.rev + 1, 1, y⟩]⟩, y, 0)
    else if x.Kind = 2 then
      if l.Subnet = x.Subnet then (⟨s.now, s.rev, upd s.ls { l with Until := aft s.now c.TTL }, s.es⟩, { l with Until := aft s.now c.TTL }, 0) else (s, zL, 111)
    else (remS s l, l, 0)
  | none =>
    if x.Kind = 1 then match choose c rs s.ls x.Host x.Subnet with
      | none => (s, zL, 4)
      | some p =>
        let y : QLease := ⟨x.Host, p, x.Pub, x.MAC, aft s.now c.TTL, s.rev + 1⟩
        (⟨s.now, s.rev + 1, ins s.ls y, s.es ++ [⟨s.rev + 1, 1, y⟩]⟩, y, 0)
    else (s, zL, 111)
def applyS (s : LS) (x : QCmd) : LS × QAnswer :=
  if (cmdS c rs s x).1.rev > maxRev then (s, ⟨4, zL, s.rev, s.now⟩)
  else ((cmdS c rs s x).1, ⟨(cmdS c rs s x).2.2, (cmdS c rs s x).2.1, (cmdS c rs s x).1.rev, (cmdS c rs s x).1.now⟩)
def logS (s : LS) : List QEvent := s.es.drop (s.es.length - (min c.Log s.rev).toNat)
def holderS (s : LS) (a : Int) : Option QLease := s.ls.find? fun x => decide (Cnt x.Subnet a)
structure LOk (s : LS) (x : QLease) : Prop where
  host : 0 ≤ x.Host ∧ x.Host < c.Hosts
  may : May c rs x.Host x.Subnet
  rev : 1 ≤ x.Rev ∧ x.Rev ≤ s.rev
  till : (s.now < x.Until ∨ x.Until = never) ∧ x.Until ≤ never
structure LI (s : LS) : Prop where
  now : 0 ≤ s.now ∧ s.now ≤ never
  rev : 0 ≤ s.rev ∧ s.rev ≤ maxRev
  rise : s.ls.Pairwise fun a b => a.Subnet.Addr < b.Subnet.Addr
  apart : s.ls.Pairwise fun a b => a.Host ≠ b.Host
  ok : ∀ x ∈ s.ls, LOk c rs s x
  log : min c.Log s.rev ≤ s.es.length
  evs : ∀ i, (h : i < s.es.length) → (s.es[i]).Rev = s.rev - s.es.length + 1 + i
end
end Go.Proofs.YtdallmabajeajaaGreatDoor.Fw
set_option linter.all false
namespace Go.Proofs.YtdallmabajeajaaGreatDoor.Fw
open Go
/-! ### lists -/
theorem nodup_bound : ∀ (n : Nat) (l : List Int), l.Nodup → (∀ x ∈ l, 0 ≤ x ∧ x < n) → l.length ≤ n
  | 0, l, _, h => by
    cases l with
    | nil => simp
    | cons a l => have := h a (by simp); omega
  | n + 1, l, d, h => by
    have h1 : ∀ (l : List Int), l.Nodup → l.length ≤ (l.filter fun x => decide (x ≠ (n : Int))).length + 1 := by
      intro l
      induction l with
      | nil => intro _; simp
      | cons a l ih =>
        intro d
        rw [List.nodup_cons] at d
        by_cases ha : a = n
        · subst ha
          rw [List.filter_cons_of_neg (by simp), List.filter_eq_self.2 (fun x hx => by simp; intro e; exact d.1 (e ▸ hx))]
          simp
        · rw [List.filter_cons_of_pos (by simpa using ha)]
          have := ih d.2
          simp only [List.length_cons]; omega
    have h2 := nodup_bound n (l.filter fun x => decide (x ≠ (n : Int))) (d.sublist List.filter_sublist) (fun x hx => by
      rw [List.mem_filter] at hx
      have := h x hx.1
      have h3 : x ≠ n := by simpa using hx.2
      omega)
    have := h1 l d
    omega
section
variable {l : List QLease} {x y : QLease} {h : Int}
def Apart (l : List QLease) : Prop := l.Pairwise fun a b => a.Host ≠ b.Host
def Rise (l : List QLease) : Prop := l.Pairwise fun a b => a.Subnet.Addr < b.Subnet.Addr
theorem apart_nodup : Apart l ↔ (l.map (·.Host)).Nodup := by
  unfold Apart List.Nodup
  rw [List.pairwise_map]
theorem apart_eq (a : Apart l) (hx : x ∈ l) (hy : y ∈ l) (e : x.Host = y.Host) : x = y := by
  induction l with
  | nil => cases hx
  | cons z l ih =>
    rw [Apart, List.pairwise_cons] at a
    rcases List.mem_cons.1 hx with h1 | h1 <;> rcases List.mem_cons.1 hy with h2 | h2
    · rw [h1, h2]
    · subst h1; exact absurd e (a.1 _ h2)
    · subst h2; exact absurd e.symm (a.1 _ h1)
    · exact ih a.2 h1 h2
theorem rise_eq (a : Rise l) (hx : x ∈ l) (hy : y ∈ l) (e : x.Subnet.Addr = y.Subnet.Addr) : x = y := by
  induction l with
  | nil => cases hx
  | cons z l ih =>
    rw [Rise, List.pairwise_cons] at a
    rcases List.mem_cons.1 hx with h1 | h1 <;> rcases List.mem_cons.1 hy with h2 | h2
    · rw [h1, h2]
    · subst h1; have := a.1 _ h2; omega
    · subst h2; have := a.1 _ h1; omega
    · exact ih a.2 h1 h2
theorem ofH_some (a : Apart l) : ofH l h = some x ↔ x ∈ l ∧ x.Host = h := by
  unfold ofH
  constructor
  · intro e
    have h1 := List.find?_some e
    exact ⟨List.mem_of_find?_eq_some e, by simpa using h1⟩
  · rintro ⟨h1, rfl⟩
    cases e : l.find? fun y => decide (y.Host = x.Host) with
    | none => rw [List.find?_eq_none] at e; have := e x h1; simp at this
    | some y =>
      have h2 := List.find?_some e
      rw [apart_eq a h1 (List.mem_of_find?_eq_some e) (by simpa using (by simpa using h2 : y.Host = x.Host).symm)]
theorem ofH_none : ofH l h = none ↔ ∀ x ∈ l, x.Host ≠ h := by
  unfold ofH
  rw [List.find?_eq_none]
  simp
theorem mem_ins : y ∈ ins l x ↔ y = x ∨ y ∈ l := by
  induction l with
  | nil => simp [ins]
  | cons z l ih =>
    unfold ins
    split
    · simp
    · simp only [List.mem_cons, ih]
      constructor
      · rintro (h | h | h) <;> simp [h]
      · rintro (h | h | h) <;> simp [h]
theorem ins_perm : (ins l x).Perm (x :: l) := by
  induction l with
  | nil => exact .refl _
  | cons z l ih =>
    unfold ins
    split
    · exact .refl _
    · exact (ih.cons z).trans (.swap x z l)
theorem rise_ins (a : Rise l) (f : ∀ y ∈ l, y.Subnet.Addr ≠ x.Subnet.Addr) : Rise (ins l x) := by
  induction l with
  | nil => simp [ins, Rise]
  | cons z l ih =>
    have a' := a
    rw [Rise, List.pairwise_cons] at a
    unfold ins
    split
    · rw [Rise, List.pairwise_cons]
      refine ⟨fun y hy => ?_, a'⟩
      rcases List.mem_cons.1 hy with rfl | hy
      · assumption
      · have := a.1 y hy; omega
    · rw [Rise, List.pairwise_cons]
      refine ⟨fun y hy => ?_, ih a.2 fun y hy => f y (by simp [hy])⟩
      rcases mem_ins.1 hy with rfl | hy
      · have := f z (by simp); omega
      · exact a.1 y hy
theorem apart_ins (a : Apart l) (f : ∀ y ∈ l, y.Host ≠ x.Host) : Apart (ins l x) := by
  rw [apart_nodup, (ins_perm.map _).nodup_iff, List.map_cons, List.nodup_cons]
  refine ⟨fun h => ?_, apart_nodup.1 a⟩
  obtain ⟨y, hy, e⟩ := List.mem_map.1 h
  exact f y hy e
theorem mem_upd : y ∈ upd l x ↔ (y ∈ l ∧ y.Host ≠ x.Host) ∨ (y = x ∧ ∃ z ∈ l, z.Host = x.Host) := by
  unfold upd
  rw [List.mem_map]
  constructor
  · rintro ⟨z, hz, rfl⟩
    split
    · rename_i h; exact .inr ⟨rfl, z, hz, h⟩
    · rename_i h; exact .inl ⟨hz, h⟩
  · rintro (⟨h1, h2⟩ | ⟨rfl, z, h1, h2⟩)
    · exact ⟨y, h1, by simp [h2]⟩
    · exact ⟨z, h1, by simp [h2]⟩
theorem upd_hosts : (upd l x).map (·.Host) = l.map (·.Host) := by
  unfold upd
  rw [List.map_map]
  apply List.map_congr_left
  intro z _
  simp only [Function.comp]
  split
  · rename_i h; exact h.symm
  · rfl
theorem upd_addrs (a : Apart l) (hx : y ∈ l) (h1 : y.Host = x.Host) (h2 : y.Subnet = x.Subnet) : (upd l x).map (·.Subnet) = l.map (·.Subnet) := by
  unfold upd
  rw [List.map_map]
  apply List.map_congr_left
  intro z hz
  simp only [Function.comp]
  split
  · rename_i h
    rw [apart_eq a hz hx (h.trans h1.symm), h2]
  · rfl
theorem apart_upd (a : Apart l) : Apart (upd l x) := by rw [apart_nodup, upd_hosts]; exact apart_nodup.1 a
theorem rise_map : Rise l ↔ (l.map (·.Subnet)).Pairwise fun a b => a.Addr < b.Addr := by
  unfold Rise
  rw [List.pairwise_map]
theorem rise_upd (a : Apart l) (r : Rise l) (hx : y ∈ l) (h1 : y.Host = x.Host) (h2 : y.Subnet = x.Subnet) : Rise (upd l x) := by rw [rise_map, upd_addrs a hx h1 h2]; exact rise_map.1 r
theorem apart_del (a : Apart l) : Apart (del l h) := a.sublist List.filter_sublist
theorem rise_del (a : Rise l) : Rise (del l h) := a.sublist List.filter_sublist
theorem mem_del : y ∈ del l h ↔ y ∈ l ∧ y.Host ≠ h := by unfold del; rw [List.mem_filter]; simp
end
section
variable {c : QConfig} {rs : List QReserve} {s : LS} {x : QLease} {cmd : QCmd}
theorem LI.len (i : LI c rs s) (f : FieldsOK c) : s.ls.length ≤ 64 := by
  have := nodup_bound 64 (s.ls.map (·.Host)) (apart_nodup.1 i.apart) (fun h hh => by
    obtain ⟨y, hy, rfl⟩ := List.mem_map.1 hh
    have := (i.ok y hy).host
    have := f.log
    omega)
  simpa using this
theorem lowest_ok {l : List QLease} {p : QPrefix} (e : lowest c rs l = some p) : Frei c rs p ∧ free l p := by
  have := List.find?_some e
  simpa using this
theorem choose_ok {l : List QLease} {h : Int} {w p : QPrefix} (e : choose c rs l h w = some p) : May c rs h p ∧ free l p := by
  unfold choose at e
  split at e
  · rename_i q hq
    split at e
    · rename_i hf
      cases e
      exact ⟨by unfold May; rw [hq], hf⟩
    · cases e
  · rename_i hq
    split at e
    · rename_i hf
      cases e
      exact ⟨by unfold May; rw [hq]; exact hf.1, hf.2⟩
    · obtain ⟨h1, h2⟩ := lowest_ok e
      exact ⟨by unfold May; rw [hq]; exact h1, h2⟩
theorem may_len (po : PoolOK c rs) {h : Int} {p : QPrefix} (m : May c rs h p) : p.Len = c.SubnetLen ∧ base c p.Addr := by
  unfold May at m
  split at m
  · rename_i q hq
    subst m
    unfold own at hq
    cases e : rs.find? fun r => decide (r.Host = h) with
    | none => rw [e] at hq; cases hq
    | some r =>
      rw [e] at hq
      simp only [Option.map_some, Option.some.injEq] at hq
      subst hq
      exact (po.host r (List.mem_of_find?_eq_some e)).2.2
  · obtain ⟨h1, h2, h3, _⟩ := m
    refine ⟨h1, h2, ?_⟩
    have := h3.2.2
    rwa [h1] at this
theorem free_addr (po : PoolOK c rs) (i : LI c rs s) {h : Int} {p : QPrefix} (m : May c rs h p) (f : free s.ls p) : ∀ y ∈ s.ls, y.Subnet.Addr ≠ p.Addr := by
  intro y hy e
  have h1 := may_len po m
  have h2 := may_len po (i.ok y hy).may
  apply f y hy
  rw [show y.Subnet = ⟨y.Subnet.Addr, y.Subnet.Len⟩ from rfl, show p = ⟨p.Addr, p.Len⟩ from rfl, e, h1.1, h2.1]
theorem aft_le {a n : Int} (h0 : 0 ≤ a) (h1 : a ≤ never) (h2 : 0 ≤ n) : a ≤ aft a n ∧ aft a n ≤ never ∧ 0 ≤ aft a n := by
  unfold aft never at *; split <;> omega
theorem aft_lt {a n : Int} (h0 : 0 ≤ a) (h1 : a ≤ never) (h2 : 1 ≤ n) : (a < aft a n ∨ aft a n = never) ∧ aft a n ≤ never := by
  unfold aft never at *; split <;> omega
theorem LOk.mono {s t : LS} (o : LOk c rs s x) (h1 : t.now = s.now) (h2 : s.rev ≤ t.rev) : LOk c rs t x :=
  ⟨o.host, o.may, ⟨o.rev.1, by have := o.rev.2; omega⟩, by rw [h1]; exact o.till⟩
theorem evs_app {es : List QEvent} {rev : Int} {e : QEvent} (h : ∀ i, (h : i < es.length) → (es[i]).Rev = rev - es.length + 1 + i) (he : e.Rev = rev + 1) : ∀ i, (h : i < (es ++ [e]).length) → ((es ++ [e])[i]).Rev = rev + 1 - (es ++ [e]).length + 1 + i := by
  intro i hi
  simp only [List.length_append, List.length_cons, List.length_nil] at hi ⊢
  by_cases h1 : i < es.length
  · rw [List.getElem_append_left h1, h i h1]; simp; omega
  · have : i = es.length := by omega
    subst this
    rw [List.getElem_append_right (by omega)]
    simp [he]
    omega
theorem LI.rem (i : LI c rs s) (hr : s.rev + 1 ≤ maxRev) (hx : x ∈ s.ls) : LI c rs (remS s x) where
  now := i.now
  rev := ⟨by have := i.rev; simp [remS]; omega, hr⟩
  rise := rise_del i.rise
  apart := apart_del i.apart
  ok y hy := (i.ok y (mem_del.1 hy).1).mono rfl (by simp only [remS]; omega)
  log := by have := i.log; simp only [remS, List.length_append, List.length_cons, List.length_nil]; omega
  evs := evs_app i.evs rfl
theorem LI.put (po : PoolOK c rs) (i : LI c rs s) (hr : s.rev + 1 ≤ maxRev) {y : QLease} (o : LOk c rs ⟨s.now, s.rev + 1, s.ls, s.es⟩ y) (h1 : ∀ z ∈ s.ls, z.Host ≠ y.Host) (h2 : free s.ls y.Subnet) : LI c rs ⟨s.now, s.rev + 1, ins s.ls y, s.es ++ [⟨s.rev + 1, 1, y⟩]⟩ where
  now := i.now
  rev := ⟨by have := i.rev; simp; omega, hr⟩
  rise := rise_ins i.rise (free_addr po i o.may h2)
  apart := apart_ins i.apart h1
  ok z hz := by
    rcases mem_ins.1 hz with rfl | hz
    · exact o.mono rfl (by simp)
    · exact (i.ok z hz).mono rfl (by simp only; omega)
  log := by have := i.log; simp only [List.length_append, List.length_cons, List.length_nil]; omega
  evs := evs_app i.evs rfl
theorem LI.upd1 (i : LI c rs s) {y z : QLease} (hz : z ∈ s.ls) (h1 : z.Host = y.Host) (h2 : z.Subnet = y.Subnet) (o : LOk c rs s y) : LI c rs ⟨s.now, s.rev, upd s.ls y, s.es⟩ where
  now := i.now
  rev := i.rev
  rise := rise_upd i.apart i.rise hz h1 h2
  apart := apart_upd i.apart
  ok u hu := by
    rcases mem_upd.1 hu with h | ⟨rfl, _⟩
    · exact (i.ok u h.1).mono rfl (by simp)
    · exact o.mono rfl (by simp)
  log := i.log
  evs := i.evs
theorem LI.upd2 (i : LI c rs s) (hr : s.rev + 1 ≤ maxRev) {y z : QLease} (hz : z ∈ s.ls) (h1 : z.Host = y.Host) (h2 : z.Subnet = y.Subnet) (o : LOk c rs ⟨s.now, s.rev + 1, s.ls, s.es⟩ y) : LI c rs ⟨s.now, s.rev + 1, upd s.ls y, s.es ++ [⟨s.rev + 1, 1, y⟩]⟩ where
  now := i.now
  rev := ⟨by have := i.rev; simp; omega, hr⟩
  rise := rise_upd i.apart i.rise hz h1 h2
  apart := apart_upd i.apart
  ok u hu := by
    rcases mem_upd.1 hu with h | ⟨rfl, _⟩
    · exact (i.ok u h.1).mono rfl (by simp only; omega)
    · exact o.mono rfl (by simp)
  log := by have := i.log; simp only [List.length_append, List.length_cons, List.length_nil]; omega
  evs := evs_app i.evs rfl
/-! ### time goes by -/
def evR (rev : Int) : List QLease → List QEvent
  | [] => []
  | x :: l => ⟨rev + 1, 2, x⟩ :: evR (rev + 1) l
theorem evR_len : ∀ (l : List QLease) (rev : Int), (evR rev l).length = l.length
  | [], _ => rfl
  | x :: l, rev => by simp [evR, evR_len l]
theorem evs_app2 {rev : Int} : ∀ (l : List QLease) (es : List QEvent) (rev : Int), (∀ i, (h : i < es.length) → (es[i]).Rev = rev - es.length + 1 + i) → ∀ i, (h : i < (es ++ evR rev l).length) → ((es ++ evR rev l)[i]).Rev = rev + l.length - (es ++ evR rev l).length + 1 + i
  | [], es, rev, h => by simpa [evR] using h
  | x :: l, es, rev, h => by
    have h1 := evs_app2 (rev := rev) l (es ++ [⟨rev + 1, 2, x⟩]) (rev + 1) (evs_app h rfl)
    intro i hi
    have e : es ++ evR rev (x :: l) = (es ++ [⟨rev + 1, 2, x⟩]) ++ evR (rev + 1) l := by simp [evR]
    have h2 := h1 i (by rw [← e]; exact hi)
    simp only [e]
    rw [h2]
    simp only [List.length_cons]
    omega
theorem foldl_rem : ∀ (l : List QLease) (s : LS), l.foldl remS s = ⟨s.now, s.rev + l.length, s.ls.filter (fun y => decide (∀ x ∈ l, y.Host ≠ x.Host)), s.es ++ evR s.rev l⟩
  | [], s => by
    cases s
    simp only [List.foldl_nil, List.length_nil, evR, List.append_nil, List.not_mem_nil, false_implies, implies_true, decide_true, LS.mk.injEq, true_and, and_true]
    exact ⟨by omega, (List.filter_eq_self.2 fun _ _ => rfl).symm⟩
  | x :: l, s => by
    rw [List.foldl_cons, foldl_rem l]
    simp only [remS, del, List.filter_filter, List.length_cons, evR, List.append_assoc, List.singleton_append, LS.mk.injEq, true_and, and_true]
    refine ⟨by omega, ?_⟩
    apply List.filter_congr
    intro y _
    simp only [List.mem_cons, forall_eq_or_imp, Bool.decide_and]
    rw [Bool.and_comm]
theorem due_perm {now : Int} : (dueS s now).Perm (s.ls.filter fun x => decide (x.Until ≤ now)) := List.mergeSort_perm _ _
theorem mem_due {now : Int} : x ∈ dueS s now ↔ x ∈ s.ls ∧ x.Until ≤ now := by
  rw [due_perm.mem_iff, List.mem_filter]; simp
theorem tick_eq (a : Apart s.ls) (n : Int) : tickS s n = ⟨aft s.now n, s.rev + (dueS s (aft s.now n)).length, s.ls.filter (fun y => decide (aft s.now n < y.Until)), s.es ++ evR s.rev (dueS s (aft s.now n))⟩ := by
  unfold tickS
  rw [foldl_rem]
  congr 1
  apply List.filter_congr
  intro y hy
  apply decide_eq_decide.2
  constructor
  · intro h
    by_cases hu : y.Until ≤ aft s.now n
    · exact absurd rfl (h y (mem_due.2 ⟨hy, hu⟩))
    · omega
  · intro h z hz e
    have hz := mem_due.1 hz
    have := apart_eq a hy hz.1 e
    subst this
    omega
theorem LI.tick (i : LI c rs s) {n : Int} (hn : 0 ≤ n) (hr : s.rev + (dueS s (aft s.now n)).length ≤ maxRev) : LI c rs (tickS s n) := by
  have ha := aft_le i.now.1 i.now.2 hn
  rw [tick_eq i.apart]
  refine ⟨⟨ha.2.2, ha.2.1⟩, ⟨by have := i.rev; simp only; omega, hr⟩, i.rise.sublist List.filter_sublist, i.apart.sublist List.filter_sublist, fun y hy => ?_, ?_, evs_app2 (rev := s.rev) _ _ _ i.evs⟩
  · rw [List.mem_filter] at hy
    have o := i.ok y hy.1
    have h2 : aft s.now n < y.Until := by simpa using hy.2
    exact ⟨o.host, o.may, ⟨o.rev.1, by have := o.rev.2; simp only; omega⟩, .inl h2, o.till.2⟩
  · have := i.log
    simp only [List.length_append, evR_len]
    omega
theorem LI.apply (f : FieldsOK c) (po : PoolOK c rs) (i : LI c rs s) : LI c rs (applyS c rs s cmd).1 := by
  unfold applyS
  split
  · exact i
  · rename_i hr
    simp only
    revert hr
    unfold cmdS
    have ha : ∀ y : QLease, LOk c rs s y → ∀ z : QLease, z.Host = y.Host → z.Subnet = y.Subnet → z.Until = aft s.now c.TTL → 1 ≤ z.Rev → ∀ r, z.Rev ≤ r → LOk c rs ⟨s.now, r, s.ls, s.es⟩ z := fun y o z h1 h2 h3 h4 r h5 => ⟨h1 ▸ o.host, h1 ▸ h2 ▸ o.may, ⟨h4, h5⟩, h3 ▸ aft_lt i.now.1 i.now.2 (by have := f.ttl; omega)⟩
    split
    · intro _; exact i
    split
    · split
      · intro _; exact i
      · rename_i hn
        intro hr
        have e := tick_eq i.apart cmd.N
        refine i.tick (by omega) ?_
        rw [e] at hr
        simpa using hr
    split
    · intro _; exact i
    rename_i hh
    cases ho : ofH s.ls cmd.Host with
    | some l =>
      obtain ⟨h1, h2⟩ := (ofH_some i.apart).1 ho
      have o := i.ok l h1
      simp only
      split
      · split
        · intro _
          exact i.upd1 (y := { l with Until := aft s.now c.TTL }) h1 rfl rfl (ha l o { l with Until := aft s.now c.TTL } rfl rfl rfl o.rev.1 s.rev o.rev.2)
        · intro hr
          exact i.upd2 (y := ⟨l.Host, l.Subnet, cmd.Pub, cmd.MAC, aft s.now c.TTL, s.rev + 1⟩) (by simpa using hr) h1 rfl rfl (ha l o ⟨l.Host, l.Subnet, cmd.Pub, cmd.MAC, aft s.now c.TTL, s.rev + 1⟩ rfl rfl rfl (by have := i.rev; show 1 ≤ s.rev + 1; omega) _ (Int.le_refl _))
      split
      · split
        · intro _
          exact i.upd1 (y := { l with Until := aft s.now c.TTL }) h1 rfl rfl (ha l o { l with Until := aft s.now c.TTL } rfl rfl rfl o.rev.1 s.rev o.rev.2)
        · intro _; exact i
      · intro hr
        exact i.rem (by simpa [remS] using hr) h1
    | none =>
      simp only
      split
      · cases hc : choose c rs s.ls cmd.Host cmd.Subnet with
        | none => intro _; exact i
        | some p =>
          intro hr
          obtain ⟨h3, h4⟩ := choose_ok hc
          refine i.put po (by simpa using hr) ⟨by show 0 ≤ cmd.Host ∧ cmd.Host < c.Hosts; omega, h3, ⟨by have := i.rev; show 1 ≤ s.rev + 1; omega, Int.le_refl _⟩, aft_lt i.now.1 i.now.2 (by have := f.ttl; omega)⟩ (ofH_none.1 ho) h4
      · intro _; exact i
end
end Go.Proofs.YtdallmabajeajaaGreatDoor.Fw
set_option linter.all false
namespace Go.Proofs.YtdallmabajeajaaGreatDoor.Fw
open Go
theorem check26 {c : QConfig} {rs : List QReserve} (h : ¬ FieldsOK c) : checkS c rs = 26 := by unfold checkS; rw [if_pos h]
structure CpI (c : QConfig) (l : List QReserve) (last : Int) : Prop where
  lo : -1 ≤ last
  at_ : last = -1 ∨ ∃ r ∈ l, r.Host = last
  up : ∀ r ∈ l, r.Host ≤ last
  host : ∀ r ∈ l, 0 ≤ r.Host ∧ r.Host < c.Hosts ∧ r.Subnet.Len = c.SubnetLen ∧ base c r.Subnet.Addr
  rise : l.Pairwise fun a b => a.Host < b.Host
  apart : l.Pairwise fun a b => a.Subnet ≠ b.Subnet
theorem cpi_nil {c : QConfig} : CpI c [] (-1) := ⟨by omega, .inl rfl, by simp, by simp, .nil, .nil⟩
theorem cpi_add {c : QConfig} {l : List QReserve} {last : Int} {r : QReserve} (i : CpI c l last) (h1 : last < r.Host) (h2 : r.Host < c.Hosts) (h3 : r.Subnet.Len = c.SubnetLen) (h4 : base c r.Subnet.Addr) (h5 : ¬ r.Subnet ∈ l.map (·.Subnet)) : CpI c (l ++ [r]) r.Host where
  lo := by have := i.lo; omega
  at_ := .inr ⟨r, by simp, rfl⟩
  up x hx := by
    rcases List.mem_append.1 hx with h | h
    · have := i.up x h; omega
    · rw [List.mem_singleton.1 h]; exact Int.le_refl _
  host x hx := by
    rcases List.mem_append.1 hx with h | h
    · exact i.host x h
    · rw [List.mem_singleton.1 h]; exact ⟨by have := i.lo; omega, h2, h3, h4⟩
  rise := by
    rw [List.pairwise_append]
    exact ⟨i.rise, List.pairwise_singleton _ _, fun a ha b hb => by rw [List.mem_singleton.1 hb]; have := i.up a ha; omega⟩
  apart := by
    rw [List.pairwise_append]
    exact ⟨i.apart, List.pairwise_singleton _ _, fun a ha b hb e => by rw [List.mem_singleton.1 hb] at e; exact h5 (List.mem_map.2 ⟨a, ha, e⟩)⟩
theorem cp_lt {l : List QReserve} (h : l.Pairwise fun a b => a.Host < b.Host) {k : Nat} (hk : k < l.length) {r : QReserve} (hr : r ∈ l.take k) : r.Host < l[k].Host := by
  obtain ⟨j, hj, rfl⟩ := List.getElem_of_mem hr
  rw [List.length_take] at hj
  rw [List.pairwise_iff_getElem] at h
  rw [List.getElem_take]
  exact h j k (by omega) hk (by omega)
theorem cp_ne {l : List QReserve} (h : l.Pairwise fun a b => a.Subnet ≠ b.Subnet) {k : Nat} (hk : k < l.length) {r : QReserve} (hr : r ∈ l.take k) : r.Subnet ≠ l[k].Subnet := by
  obtain ⟨j, hj, rfl⟩ := List.getElem_of_mem hr
  rw [List.length_take] at hj
  rw [List.pairwise_iff_getElem] at h
  rw [List.getElem_take]
  exact h j k (by omega) hk (by omega)
theorem check_zero {c : QConfig} {rs : List QReserve} (h : checkS c rs = 0) : FieldsOK c ∧ PoolOK c rs := by
  unfold checkS at h
  split at h
  · cases h
  · split at h
    · cases h
    · rename_i h1 h2
      exact ⟨Classical.not_not.1 h1, Classical.not_not.1 h2⟩
theorem pool_len {c : QConfig} {rs : List QReserve} (f : FieldsOK c) (po : PoolOK c rs) : rs.length ≤ 64 := by
  have := nodup_bound 64 (rs.map (·.Host)) (by
    unfold List.Nodup
    rw [List.pairwise_map]
    exact po.rise.imp fun h => by omega) (fun h hh => by
    obtain ⟨y, hy, rfl⟩ := List.mem_map.1 hh
    have := (po.host y hy)
    have := f.log
    omega)
  simpa using this
theorem rise_last {l : List QReserve} {k : Nat} (hk : k < l.length) (h : (l.take (k + 1)).Pairwise fun a b => a.Host < b.Host) {a : QReserve} (ha : a ∈ l.take (k + 1)) : a.Host ≤ l[k].Host := by
  rw [List.take_succ_eq_append_getElem hk] at h ha
  rcases List.mem_append.1 ha with ha | ha
  · have := (List.pairwise_append.1 h).2.2 a ha l[k] (by simp)
    omega
  · rw [List.mem_singleton.1 ha]; exact Int.le_refl _
theorem cpi_last {c : QConfig} {l : List QReserve} {last m : Int} {k : Nat} (hk : k < l.length) (i : CpI c (l.take k) last) (h0 : 0 ≤ m) (h : ∀ j : Nat, j + 1 = k → (el l j).Host < m) : last < m := by
  rcases i.at_ with e | ⟨r, hr, e⟩
  · omega
  · cases k with
    | zero => simp at hr
    | succ j =>
      have h1 := rise_last (by omega) i.rise hr
      have h2 := h j rfl
      have e2 : el l j = l[j] := by simp [el, List.getD_eq_getElem?_getD, show j < l.length by omega]
      rw [e2] at h2
      omega
end Go.Proofs.YtdallmabajeajaaGreatDoor.Fw
set_option linter.all false
namespace Go.Proofs.YtdallmabajeajaaGreatDoor.Fw
open Go
section
variable {c : QConfig} {rs : List QReserve} {s : LS} {x l : QLease} {cmd : QCmd} {h pub n : Int} {w p : QPrefix} {m : QMAC}
theorem apply_rev : (applyS c rs s cmd).2.Rev = (applyS c rs s cmd).1.rev ∧ (applyS c rs s cmd).2.Now = (applyS c rs s cmd).1.now := by
  unfold applyS; split <;> exact ⟨rfl, rfl⟩
theorem apply_of {S : LS} {y : QLease} {e : Int} (h : cmdS c rs s cmd = (S, y, e)) (hr : S.rev ≤ maxRev) : applyS c rs s cmd = (S, ⟨e, y, S.rev, S.now⟩) := by
  unfold applyS
  rw [h, if_neg (by dsimp only; omega)]
theorem ap_new (h0 : 0 ≤ h) (h1 : h < c.Hosts) (ho : ofH s.ls h = none) (hc : choose c rs s.ls h w = some p) (hr : s.rev + 1 ≤ maxRev) : applyS c rs s ⟨1, h, w, pub, m, n⟩ = (⟨s.now, s.rev + 1, ins s.ls ⟨h, p, pub, m, aft s.now c.TTL, s.rev + 1⟩, s.es ++ [⟨s.rev + 1, 1, ⟨h, p, pub, m, aft s.now c.TTL, s.rev + 1⟩⟩]⟩, ⟨0, ⟨h, p, pub, m, aft s.now c.TTL, s.rev + 1⟩, s.rev + 1, s.now⟩) :=
  apply_of (S := ⟨s.now, s.rev + 1, ins s.ls ⟨h, p, pub, m, aft s.now c.TTL, s.rev + 1⟩, s.es ++ [⟨s.rev + 1, 1, ⟨h, p, pub, m, aft s.now c.TTL, s.rev + 1⟩⟩]⟩) (by
    unfold cmdS
    dsimp only
    rw [if_neg (by decide), if_neg (by decide), if_neg (by omega), ho]
    dsimp only
    rw [if_pos rfl, hc]) hr
end
end Go.Proofs.YtdallmabajeajaaGreatDoor.Fw
set_option linter.all false
namespace Go.Proofs.YtdallmabajeajaaGreatDoor.Fw
def ahead (a b : Qtimer_one) : Prop := a.at_ < b.at_ ∨ a.at_ = b.at_ ∧ a.id < b.id
instance {a b} : Decidable (ahead a b) := by unfold ahead; infer_instance
theorem ahead_ord : Ord ahead := ⟨fun h h2 => by unfold ahead at *; omega, fun h h2 h3 => by unfold ahead at *; omega⟩
structure PlX (h : List Qtimer_one) (m : List (Int × Int)) (i : Nat) : Prop where
  d : KD m
  n : ∀ j k, j < h.length → k < h.length → (gt h j).id = (gt h k).id → j = k
  g : ∀ j, j < h.length → j ≠ i → mget m (gt h j).id = some (j : Int)
  c : ∀ k v, mget m k = some v → ∃ j, j < h.length ∧ (gt h j).id = k
def Pl (h : List Qtimer_one) (m : List (Int × Int)) : Prop := PlX h m h.length
def swp (h : List Qtimer_one) (i p : Nat) : List Qtimer_one := (h.set i (gt h p)).set p (gt h i)
def sig (i p j : Nat) : Nat := if j = p then i else if j = i then p else j
section
variable {h : List Qtimer_one} {m : List (Int × Int)} {i p j : Nat} {x : Qtimer_one} {k v : Int}
theorem swp_len : (swp h i p).length = h.length := by simp [swp]
theorem gt_swp (hi : i < h.length) (hp : p < h.length) : gt (swp h i p) j = gt h (sig i p j) := by
  unfold swp sig
  by_cases h1 : j = p
  · subst h1
    rw [gt_set_eq (by simpa using hp)]; simp
  · rw [gt_set_ne (Ne.symm h1)]
    by_cases h2 : j = i
    · subst h2; rw [gt_set_eq hi]; simp [h1]
    · rw [gt_set_ne (Ne.symm h2)]; simp [h1, h2]
theorem sig_sig (hip : i ≠ p) : sig i p (sig i p j) = j := by
  unfold sig; repeat (split <;> try omega)
theorem sig_lt (hi : i < h.length) (hp : p < h.length) (hj : j < h.length) : sig i p j < h.length := by
  unfold sig; repeat (split <;> try omega)
theorem PlX.step (q : PlX h m i) (hi : i < h.length) (hp : p < h.length) (hip : i ≠ p) : PlX (swp h i p) (mset m (gt h p).id i) p := by
  have hs := fun j => gt_swp (j := j) hi hp
  refine ⟨q.d.set, fun a b ha hb e => ?_, fun a ha hap => ?_, fun k v e => ?_⟩
  · rw [swp_len] at ha hb
    rw [hs, hs] at e
    have := q.n _ _ (sig_lt hi hp ha) (sig_lt hi hp hb) e
    rw [← sig_sig (i := i) (p := p) (j := a) hip, this, sig_sig hip]
  · rw [swp_len] at ha
    rw [hs, mget_set q.d]
    by_cases hai : a = i
    · subst hai
      rw [show sig a p a = p by unfold sig; simp [hip]]; simp
    · rw [show sig i p a = a by unfold sig; simp [hap, hai]]
      rw [if_neg (fun e => hap (q.n _ _ ha hp e))]
      exact q.g a ha hai
  · rw [mget_set q.d] at e
    split at e
    · rename_i hk
      exact ⟨i, by rw [swp_len]; exact hi, by rw [hs, show sig i p i = p by unfold sig; simp [hip], hk]⟩
    · obtain ⟨a, ha, hk⟩ := q.c k v e
      exact ⟨sig i p a, by rw [swp_len]; exact sig_lt hi hp ha, by rw [hs, sig_sig hip, hk]⟩
theorem PlX.fin (q : PlX h m i) (hi : i < h.length) : Pl h (mset m (gt h i).id i) := by
  refine ⟨q.d.set, q.n, fun a ha _ => ?_, fun k v e => ?_⟩
  · rw [mget_set q.d]
    by_cases hai : a = i
    · subst hai; simp
    · rw [if_neg (fun e => hai (q.n _ _ ha hi e))]
      exact q.g a ha hai
  · rw [mget_set q.d] at e
    split at e
    · rename_i hk; exact ⟨i, hi, hk.symm⟩
    · exact q.c k v e
theorem Pl.any (q : Pl h m) : PlX h m i := ⟨q.d, q.n, fun j hj _ => q.g j hj (by omega), q.c⟩
theorem Pl.at (q : Pl h m) (hi : i < h.length) : mget m (gt h i).id = some (i : Int) := q.g i hi (by omega)
theorem Pl.get (q : Pl h m) (e : mget m k = some v) : ∃ j, j < h.length ∧ v = (j : Int) ∧ (gt h j).id = k := by
  obtain ⟨j, hj, hk⟩ := q.c k v e
  subst hk
  rw [q.at hj] at e
  exact ⟨j, hj, (Option.some.inj e).symm, rfl⟩
theorem gt_mem (hi : i < h.length) : gt h i ∈ h := by
  unfold gt; simp [List.getD_eq_getElem?_getD, hi]
theorem mem_gt (hx : x ∈ h) : ∃ i, i < h.length ∧ gt h i = x := by
  obtain ⟨i, hi, e⟩ := List.mem_iff_getElem.1 hx
  exact ⟨i, hi, by simp [gt, List.getD_eq_getElem?_getD, hi, e]⟩
theorem Pl.none (q : Pl h m) : mget m k = .none ↔ ∀ x ∈ h, x.id ≠ k := by
  constructor
  · intro e x hx hk
    obtain ⟨i, hi, rfl⟩ := mem_gt hx
    rw [← hk, q.at hi] at e; cases e
  · intro a
    cases e : mget m k with
    | none => rfl
    | some v =>
      obtain ⟨j, hj, hk⟩ := q.c k v e
      exact absurd hk (a _ (gt_mem hj))
theorem set_self (hi : i < h.length) : h.set i (gt h i) = h := by
  apply List.ext_getElem (by simp)
  intro n h1 h2
  rw [List.getElem_set]
  split
  · rename_i e; subst e; simp [gt, List.getD_eq_getElem?_getD, hi]
  · rfl
theorem set_perm (hi : i < h.length) : ∃ r, h.Perm (gt h i :: r) ∧ ∀ x, (h.set i x).Perm (x :: r) := by
  refine ⟨h.take i ++ h.drop (i + 1), ?_, fun x => ?_⟩
  · conv => lhs; rw [← List.take_append_drop i h, List.drop_eq_getElem_cons hi]
    have e : h[i] = gt h i := by simp [gt, List.getD_eq_getElem?_getD, hi]
    rw [e]
    exact List.perm_middle
  · rw [List.set_eq_take_append_cons_drop, if_pos hi]
    exact List.perm_middle
theorem swp_perm (hi : i < h.length) (hp : p < h.length) (hip : i ≠ p) : (swp h i p).Perm h := by
  obtain ⟨r, h1, h2⟩ := set_perm hi
  have hg : gt (h.set i (gt h p)) p = gt h p := gt_set_ne hip
  obtain ⟨s, h3, h4⟩ := set_perm (h := h.set i (gt h p)) (i := p) (by simpa using hp)
  rw [hg] at h3
  have e1 := (h2 (gt h p)).symm.trans h3
  have e2 : r.Perm s := (List.perm_cons _).1 e1
  exact (h4 (gt h i)).trans ((e2.symm.cons _).trans h1.symm)
theorem Pl.app (q : Pl h m) (e : mget m x.id = .none) : Pl (h ++ [x]) (mset m x.id h.length) := by
  have hn := q.none.1 e
  have hg : ∀ j, j < h.length → gt (h ++ [x]) j = gt h j := fun j hj => gt_app hj
  refine ⟨q.d.set, fun a b ha hb e => ?_, fun a ha _ => ?_, fun k v e => ?_⟩
  · simp only [List.length_append, List.length_cons, List.length_nil] at ha hb
    by_cases h1 : a < h.length <;> by_cases h2 : b < h.length
    · rw [hg a h1, hg b h2] at e; exact q.n _ _ h1 h2 e
    · rw [hg a h1, show b = h.length by omega, gt_last] at e; exact absurd e (hn _ (gt_mem h1))
    · rw [hg b h2, show a = h.length by omega, gt_last] at e; exact absurd e.symm (hn _ (gt_mem h2))
    · omega
  · simp only [List.length_append, List.length_cons, List.length_nil] at ha
    rw [mget_set q.d]
    by_cases h1 : a < h.length
    · rw [hg a h1, if_neg (hn _ (gt_mem h1))]; exact q.at h1
    · rw [show a = h.length by omega, gt_last]; simp
  · rw [mget_set q.d] at e
    split at e
    · rename_i hk; exact ⟨h.length, by simp, by rw [gt_last, hk]⟩
    · obtain ⟨a, ha, hk⟩ := q.c k v e
      exact ⟨a, by simp; omega, by rw [hg a ha, hk]⟩
theorem Pl.same (q : Pl h m) (hi : i < h.length) (e : x.id = (gt h i).id) : Pl (h.set i x) (mset m x.id i) := by
  have hg : ∀ j, j < h.length → (gt (h.set i x) j).id = (gt h j).id := fun j hj => by
    by_cases hj2 : i = j
    · subst hj2; rw [gt_set_eq hi, e]
    · rw [gt_set_ne hj2]
  refine ⟨q.d.set, fun a b ha hb e => ?_, fun a ha _ => ?_, fun k v e2 => ?_⟩
  · rw [List.length_set] at ha hb
    rw [hg a ha, hg b hb] at e; exact q.n _ _ ha hb e
  · rw [List.length_set] at ha
    rw [hg a ha, mget_set q.d]
    split
    · rename_i h1; rw [e] at h1; rw [q.n _ _ ha hi h1]
    · exact q.at ha
  · rw [mget_set q.d] at e2
    split at e2
    · rename_i hk; exact ⟨i, by simpa using hi, by rw [hg i hi, ← e, hk]⟩
    · obtain ⟨a, ha, hk⟩ := q.c k v e2
      exact ⟨a, by simpa using ha, by rw [hg a ha, hk]⟩
end
end Go.Proofs.YtdallmabajeajaaGreatDoor.Fw
set_option linter.all false
namespace Go.Proofs.YtdallmabajeajaaGreatDoor.Fw
section
variable {α : Type} [Inhabited α] (f t : α → Int)
def Runs (l : List α) : Prop := l.Pairwise (fun a b => t a + 1 < f b) ∧ ∀ r ∈ l, f r ≤ t r
def inR (l : List α) (n : Int) : Prop := ∃ r ∈ l, f r ≤ n ∧ n ≤ t r
variable {f t} {l A B : List α} {n m : Int} {i : Nat} {r x y z : α}
theorem Runs.app : Runs f t (A ++ B) ↔ Runs f t A ∧ Runs f t B ∧ ∀ a ∈ A, ∀ b ∈ B, t a + 1 < f b := by
  unfold Runs
  rw [List.pairwise_append]
  constructor
  · rintro ⟨⟨h1, h2, h3⟩, h4⟩
    exact ⟨⟨h1, fun r hr => h4 r (by simp [hr])⟩, ⟨h2, fun r hr => h4 r (by simp [hr])⟩, h3⟩
  · rintro ⟨⟨h1, h4⟩, ⟨h2, h5⟩, h3⟩
    refine ⟨⟨h1, h2, h3⟩, fun r hr => ?_⟩
    rcases List.mem_append.1 hr with hr | hr
    · exact h4 r hr
    · exact h5 r hr
theorem Runs.cons : Runs f t (r :: l) ↔ f r ≤ t r ∧ Runs f t l ∧ ∀ b ∈ l, t r + 1 < f b := by
  unfold Runs
  rw [List.pairwise_cons]
  constructor
  · rintro ⟨⟨h1, h2⟩, h3⟩
    exact ⟨h3 r (by simp), ⟨h2, fun x hx => h3 x (by simp [hx])⟩, h1⟩
  · rintro ⟨h1, ⟨h2, h3⟩, h4⟩
    refine ⟨⟨h4, h2⟩, fun x hx => ?_⟩
    rcases List.mem_cons.1 hx with rfl | hx
    · exact h1
    · exact h3 x hx
theorem Runs.nil : Runs f t [] := ⟨.nil, by simp⟩
theorem inR_app : inR f t (A ++ B) n ↔ inR f t A n ∨ inR f t B n := by
  unfold inR
  constructor
  · rintro ⟨r, hr, h⟩
    rcases List.mem_append.1 hr with hr | hr
    · exact .inl ⟨r, hr, h⟩
    · exact .inr ⟨r, hr, h⟩
  · rintro (⟨r, hr, h⟩ | ⟨r, hr, h⟩)
    · exact ⟨r, by simp [hr], h⟩
    · exact ⟨r, by simp [hr], h⟩
theorem inR_cons : inR f t (r :: l) n ↔ (f r ≤ n ∧ n ≤ t r) ∨ inR f t l n := by
  unfold inR; simp
theorem inR_nil : ¬ inR f t [] n := by simp [inR]
def PlaceR (t : α → Int) (l : List α) (n : Int) (i : Nat) : Prop := i ≤ l.length ∧ (∀ a ∈ l.take i, t a < n) ∧ (∀ b ∈ l.drop i, n ≤ t b)
theorem place_in (R : Runs f t l) (p : PlaceR t l n i) : inR f t l n ↔ i < l.length ∧ f (gt l i) ≤ n := by
  obtain ⟨h1, h2, h3⟩ := p
  conv => lhs; rw [← List.take_append_drop i l]
  rw [inR_app]
  have hA : ¬ inR f t (l.take i) n := by rintro ⟨r, hr, h⟩; have := h2 r hr; omega
  by_cases hi : i < l.length
  · have e : l.drop i = gt l i :: l.drop (i + 1) := by
      rw [List.drop_eq_getElem_cons hi]; simp [gt, hi]
    rw [e, inR_cons]
    have R' : Runs f t (l.drop i) := by rw [← List.take_append_drop i l] at R; exact (Runs.app.1 R).2.1
    rw [e, Runs.cons] at R'
    have h4 := h3 (gt l i) (by rw [e]; simp)
    constructor
    · rintro (h | h | ⟨r, hr, h⟩)
      · exact absurd h hA
      · exact ⟨hi, h.1⟩
      · have := R'.2.2 r hr; omega
    · rintro ⟨_, h⟩
      exact .inr (.inl ⟨h, h4⟩)
  · rw [List.drop_of_length_le (by omega)]
    simp [hA, inR_nil, hi]
theorem place_free (R : Runs f t l) (p : PlaceR t l n i) (hn : ¬ inR f t l n) : ∀ b ∈ l.drop i, n < f b := by
  intro b hb
  have := p.2.2 b hb
  by_cases h : n < f b
  · exact h
  · exact absurd ⟨b, List.mem_of_mem_drop hb, by omega, this⟩ hn
variable (A B) in
theorem lay_new (R : Runs f t (A ++ B)) (hA : ∀ a ∈ A, t a + 1 < n) (hB : ∀ b ∈ B, n + 1 < f b) (hf : f x = n) (ht : t x = n) : Runs f t (A ++ x :: B) ∧ ∀ m, inR f t (A ++ x :: B) m ↔ inR f t (A ++ B) m ∨ m = n := by
  rw [Runs.app] at R
  refine ⟨?_, fun m => ?_⟩
  · rw [Runs.app, Runs.cons]
    refine ⟨R.1, ⟨by omega, R.2.1, fun b hb => by have := hB b hb; omega⟩, fun a ha b hb => ?_⟩
    rcases List.mem_cons.1 hb with rfl | hb
    · have := hA a ha; omega
    · exact R.2.2 a ha b hb
  · rw [inR_app, inR_cons, inR_app, hf, ht]
    constructor
    · rintro (h | h | h)
      · exact .inl (.inl h)
      · right; omega
      · exact .inl (.inr h)
    · rintro ((h | h) | h)
      · exact .inl h
      · exact .inr (.inr h)
      · right; left; omega
theorem lay_left (R : Runs f t (A ++ r :: B)) (hr : t r = n - 1) (hB : ∀ b ∈ B, n + 1 < f b) (hf : f x = f r) (ht : t x = n) : Runs f t (A ++ x :: B) ∧ ∀ m, inR f t (A ++ x :: B) m ↔ inR f t (A ++ r :: B) m ∨ m = n := by
  rw [Runs.app, Runs.cons] at R
  obtain ⟨R1, ⟨R2, R3, R4⟩, R5⟩ := R
  refine ⟨?_, fun m => ?_⟩
  · rw [Runs.app, Runs.cons]
    refine ⟨R1, ⟨by omega, R3, fun b hb => by have := hB b hb; omega⟩, fun a ha b hb => ?_⟩
    rcases List.mem_cons.1 hb with rfl | hb
    · have := R5 a ha r (by simp); omega
    · exact R5 a ha b (by simp [hb])
  · rw [inR_app, inR_cons, inR_app, inR_cons, hf, ht, hr]
    constructor
    · rintro (h | h | h)
      · exact .inl (.inl h)
      · by_cases hm : m = n
        · exact .inr hm
        · exact .inl (.inr (.inl (by omega)))
      · exact .inl (.inr (.inr h))
    · rintro ((h | h | h) | h)
      · exact .inl h
      · exact .inr (.inl (by omega))
      · exact .inr (.inr h)
      · exact .inr (.inl (by omega))
theorem lay_right (R : Runs f t (A ++ r :: B)) (hr : f r = n + 1) (hA : ∀ a ∈ A, t a + 1 < n) (hf : f x = n) (ht : t x = t r) : Runs f t (A ++ x :: B) ∧ ∀ m, inR f t (A ++ x :: B) m ↔ inR f t (A ++ r :: B) m ∨ m = n := by
  rw [Runs.app, Runs.cons] at R
  obtain ⟨R1, ⟨R2, R3, R4⟩, R5⟩ := R
  refine ⟨?_, fun m => ?_⟩
  · rw [Runs.app, Runs.cons]
    refine ⟨R1, ⟨by omega, R3, fun b hb => by have := R4 b hb; omega⟩, fun a ha b hb => ?_⟩
    rcases List.mem_cons.1 hb with rfl | hb
    · have := hA a ha; omega
    · exact R5 a ha b (by simp [hb])
  · rw [inR_app, inR_cons, inR_app, inR_cons, hf, ht, hr]
    constructor
    · rintro (h | h | h)
      · exact .inl (.inl h)
      · by_cases hm : m = n
        · exact .inr hm
        · exact .inl (.inr (.inl (by omega)))
      · exact .inl (.inr (.inr h))
    · rintro ((h | h | h) | h)
      · exact .inl h
      · exact .inr (.inl (by omega))
      · exact .inr (.inr h)
      · exact .inr (.inl (by omega))
theorem lay_both (R : Runs f t (A ++ r :: y :: B)) (hr : t r = n - 1) (hy : f y = n + 1) (hf : f x = f r) (ht : t x = t y) : Runs f t (A ++ x :: B) ∧ ∀ m, inR f t (A ++ x :: B) m ↔ inR f t (A ++ r :: y :: B) m ∨ m = n := by
  rw [Runs.app, Runs.cons, Runs.cons] at R
  obtain ⟨R1, ⟨R2, ⟨R3, R4, R6⟩, R7⟩, R5⟩ := R
  refine ⟨?_, fun m => ?_⟩
  · rw [Runs.app, Runs.cons]
    refine ⟨R1, ⟨by omega, R4, fun b hb => by have := R6 b hb; omega⟩, fun a ha b hb => ?_⟩
    rcases List.mem_cons.1 hb with rfl | hb
    · have := R5 a ha r (by simp); omega
    · exact R5 a ha b (by simp [hb])
  · rw [inR_app, inR_cons, inR_app, inR_cons, inR_cons, hf, ht, hr, hy]
    constructor
    · rintro (h | h | h)
      · exact .inl (.inl h)
      · by_cases hm : m = n
        · exact .inr hm
        · by_cases hm2 : m ≤ n - 1
          · exact .inl (.inr (.inl (by omega)))
          · exact .inl (.inr (.inr (.inl (by omega))))
      · exact .inl (.inr (.inr (.inr h)))
    · rintro ((h | h | h | h) | h)
      · exact .inl h
      · exact .inr (.inl (by omega))
      · exact .inr (.inl (by omega))
      · exact .inr (.inr h)
      · exact .inr (.inl (by omega))
theorem free_run {L : List α} (R : Runs f t (A ++ r :: B)) (hr : f r ≤ n ∧ n ≤ t r) (hL : Runs f t L) (h1 : ∀ x ∈ L, f r ≤ f x ∧ t x ≤ t r) (h2 : ∀ m, inR f t L m ↔ f r ≤ m ∧ m ≤ t r ∧ m ≠ n) : Runs f t (A ++ L ++ B) ∧ ∀ m, inR f t (A ++ L ++ B) m ↔ inR f t (A ++ r :: B) m ∧ m ≠ n := by
  rw [Runs.app, Runs.cons] at R
  obtain ⟨R1, ⟨R2, R3, R4⟩, R5⟩ := R
  refine ⟨?_, fun m => ?_⟩
  · rw [Runs.app, Runs.app]
    refine ⟨⟨R1, hL, fun a ha b hb => ?_⟩, R3, fun a ha b hb => ?_⟩
    · have := R5 a ha r (by simp); have := h1 b hb; omega
    · rcases List.mem_append.1 ha with ha | ha
      · exact R5 a ha b (by simp [hb])
      · have := R4 b hb; have := h1 a ha; omega
  · rw [inR_app, inR_app, inR_app, inR_cons, h2]
    constructor
    · rintro ((h | h) | h)
      · obtain ⟨a, ha, h3⟩ := h
        have := R5 a ha r (by simp)
        exact ⟨.inl ⟨a, ha, h3⟩, by omega⟩
      · exact ⟨.inr (.inl ⟨h.1, h.2.1⟩), h.2.2⟩
      · obtain ⟨b, hb, h3⟩ := h
        have := R4 b hb
        exact ⟨.inr (.inr ⟨b, hb, h3⟩), by omega⟩
    · rintro ⟨h | h | h, h3⟩
      · exact .inl (.inl h)
      · exact .inl (.inr ⟨h.1, h.2, h3⟩)
      · exact .inr h
end
end Go.Proofs.YtdallmabajeajaaGreatDoor.Fw
set_option linter.all false
set_option maxHeartbeats 4000000
set_option maxRecDepth 100000
namespace Go.Proofs.YtdallmabajeajaaGreatDoor.Fw
open Go
theorem mask_c (n : Int) (h0 : 0 ≤ n) (h1 : n ≤ 32) (R : Hh) : Ctp Tryz.prog 99 [.int .i64 n] R [] (.int .u32 (maskM n)) := by
  refine in_ Tryz.func99 fun w0 => ?_
  refine if_ (fun h => ?_) (fun h => ?_) <;> refine re_ ?_ <;> simp_all [maskM, pack, IntKind.bits]
instance (n : Int) (R : Hh) : Cp 99 [.int .i64 n] R [] (0 ≤ n ∧ n ≤ 32) (.int .u32 (maskM n)) := ⟨fun h => mask_c n h.1 h.2 R⟩
theorem fault_c (p : QPrefix) (R : Hh) : Ctp Tryz.prog 102 [.agg ⟨cPrefix p⟩] R [] (.int .i64 (faultM p)) := by
  refine in_ Tryz.func102 fun w0 => ?_
  refine bo_' fun b => ?_
  refine if_ (fun h => ?_) (fun h => ?_)
  · refine re_ ?_
    grind [faultM, pack]
  · refine if_ (fun h => ?_) (fun h => ?_) <;> refine re_ ?_ <;> grind [faultM, pack]
instance (p : QPrefix) (R : Hh) : Cp 102 [.agg ⟨cPrefix p⟩] R [] True (.int .i64 (faultM p)) := ⟨fun _ => fault_c p R⟩
theorem valid_c (p : QPrefix) (R : Hh) : Ctp Tryz.prog 59 [.agg ⟨cPrefix p⟩] R [] (.bool (validM p)) := by
  refine in_ Tryz.func59 fun w0 => ?_
  refine bo_' fun b => ?_
  refine re_ ?_
  simp only [validM, pack, Value.bool.injEq]; rfl
instance (p : QPrefix) (R : Hh) : Cp 59 [.agg ⟨cPrefix p⟩] R [] True (.bool (validM p)) := ⟨fun _ => valid_c p R⟩
theorem validM_len {p : QPrefix} (h : validM p = true) : 0 ≤ p.Len ∧ p.Len ≤ 32 := by
  unfold validM faultM at h
  rw [decide_eq_true_eq] at h
  split at h <;> omega
instance (p : QPrefix) (R : Hh) : Cp 99 [.int .i64 p.Len] R [] (validM p = true) (.int .u32 (maskM p.Len)) := ⟨fun h => mask_c p.Len (validM_len h).1 (validM_len h).2 R⟩
theorem cont_c (p : QPrefix) (a : Int) (R : Hh) : Ctp Tryz.prog 57 [.agg ⟨cPrefix p⟩, .int .u32 a] R [] (.bool (contM p a)) := by
  refine in_ Tryz.func57 fun w0 => ?_
  refine bo_' fun b => ?_
  refine re_ ?_
  simp only [contM, pack, Value.bool.injEq]; cases validM p <;> rfl
instance (p : QPrefix) (a : Int) (R : Hh) : Cp 57 [.agg ⟨cPrefix p⟩, .int .u32 a] R [] True (.bool (contM p a)) := ⟨fun _ => cont_c p a R⟩
/-! ### time -/
def afterM (x y : Int) : Int := if ((decide (x > 0) && decide (y > 0)) && decide (IntKind.i64.wrap (x + y) < 0)) = true then 9223372036854775807
  else if ((decide (x < 0) && decide (y < 0)) && decide (IntKind.i64.wrap (x + y) ≥ 0)) = true then -9223372036854775808 else IntKind.i64.wrap (x + y)
theorem after_c (x y : Int) (R : Hh) : Ctp Tryz.prog 125 [.int .i64 x, .int .i64 y] R [] (.int .i64 (afterM x y)) := by
  refine in_ Tryz.func125 fun w0 => ?_
  refine if_ (fun h => ?_) (fun h => ?_)
  · refine re_ ?_
    grind [afterM, pack]
  · refine if_ (fun h => ?_) (fun h => ?_) <;> refine re_ ?_ <;> grind [afterM, pack]
instance (x y : Int) (R : Hh) : Cp 125 [.int .i64 x, .int .i64 y] R [] True (.int .i64 (afterM x y)) := ⟨fun _ => after_c x y R⟩
theorem after_eq {a n : Int} (h0 : 0 ≤ a) (h1 : a ≤ never) (h2 : 0 ≤ n) (h3 : n ≤ never) : afterM a n = aft a n := by
  unfold afterM aft never at *
  simp only [IntKind.wrap, IntKind.bits, IntKind.signed]
  grind
theorem ahead_c (a b : Qtimer_one) (R : Hh) : Ctp Tryz.prog 187 [.agg ⟨ctimer_one a⟩, .agg ⟨ctimer_one b⟩] R [] (.bool (decide (ahead a b))) := by
  refine in_ Tryz.func187 fun w0 => ?_
  refine bo_' fun p => ?_
  refine bo_' fun q => ?_
  refine re_ ?_
  simp only [pack, Value.bool.injEq]; rw [Bool.eq_iff_iff, decide_eq_true_eq]; simp [ahead]
instance (a b : Qtimer_one) (R : Hh) : Cp 187 [.agg ⟨ctimer_one a⟩, .agg ⟨ctimer_one b⟩] R [] True (.bool (decide (ahead a b))) := ⟨fun _ => ahead_c a b R⟩
end Go.Proofs.YtdallmabajeajaaGreatDoor.Fw
set_option linter.all false
set_option maxHeartbeats 4000000
set_option maxRecDepth 100000
namespace Go.Proofs.YtdallmabajeajaaGreatDoor.Fw
open Go
theorem aligned_c (a n : Int) (R : Hh) : Ctp Tryz.prog 119 [.int .u32 a, .int .i64 n] R [] (.bool (validM ⟨a, n⟩)) := by
  refine in_ Tryz.func119 fun w0 => ?_
  refine re_ ?_
  simp only [pack]
instance (a n : Int) (R : Hh) : Cp 119 [.int .u32 a, .int .i64 n] R [] True (.bool (validM ⟨a, n⟩)) := ⟨fun _ => aligned_c a n R⟩
def poolM (p : QPrefix) (n lo hi : Int) : Int := if validM p = false then 11 else if n < p.Len ∨ 32 < n ∨ hi < lo then 1 else if validM ⟨lo, n⟩ = false ∨ validM ⟨hi, n⟩ = false then 100 else if contM p lo = false ∨ contM p hi = false then 101 else 0
theorem poolfault_c (p : QPrefix) (n lo hi : Int) (R : Hh) : Ctp Tryz.prog 90 [.agg ⟨cPrefix p⟩, .int .i64 n, .int .u32 lo, .int .u32 hi] R [] (.int .i64 (poolM p n lo hi)) := by
  refine in_ Tryz.func90 fun w0 => ?_
  refine bo_' fun b => ?_
  refine if_ (fun h1 => ?_) (fun h1 => ?_)
  · refine re_ ?_; grind [poolM, pack]
  · refine if_ (fun h2 => ?_) (fun h2 => ?_)
    · refine re_ ?_; grind [poolM, pack]
    · refine if_ (fun h3 => ?_) (fun h3 => ?_)
      · refine re_ ?_; grind [poolM, pack]
      · refine if_ (fun h4 => ?_) (fun h4 => ?_) <;> refine re_ ?_ <;> grind [poolM, pack]
instance (p : QPrefix) (n lo hi : Int) (R : Hh) : Cp 90 [.agg ⟨cPrefix p⟩, .int .i64 n, .int .u32 lo, .int .u32 hi] R [] True (.int .i64 (poolM p n lo hi)) := ⟨fun _ => poolfault_c p n lo hi R⟩
end Go.Proofs.YtdallmabajeajaaGreatDoor.Fw
set_option linter.all false
set_option maxHeartbeats 4000000
set_option maxRecDepth 100000
namespace Go.Proofs.YtdallmabajeajaaGreatDoor.Fw
open Go
theorem put_c (t : Addr) (lim : Int) (X : SH) (r : Nat) (h : List Qtimer_one) (m : List (Int × Int)) (i : Int) (x : Qtimer_one) (h0 : 0 ≤ i) (h1 : i < h.length) (R : Hh) : Ctr (τ := Unit) Tryz.prog 143 [.pointer (some (padd t 0)), .int .i64 i, .agg ⟨ctimer_one x⟩] R [Bx t 157 (ctimer_Timers ⟨lim, X, some r⟩), Sv 2 224 X.v (h.map ctimer_one), Mp r (vInt .i64) (vInt .i64) m] (fun _ => True) (fun _ => .tuple #[]) (fun _ => [Bx t 157 (ctimer_Timers ⟨lim, X, some r⟩), Sv 2 224 X.v ((h.set i.toNat x).map ctimer_one), Mp r (vInt .i64) (vInt .i64) (mset m x.id i)]) := by
  refine in_ Tryz.func143 fun w0 => ?_
  refine bo_' fun b => ?_
  refine mu_ ?_
  refine rn_ () trivial
theorem el_gt {α : Type} [Inhabited α] {l : List α} {n : Nat} : el l (n : Int) = gt l n := rfl
theorem swp_set {hc : List Qtimer_one} {x : Qtimer_one} {n p : Nat} (hn : n < hc.length) (hp : n ≠ p) : swp (hc.set n x) n p = (hc.set n (gt hc p)).set p x := by
  unfold swp
  rw [gt_set_ne hp, gt_set_eq hn, List.set_set]
theorem up_step {x : Qtimer_one} {h hc : List Qtimer_one} {mc : List (Int × Int)} {k : Int} (h0 : 0 ≤ k) (hk : k < hc.length) (hl : hc.length = h.length) (hA : HeapAt ahead (hc.set k.toNat x) k.toNat) (hP : PlX (hc.set k.toNat x) mc k.toNat) (hpm : (hc.set k.toNat x).Perm h) (hpos : k > 0) (ha : ahead x (el hc ((k - 1) / 2))) :
    0 ≤ (k - 1) / 2 ∧ (k - 1) / 2 < (hc.set k.toNat (el hc ((k - 1) / 2))).length ∧ (hc.set k.toNat (el hc ((k - 1) / 2))).length = h.length ∧ HeapAt ahead ((hc.set k.toNat (el hc ((k - 1) / 2))).set ((k - 1) / 2).toNat x) ((k - 1) / 2).toNat ∧ PlX ((hc.set k.toNat (el hc ((k - 1) / 2))).set ((k - 1) / 2).toNat x) (mset mc (el hc ((k - 1) / 2)).id k) ((k - 1) / 2).toNat ∧ ((hc.set k.toNat (el hc ((k - 1) / 2))).set ((k - 1) / 2).toNat x).Perm h := by
  obtain ⟨n, rfl⟩ : ∃ n : Nat, k = (n : Int) := ⟨k.toNat, by omega⟩
  have e : ((n : Int) - 1) / 2 = ((par n : Nat) : Int) := by unfold par; omega
  have hp := par_lt (i := n) (by omega)
  rw [e] at ha ⊢
  simp only [Int.toNat_natCast, el_gt] at *
  have hn : n < hc.length := by omega
  have hs := swp_set (x := x) hn (show n ≠ par n by omega)
  refine ⟨by omega, by simp; omega, by simpa using hl, heap_up ahead_ord hn (by omega) hA ha, ?_, ?_⟩
  · have h3 := hP.step (p := par n) (by simpa using hn) (by simp; omega) (by omega)
    rw [hs, gt_set_ne (by omega)] at h3
    exact h3
  · rw [← hs]
    exact (swp_perm (by simpa using hn) (by simp; omega) (by omega)).trans hpm
theorem up_c (t : Addr) (lim : Int) (X : SH) (r : Nat) (h : List Qtimer_one) (m : List (Int × Int)) (i : Nat) (hn : h.length ≤ 65536) (h1 : i < h.length) (hh0 : HeapAt ahead h i) (hp : Pl h m) (R : Hh) : Ctr (τ := List Qtimer_one × List (Int × Int) × Nat) Tryz.prog 144 [.pointer (some (padd t 0)), .int .i64 (i : Int)] R [Bx t 157 (ctimer_Timers ⟨lim, X, some r⟩), Sv 2 224 X.v (h.map ctimer_one), Mp r (vInt .i64) (vInt .i64) m] (fun x => HeapUp ahead x.1 x.2.2 ∧ Pl x.1 x.2.1 ∧ x.1.Perm h ∧ x.2.2 < x.1.length ∧ gt x.1 x.2.2 = gt h i) (fun _ => .tuple #[]) (fun x => [Bx t 157 (ctimer_Timers ⟨lim, X, some r⟩), Sv 2 224 X.v (x.1.map ctimer_one), Mp r (vInt .i64) (vInt .i64) x.2.1]) := by
  refine in_ Tryz.func144 fun w0 => ?_
  refine ax_ fun b => ?_
  refine lo_ (fun z : Int × List Qtimer_one × List (Int × Int) => [(1, .int .i64 z.1)]) (fun z => [Sv 2 224 X.v (z.2.1.map ctimer_one), Mp r (vInt .i64) (vInt .i64) z.2.2]) (fun z => 0 ≤ z.1 ∧ z.1 < z.2.1.length ∧ z.2.1.length = h.length ∧ HeapAt ahead (z.2.1.set z.1.toNat (el h i)) z.1.toNat ∧ PlX (z.2.1.set z.1.toNat (el h i)) z.2.2 z.1.toNat ∧ (z.2.1.set z.1.toNat (el h i)).Perm h) (fun z => z.1.toNat) (i, h, m) ?_ fun ⟨k, hc, mc⟩ hz => ?_
  · simp only [Int.toNat_natCast, el_gt, set_self h1]
    exact ⟨by omega, by omega, trivial, hh0, hp.any, .refl _⟩
  dsimp only at hz
  obtain ⟨h0, hk, hl, hA, hP, hpm⟩ := hz
  dsimp only
  refine if_ (fun hc1 => ?_) (fun hc1 => ?_)
  · refine ca_ (fun R' q1 q2 => put_c t lim X r hc mc k (el hc ((k - 1) / 2)) (by omega) (by omega) R') fun _ _ => ?_
    refine ba_ ((k - 1) / 2, hc.set k.toNat (el hc ((k - 1) / 2)), mset mc (el hc ((k - 1) / 2)).id k) (up_step h0 hk hl hA hP hpm hc1.1 hc1.2) (by simp only; omega)
  · refine ca_ (fun R' q1 q2 => put_c t lim X r hc mc k (el h i) (by omega) (by omega) R') fun _ _ => ?_
    obtain ⟨n, rfl⟩ : ∃ n : Nat, k = (n : Int) := ⟨k.toNat, by omega⟩
    simp only [Int.toNat_natCast, el_gt] at *
    refine rn_ (hc.set n (gt h i), mset mc (gt h i).id n, n) ⟨heap_upstop hA (by omega) fun h3 => ?_, ?_, hpm, by simp; omega, gt_set_eq (by omega)⟩
    · have e : ((n : Int) - 1) / 2 = ((par n : Nat) : Int) := by unfold par; omega
      rw [e, el_gt] at hc1
      intro h4
      rcases hc1 with h5 | h5
      · omega
      · exact h5 h4
    · have h3 := hP.fin (by simp; omega)
      rwa [gt_set_eq (by omega)] at h3
theorem ahead_irr {a : Qtimer_one} : ¬ ahead a a := fun e => ahead_ord.as e e
theorem minA {hc : List Qtimer_one} {k : Int} (h0 : 0 ≤ k) (ha : ahead (el hc (2 * k + 1 + 1)) (el hc (2 * k + 1))) : ∀ j : Nat, 1 ≤ j → j < hc.length → par j = k.toNat → ¬ ahead (gt hc j) (el hc (2 * k + 1 + 1)) := by
  intro j h1 h2 h3
  have h4 : (j : Int) = 2 * k + 1 ∨ (j : Int) = 2 * k + 1 + 1 := by unfold par at h3; omega
  rw [← el_gt]
  rcases h4 with h4 | h4 <;> rw [h4]
  · exact ahead_ord.as ha
  · exact ahead_irr
theorem minB {hc : List Qtimer_one} {k : Int} (h0 : 0 ≤ k) (hb : (hc.length : Int) ≤ 2 * k + 1 + 1 ∨ ¬ ahead (el hc (2 * k + 1 + 1)) (el hc (2 * k + 1))) : ∀ j : Nat, 1 ≤ j → j < hc.length → par j = k.toNat → ¬ ahead (gt hc j) (el hc (2 * k + 1)) := by
  intro j h1 h2 h3
  have h4 : (j : Int) = 2 * k + 1 ∨ (j : Int) = 2 * k + 1 + 1 := by unfold par at h3; omega
  rw [← el_gt]
  rcases h4 with h4 | h4 <;> rw [h4]
  · exact ahead_irr
  · rcases hb with hb | hb
    · omega
    · exact hb
theorem down_step {x : Qtimer_one} {h hc : List Qtimer_one} {mc : List (Int × Int)} {k c : Int} (h0 : 0 ≤ k) (hk : k < hc.length) (hl : hc.length = h.length) (hcc : c = 2 * k + 1 ∨ c = 2 * k + 1 + 1) (hcl : c < hc.length) (hA : HeapUp ahead (hc.set k.toNat x) k.toNat) (hP : PlX (hc.set k.toNat x) mc k.toNat) (hpm : (hc.set k.toNat x).Perm h) (ha : ahead (el hc c) x)
    (hf : ∀ j : Nat, 1 ≤ j → j < hc.length → par j = k.toNat → ¬ ahead (gt hc j) (el hc c)) :
    0 ≤ c ∧ c < (hc.set k.toNat (el hc c)).length ∧ (hc.set k.toNat (el hc c)).length = h.length ∧ HeapUp ahead ((hc.set k.toNat (el hc c)).set c.toNat x) c.toNat ∧ PlX ((hc.set k.toNat (el hc c)).set c.toNat x) (mset mc (el hc c).id k) c.toNat ∧ ((hc.set k.toNat (el hc c)).set c.toNat x).Perm h := by
  obtain ⟨n, rfl⟩ : ∃ n : Nat, k = (n : Int) := ⟨k.toNat, by omega⟩
  obtain ⟨p, rfl⟩ : ∃ p : Nat, c = (p : Int) := ⟨c.toNat, by omega⟩
  simp only [Int.toNat_natCast, el_gt] at *
  have hn : n < hc.length := by omega
  have hs := swp_set (x := x) hn (show n ≠ p by omega)
  refine ⟨by omega, by simp; omega, by simpa using hl, heap_down ahead_ord (by omega) (by omega) (by unfold par; omega) hA ha hf, ?_, ?_⟩
  · have h3 := hP.step (p := p) (by simpa using hn) (by simp; omega) (by omega)
    rw [hs, gt_set_ne (by omega)] at h3
    exact h3
  · rw [← hs]
    exact (swp_perm (by simpa using hn) (by simp; omega) (by omega)).trans hpm
theorem down_end {x : Qtimer_one} {hc : List Qtimer_one} {mc : List (Int × Int)} {k : Int} (h0 : 0 ≤ k) (hk : k < hc.length) (hA : HeapUp ahead (hc.set k.toNat x) k.toNat) (hP : PlX (hc.set k.toNat x) mc k.toNat) (hf : ∀ j : Nat, 1 ≤ j → j < hc.length → par j = k.toNat → ¬ ahead (gt hc j) x) : Heap ahead (hc.set k.toNat x) ∧ Pl (hc.set k.toNat x) (mset mc x.id k) := by
  obtain ⟨n, rfl⟩ : ∃ n : Nat, k = (n : Int) := ⟨k.toNat, by omega⟩
  simp only [Int.toNat_natCast] at *
  refine ⟨heap_downstop hA (by omega) hf, ?_⟩
  have h3 := hP.fin (by simp; omega)
  rwa [gt_set_eq (by omega)] at h3
theorem down_c (t : Addr) (lim : Int) (X : SH) (r : Nat) (h : List Qtimer_one) (m : List (Int × Int)) (i : Nat) (hn : h.length ≤ 65536) (h1 : i < h.length) (hh0 : HeapUp ahead h i) (hp : Pl h m) (R : Hh) : Ctr (τ := List Qtimer_one × List (Int × Int)) Tryz.prog 145 [.pointer (some (padd t 0)), .int .i64 (i : Int)] R [Bx t 157 (ctimer_Timers ⟨lim, X, some r⟩), Sv 2 224 X.v (h.map ctimer_one), Mp r (vInt .i64) (vInt .i64) m] (fun x => Heap ahead x.1 ∧ Pl x.1 x.2 ∧ x.1.Perm h) (fun _ => .tuple #[]) (fun x => [Bx t 157 (ctimer_Timers ⟨lim, X, some r⟩), Sv 2 224 X.v (x.1.map ctimer_one), Mp r (vInt .i64) (vInt .i64) x.2]) := by
  refine in_ Tryz.func145 fun w0 => ?_
  refine ax_ fun b => ?_
  refine lo_ (fun z : Int × List Qtimer_one × List (Int × Int) => [(1, .int .i64 z.1)]) (fun z => [Sv 2 224 X.v (z.2.1.map ctimer_one), Mp r (vInt .i64) (vInt .i64) z.2.2]) (fun z => 0 ≤ z.1 ∧ z.1 < z.2.1.length ∧ z.2.1.length = h.length ∧ HeapUp ahead (z.2.1.set z.1.toNat (el h i)) z.1.toNat ∧ PlX (z.2.1.set z.1.toNat (el h i)) z.2.2 z.1.toNat ∧ (z.2.1.set z.1.toNat (el h i)).Perm h) (fun z => z.2.1.length - z.1.toNat) (i, h, m) ?_ fun ⟨k, hc, mc⟩ hz => ?_
  · simp only [Int.toNat_natCast, el_gt, set_self h1]
    exact ⟨by omega, by omega, trivial, hh0, hp.any, .refl _⟩
  dsimp only at hz
  obtain ⟨h0, hk, hl, hA, hP, hpm⟩ := hz
  dsimp only
  refine if_ (fun c1 => ?_) (fun c1 => ?_)
  · refine if_ (fun c2 => ?_) (fun c2 => ?_)
    · refine if_ (fun c3 => ?_) (fun c3 => ?_)
      · refine ca_ (fun R' q1 q2 => put_c t lim X r hc mc k (el h i) (by omega) (by omega) R') fun _ _ => ?_
        have e := down_end h0 hk hA hP fun j j1 j2 j3 => ahead_ord.tr (minA h0 c2.2 j j1 j2 j3) c3
        exact rn_ (hc.set k.toNat (el h i), mset mc (el h i).id k) ⟨e.1, e.2, hpm⟩
      · refine ca_ (fun R' q1 q2 => put_c t lim X r hc mc k (el hc (2 * k + 1 + 1)) (by omega) (by omega) R') fun _ _ => ?_
        exact ba_ (2 * k + 1 + 1, hc.set k.toNat (el hc (2 * k + 1 + 1)), mset mc (el hc (2 * k + 1 + 1)).id k) (down_step h0 hk hl (by omega) (by omega) hA hP hpm c3 (minA h0 c2.2)) (by simp only [List.length_set]; omega)
    · refine if_ (fun c3 => ?_) (fun c3 => ?_)
      · refine ca_ (fun R' q1 q2 => put_c t lim X r hc mc k (el h i) (by omega) (by omega) R') fun _ _ => ?_
        have e := down_end h0 hk hA hP fun j j1 j2 j3 => ahead_ord.tr (minB h0 c2 j j1 j2 j3) c3
        exact rn_ (hc.set k.toNat (el h i), mset mc (el h i).id k) ⟨e.1, e.2, hpm⟩
      · refine ca_ (fun R' q1 q2 => put_c t lim X r hc mc k (el hc (2 * k + 1)) (by omega) (by omega) R') fun _ _ => ?_
        exact ba_ (2 * k + 1, hc.set k.toNat (el hc (2 * k + 1)), mset mc (el hc (2 * k + 1)).id k) (down_step h0 hk hl (by omega) (by omega) hA hP hpm c3 (minB h0 c2)) (by simp only [List.length_set]; omega)
  · refine ca_ (fun R' q1 q2 => put_c t lim X r hc mc k (el h i) (by omega) (by omega) R') fun _ _ => ?_
    have e := down_end h0 hk hA hP fun j j1 j2 j3 => by unfold par at j3; omega
    exact rn_ (hc.set k.toNat (el h i), mset mc (el h i).id k) ⟨e.1, e.2, hpm⟩
end Go.Proofs.YtdallmabajeajaaGreatDoor.Fw
