/-
  The walker's own words, eighth part: numbers of a fixed width; calls that leave the heap alone. By the session; nothing here is trusted.
-/
import Derived.Test.YtnbpodjbemfpbaaGreatFw7
import Derived.OrdersHeld
set_option linter.unusedVariables false
set_option linter.all false
namespace Go.Proofs.YtnbpodjbemfpbaaGreat.Fw
open Go
/-! ### 17. Numbers of a fixed width -/
structure Fx (k : IntKind) where
  v : Int
  h : k.wrap v = v
theorem Fx.ext {k : IntKind} {x y : Fx k} (h : x.v = y.v) : x = y := by
  cases x; cases y; simp_all
instance (k : IntKind) : DecidableEq (Fx k) := fun x y =>
  if h : x.v = y.v then .isTrue (Fx.ext h) else .isFalse fun e => h (by rw [e])
theorem wrap_i64 {n : Int} (h1 : -9223372036854775808 ≤ n) (h2 : n ≤ 9223372036854775807) : IntKind.i64.wrap n = n := by
  simp only [IntKind.wrap, IntKind.bits, IntKind.signed]; simp; omega
theorem wrap_u32 {n : Int} (h1 : 0 ≤ n) (h2 : n ≤ 4294967295) : IntKind.u32.wrap n = n := by
  simp only [IntKind.wrap, IntKind.bits, IntKind.signed]; simp; omega
theorem wrap_u64 {n : Int} (h1 : 0 ≤ n) (h2 : n ≤ 18446744073709551615) : IntKind.u64.wrap n = n := by
  simp only [IntKind.wrap, IntKind.bits, IntKind.signed]; simp; omega
theorem Fx.i64 (x : Fx .i64) : -9223372036854775808 ≤ x.v ∧ x.v ≤ 9223372036854775807 := by
  have := x.h
  simp only [IntKind.wrap, IntKind.bits, IntKind.signed] at this
  simp at this
  omega
theorem Fx.u32 (x : Fx .u32) : 0 ≤ x.v ∧ x.v ≤ 4294967295 := by
  have := x.h
  simp only [IntKind.wrap, IntKind.bits, IntKind.signed] at this
  simp at this
  omega
theorem Fx.u8 (x : Fx .u8) : 0 ≤ x.v ∧ x.v ≤ 255 := by
  have := x.h
  simp only [IntKind.wrap, IntKind.bits, IntKind.signed] at this
  simp at this
  omega
theorem Fx.u64 (x : Fx .u64) : 0 ≤ x.v ∧ x.v ≤ 18446744073709551615 := by
  have := x.h
  simp only [IntKind.wrap, IntKind.bits, IntKind.signed] at this
  simp at this
  omega
/-! ### 18. Calls that leave the heap as it was -/
def Pure (P : Program) (f : FuncId) (args : List Value) (ret : Value) (w : World) : Prop := Calls P f ⟨args⟩ w fun e w' => e = .returned ret ∧ Hp w (hh w) [] w'
section
variable {P : Program} {ops : Array Oper} {Q : Exit → Act → World → Prop} {rest : List Oper} {n : Nat} {L : List (Nat × Value)} {a : Act} {w w0 : World} {R : Hh} {Ps Qs : List HP}
theorem r_callP {d : Nat} {c : Operand} {xs : List Operand} {tys : Array TypeId} {ty : TypeId} {pos : String} {aft : Array Edge} {f : FuncId} {first cap vs us : List Value} {v : Value}
    (hs : St n L a) (m : Hp w0 R Ps w) (hc : ev L c = some (.func (.func f) ⟨first⟩ ⟨cap⟩)) (hx : evs L xs = some vs) (hf : callable P f = true) (hu : first ++ vs ++ cap = us) (h : Pure P f us v w) (hd : Nat.blt d n = true)
    (k : ∀ w', Hp w0 R Ps w' → ∀ a', St n ((d, v) :: L) a' → wpList P ops Q rest a' w') : wpList P ops Q (⟨some d, .call ⟨.value c, ⟨xs⟩, tys⟩, ty, pos, aft, none⟩ :: rest) a w :=
  r_call (Rc := fun u w' => u = v ∧ Hp w (hh w) [] w') hs hc hx hf hu (h.mono fun e w' ⟨he, hm⟩ => ⟨v, he, rfl, hm⟩) hd (fun u w' ⟨hu, hm⟩ => by subst hu; exact k w' (m.after hm))
end
section
variable {P : Program} {ops : Array Oper} {Q : Act → Prop} {rest : List Oper} {n : Nat} {L : List (Nat × Value)} {a : Act} {w0 : World} {R : Hh} {Ps Qs : List HP}
theorem q_callP {d : Nat} {c : Operand} {xs : List Operand} {tys : Array TypeId} {ty : TypeId} {pos : String} {aft : Array Edge} {f : FuncId} {first cap vs us : List Value} {v : Value}
    (hs : St n L a) (hc : ev L c = some (.func (.func f) ⟨first⟩ ⟨cap⟩)) (hx : evs L xs = some vs) (hf : callable P f = true) (hu : first ++ vs ++ cap = us) (h : ∀ w, Hp w0 R Ps w → Pure P f us v w) (hd : Nat.blt d n = true)
    (k : ∀ a', St n ((d, v) :: L) a' → wpQuiet P ops (Hp w0 R Ps) Q rest a') : wpQuiet P ops (Hp w0 R Ps) Q (⟨some d, .call ⟨.value c, ⟨xs⟩, tys⟩, ty, pos, aft, none⟩ :: rest) a :=
  q_call hs hc hx hf hu (fun w m => (h w m).mono fun e w' ⟨he, hm⟩ => ⟨he, m.after hm⟩) hd k
end
theorem eq_of_bne_false {α : Type} [BEq α] [LawfulBEq α] {a b : α} (h : (a != b) = false) : a = b := by simpa using h
theorem ne_of_bne {α : Type} [BEq α] [LawfulBEq α] {a b : α} (h : (a != b) = true) : a ≠ b := by simpa using h
theorem get_of_lt {α : Type} {l : List α} {i : Nat} (h : i < l.length) : ∃ x, l[i]? = some x := ⟨l[i], List.getElem?_eq_getElem h⟩
theorem get_map {α β : Type} (f : α → β) {l : List α} {i : Nat} {x : α} (h : l[i]? = some x) : (l.map f)[i]? = some (f x) := by simp [h]
/-! ### 18b. Slices of typed elements -/
def cI {k : IntKind} (x : Fx k) : List Value := [.int k x.v]
structure SH where
  a : Option Addr
  n : Nat
  c : Nat
def SH.v (x : SH) : Value := .slice x.a x.n x.c
def nilH : SH := ⟨none, 0, 0⟩
def subH (k : Nat) (x : SH) (lo hi : Nat) : SH := ⟨if x.c = lo then x.a else x.a.map (·.add (lo * k)), hi - lo, x.c - lo⟩
theorem subH_v (k : Nat) (x : SH) (lo hi : Nat) : (subH k x lo hi).v = subS k x.v lo hi := rfl
theorem Sv.sh {k : Nat} {E : TypeId} {v : Value} {ds : List (List Value)} {h : Hh} (s : Sv k E v ds h) : ∃ x : SH, v = x.v := by
  obtain ⟨base, cap, rfl, _⟩ := s.shape
  exact ⟨⟨base, _, cap⟩, rfl⟩
theorem Hp.sh {w0 w : World} {R : Hh} {Ps : List HP} {k : Nat} {E : TypeId} {v : Value} {ds : List (List Value)} (m : Hp w0 R (Sv k E v ds :: Ps) w) : ∃ x : SH, v = x.v := by
  obtain ⟨g, hg, _⟩ := m.look r0
  exact hg.sh
theorem Hp.nilSvM {α : Type} (c : α → List Value) {w0 w : World} {R : Hh} {Ps : List HP} (m : Hp w0 R Ps w) (k : Nat) (E : TypeId) : Hp w0 R (Sv k E nilH.v (([] : List α).map c) :: Ps) w := m.nilSv k E
theorem RdS.len {h : Hh} {k : Nat} {x : SH} {ds : List (List Value)} (r : RdS h k x.v ds) : x.n = ds.length := by
  obtain ⟨_, _, a, c, e, _⟩ := r
  simp only [SH.v, Value.slice.injEq] at e
  exact e.2.1
section
variable {P : Program} {ops : Array Oper} {Q : Exit → Act → World → Prop} {rest : List Oper} {n : Nat} {L : List (Nat × Value)} {a : Act} {w w0 : World} {R : Hh} {Ps Qs : List HP}
  {d : Nat} {ty : TypeId} {pos : String} {aft : Array Edge}
theorem r_appendM {α : Type} {c : α → List Value} {xs ys : List α} {T T2 E : TypeId} {ag : Bool} {k bytes : Nat} {x y : Operand} {v u : Value} {zs : List Value} (hs : St n L a) (m : Hp w0 R Ps w) (hx : ev L x = some v) (hy : ev L y = some u)
    (hT : slI P T = some E) (hT2 : notInt P T2 = true) (hE : tyI P E = some (ag, k)) (hz : zeI P E = some zs) (hzl : zs.length = k) (hb : byI P E = some bytes) (hbb : Nat.ble bytes 4096 = true)
    (hP : Rem Ps (Sv k E v (xs.map c)) Qs) (hu : RdS (hh w) k u (ys.map c)) (ho : ∀ z, ones (c z) = true) (hlen : xs.length + ys.length ≤ 140737488355328 ∧ (2 * (xs.length + ys.length) + 192) * bytes ≤ 281474976710656) (hd : Nat.blt d n = true)
    (kk : ∀ (v' : SH) w', Hp w0 R (Sv k E v'.v ((xs ++ ys).map c) :: Qs) w' → ∀ a', St n ((d, v'.v) :: L) a' → wpList P ops Q rest a' w') :
    wpList P ops Q (⟨some d, .call ⟨.builtin .append, #[x, y], #[T, T2]⟩, ty, pos, aft, none⟩ :: rest) a w :=
  r_append hs m hx hy hT hT2 hE hz hzl hb hbb hP hu (by intro e he; obtain ⟨z, _, rfl⟩ := List.mem_map.1 he; exact ho z) (by simpa using hlen) hd (fun v' w' m' => by
    obtain ⟨x, rfl⟩ := m'.sh
    exact kk x w' (by rw [List.map_append]; exact m'))
theorem r_buildM {α : Type} {c : α → List Value} {ys : List α} {T E : TypeId} {ag : Bool} {k len : Nat} {ps : List (Nat × Operand)} {vs : List (Nat × Value)} {zs : List Value} (hs : St n L a) (m : Hp w0 R Ps w) (hT : slI P T = some E) (hE : tyI P E = some (ag, k)) (hz : zeI P E = some zs) (hzl : zs.length = k)
    (hx : partsOf L ps = some vs) (hf : fromI 0 vs = true) (hl : vs.length = len) (hd' : vs.map (fun x => x.2.cells.toList) = ys.map c) (hk : ∀ z, (c z).length = k) (hsz : Nat.ble (len * k) 16777216 = true) (hsl : Nat.ble len 16777216 = true) (hd : Nat.blt d n = true)
    (kk : ∀ (v' : SH) w', Hp w0 R (Sv k E v'.v (ys.map c) :: Ps) w' → ∀ a', St n ((d, v'.v) :: L) a' → wpList P ops Q rest a' w') :
    wpList P ops Q (⟨some d, .buildSlice T len ⟨ps⟩, ty, pos, aft, none⟩ :: rest) a w :=
  r_buildSlice hs m hT hE hz hzl hx hf hl hd' (by intro e he; obtain ⟨z, _, rfl⟩ := List.mem_map.1 he; exact hk z) hsz hsl hd (fun v' w' m' => by
    obtain ⟨x, rfl⟩ := m'.sh
    exact kk x w' m')
end
section
variable {P : Program} {n : Nat} {L : List (Nat × Value)} {a : Act} {w w0 : World} {R : Hh} {Ps Qs : List HP} {G : Prop}
theorem elF {α : Type} {c : α → List Value} {T E : TypeId} {ag : Bool} {k : Nat} {x ix : Operand} {v : Value} {K : IntKind} {i : Int} {xs : List α} {e : α} (hs : St n L a) (m : Hp w0 R Ps w) (hx : ev L x = some v) (hi : ev L ix = some (.int K i)) (hT : slI P T = some E) (hE : tyI P E = some (ag, k))
    (hr : RdS R k v (xs.map c)) (h0 : 0 ≤ i) (he : xs[i.toNat]? = some e)
    (kk : ∀ p, CellsAt R p (c e) → (∀ d ty pos aft g, Ok P (Hp w0 R Ps) L ⟨d, .indexAddr T x ix, ty, pos, aft, g⟩ (.pointer (some (padd p 0)))) → G) : G := by
  obtain ⟨p, h1, h2⟩ := ok_elemF (P := P) (w0 := w0) (R := R) (Ps := Ps) (L := L) (d := none) (ty := 0) (pos := "") (aft := #[]) (g := none) hx hi hT hE hr h0 (get_map c he)
  exact kk p h1 fun d ty pos aft g => h2
theorem elO {α : Type} {c : α → List Value} {T E : TypeId} {ag : Bool} {k : Nat} {x ix : Operand} {v : Value} {K : IntKind} {i : Int} {xs : List α} {e : α} (hs : St n L a) (m : Hp w0 R Ps w) (hx : ev L x = some v) (hi : ev L ix = some (.int K i)) (hT : slI P T = some E) (hE : tyI P E = some (ag, k))
    (hr : Rem Ps (Sv k E v (xs.map c)) Qs) (h0 : 0 ≤ i) (he : xs[i.toNat]? = some e)
    (kk : ∀ p, Elem k v i.toNat p → (∀ d ty pos aft g, Ok P (Hp w0 R Ps) L ⟨d, .indexAddr T x ix, ty, pos, aft, g⟩ (.pointer (some (padd p 0)))) → G) : G := by
  obtain ⟨p, h1, _, h2⟩ := ok_elem (P := P) (C := Hp w0 R Ps) (L := L) (d := none) (ty := 0) (pos := "") (aft := #[]) (g := none) m hx hi hT hE (rc_own hr) h0 (get_map c he)
  exact kk p h1 fun d ty pos aft g => h2
end
/-! ### 18c. Regions that draw their order and make or write memory -/
def NP (Q : Exit → Act → World → Prop) : Exit → Act → World → Prop
  | .panic _, _, _ => False
  | e, a, w => Q e a w
section
variable {P : Program} {ops : Array Oper} {Q : Exit → Act → World → Prop} {n : Nat} {L : List (Nat × Value)} {a : Act} {w w0 : World} {R : Hh} {Ps Qs : List HP} {S : World → Prop} {y : Code}
theorem c_drawH (S : World → Prop) {id : Nat} {l : List Oper} (m : Hp w0 R Ps w) (hm : P.follows .mixedOrders = true)
    (h : ∀ w', Hp w0 R Ps w' → wpAnyH P .any l.toArray (NP (Exit.then (y.wp P Q) Q)) S l.length (Array.replicate l.length false) a w') : (Code.seq (.region id l.toArray true) y).wp P Q a w := by
  refine wp_seq (Code.wp_mono (Q := NP (Exit.then (y.wp P Q) Q)) (fun e a w q => by cases e <;> first | exact q | exact q.elim) ?_)
  refine wp_region_any hm (wpAny_of_held (S := S) _ _ _ _ ?_)
  have := h _ (m.drawn (w.drawn + 1))
  simpa using this
theorem h_ok {i fuel d : Nat} {listed : Array Bool} {op : Op} {ty : TypeId} {pos : String} {aft : Array Edge} {v : Value} (hi : ops[i]? = some ⟨some d, op, ty, pos, aft, none⟩) (hn : Region.noSelect ops = true) (hf : Region.free .any ops listed i = true) (hr : (Region.ready .any ops listed).contains i = true)
    (hs : St n L a) (hS : S w) (h : Ok P S L ⟨some d, op, ty, pos, aft, none⟩ v) (hd : Nat.blt d n = true)
    (k : ∀ a', St n ((d, v) :: L) a' → wpAnyH P .any ops (NP Q) S fuel (listed.setIfInBounds i true) a' w) : wpAnyH P .any ops (NP Q) S (fuel + 1) listed a w :=
  wpAnyH_take (v := v) hi hn hf hr (fun c a w q => q.elim) (.inl ⟨by simp [Region.wanted], fun w' hw' => h _ hs.evs w' hw'⟩) hS (k _ (hs.put hd))
theorem h_eff {i fuel : Nat} {listed : Array Bool} {o : Oper} (hr : Region.ready .any ops listed = [i]) (hi : ops[i]? = some o)
    (h : wpList P ops (Exit.then (fun a' w' => S w' ∧ wpAnyH P .any ops (NP Q) S fuel (listed.setIfInBounds i true) a' w') (NP Q)) [o] a w) : wpAnyH P .any ops (NP Q) S (fuel + 1) listed a w := by
  refine wpAnyH_all hr (by simp) fun j hj => ?_
  simp only [List.mem_singleton] at hj
  subst hj
  unfold wpOp
  simp only [hi]
  unfold wpList at h
  by_cases hw : Region.wanted o (yielded ops a.tmps) = true
  · rw [if_pos hw] at h ⊢
    rcases h with h | h
    · refine .inl ?_
      unfold Oper.wp Oper.upon at h ⊢
      exact h
    · exact .inr h
  · rw [if_neg hw] at h ⊢
    exact h
theorem h_done {fuel : Nat} {listed : Array Bool} (hr : Region.ready .any ops listed = []) (h : Q .normal a w) : wpAnyH P .any ops (NP Q) S fuel listed a w := by
  cases fuel with
  | zero => exact ⟨hr, h⟩
  | succ f => exact ⟨fun _ => h, by rw [hr]; simp⟩
end
/-! ### 19. Guarded operations; a cut in a list of operations -/
inductive Spl {α : Type} : List α → List α → List α → Prop
  | n {l : List α} : Spl [] l l
  | c {x : α} {l1 l2 l : List α} : Spl l1 l2 l → Spl (x :: l1) l2 (x :: l)
theorem Spl.eq {α : Type} {l1 l2 l : List α} (h : Spl l1 l2 l) : l = l1 ++ l2 := by
  induction h with
  | n => rfl
  | c _ ih => rw [ih]; rfl
section
variable {P : Program} {ops : Array Oper} {Q : Exit → Act → World → Prop} {rest : List Oper} {n : Nat} {L : List (Nat × Value)} {a : Act} {w w0 : World} {C : World → Prop}
theorem wpList_cut (M : Act → World → Prop) : ∀ (l1 l2 : List Oper) (a : Act) (w : World), wpList P ops (Exit.then M Q) l1 a w → (∀ a w, M a w → wpList P ops Q l2 a w) → wpList P ops Q (l1 ++ l2) a w
  | [], l2, a, w, h, k => k a w h
  | o :: l1, l2, a, w, h, k => by
    simp only [List.cons_append]
    unfold wpList at h ⊢
    have hmono : ∀ a w, wpList P ops (Exit.then M Q) l1 a w → wpList P ops Q (l1 ++ l2) a w := fun a w h => wpList_cut M l1 l2 a w h k
    by_cases hw : Region.wanted o (yielded ops a.tmps) = true
    · rw [if_pos hw] at h ⊢
      rcases h with h | ⟨h1, h2⟩
      · refine .inl ?_
        have h3 : o.wp P a w (wpList P ops (Exit.then M Q) l1) Q := by
          unfold Oper.wp Oper.upon at h ⊢
          exact h
        exact Oper.wp_mono hmono h3
      · exact .inr ⟨h1, h2⟩
    · rw [if_neg hw] at h ⊢
      exact hmono _ _ h
theorem l_cut {l1 l2 l : List Oper} (hp : Spl l1 l2 l) (M : Act → World → Prop) (h : wpList P ops (Exit.then M Q) l1 a w) (k : ∀ a w, M a w → wpList P ops Q l2 a w) : wpList P ops Q l a w := by
  rw [hp.eq]; exact wpList_cut M l1 l2 a w h k
theorem g_out {d : Nat} {op : Op} {ty : TypeId} {pos : String} {aft : Array Edge} {j : Nat} {want b : Bool} {t : Nat} (hs : St n L a) (hj : (ops[j]?).bind (·.dst) = some t) (ht : lk L t = some (.bool b)) (hb : b = !want) (hd : Nat.blt d n = true)
    (k : ∀ a', St n ((d, undef) :: L) a' → wpList P ops Q rest a' w) : wpList P ops Q (⟨some d, op, ty, pos, aft, some (j, want)⟩ :: rest) a w := by
  refine wpList_step fun K hK => ?_
  have hy : Region.wanted ⟨some d, op, ty, pos, aft, some (j, want)⟩ (yielded ops a.tmps) = false := by
    simp only [Region.wanted, yielded, hj, Option.bind_some, hs.at_ t _ ht, hb]
    cases want <;> simp
  rw [if_neg (by rw [hy]; simp)]
  exact hK _ _ (k _ (hs.put hd))
theorem g_outU {d : Nat} {op : Op} {ty : TypeId} {pos : String} {aft : Array Edge} {j : Nat} {want : Bool} {t : Nat} (hs : St n L a) (hj : (ops[j]?).bind (·.dst) = some t) (ht : lk L t = some undef) (hd : Nat.blt d n = true)
    (k : ∀ a', St n ((d, undef) :: L) a' → wpList P ops Q rest a' w) : wpList P ops Q (⟨some d, op, ty, pos, aft, some (j, want)⟩ :: rest) a w := by
  refine wpList_step fun K hK => ?_
  have hy : Region.wanted ⟨some d, op, ty, pos, aft, some (j, want)⟩ (yielded ops a.tmps) = false := by
    simp [Region.wanted, yielded, hj, Option.bind_some, hs.at_ t _ ht, undef]
  rw [if_neg (by rw [hy]; simp)]
  exact hK _ _ (k _ (hs.put hd))
theorem r_okg {d : Nat} {op : Op} {ty : TypeId} {pos : String} {aft : Array Edge} {v : Value} {j : Nat} {want b : Bool} {t : Nat} (hs : St n L a) (hj : (ops[j]?).bind (·.dst) = some t) (ht : lk L t = some (.bool b)) (hb : b = want) (m : C w)
    (h : Ok P C L ⟨some d, op, ty, pos, aft, some (j, want)⟩ v) (hd : Nat.blt d n = true)
    (k : ∀ a', St n ((d, v) :: L) a' → wpList P ops Q rest a' w) : wpList P ops Q (⟨some d, op, ty, pos, aft, some (j, want)⟩ :: rest) a w := by
  refine wpList_step fun K hK => ?_
  have hy : Region.wanted ⟨some d, op, ty, pos, aft, some (j, want)⟩ (yielded ops a.tmps) = true := by
    simp only [Region.wanted, yielded, hj, Option.bind_some, hs.at_ t _ ht, hb]
    simp
  rw [if_pos hy]
  unfold Oper.wp
  rw [h _ hs.evs w m]
  exact hK _ _ (k _ (hs.put hd))
theorem r_callPg {w0 : World} {R : Hh} {Ps : List HP} {d : Nat} {c : Operand} {xs : List Operand} {tys : Array TypeId} {ty : TypeId} {pos : String} {aft : Array Edge} {f : FuncId} {first cap vs us : List Value} {v : Value} {j : Nat} {want b : Bool} {t : Nat}
    (hs : St n L a) (hj : (ops[j]?).bind (·.dst) = some t) (ht : lk L t = some (.bool b)) (hb : b = want) (m : Hp w0 R Ps w) (hc : ev L c = some (.func (.func f) ⟨first⟩ ⟨cap⟩)) (hx : evs L xs = some vs) (hf : callable P f = true) (hu : first ++ vs ++ cap = us) (h : Pure P f us v w) (hd : Nat.blt d n = true)
    (k : ∀ w', Hp w0 R Ps w' → ∀ a', St n ((d, v) :: L) a' → wpList P ops Q rest a' w') : wpList P ops Q (⟨some d, .call ⟨.value c, ⟨xs⟩, tys⟩, ty, pos, aft, some (j, want)⟩ :: rest) a w := by
  refine wpList_step fun K hK => ?_
  have hy : Region.wanted ⟨some d, .call ⟨.value c, ⟨xs⟩, tys⟩, ty, pos, aft, some (j, want)⟩ (yielded ops a.tmps) = true := by
    simp only [Region.wanted, yielded, hj, Option.bind_some, hs.at_ t _ ht, hb]
    simp
  rw [if_pos hy]
  unfold Oper.wp
  subst hu
  rw [run_call hs.evs hc hx hf w]
  simp only [Oper.upon]
  refine Calls.mono h fun e w' ⟨he, hm⟩ => ?_
  subst he
  exact hK _ _ (k w' (m.after hm) _ (hs.put hd))
end
section
variable {P : Program} {ops : Array Oper} {Q : Act → Prop} {rest : List Oper} {n : Nat} {L : List (Nat × Value)} {a : Act} {C : World → Prop}
theorem wpQuiet_cut (M : Act → Prop) : ∀ (l1 l2 : List Oper) (a : Act), wpQuiet P ops C M l1 a → (∀ a, M a → wpQuiet P ops C Q l2 a) → wpQuiet P ops C Q (l1 ++ l2) a
  | [], l2, a, h, k => k a h
  | o :: l1, l2, a, h, k => by
    simp only [List.cons_append]
    unfold wpQuiet at h ⊢
    have hmono : ∀ a, wpQuiet P ops C M l1 a → wpQuiet P ops C Q (l1 ++ l2) a := fun a h => wpQuiet_cut M l1 l2 a h k
    by_cases hw : Region.wanted o (yielded ops a.tmps) = true
    · rw [if_pos hw] at h ⊢
      exact Oper.quiet_mono hmono h
    · rw [if_neg hw] at h ⊢
      exact hmono _ h
theorem q_cut {l1 l2 l : List Oper} (hp : Spl l1 l2 l) (M : Act → Prop) (h : wpQuiet P ops C M l1 a) (k : ∀ a, M a → wpQuiet P ops C Q l2 a) : wpQuiet P ops C Q l a := by
  rw [hp.eq]; exact wpQuiet_cut M l1 l2 a h k
theorem q_out {d : Nat} {op : Op} {ty : TypeId} {pos : String} {aft : Array Edge} {j : Nat} {want b : Bool} {t : Nat} (hs : St n L a) (hj : (ops[j]?).bind (·.dst) = some t) (ht : lk L t = some (.bool b)) (hb : b = !want) (hd : Nat.blt d n = true)
    (k : ∀ a', St n ((d, undef) :: L) a' → wpQuiet P ops C Q rest a') : wpQuiet P ops C Q (⟨some d, op, ty, pos, aft, some (j, want)⟩ :: rest) a := by
  refine wpQuiet_step fun K hK => ?_
  have hy : Region.wanted ⟨some d, op, ty, pos, aft, some (j, want)⟩ (yielded ops a.tmps) = false := by
    simp only [Region.wanted, yielded, hj, Option.bind_some, hs.at_ t _ ht, hb]
    cases want <;> simp
  rw [if_neg (by rw [hy]; simp)]
  exact hK _ (k _ (hs.put hd))
theorem q_outU {d : Nat} {op : Op} {ty : TypeId} {pos : String} {aft : Array Edge} {j : Nat} {want : Bool} {t : Nat} (hs : St n L a) (hj : (ops[j]?).bind (·.dst) = some t) (ht : lk L t = some undef) (hd : Nat.blt d n = true)
    (k : ∀ a', St n ((d, undef) :: L) a' → wpQuiet P ops C Q rest a') : wpQuiet P ops C Q (⟨some d, op, ty, pos, aft, some (j, want)⟩ :: rest) a := by
  refine wpQuiet_step fun K hK => ?_
  have hy : Region.wanted ⟨some d, op, ty, pos, aft, some (j, want)⟩ (yielded ops a.tmps) = false := by
    simp [Region.wanted, yielded, hj, Option.bind_some, hs.at_ t _ ht, undef]
  rw [if_neg (by rw [hy]; simp)]
  exact hK _ (k _ (hs.put hd))
theorem q_okg {d : Nat} {op : Op} {ty : TypeId} {pos : String} {aft : Array Edge} {v : Value} {j : Nat} {want b : Bool} {t : Nat} (hs : St n L a) (hj : (ops[j]?).bind (·.dst) = some t) (ht : lk L t = some (.bool b)) (hb : b = want)
    (h : Ok P C L ⟨some d, op, ty, pos, aft, some (j, want)⟩ v) (hd : Nat.blt d n = true)
    (k : ∀ a', St n ((d, v) :: L) a' → wpQuiet P ops C Q rest a') : wpQuiet P ops C Q (⟨some d, op, ty, pos, aft, some (j, want)⟩ :: rest) a := by
  refine wpQuiet_step fun K hK => ?_
  have hy : Region.wanted ⟨some d, op, ty, pos, aft, some (j, want)⟩ (yielded ops a.tmps) = true := by
    simp only [Region.wanted, yielded, hj, Option.bind_some, hs.at_ t _ ht, hb]
    simp
  rw [if_pos hy]
  refine ⟨v, fun w hw => ?_, hK _ (k _ (hs.put hd))⟩
  unfold Oper.quietAt
  rw [h _ hs.evs w hw]
  exact ⟨rfl, rfl⟩
theorem q_callPg {w0 : World} {R : Hh} {Ps : List HP} {d : Nat} {c : Operand} {xs : List Operand} {tys : Array TypeId} {ty : TypeId} {pos : String} {aft : Array Edge} {f : FuncId} {first cap vs us : List Value} {v : Value} {j : Nat} {want b : Bool} {t : Nat}
    (hs : St n L a) (hj : (ops[j]?).bind (·.dst) = some t) (ht : lk L t = some (.bool b)) (hb : b = want) (hc : ev L c = some (.func (.func f) ⟨first⟩ ⟨cap⟩)) (hx : evs L xs = some vs) (hf : callable P f = true) (hu : first ++ vs ++ cap = us) (h : ∀ w, Hp w0 R Ps w → Pure P f us v w) (hd : Nat.blt d n = true)
    (k : ∀ a', St n ((d, v) :: L) a' → wpQuiet P ops (Hp w0 R Ps) Q rest a') : wpQuiet P ops (Hp w0 R Ps) Q (⟨some d, .call ⟨.value c, ⟨xs⟩, tys⟩, ty, pos, aft, some (j, want)⟩ :: rest) a := by
  refine wpQuiet_step fun K hK => ?_
  have hy : Region.wanted ⟨some d, .call ⟨.value c, ⟨xs⟩, tys⟩, ty, pos, aft, some (j, want)⟩ (yielded ops a.tmps) = true := by
    simp only [Region.wanted, yielded, hj, Option.bind_some, hs.at_ t _ ht, hb]
    simp
  rw [if_pos hy]
  subst hu
  refine ⟨v, fun w hw => ?_, hK _ (k _ (hs.put hd))⟩
  unfold Oper.quietAt
  rw [run_call hs.evs hc hx hf w]
  exact ⟨rfl, (h w hw).mono fun e w' ⟨he, hm⟩ => ⟨he, hw.after hm⟩⟩
end
end Go.Proofs.YtnbpodjbemfpbaaGreat.Fw
