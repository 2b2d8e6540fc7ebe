/-
  The walker's own words, sixteenth part: function values, slices of them, calls walked in place. By the session; nothing here is trusted.
-/
import Derived.Test.YtnbpodjbemfpbaaGreatFw15
set_option linter.all false
namespace Go.Proofs.YtnbpodjbemfpbaaGreat.Fw
open Go
section
variable {P : Program} {C : World → Prop} {L : List (Nat × Value)} {d : Option Tmp} {ty : TypeId} {pos : String} {aft : Array Edge} {g : Option (Nat × Bool)}
theorem ok_makeFunc {f : Fn} {xs ys : List Operand} {us vs : List Value} (hx : evs L xs = some us) (hy : evs L ys = some vs) : Ok P C L ⟨d, .makeFunc f ⟨xs⟩ ⟨ys⟩, ty, pos, aft, g⟩ (.func f ⟨us⟩ ⟨vs⟩) := fun ρ ha w _ => by
  have hm : ∀ (os : List Operand) (us : List Value), evs L os = some us → os.map ρ = us := by
    intro os
    induction os with
    | nil => intro us h; simpa [evs] using h
    | cons o os ih =>
      intro us h
      simp only [evs] at h
      cases h1 : ev L o with
      | none => simp [h1] at h
      | some v =>
        cases h2 : evs L os with
        | none => simp [h1, h2] at h
        | some us' =>
          simp only [h1, h2, Option.some.injEq] at h
          subst h
          simp [ha o v h1, ih us' h2]
  simp [execOp, Instr.makeFunc, hm xs us hx, hm ys vs hy, bind, Sem.run_bind', pure, Sem.run, Result.andThen]
end
section
variable {x0 x1 x2 x3 x4 x5 x6 x7 x8 x9 x10 x11 x12 x13 x14 x15 x16 x17 x18 x19 x20 x21 x22 x23 x24 x25 x26 x27 x28 x29 p q : HP} {l : List HP}
theorem s12 : Swp (x0 :: x1 :: x2 :: x3 :: x4 :: x5 :: x6 :: x7 :: x8 :: x9 :: x10 :: x11 :: p :: l) p q (x0 :: x1 :: x2 :: x3 :: x4 :: x5 :: x6 :: x7 :: x8 :: x9 :: x10 :: x11 :: q :: l) := ⟨[x0, x1, x2, x3, x4, x5, x6, x7, x8, x9, x10, x11], l, rfl, rfl⟩
theorem r12 : Rem (x0 :: x1 :: x2 :: x3 :: x4 :: x5 :: x6 :: x7 :: x8 :: x9 :: x10 :: x11 :: p :: l) p (x0 :: x1 :: x2 :: x3 :: x4 :: x5 :: x6 :: x7 :: x8 :: x9 :: x10 :: x11 :: l) := ⟨[x0, x1, x2, x3, x4, x5, x6, x7, x8, x9, x10, x11], l, rfl, rfl⟩
theorem r13 : Rem (x0 :: x1 :: x2 :: x3 :: x4 :: x5 :: x6 :: x7 :: x8 :: x9 :: x10 :: x11 :: x12 :: p :: l) p (x0 :: x1 :: x2 :: x3 :: x4 :: x5 :: x6 :: x7 :: x8 :: x9 :: x10 :: x11 :: x12 :: l) := ⟨[x0, x1, x2, x3, x4, x5, x6, x7, x8, x9, x10, x11, x12], l, rfl, rfl⟩
theorem r14 : Rem (x0 :: x1 :: x2 :: x3 :: x4 :: x5 :: x6 :: x7 :: x8 :: x9 :: x10 :: x11 :: x12 :: x13 :: p :: l) p (x0 :: x1 :: x2 :: x3 :: x4 :: x5 :: x6 :: x7 :: x8 :: x9 :: x10 :: x11 :: x12 :: x13 :: l) := ⟨[x0, x1, x2, x3, x4, x5, x6, x7, x8, x9, x10, x11, x12, x13], l, rfl, rfl⟩
theorem r15 : Rem (x0 :: x1 :: x2 :: x3 :: x4 :: x5 :: x6 :: x7 :: x8 :: x9 :: x10 :: x11 :: x12 :: x13 :: x14 :: p :: l) p (x0 :: x1 :: x2 :: x3 :: x4 :: x5 :: x6 :: x7 :: x8 :: x9 :: x10 :: x11 :: x12 :: x13 :: x14 :: l) := ⟨[x0, x1, x2, x3, x4, x5, x6, x7, x8, x9, x10, x11, x12, x13, x14], l, rfl, rfl⟩
theorem s16 : Swp (x0 :: x1 :: x2 :: x3 :: x4 :: x5 :: x6 :: x7 :: x8 :: x9 :: x10 :: x11 :: x12 :: x13 :: x14 :: x15 :: p :: l) p q (x0 :: x1 :: x2 :: x3 :: x4 :: x5 :: x6 :: x7 :: x8 :: x9 :: x10 :: x11 :: x12 :: x13 :: x14 :: x15 :: q :: l) := ⟨[x0, x1, x2, x3, x4, x5, x6, x7, x8, x9, x10, x11, x12, x13, x14, x15], l, rfl, rfl⟩
theorem r16 : Rem (x0 :: x1 :: x2 :: x3 :: x4 :: x5 :: x6 :: x7 :: x8 :: x9 :: x10 :: x11 :: x12 :: x13 :: x14 :: x15 :: p :: l) p (x0 :: x1 :: x2 :: x3 :: x4 :: x5 :: x6 :: x7 :: x8 :: x9 :: x10 :: x11 :: x12 :: x13 :: x14 :: x15 :: l) := ⟨[x0, x1, x2, x3, x4, x5, x6, x7, x8, x9, x10, x11, x12, x13, x14, x15], l, rfl, rfl⟩
theorem r17 : Rem (x0 :: x1 :: x2 :: x3 :: x4 :: x5 :: x6 :: x7 :: x8 :: x9 :: x10 :: x11 :: x12 :: x13 :: x14 :: x15 :: x16 :: p :: l) p (x0 :: x1 :: x2 :: x3 :: x4 :: x5 :: x6 :: x7 :: x8 :: x9 :: x10 :: x11 :: x12 :: x13 :: x14 :: x15 :: x16 :: l) := ⟨[x0, x1, x2, x3, x4, x5, x6, x7, x8, x9, x10, x11, x12, x13, x14, x15, x16], l, rfl, rfl⟩
theorem r18 : Rem (x0 :: x1 :: x2 :: x3 :: x4 :: x5 :: x6 :: x7 :: x8 :: x9 :: x10 :: x11 :: x12 :: x13 :: x14 :: x15 :: x16 :: x17 :: p :: l) p (x0 :: x1 :: x2 :: x3 :: x4 :: x5 :: x6 :: x7 :: x8 :: x9 :: x10 :: x11 :: x12 :: x13 :: x14 :: x15 :: x16 :: x17 :: l) := ⟨[x0, x1, x2, x3, x4, x5, x6, x7, x8, x9, x10, x11, x12, x13, x14, x15, x16, x17], l, rfl, rfl⟩
theorem r19 : Rem (x0 :: x1 :: x2 :: x3 :: x4 :: x5 :: x6 :: x7 :: x8 :: x9 :: x10 :: x11 :: x12 :: x13 :: x14 :: x15 :: x16 :: x17 :: x18 :: p :: l) p (x0 :: x1 :: x2 :: x3 :: x4 :: x5 :: x6 :: x7 :: x8 :: x9 :: x10 :: x11 :: x12 :: x13 :: x14 :: x15 :: x16 :: x17 :: x18 :: l) := ⟨[x0, x1, x2, x3, x4, x5, x6, x7, x8, x9, x10, x11, x12, x13, x14, x15, x16, x17, x18], l, rfl, rfl⟩
theorem r20 : Rem (x0 :: x1 :: x2 :: x3 :: x4 :: x5 :: x6 :: x7 :: x8 :: x9 :: x10 :: x11 :: x12 :: x13 :: x14 :: x15 :: x16 :: x17 :: x18 :: x19 :: p :: l) p (x0 :: x1 :: x2 :: x3 :: x4 :: x5 :: x6 :: x7 :: x8 :: x9 :: x10 :: x11 :: x12 :: x13 :: x14 :: x15 :: x16 :: x17 :: x18 :: x19 :: l) := ⟨[x0, x1, x2, x3, x4, x5, x6, x7, x8, x9, x10, x11, x12, x13, x14, x15, x16, x17, x18, x19], l, rfl, rfl⟩
theorem r21 : Rem (x0 :: x1 :: x2 :: x3 :: x4 :: x5 :: x6 :: x7 :: x8 :: x9 :: x10 :: x11 :: x12 :: x13 :: x14 :: x15 :: x16 :: x17 :: x18 :: x19 :: x20 :: p :: l) p (x0 :: x1 :: x2 :: x3 :: x4 :: x5 :: x6 :: x7 :: x8 :: x9 :: x10 :: x11 :: x12 :: x13 :: x14 :: x15 :: x16 :: x17 :: x18 :: x19 :: x20 :: l) := ⟨[x0, x1, x2, x3, x4, x5, x6, x7, x8, x9, x10, x11, x12, x13, x14, x15, x16, x17, x18, x19, x20], l, rfl, rfl⟩
theorem r23 : Rem (x0 :: x1 :: x2 :: x3 :: x4 :: x5 :: x6 :: x7 :: x8 :: x9 :: x10 :: x11 :: x12 :: x13 :: x14 :: x15 :: x16 :: x17 :: x18 :: x19 :: x20 :: x21 :: x22 :: p :: l) p (x0 :: x1 :: x2 :: x3 :: x4 :: x5 :: x6 :: x7 :: x8 :: x9 :: x10 :: x11 :: x12 :: x13 :: x14 :: x15 :: x16 :: x17 :: x18 :: x19 :: x20 :: x21 :: x22 :: l) := ⟨[x0, x1, x2, x3, x4, x5, x6, x7, x8, x9, x10, x11, x12, x13, x14, x15, x16, x17, x18, x19, x20, x21, x22], l, rfl, rfl⟩
theorem r26 : Rem (x0 :: x1 :: x2 :: x3 :: x4 :: x5 :: x6 :: x7 :: x8 :: x9 :: x10 :: x11 :: x12 :: x13 :: x14 :: x15 :: x16 :: x17 :: x18 :: x19 :: x20 :: x21 :: x22 :: x23 :: x24 :: x25 :: p :: l) p (x0 :: x1 :: x2 :: x3 :: x4 :: x5 :: x6 :: x7 :: x8 :: x9 :: x10 :: x11 :: x12 :: x13 :: x14 :: x15 :: x16 :: x17 :: x18 :: x19 :: x20 :: x21 :: x22 :: x23 :: x24 :: x25 :: l) := ⟨[x0, x1, x2, x3, x4, x5, x6, x7, x8, x9, x10, x11, x12, x13, x14, x15, x16, x17, x18, x19, x20, x21, x22, x23, x24, x25], l, rfl, rfl⟩
end
def fillP (place : Nat → Option (Nat × Nat)) : List Value → List (Nat × Value) → Option (List Value)
  | cs, [] => some cs
  | cs, (i, v) :: r => match place i with
    | some (o, n) => match Nat.beq v.cells.toList.length n, Nat.ble (o + n) cs.length with
      | true, true => fillP place (putAt cs o v.cells.toList) r
      | _, _ => none
    | none => none
theorem fillP_eq {place : Nat → Option (Nat × Nat)} : ∀ (ps : List (Nat × Value)) (cs : List Value) (out : List Value), fillP place cs ps = some out → Instr.fill place ⟨cs⟩ ps = some ⟨out⟩
  | [], cs, out, h => by simp [fillP] at h; simp [Instr.fill, h]
  | (i, v) :: r, cs, out, h => by
    simp only [fillP] at h
    cases hf : place i with
    | none => simp [hf] at h
    | some on =>
      obtain ⟨o, n⟩ := on
      simp only [hf] at h
      cases h1 : Nat.beq v.cells.toList.length n with
      | false => simp only [h1] at h; cases h
      | true =>
        cases h2 : Nat.ble (o + n) cs.length with
        | false => simp only [h1, h2] at h; cases h
        | true =>
          simp only [h1, h2] at h
          have e1 := Nat.eq_of_beq_eq_true h1
          have e2 := Nat.le_of_ble_eq_true h2
          simp only [Instr.fill, hf]
          have e1' : v.cells.size = n := by simpa using e1
          rw [if_neg (by simp [e1']; omega)]
          have := foldl_put v.cells.toList ⟨cs⟩ o 0
          have ih := fillP_eq r (putAt cs o v.cells.toList) out h
          simp only [Nat.add_zero] at this
          rw [← ih]
          congr 1
          rw [← Array.foldl_toList, Array.toList_zipIdx]
          exact this
section
variable {P : Program} {C : World → Prop} {L : List (Nat × Value)} {d : Option Tmp} {ty : TypeId} {pos : String} {aft : Array Edge} {g : Option (Nat × Bool)}
theorem ok_buildArr {T E : TypeId} {ag : Bool} {m k : Nat} {ps : List (Nat × Operand)} {zs cs : List Value} {vs : List (Nat × Value)} (hf : arI P T = some (m, E)) (hE : tyI P E = some (ag, k)) (hz : zeI P T = some zs) (hx : partsOf L ps = some vs) (hc : fillP (fun i => some (i * k, k)) zs vs = some cs) :
    Ok P C L ⟨d, .build T ⟨ps⟩, ty, pos, aft, g⟩ (.agg ⟨cs⟩) := fun ρ ha w _ => by
  obtain ⟨z, h1, h2⟩ := zeI_spec hz w
  have h6 := fillP_eq vs zs cs hc
  have h7 := parts_map ha ps vs hx
  simp [execOp, Instr.build, bind, Sem.run_bind', h1, Result.andThen, run_underlying (arI_spec hf), run_sizeOf' hE, h2, h7, pure, Sem.run]
  simp only [h6, Sem.run]
end
def lensB (k : Nat) (ds : List (List Value)) : Bool := ds.all fun d => Nat.beq d.length k
section
variable {P : Program} {ops : Array Oper} {Q : Exit → Act → World → Prop} {rest : List Oper} {n : Nat} {L : List (Nat × Value)} {a : Act} {w w0 : World} {R : Hh} {Ps Qs : List HP}
  {d : Nat} {ty : TypeId} {pos : String} {aft : Array Edge}
theorem r_buildId {ys : List (List Value)} {T E : TypeId} {ag : Bool} {k len : Nat} {ps : List (Nat × Operand)} {vs : List (Nat × Value)} {zs : List Value} (hs : St n L a) (m : Hp w0 R Ps w) (hT : slI P T = some E) (hE : tyI P E = some (ag, k)) (hz : zeI P E = some zs) (hzl : zs.length = k)
    (hx : partsOf L ps = some vs) (hf : fromI 0 vs = true) (hl : vs.length = len) (hd' : vs.map (fun x => x.2.cells.toList) = ys) (hk : lensB k ys = true) (hsz : Nat.ble (len * k) 16777216 = true) (hsl : Nat.ble len 16777216 = true) (hd : Nat.blt d n = true)
    (kk : ∀ (v' : SH) w', Hp w0 R (Sv k E v'.v (ys.map id) :: Ps) w' → ∀ a', St n ((d, v'.v) :: L) a' → wpList P ops Q rest a' w') :
    wpList P ops Q (⟨some d, .buildSlice T len ⟨ps⟩, ty, pos, aft, none⟩ :: rest) a w :=
  r_buildSlice hs m hT hE hz hzl hx hf hl hd' (by intro e he; simp only [lensB, List.all_eq_true] at hk; exact Nat.eq_of_beq_eq_true (hk e he)) hsz hsl hd (fun v' w' m' => by
    obtain ⟨x, rfl⟩ := m'.sh
    exact kk x w' (by rw [List.map_id]; exact m'))
end
end Go.Proofs.YtnbpodjbemfpbaaGreat.Fw
