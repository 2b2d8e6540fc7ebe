/-
  Plain laws: the plan is the document's (the end).
-/
import Derived.Test.YtnbpodjbemfpbaaGreatPl2
import Derived.KernelRfl
set_option linter.all false
set_option maxRecDepth 100000
namespace Go.Proofs.YtnbpodjbemfpbaaGreat.Fw
open Go
theorem u8_ne {a b : Fx .u8} : (a.v.toNat.toUInt8 != b.v.toNat.toUInt8) = decide (a.v ≠ b.v) := by
  have h1 := a.u8
  have h2 := b.u8
  by_cases h : a.v = b.v
  · simp [h]
  · have : ¬ a.v.toNat.toUInt8 = b.v.toNat.toUInt8 := by
      intro e
      have := congrArg UInt8.toNat e
      simp at this
      omega
    simp [h, this]
theorem u8_lt {a b : Fx .u8} : (a.v.toNat.toUInt8 < b.v.toNat.toUInt8) ↔ a.v < b.v := by
  have h1 := a.u8
  have h2 := b.u8
  rw [UInt8.lt_iff_toNat_lt]
  simp
  omega
theorem cmpB_mac (x y : TMAC) : cmpB (macL x) (macL y) = if x.b0.v ≠ y.b0.v then (if x.b0.v < y.b0.v then -1 else 1) else if x.b1.v ≠ y.b1.v then (if x.b1.v < y.b1.v then -1 else 1) else if x.b2.v ≠ y.b2.v then (if x.b2.v < y.b2.v then -1 else 1)
    else if x.b3.v ≠ y.b3.v then (if x.b3.v < y.b3.v then -1 else 1) else if x.b4.v ≠ y.b4.v then (if x.b4.v < y.b4.v then -1 else 1) else if x.b5.v ≠ y.b5.v then (if x.b5.v < y.b5.v then -1 else 1) else 0 := by
  have hs : ∀ z : TMAC, (⟨(bytesL (macL z)).toArray⟩ : ByteArray).size = 6 := fun z => rfl
  have g0 : ∀ z : TMAC, (⟨(bytesL (macL z)).toArray⟩ : ByteArray)[0]! = z.b0.v.toNat.toUInt8 := fun z => rfl
  have g1 : ∀ z : TMAC, (⟨(bytesL (macL z)).toArray⟩ : ByteArray)[1]! = z.b1.v.toNat.toUInt8 := fun z => rfl
  have g2 : ∀ z : TMAC, (⟨(bytesL (macL z)).toArray⟩ : ByteArray)[2]! = z.b2.v.toNat.toUInt8 := fun z => rfl
  have g3 : ∀ z : TMAC, (⟨(bytesL (macL z)).toArray⟩ : ByteArray)[3]! = z.b3.v.toNat.toUInt8 := fun z => rfl
  have g4 : ∀ z : TMAC, (⟨(bytesL (macL z)).toArray⟩ : ByteArray)[4]! = z.b4.v.toNat.toUInt8 := fun z => rfl
  have g5 : ∀ z : TMAC, (⟨(bytesL (macL z)).toArray⟩ : ByteArray)[5]! = z.b5.v.toNat.toUInt8 := fun z => rfl
  have hr : List.range (min 6 6) = [0, 1, 2, 3, 4, 5] := rfl
  unfold cmpB Extern.BytealgCompare.cmp
  rw [hs, hs, hr]
  simp only [List.find?_cons, List.find?_nil, g0, g1, g2, g3, g4, g5, u8_ne]
  by_cases h0 : x.b0.v = y.b0.v
  · by_cases h1 : x.b1.v = y.b1.v
    · by_cases h2 : x.b2.v = y.b2.v
      · by_cases h3 : x.b3.v = y.b3.v
        · by_cases h4 : x.b4.v = y.b4.v
          · by_cases h5 : x.b5.v = y.b5.v
            · simp [h0, h1, h2, h3, h4, h5]
            · simp [h0, h1, h2, h3, h4, h5, g5, u8_lt]
          · simp [h0, h1, h2, h3, h4, g4, u8_lt]
        · simp [h0, h1, h2, h3, g3, u8_lt]
      · simp [h0, h1, h2, g2, u8_lt]
    · simp [h0, h1, g1, u8_lt]
  · simp [h0, g0, u8_lt]
theorem cmpMac_lt (x y : TMAC) : cmpB (macL x) (macL y) < 0 ↔ weightM x < weightM y := by
  rw [cmpB_mac]
  unfold weightM
  have := x.b0.u8; have := x.b1.u8; have := x.b2.u8; have := x.b3.u8; have := x.b4.u8; have := x.b5.u8
  have := y.b0.u8; have := y.b1.u8; have := y.b2.u8; have := y.b3.u8; have := y.b4.u8; have := y.b5.u8
  split
  · split <;> omega
  · split
    · split <;> omega
    · split
      · split <;> omega
      · split
        · split <;> omega
        · split
          · split <;> omega
          · split
            · split <;> omega
            · omega
theorem cmpMac_eq (x y : TMAC) : cmpB (macL x) (macL y) = 0 ↔ x = y := by
  constructor
  · intro h
    rw [cmpB_mac] at h
    obtain ⟨a0, a1, a2, a3, a4, a5⟩ := x
    obtain ⟨b0, b1, b2, b3, b4, b5⟩ := y
    simp only at h
    by_cases h0 : a0.v = b0.v
    · by_cases h1 : a1.v = b1.v
      · by_cases h2 : a2.v = b2.v
        · by_cases h3 : a3.v = b3.v
          · by_cases h4 : a4.v = b4.v
            · by_cases h5 : a5.v = b5.v
              · rw [Fx.ext h0, Fx.ext h1, Fx.ext h2, Fx.ext h3, Fx.ext h4, Fx.ext h5]
              · simp [h0, h1, h2, h3, h4, h5] at h; split at h <;> omega
            · simp [h0, h1, h2, h3, h4] at h; split at h <;> omega
          · simp [h0, h1, h2, h3] at h; split at h <;> omega
        · simp [h0, h1, h2] at h; split at h <;> omega
      · simp [h0, h1] at h; split at h <;> omega
    · simp [h0] at h; split at h <;> omega
  · rintro rfl
    rw [cmpB_mac]
    simp
/-! valid prefixes -/
theorem mask_bits : ∀ k : Fin 33, (~~~BitVec.ofInt 32 (maskM (32 - (k.val : Int)))).toNat = 2 ^ k.val - 1 := by decide +kernel
theorem valid_eq (p : TPrefix) : validM p = validR p := by
  unfold validM validR faultM faultR
  by_cases h : p.Len.v < 0 ∨ p.Len.v > 32
  · simp [h]
  · simp only [h, if_false]
    have ha := p.Addr.u32
    obtain ⟨k, hk1, hk2⟩ : ∃ k : Nat, (k : Int) = 32 - p.Len.v ∧ k ≤ 32 := ⟨(32 - p.Len.v).toNat, by omega, by omega⟩
    have hm := mask_bits ⟨k, by omega⟩
    simp only at hm
    rw [show (32 : Int) - (k : Int) = p.Len.v by omega] at hm
    have hk3 : (32 - p.Len.v).toNat = k := by omega
    rw [hk3]
    obtain ⟨m, hm1, hm2⟩ : ∃ m : Nat, (m : Int) = p.Addr.v ∧ m < 2 ^ 32 := ⟨p.Addr.v.toNat, by omega, by omega⟩
    rw [← hm1]
    have e1 : bAndNot .u32 (m : Int) (maskM p.Len.v) = ((m % 2 ^ k : Nat) : Int) := by
      unfold bAndNot
      have e2 : (BitVec.ofInt IntKind.u32.bits (m : Int) &&& ~~~BitVec.ofInt IntKind.u32.bits (maskM p.Len.v)).toNat = m % 2 ^ k := by
        show (BitVec.ofInt 32 (m : Int) &&& ~~~BitVec.ofInt 32 (maskM p.Len.v)).toNat = _
        rw [BitVec.toNat_and, hm, Nat.and_two_pow_sub_one_eq_mod]
        congr 1
        simp [BitVec.toNat_ofInt]
        omega
      rw [e2]
      have : m % 2 ^ k ≤ m := Nat.mod_le _ _
      exact wrap_u32 (by omega) (by omega)
    rw [e1]
    have e3 : Int.tmod (m : Int) ((2 : Int) ^ k) = ((m % 2 ^ k : Nat) : Int) := by
      have : ((2 : Int) ^ k) = ((2 ^ k : Nat) : Int) := by simp
      rw [this]
      rfl
    rw [e3]
    by_cases hz : ((m % 2 ^ k : Nat) : Int) = 0 <;> simp [hz]
/-! the plan -/
section
variable (host : Int)
end
end Go.Proofs.YtnbpodjbemfpbaaGreat.Fw
