/-
  The walker's own words, fourteenth part: windows and copies in terms of model lists. By the session; nothing here is trusted.
-/
import Derived.Test.YtnbpodjbemfpbaaGreatFw13
set_option linter.unusedVariables false
set_option linter.all false
namespace Go.Proofs.YtnbpodjbemfpbaaGreat.Fw
open Go
theorem sub3_0 (k : Nat) (x : SH) (hi : Nat) : subH3 k x 0 hi x.c = upH x hi := by rw [← subH_eq3, subH_0]
theorem sub3_lt {k : Nat} {x : SH} {lo hi : Nat} (h : lo < x.c) : (subH3 k x lo hi x.c).v = .slice (x.a.map (·.add (lo * k))) (hi - lo) (x.c - lo) := by
  rw [← subH_eq3, subH_lt h]
theorem RdS.ncapM {α : Type} {c : α → List Value} {h : Hh} {k : Nat} {x : SH} {xs : List α} (r : RdS h k x.v (xs.map c)) : x.n = xs.length ∧ x.n ≤ x.c := by
  have := r.ncap
  simpa using this
theorem Hp.ncapM {α : Type} {c : α → List Value} {w0 w : World} {R : Hh} {Ps Qs : List HP} {k : Nat} {E : TypeId} {x : SH} {xs : List α} (m : Hp w0 R Ps w) (h : Rem Ps (Sv k E x.v (xs.map c)) Qs) : x.n = xs.length ∧ x.n ≤ x.c := by
  have := m.ncap h
  simpa using this
theorem RdS.cut {h : Hh} {k : Nat} {a : Option Addr} {n c c' : Nat} {ds : List (List Value)} (r : RdS h k (.slice a n c) ds) (hc : ds.length ≤ c') : RdS h k (.slice a n c') ds := by
  obtain ⟨h1, h2, a', cap, e, h3, h4⟩ := r
  simp only [Value.slice.injEq] at e
  obtain ⟨rfl, rfl, rfl⟩ := e
  exact ⟨h1, h2, _, c', rfl, hc, h4⟩
theorem RdS.win {α : Type} {c : α → List Value} {h : Hh} {k : Nat} {x : SH} {xs ys : List α} (r : RdS h k x.v (xs.map c)) {lo hi mx : Nat} (h1 : lo ≤ hi) (h2 : hi ≤ xs.length) (h3 : hi ≤ mx) (h4 : mx ≤ x.c) (hy : (xs.take hi).drop lo = ys) : RdS h k (subH3 k x lo hi mx).v (ys.map c) := by
  subst hy
  have h5 := r.subS (lo := lo) (hi := hi) h1 (by simpa using h2)
  rw [← subH_v, ← List.map_take, ← List.map_drop] at h5
  have hl : ((xs.take hi).drop lo).length = hi - lo := by simp; omega
  by_cases hlo : lo = hi
  · have hnil : (xs.take hi).drop lo = [] := List.eq_nil_of_length_eq_zero (by omega)
    rw [hnil]
    refine ⟨by simp, by simp, _, _, by simp only [subH3, SH.v, List.map_nil, List.length_nil]; rw [show hi - lo = 0 by omega], by simp, fun h => absurd rfl h⟩
  · have e1 : (subH3 k x lo hi mx).v = .slice (x.a.map (·.add (lo * k))) (hi - lo) (mx - lo) := by
      simp [subH3, SH.v, show ¬ mx = lo by omega]
    rw [e1]
    rw [subH_lt (by omega)] at h5
    exact h5.cut (by simp; omega)
theorem RdS.wln {α : Type} {c : α → List Value} {h : Hh} {k : Nat} {x : SH} {xs : List α} (r : RdS h k x.v (xs.map c)) : RdS h k (.slice x.a xs.length x.c) (xs.map c) := by
  have := r.ncapM
  rw [← this.1]
  exact r
section
variable {P : Program} {ops : Array Oper} {Q : Exit → Act → World → Prop} {rest : List Oper} {n : Nat} {L : List (Nat × Value)} {a : Act} {w w0 : World} {R : Hh} {Ps Qs : List HP}
  {d : Nat} {ty : TypeId} {pos : String} {aft : Array Edge} {k : Nat} {E : TypeId} {x : SH} {α : Type} {c : α → List Value} {xs es zs : List α}
theorem r_copyM {T T2 : TypeId} {ag : Bool} {o1 o2 : Operand} {v u : Value} {lo dl N : Nat} (hs : St n L a) (m : Hp w0 R Ps w) (hx : ev L o1 = some v) (hy : ev L o2 = some u) (hT : slI P T = some E) (hE : tyI P E = some (ag, k)) (hP : Rem Ps (Sv k E x.v (xs.map c)) Qs)
    (hv : v = .slice (x.a.map (·.add (lo * k))) dl (x.c - lo)) (hu : ∃ a lu cc, u = .slice a lu cc ∧ es.length = min lu dl ∧ RdS (hh w) k (.slice a es.length cc) (es.map c)) (ho : ∀ z, ones (c z) = true) (hlo : lo ≤ xs.length) (hhi : lo + es.length ≤ x.c) (hb : lo + es.length ≤ 140737488355328)
    (hz : xs.take lo ++ es ++ xs.drop (lo + es.length) = zs) (hN : max xs.length (lo + es.length) = N) (hd : Nat.blt d n = true)
    (kk : ∀ w', Hp w0 R (Sv k E (upH x N).v (zs.map c) :: Qs) w' → ∀ a', St n ((d, .int .i64 (es.length : Int)) :: L) a' → wpList P ops Q rest a' w') :
    wpList P ops Q (⟨some d, .call ⟨.builtin .copy, #[o1, o2], #[T, T2]⟩, ty, pos, aft, none⟩ :: rest) a w := by
  subst hz hN
  obtain ⟨ua, lu, uc, e1, e2, e3⟩ := hu
  refine r_copy (es := es.map c) hs m hx hy hT hE hP hv ⟨ua, lu, uc, e1, by simpa using e2, by simpa using e3⟩ (by intro e he; obtain ⟨z, _, rfl⟩ := List.mem_map.1 he; exact ho z) (by simpa using hlo) (by simpa using hhi) (by simpa using hb) hd ?_
  intro w' m' a' hs'
  simp only [List.length_map] at m' hs'
  refine kk w' ?_ a' hs'
  rw [List.map_append, List.map_append, List.map_take, List.map_drop]
  exact m'
theorem r_appendZM {z0 : α} {T T2 : TypeId} {K : IntKind} {ag : Bool} {bytes i cn : Nat} {o1 o2 : Operand} {zs : List Value} (hs : St n L a) (m : Hp w0 R Ps w) (hx : ev L o1 = some (upH x i).v) (hy : ev L o2 = some (.int .i64 (cn : Int))) (hT : slI P T = some E) (hT2 : inI P T2 = some K) (hE : tyI P E = some (ag, k))
    (hz : zeI P E = some zs) (hz0 : c z0 = zs) (hzl : zs.length = k) (hb : byI P E = some bytes) (hbb : Nat.ble bytes 4096 = true) (hk : Nat.ble 1 k = true) (hP : Rem Ps (Sv k E x.v (xs.map c)) Qs)
    (hi : i ≤ xs.length) (hc : 0 < cn) (hcap : x.c < i + cn) (hlen : i + cn ≤ 140737488355328 ∧ (2 * (i + cn) + 192) * bytes ≤ 281474976710656) (hd : Nat.blt d n = true)
    (kk : ∀ (y : SH) w', y.n = i + cn → i + cn ≤ y.c → Hp w0 R (Sv k E y.v ((xs.take i ++ List.replicate cn z0).map c) :: Ps) w' → ∀ a', St n ((d, y.v) :: L) a' → wpList P ops Q rest a' w') :
    wpList P ops Q (⟨some d, .call ⟨.builtin .append, #[o1, o2], #[T, T2]⟩, ty, pos, aft, none⟩ :: rest) a w := by
  refine r_appendZ hs m hx hy hT hT2 hE hz hzl hb hbb hk hP (by simpa using hi) hc hcap hlen hd ?_
  intro y w' h1 h2 m' a' hs'
  refine kk y w' h1 h2 ?_ a' hs'
  rw [List.map_append, List.map_take, List.map_replicate, hz0]
  exact m'
end
theorem upH_self {x : SH} {n : Nat} (h : x.n = n) : upH x n = x := by subst h; rfl
theorem RdS.winS {α : Type} {c : α → List Value} {h : Hh} {k : Nat} {x : SH} {xs : List α} (r : RdS h k x.v (xs.map c)) {lo : Nat} (h1 : lo < x.c) (h2 : lo ≤ xs.length) : RdS h k (.slice (x.a.map (·.add (lo * k))) (xs.drop lo).length (x.c - lo)) ((xs.drop lo).map c) := by
  have hn := r.ncapM
  have := r.win (lo := lo) (hi := xs.length) (mx := x.c) h2 (Nat.le_refl _) (by omega) (Nat.le_refl _) rfl
  rw [sub3_lt h1] at this
  simpa using this
theorem RdS.isnil {α : Type} {c : α → List Value} {h : Hh} {k : Nat} {x : SH} {xs : List α} (r : RdS h k x.v (xs.map c)) (hn : x.a.isNone = true) : xs = [] := by
  obtain ⟨_, _, a, cap, e, _, h4⟩ := r
  simp only [SH.v, Value.slice.injEq] at e
  cases xs with
  | nil => rfl
  | cons y ys =>
    obtain ⟨b, off, arr, T, fz, e1, _⟩ := h4 (by simp)
    rw [e.1, e1] at hn
    cases hn
theorem cp1_eq {α : Type} {xs : List α} {i : Nat} (h : i < xs.length) : xs.take (i + 1) ++ xs.drop i ++ xs.drop (i + 1 + (xs.drop i).length) = xs.take (i + 1) ++ xs.drop i := by
  rw [List.drop_eq_nil_of_le (as := xs) (i := i + 1 + (xs.drop i).length) (by simp; omega), List.append_nil]
theorem ins_eq {α : Type} {xs ys : List α} {i : Nat} (h : i < xs.length) (hy : ys.length = 1) : (xs.take (i + 1) ++ xs.drop i).take i ++ ys ++ (xs.take (i + 1) ++ xs.drop i).drop (i + ys.length) = xs.take i ++ ys ++ xs.drop i := by
  have l1 : (xs.take (i + 1)).length = i + 1 := by simp; omega
  rw [hy, List.take_append_of_le_length (by omega), List.take_take, Nat.min_eq_left (by omega)]
  congr 1
  conv => lhs; arg 1; rw [← l1]
  rw [List.drop_left]
theorem ins_eqZ {α : Type} {xs ys : List α} {z : α} {i m : Nat} (h : i < xs.length) (hy : ys.length = 1) (hm : m = xs.length + 1 - i) :
    (((xs.take i ++ List.replicate m z).take i ++ ys ++ (xs.take i ++ List.replicate m z).drop (i + ys.length)).take (i + 1) ++ xs.drop i ++ ((xs.take i ++ List.replicate m z).take i ++ ys ++ (xs.take i ++ List.replicate m z).drop (i + ys.length)).drop (i + 1 + (xs.drop i).length)) = xs.take i ++ ys ++ xs.drop i := by
  have l1 : (xs.take i).length = i := by simp; omega
  have e1 : (xs.take i ++ List.replicate m z).take i = xs.take i := by
    conv => lhs; arg 1; rw [← l1]
    rw [List.take_left]
  have l2 : (xs.take i ++ ys).length = i + 1 := by simp; omega
  rw [e1]
  have e2 : ((xs.take i ++ ys) ++ (xs.take i ++ List.replicate m z).drop (i + ys.length)).take (i + 1) = xs.take i ++ ys := by
    conv => lhs; arg 1; rw [← l2]
    rw [List.take_left]
  rw [e2]
  rw [List.drop_eq_nil_of_le (as := xs.take i ++ ys ++ (xs.take i ++ List.replicate m z).drop (i + ys.length)) (by simp; omega), List.append_nil]
end Go.Proofs.YtnbpodjbemfpbaaGreat.Fw
