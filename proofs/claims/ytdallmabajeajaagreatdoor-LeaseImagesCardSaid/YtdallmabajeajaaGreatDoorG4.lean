/-
  Own work: walks and laws, joined by wip/tool/compact.py.
-/
import Derived.Test.YtdallmabajeajaaGreatDoorG3
import Derived.Shelf.SlSortCmp.NoneTotal
import Derived.Shelf.GgSortFunc.Whole
import Derived.Shelf.SlGeneric
import Derived.Ground.SlsfProg
import Derived.Test.YtdallmabajeajaaGreatDoorProg
import Derived.Shelf.GgSortFunc.Tiny
set_option linter.all false
set_option linter.all false
set_option maxHeartbeats 4000000
set_option maxRecDepth 100000
namespace Go.Proofs.YtdallmabajeajaaGreatDoor.Fw
open Go
theorem put_c (t : Addr) (lim : Int) (X : SH) (r : Nat) (h : List Qtimer_one) (m : List (Int × Int)) (i : Int) (x : Qtimer_one) (h0 : 0 ≤ i) (h1 : i < h.length) (R : Hh) : Ctr (τ := Unit) Tryz.prog 143 [.pointer (some (padd t 0)), .int .i64 i, .agg ⟨ctimer_one x⟩] R [Bx t 157 (ctimer_Timers ⟨lim, X, some r⟩), Sv 2 224 X.v (h.map ctimer_one), Mp r (vInt .i64) (vInt .i64) m] (fun _ => True) (fun _ => .tuple #[]) (fun _ => [Bx t 157 (ctimer_Timers ⟨lim, X, some r⟩), Sv 2 224 X.v ((h.set i.toNat x).map ctimer_one), Mp r (vInt .i64) (vInt .i64) (mset m x.id i)]) := by
  refine in_ Tryz.func143 fun w0 => ?_
  refine bo_' fun b => ?_
  refine mu_ ?_
  refine rn_ () trivial
theorem el_gt {α : Type} [Inhabited α] {l : List α} {n : Nat} : el l (n : Int) = gt l n := rfl
theorem swp_set {hc : List Qtimer_one} {x : Qtimer_one} {n p : Nat} (hn : n < hc.length) (hp : n ≠ p) : swp (hc.set n x) n p = (hc.set n (gt hc p)).set p x := by
  unfold swp
  rw [gt_set_ne hp, gt_set_eq hn, List.set_set]
theorem up_step {x : Qtimer_one} {h hc : List Qtimer_one} {mc : List (Int × Int)} {k : Int} (h0 : 0 ≤ k) (hk : k < hc.length) (hl : hc.length = h.length) (hA : HeapAt ahead (hc.set k.toNat x) k.toNat) (hP : PlX (hc.set k.toNat x) mc k.toNat) (hpm : (hc.set k.toNat x).Perm h) (hpos : k > 0) (ha : ahead x (el hc ((k - 1) / 2))) :
    0 ≤ (k - 1) / 2 ∧ (k - 1) / 2 < (hc.set k.toNat (el hc ((k - 1) / 2))).length ∧ (hc.set k.toNat (el hc ((k - 1) / 2))).length = h.length ∧ HeapAt ahead ((hc.set k.toNat (el hc ((k - 1) / 2))).set ((k - 1) / 2).toNat x) ((k - 1) / 2).toNat ∧ PlX ((hc.set k.toNat (el hc ((k - 1) / 2))).set ((k - 1) / 2).toNat x) (mset mc (el hc ((k - 1) / 2)).id k) ((k - 1) / 2).toNat ∧ ((hc.set k.toNat (el hc ((k - 1) / 2))).set ((k - 1) / 2).toNat x).Perm h := by
  obtain ⟨n, rfl⟩ : ∃ n : Nat, k = (n : Int) := ⟨k.toNat, by omega⟩
  have e : ((n : Int) - 1) / 2 = ((par n : Nat) : Int) := by unfold par; omega
  have hp := par_lt (i := n) (by omega)
  rw [e] at ha ⊢
  simp only [Int.toNat_natCast, el_gt] at *
  have hn : n < hc.length := by omega
  have hs := swp_set (x := x) hn (show n ≠ par n by omega)
  refine ⟨by omega, by simp; omega, by simpa using hl, heap_up ahead_ord hn (by omega) hA ha, ?_, ?_⟩
  · have h3 := hP.step (p := par n) (by simpa using hn) (by simp; omega) (by omega)
    rw [hs, gt_set_ne (by omega)] at h3
    exact h3
  · rw [← hs]
    exact (swp_perm (by simpa using hn) (by simp; omega) (by omega)).trans hpm
theorem up_c (t : Addr) (lim : Int) (X : SH) (r : Nat) (h : List Qtimer_one) (m : List (Int × Int)) (i : Nat) (hn : h.length ≤ 65536) (h1 : i < h.length) (hh0 : HeapAt ahead h i) (hp : Pl h m) (R : Hh) : Ctr (τ := List Qtimer_one × List (Int × Int) × Nat) Tryz.prog 144 [.pointer (some (padd t 0)), .int .i64 (i : Int)] R [Bx t 157 (ctimer_Timers ⟨lim, X, some r⟩), Sv 2 224 X.v (h.map ctimer_one), Mp r (vInt .i64) (vInt .i64) m] (fun x => HeapUp ahead x.1 x.2.2 ∧ Pl x.1 x.2.1 ∧ x.1.Perm h ∧ x.2.2 < x.1.length ∧ gt x.1 x.2.2 = gt h i) (fun _ => .tuple #[]) (fun x => [Bx t 157 (ctimer_Timers ⟨lim, X, some r⟩), Sv 2 224 X.v (x.1.map ctimer_one), Mp r (vInt .i64) (vInt .i64) x.2.1]) := by
  refine in_ Tryz.func144 fun w0 => ?_
  refine ax_ fun b => ?_
  refine lo_ (fun z : Int × List Qtimer_one × List (Int × Int) => [(1, .int .i64 z.1)]) (fun z => [Sv 2 224 X.v (z.2.1.map ctimer_one), Mp r (vInt .i64) (vInt .i64) z.2.2]) (fun z => 0 ≤ z.1 ∧ z.1 < z.2.1.length ∧ z.2.1.length = h.length ∧ HeapAt ahead (z.2.1.set z.1.toNat (el h i)) z.1.toNat ∧ PlX (z.2.1.set z.1.toNat (el h i)) z.2.2 z.1.toNat ∧ (z.2.1.set z.1.toNat (el h i)).Perm h) (fun z => z.1.toNat) (i, h, m) ?_ fun ⟨k, hc, mc⟩ hz => ?_
  · simp only [Int.toNat_natCast, el_gt, set_self h1]
    exact ⟨by omega, by omega, trivial, hh0, hp.any, .refl _⟩
  dsimp only at hz
  obtain ⟨h0, hk, hl, hA, hP, hpm⟩ := hz
  dsimp only
  refine if_ (fun hc1 => ?_) (fun hc1 => ?_)
  · refine ca_ (fun R' q1 q2 => put_c t lim X r hc mc k (el hc ((k - 1) / 2)) (by omega) (by omega) R') fun _ _ => ?_
    refine ba_ ((k - 1) / 2, hc.set k.toNat (el hc ((k - 1) / 2)), mset mc (el hc ((k - 1) / 2)).id k) (up_step h0 hk hl hA hP hpm hc1.1 hc1.2) (by simp only; omega)
  · refine ca_ (fun R' q1 q2 => put_c t lim X r hc mc k (el h i) (by omega) (by omega) R') fun _ _ => ?_
    obtain ⟨n, rfl⟩ : ∃ n : Nat, k = (n : Int) := ⟨k.toNat, by omega⟩
    simp only [Int.toNat_natCast, el_gt] at *
    refine rn_ (hc.set n (gt h i), mset mc (gt h i).id n, n) ⟨heap_upstop hA (by omega) fun h3 => ?_, ?_, hpm, by simp; omega, gt_set_eq (by omega)⟩
    · have e : ((n : Int) - 1) / 2 = ((par n : Nat) : Int) := by unfold par; omega
      rw [e, el_gt] at hc1
      intro h4
      rcases hc1 with h5 | h5
      · omega
      · exact h5 h4
    · have h3 := hP.fin (by simp; omega)
      rwa [gt_set_eq (by omega)] at h3
theorem ahead_irr {a : Qtimer_one} : ¬ ahead a a := fun e => ahead_ord.as e e
theorem minA {hc : List Qtimer_one} {k : Int} (h0 : 0 ≤ k) (ha : ahead (el hc (2 * k + 1 + 1)) (el hc (2 * k + 1))) : ∀ j : Nat, 1 ≤ j → j < hc.length → par j = k.toNat → ¬ ahead (gt hc j) (el hc (2 * k + 1 + 1)) := by
  intro j h1 h2 h3
  have h4 : (j : Int) = 2 * k + 1 ∨ (j : Int) = 2 * k + 1 + 1 := by unfold par at h3; omega
  rw [← el_gt]
  rcases h4 with h4 | h4 <;> rw [h4]
  · exact ahead_ord.as ha
  · exact ahead_irr
theorem minB {hc : List Qtimer_one} {k : Int} (h0 : 0 ≤ k) (hb : (hc.length : Int) ≤ 2 * k + 1 + 1 ∨ ¬ ahead (el hc (2 * k + 1 + 1)) (el hc (2 * k + 1))) : ∀ j : Nat, 1 ≤ j → j < hc.length → par j = k.toNat → ¬ ahead (gt hc j) (el hc (2 * k + 1)) := by
  intro j h1 h2 h3
  have h4 : (j : Int) = 2 * k + 1 ∨ (j : Int) = 2 * k + 1 + 1 := by unfold par at h3; omega
  rw [← el_gt]
  rcases h4 with h4 | h4 <;> rw [h4]
  · exact ahead_irr
  · rcases hb with hb | hb
    · omega
    · exact hb
theorem down_step {x : Qtimer_one} {h hc : List Qtimer_one} {mc : List (Int × Int)} {k c : Int} (h0 : 0 ≤ k) (hk : k < hc.length) (hl : hc.length = h.length) (hcc : c = 2 * k + 1 ∨ c = 2 * k + 1 + 1) (hcl : c < hc.length) (hA : HeapUp ahead (hc.set k.toNat x) k.toNat) (hP : PlX (hc.set k.toNat x) mc k.toNat) (hpm : (hc.set k.toNat x).Perm h) (ha : ahead (el hc c) x)
    (hf : ∀ j : Nat, 1 ≤ j → j < hc.length → par j = k.toNat → ¬ ahead (gt hc j) (el hc c)) :
    0 ≤ c ∧ c < (hc.set k.toNat (el hc c)).length ∧ (hc.set k.toNat (el hc c)).length = h.length ∧ HeapUp ahead ((hc.set k.toNat (el hc c)).set c.toNat x) c.toNat ∧ PlX ((hc.set k.toNat (el hc c)).set c.toNat x) (mset mc (el hc c).id k) c.toNat ∧ ((hc.set k.toNat (el hc c)).set c.toNat x).Perm h := by
  obtain ⟨n, rfl⟩ : ∃ n : Nat, k = (n : Int) := ⟨k.toNat, by omega⟩
  obtain ⟨p, rfl⟩ : ∃ p : Nat, c = (p : Int) := ⟨c.toNat, by omega⟩
  simp only [Int.toNat_natCast, el_gt] at *
  have hn : n < hc.length := by omega
  have hs := swp_set (x := x) hn (show n ≠ p by omega)
  refine ⟨by omega, by simp; omega, by simpa using hl, heap_down ahead_ord (by omega) (by omega) (by unfold par; omega) hA ha hf, ?_, ?_⟩
  · have h3 := hP.step (p := p) (by simpa using hn) (by simp; omega) (by omega)
    rw [hs, gt_set_ne (by omega)] at h3
    exact h3
  · rw [← hs]
    exact (swp_perm (by simpa using hn) (by simp; omega) (by omega)).trans hpm
theorem down_end {x : Qtimer_one} {hc : List Qtimer_one} {mc : List (Int × Int)} {k : Int} (h0 : 0 ≤ k) (hk : k < hc.length) (hA : HeapUp ahead (hc.set k.toNat x) k.toNat) (hP : PlX (hc.set k.toNat x) mc k.toNat) (hf : ∀ j : Nat, 1 ≤ j → j < hc.length → par j = k.toNat → ¬ ahead (gt hc j) x) : Heap ahead (hc.set k.toNat x) ∧ Pl (hc.set k.toNat x) (mset mc x.id k) := by
  obtain ⟨n, rfl⟩ : ∃ n : Nat, k = (n : Int) := ⟨k.toNat, by omega⟩
  simp only [Int.toNat_natCast] at *
  refine ⟨heap_downstop hA (by omega) hf, ?_⟩
  have h3 := hP.fin (by simp; omega)
  rwa [gt_set_eq (by omega)] at h3
theorem down_c (t : Addr) (lim : Int) (X : SH) (r : Nat) (h : List Qtimer_one) (m : List (Int × Int)) (i : Nat) (hn : h.length ≤ 65536) (h1 : i < h.length) (hh0 : HeapUp ahead h i) (hp : Pl h m) (R : Hh) : Ctr (τ := List Qtimer_one × List (Int × Int)) Tryz.prog 145 [.pointer (some (padd t 0)), .int .i64 (i : Int)] R [Bx t 157 (ctimer_Timers ⟨lim, X, some r⟩), Sv 2 224 X.v (h.map ctimer_one), Mp r (vInt .i64) (vInt .i64) m] (fun x => Heap ahead x.1 ∧ Pl x.1 x.2 ∧ x.1.Perm h) (fun _ => .tuple #[]) (fun x => [Bx t 157 (ctimer_Timers ⟨lim, X, some r⟩), Sv 2 224 X.v (x.1.map ctimer_one), Mp r (vInt .i64) (vInt .i64) x.2]) := by
  refine in_ Tryz.func145 fun w0 => ?_
  refine ax_ fun b => ?_
  refine lo_ (fun z : Int × List Qtimer_one × List (Int × Int) => [(1, .int .i64 z.1)]) (fun z => [Sv 2 224 X.v (z.2.1.map ctimer_one), Mp r (vInt .i64) (vInt .i64) z.2.2]) (fun z => 0 ≤ z.1 ∧ z.1 < z.2.1.length ∧ z.2.1.length = h.length ∧ HeapUp ahead (z.2.1.set z.1.toNat (el h i)) z.1.toNat ∧ PlX (z.2.1.set z.1.toNat (el h i)) z.2.2 z.1.toNat ∧ (z.2.1.set z.1.toNat (el h i)).Perm h) (fun z => z.2.1.length - z.1.toNat) (i, h, m) ?_ fun ⟨k, hc, mc⟩ hz => ?_
  · simp only [Int.toNat_natCast, el_gt, set_self h1]
    exact ⟨by omega, by omega, trivial, hh0, hp.any, .refl _⟩
  dsimp only at hz
  obtain ⟨h0, hk, hl, hA, hP, hpm⟩ := hz
  dsimp only
  refine if_ (fun c1 => ?_) (fun c1 => ?_)
  · refine if_ (fun c2 => ?_) (fun c2 => ?_)
    · refine if_ (fun c3 => ?_) (fun c3 => ?_)
      · refine ca_ (fun R' q1 q2 => put_c t lim X r hc mc k (el h i) (by omega) (by omega) R') fun _ _ => ?_
        have e := down_end h0 hk hA hP fun j j1 j2 j3 => ahead_ord.tr (minA h0 c2.2 j j1 j2 j3) c3
        exact rn_ (hc.set k.toNat (el h i), mset mc (el h i).id k) ⟨e.1, e.2, hpm⟩
      · refine ca_ (fun R' q1 q2 => put_c t lim X r hc mc k (el hc (2 * k + 1 + 1)) (by omega) (by omega) R') fun _ _ => ?_
        exact ba_ (2 * k + 1 + 1, hc.set k.toNat (el hc (2 * k + 1 + 1)), mset mc (el hc (2 * k + 1 + 1)).id k) (down_step h0 hk hl (by omega) (by omega) hA hP hpm c3 (minA h0 c2.2)) (by simp only [List.length_set]; omega)
    · refine if_ (fun c3 => ?_) (fun c3 => ?_)
      · refine ca_ (fun R' q1 q2 => put_c t lim X r hc mc k (el h i) (by omega) (by omega) R') fun _ _ => ?_
        have e := down_end h0 hk hA hP fun j j1 j2 j3 => ahead_ord.tr (minB h0 c2 j j1 j2 j3) c3
        exact rn_ (hc.set k.toNat (el h i), mset mc (el h i).id k) ⟨e.1, e.2, hpm⟩
      · refine ca_ (fun R' q1 q2 => put_c t lim X r hc mc k (el hc (2 * k + 1)) (by omega) (by omega) R') fun _ _ => ?_
        exact ba_ (2 * k + 1, hc.set k.toNat (el hc (2 * k + 1)), mset mc (el hc (2 * k + 1)).id k) (down_step h0 hk hl (by omega) (by omega) hA hP hpm c3 (minB h0 c2)) (by simp only [List.length_set]; omega)
  · refine ca_ (fun R' q1 q2 => put_c t lim X r hc mc k (el h i) (by omega) (by omega) R') fun _ _ => ?_
    have e := down_end h0 hk hA hP fun j j1 j2 j3 => by unfold par at j3; omega
    exact rn_ (hc.set k.toNat (el h i), mset mc (el h i).id k) ⟨e.1, e.2, hpm⟩
end Go.Proofs.YtdallmabajeajaaGreatDoor.Fw
set_option linter.all false
set_option maxHeartbeats 4000000
set_option maxRecDepth 100000
namespace Go.Proofs.YtdallmabajeajaaGreatDoor.Fw
open Go
theorem Pl.nd {h : List Qtimer_one} {m : List (Int × Int)} (q : Pl h m) : (h.map (·.id)).Nodup := by
  unfold List.Nodup
  rw [List.pairwise_map, List.pairwise_iff_getElem]
  intro a b ha hb hab e
  have := q.n a b ha hb (by simpa [gt, List.getD_eq_getElem?_getD, ha, hb] using e)
  omega
theorem rest_filter {h r : List Qtimer_one} {x : Qtimer_one} (hn : (h.map (·.id)).Nodup) (hp : h.Perm (x :: r)) : (h.filter fun y => decide (y.id ≠ x.id)).Perm r := by
  have h1 : ((x :: r).map (·.id)).Nodup := (hp.map _).nodup_iff.1 hn
  rw [List.map_cons, List.nodup_cons] at h1
  refine (hp.filter _).trans ?_
  rw [List.filter_cons_of_neg (by simp), List.filter_eq_self.2 fun y hy => by
    simp only [decide_eq_true_eq]
    intro e
    exact h1.1 (e ▸ List.mem_map_of_mem (f := (·.id)) hy)]
theorem set_c (t : Addr) (lim : Int) (X : SH) (r : Nat) (h : List Qtimer_one) (m : List (Int × Int)) (id tm : Int) (hn : h.length ≤ 65535) (hf : mget m id = none → h.length < lim) (hh0 : Heap ahead h) (hp : Pl h m) (R : Hh) : Ctr (τ := SH × List Qtimer_one × List (Int × Int)) Tryz.prog 106 [.pointer (some (padd t 0)), .int .i64 id, .int .i64 tm] R [Bx t 157 (ctimer_Timers ⟨lim, X, some r⟩), Sv 2 224 X.v (h.map ctimer_one), Mp r (vInt .i64) (vInt .i64) m] (fun x => Heap ahead x.2.1 ∧ Pl x.2.1 x.2.2 ∧ x.2.1.Perm (⟨id, tm⟩ :: h.filter fun y => decide (y.id ≠ id))) (fun _ => .int .i64 0) (fun x => [Bx t 157 (ctimer_Timers ⟨lim, x.1, some r⟩), Sv 2 224 x.1.v (x.2.1.map ctimer_one), Mp r (vInt .i64) (vInt .i64) x.2.2]) := by
  refine in_ Tryz.func106 fun w0 => ?_
  refine if_ (fun c1 => ?_) (fun c1 => ?_)
  · have hg : mget m id = none := by simpa using c1
    have hlt := hf hg
    refine if_ (fun c2 => ?_) (fun c2 => ?_)
    · omega
    · refine sl_ fun U => ?_
      refine ap_ fun Z => ?_
      have e : (h ++ [(⟨0, 0⟩ : Qtimer_one)]).set ((h.length : Nat) : Int).toNat ⟨id, tm⟩ = h ++ [⟨id, tm⟩] := by simp
      refine ca_ (fun R' q1 q2 => put_c t lim Z r (h ++ [⟨0, 0⟩]) m h.length ⟨id, tm⟩ (by omega) (by simp; omega) R') fun _ _ => ?_
      rw [e]
      have p2 : Pl (h ++ [⟨id, tm⟩]) (mset m id h.length) := hp.app (x := ⟨id, tm⟩) hg
      refine ca_ (fun R' q1 q2 => up_c t lim Z r (h ++ [⟨id, tm⟩]) (mset m id h.length) h.length (by simp; omega) (by simp) (heap_app hh0) p2 R') fun ⟨h3, m3, i3⟩ f3 => ?_
      dsimp only at f3
      obtain ⟨g1, g2, g3, g4, g5⟩ := f3
      have hg3 : mget m3 id = some (i3 : Int) := by
        have := g2.at g4
        rwa [g5, gt_last] at this
      dsimp only
      simp only [hg3, Option.getD_some]
      have hl3 := g3.length_eq
      simp only [List.length_append, List.length_cons, List.length_nil] at hl3
      refine ca_ (fun R' q1 q2 => down_c t lim Z r h3 m3 i3 (by omega) g4 g1 g2 R') fun ⟨h4, m4⟩ f4 => ?_
      refine rt_ (Z, h4, m4) ⟨f4.1, f4.2.1, ?_⟩
      have hfl : h.filter (fun y => decide (y.id ≠ id)) = h := List.filter_eq_self.2 fun y hy => by simpa using hp.none.1 hg y hy
      rw [hfl]
      exact f4.2.2.trans (g3.trans List.perm_append_comm)
  · obtain ⟨v, hg⟩ := Option.isSome_iff_exists.1 c1
    obtain ⟨j, hj, rfl, hid⟩ := hp.get hg
    simp only [hg, Option.getD_some]
    have e : h.set ((j : Nat) : Int).toNat ⟨id, tm⟩ = h.set j ⟨id, tm⟩ := by simp
    refine ca_ (fun R' q1 q2 => put_c t lim X r h m j ⟨id, tm⟩ (by omega) (by omega) R') fun _ _ => ?_
    rw [e]
    have p2 : Pl (h.set j ⟨id, tm⟩) (mset m id j) := hp.same (x := ⟨id, tm⟩) hj hid.symm
    refine ca_ (fun R' q1 q2 => up_c t lim X r (h.set j ⟨id, tm⟩) (mset m id j) j (by simp; omega) (by simpa using hj) (heap_set ahead_ord hh0) p2 R') fun ⟨h3, m3, i3⟩ f3 => ?_
    dsimp only at f3
    obtain ⟨g1, g2, g3, g4, g5⟩ := f3
    have hg3 : mget m3 id = some (i3 : Int) := by
      have := g2.at g4
      rwa [g5, gt_set_eq hj] at this
    dsimp only
    simp only [hg3, Option.getD_some]
    have hl3 := g3.length_eq
    simp only [List.length_set] at hl3
    refine ca_ (fun R' q1 q2 => down_c t lim X r h3 m3 i3 (by omega) g4 g1 g2 R') fun ⟨h4, m4⟩ f4 => ?_
    refine rt_ (X, h4, m4) ⟨f4.1, f4.2.1, ?_⟩
    obtain ⟨rr, r1, r2⟩ := set_perm hj
    have := rest_filter hp.nd r1
    rw [hid] at this
    exact f4.2.2.trans (g3.trans ((r2 _).trans (this.symm.cons _)))
end Go.Proofs.YtdallmabajeajaaGreatDoor.Fw
set_option linter.all false
set_option maxHeartbeats 4000000
set_option maxRecDepth 100000
namespace Go.Proofs.YtdallmabajeajaaGreatDoor.Fw
open Go
section
variable {l : List Qtimer_one} {m : List (Int × Int)} {i : Nat} {y : Qtimer_one}
theorem pl_last (q : Pl (l ++ [y]) m) : Pl l (mdel m y.id) := by
  have hy : l.length < (l ++ [y]).length := by simp
  have key : ∀ j, j < l.length → (gt l j).id ≠ y.id := fun j hj e => by
    have := q.n j l.length (by simp; omega) hy (by rw [gt_app hj, gt_last]; exact e)
    omega
  refine ⟨q.d.del, fun a b ha hb e => ?_, fun j hj _ => ?_, fun k v e => ?_⟩
  · exact q.n a b (by simp; omega) (by simp; omega) (by rw [gt_app ha, gt_app hb]; exact e)
  · rw [mget_del q.d, if_neg (key j hj)]
    have := q.at (i := j) (by simp; omega)
    rwa [gt_app hj] at this
  · rw [mget_del q.d] at e
    split at e
    · cases e
    · rename_i hk
      obtain ⟨j, hj, e2⟩ := q.c k v e
      by_cases hl : j < l.length
      · exact ⟨j, hl, by rwa [gt_app hl] at e2⟩
      · rw [List.length_append, List.length_cons, List.length_nil] at hj
        rw [show j = l.length by omega, gt_last] at e2
        exact absurd e2.symm hk
theorem pl_cut (q : Pl (l ++ [y]) m) (hi : i < l.length) : Pl (l.set i y) (mset (mdel m (gt l i).id) y.id i) := by
  have hy : l.length < (l ++ [y]).length := by simp
  have key : ∀ j, j < l.length → (gt l j).id ≠ y.id := fun j hj e => by
    have := q.n j l.length (by simp; omega) hy (by rw [gt_app hj, gt_last]; exact e)
    omega
  have key2 : ∀ a b, a < l.length → b < l.length → (gt l a).id = (gt l b).id → a = b := fun a b ha hb e =>
    q.n a b (by simp; omega) (by simp; omega) (by rw [gt_app ha, gt_app hb]; exact e)
  have hd := q.d.del (k := (gt l i).id)
  refine ⟨hd.set, fun a b ha hb e => ?_, fun j hj _ => ?_, fun k v e => ?_⟩
  · rw [List.length_set] at ha hb
    by_cases h1 : i = a <;> by_cases h2 : i = b
    · omega
    · subst h1; rw [gt_set_eq hi, gt_set_ne h2] at e; exact absurd e.symm (key b hb)
    · subst h2; rw [gt_set_eq hi, gt_set_ne h1] at e; exact absurd e (key a ha)
    · rw [gt_set_ne h1, gt_set_ne h2] at e; exact key2 a b ha hb e
  · rw [List.length_set] at hj
    rw [mget_set hd]
    by_cases h1 : i = j
    · subst h1; rw [gt_set_eq hi]; simp
    · rw [gt_set_ne h1, if_neg (key j hj), mget_del q.d, if_neg (fun e => h1 (key2 i j hi hj e.symm))]
      have := q.at (i := j) (by simp; omega)
      rwa [gt_app hj] at this
  · rw [mget_set hd] at e
    split at e
    · rename_i hk; exact ⟨i, by simpa using hi, by rw [gt_set_eq hi, hk]⟩
    · rename_i hk
      rw [mget_del q.d] at e
      split at e
      · cases e
      · rename_i hk2
        obtain ⟨j, hj, e2⟩ := q.c k v e
        by_cases hl : j < l.length
        · rw [gt_app hl] at e2
          have : i ≠ j := fun h => hk2 (by rw [h]; exact e2.symm)
          exact ⟨j, by simpa using hl, by rw [gt_set_ne this, e2]⟩
        · rw [List.length_append, List.length_cons, List.length_nil] at hj
          rw [show j = l.length by omega, gt_last] at e2
          exact absurd e2.symm hk
theorem perm_cut (hi : i < l.length) : (l ++ [y]).Perm (gt l i :: l.set i y) := by
  obtain ⟨r, h1, h2⟩ := set_perm hi
  exact (List.perm_append_comm (l₂ := [y])).trans (((h1.cons y).trans (.swap _ _ _)).trans ((h2 y).symm.cons _))
end
theorem remove_c (t : Addr) (lim : Int) (X : SH) (r : Nat) (h : List Qtimer_one) (m : List (Int × Int)) (i : Nat) (hn : h.length ≤ 65535) (hi : i < h.length) (hh0 : Heap ahead h) (hp : Pl h m) (R : Hh) : Ctr (τ := SH × List Qtimer_one × List (Int × Int)) Tryz.prog 174 [.pointer (some (padd t 0)), .int .i64 (i : Int)] R [Bx t 157 (ctimer_Timers ⟨lim, X, some r⟩), Sv 2 224 X.v (h.map ctimer_one), Mp r (vInt .i64) (vInt .i64) m] (fun x => Heap ahead x.2.1 ∧ Pl x.2.1 x.2.2 ∧ h.Perm (gt h i :: x.2.1)) (fun _ => .agg ⟨ctimer_one (gt h i)⟩) (fun x => [Bx t 157 (ctimer_Timers ⟨lim, x.1, some r⟩), Sv 2 224 x.1.v (x.2.1.map ctimer_one), Mp r (vInt .i64) (vInt .i64) x.2.2]) := by
  refine in_ Tryz.func174 fun w0 => ?_
  refine ax_ fun b => ?_
  refine hh_ [[0, 1, 2, 3, 4, 5, 6, 7, 8, 9, 10, 11, 12], [13], [14], [15]] [[Bx t 157 (ctimer_Timers ⟨lim, X, some r⟩), Sv 2 224 X.v (h.map ctimer_one), Mp r (vInt .i64) (vInt .i64) m]] ?_
  refine ax_ fun b2 => ?_
  refine ax_ fun b3 => ?_
  have e0 : ((h.length : Int) - 1).toNat = h.length - 1 := by omega
  simp only [e0]
  refine sw_ (h.length - 1) ?_
  refine md_ ?_
  obtain ⟨l, y, rfl⟩ : ∃ l y, h = l ++ [y] := ⟨h.dropLast, h.getLast (by intro e; simp [e] at hi), (List.dropLast_concat_getLast _).symm⟩
  have e1 : (l ++ [y]).take ((l ++ [y]).length - 1) = l := by simp
  have e2 : el (l ++ [y]) (((l ++ [y]).length : Int) - 1) = y := by
    rw [show (((l ++ [y]).length : Int) - 1) = ((l.length : Nat) : Int) by simp, el_gt, gt_last]
  have e3 : el (l ++ [y]) (i : Int) = gt (l ++ [y]) i := el_gt
  simp only [e1, e2, e3]
  have hl : ((l ++ [y]).length : Int) - 1 = l.length := by simp
  simp only [List.length_append, List.length_cons, List.length_nil] at hn hi
  refine if_ (fun c1 => ?_) (fun c1 => ?_)
  · have c1 : i < l.length := by omega
    have e4 : l.set ((i : Nat) : Int).toNat y = l.set i y := by simp
    have e5 : gt (l ++ [y]) i = gt l i := gt_app c1
    simp only [e5]
    refine ca_ (fun R' q1 q2 => put_c t lim (upH X ((l ++ [y]).length - 1)) r l (mdel m (gt l i).id) i y (by omega) (by omega) R') fun _ _ => ?_
    rw [e4]
    refine ca_ (fun R' q1 q2 => up_c t lim (upH X ((l ++ [y]).length - 1)) r (l.set i y) (mset (mdel m (gt l i).id) y.id i) i (by simp; omega) (by simpa using c1) (heap_set ahead_ord (heap_shrink hh0)) (pl_cut hp c1) R') fun ⟨h3, m3, i3⟩ f3 => ?_
    dsimp only at f3
    obtain ⟨g1, g2, g3, g4, g5⟩ := f3
    have hg3 : mget m3 y.id = some (i3 : Int) := by
      have := g2.at g4
      rwa [g5, gt_set_eq c1] at this
    dsimp only
    simp only [hg3, Option.getD_some]
    have hl3 := g3.length_eq
    simp only [List.length_set] at hl3
    refine ca_ (fun R' q1 q2 => down_c t lim (upH X ((l ++ [y]).length - 1)) r h3 m3 i3 (by omega) g4 g1 g2 R') fun ⟨h4, m4⟩ f4 => ?_
    refine rtC_ (upH X ((l ++ [y]).length - 1), h4, m4) ⟨f4.1, f4.2.1, ?_⟩
    exact (perm_cut c1).trans (((f4.2.2.trans g3).symm).cons _)
  · have c1 : i = l.length := by omega
    subst c1
    simp only [gt_last]
    refine rtC_ (upH X ((l ++ [y]).length - 1), l, mdel m y.id) ⟨heap_shrink hh0, pl_last hp, List.perm_append_comm⟩
end Go.Proofs.YtdallmabajeajaaGreatDoor.Fw
set_option linter.all false
set_option maxHeartbeats 4000000
set_option maxRecDepth 100000
namespace Go.Proofs.YtdallmabajeajaaGreatDoor.Fw
open Go
theorem drop_c (t : Addr) (lim : Int) (X : SH) (r : Nat) (h : List Qtimer_one) (m : List (Int × Int)) (id : Int) (hn : h.length ≤ 65535) (hi : mget m id ≠ none) (hh0 : Heap ahead h) (hp : Pl h m) (R : Hh) : Ctr (τ := SH × List Qtimer_one × List (Int × Int)) Tryz.prog 134 [.pointer (some (padd t 0)), .int .i64 id] R [Bx t 157 (ctimer_Timers ⟨lim, X, some r⟩), Sv 2 224 X.v (h.map ctimer_one), Mp r (vInt .i64) (vInt .i64) m] (fun x => Heap ahead x.2.1 ∧ Pl x.2.1 x.2.2 ∧ x.2.1.Perm (h.filter fun y => decide (y.id ≠ id))) (fun _ => .int .i64 0) (fun x => [Bx t 157 (ctimer_Timers ⟨lim, x.1, some r⟩), Sv 2 224 x.1.v (x.2.1.map ctimer_one), Mp r (vInt .i64) (vInt .i64) x.2.2]) := by
  obtain ⟨v, hg⟩ := Option.ne_none_iff_exists'.1 hi
  obtain ⟨j, hj, rfl, hid⟩ := hp.get hg
  refine in_ Tryz.func134 fun w0 => ?_
  simp only [hg, Option.isSome_some, Option.getD_some, Bool.not_true]
  refine run_ ?_
  refine ca_ (fun R' q1 q2 => remove_c t lim X r h m j hn hj hh0 hp R') fun ⟨X2, h2, m2⟩ f => ?_
  refine rt_ (X2, h2, m2) ⟨f.1, f.2.1, ?_⟩
  have := rest_filter hp.nd f.2.2
  rw [hid] at this
  exact this.symm
theorem filt_split {h O hc : List Qtimer_one} {now : Int} (z3 : h.Perm (O ++ hc)) (z4 : ∀ x ∈ O, x.at_ ≤ now) (z5 : ∀ x ∈ hc, now < x.at_) : hc.Perm (h.filter fun y => decide (now < y.at_)) ∧ O.Perm (h.filter fun y => decide (y.at_ ≤ now)) := by
  constructor
  · refine ((z3.filter _).trans ?_).symm
    rw [List.filter_append, List.filter_eq_nil_iff.2 (fun x hx => by have := z4 x hx; simp; omega), List.nil_append, List.filter_eq_self.2 fun x hx => by simpa using z5 x hx]
  · refine ((z3.filter _).trans ?_).symm
    have e : hc.filter (fun y => decide (y.at_ ≤ now)) = [] := List.filter_eq_nil_iff.2 fun x hx => by have := z5 x hx; simp; omega
    rw [List.filter_append, e, List.append_nil, List.filter_eq_self.2 fun x hx => by simpa using z4 x hx]
theorem heap_all {hc : List Qtimer_one} {now : Int} (z1 : Heap ahead hc) (h : ¬ (0 < (hc.length : Int) ∧ (el hc 0).at_ ≤ now)) : ∀ x ∈ hc, now < x.at_ := fun x hx => by
  obtain ⟨i, hi, rfl⟩ := mem_gt hx
  have h1 := heap_top ahead_ord z1 i hi
  have h2 : el hc 0 = gt hc 0 := rfl
  rw [h2] at h
  unfold ahead at h1
  omega
theorem due_c (t : Addr) (lim : Int) (X : SH) (r : Nat) (h : List Qtimer_one) (m : List (Int × Int)) (now : Int) (hn : h.length ≤ 65535) (hh0 : Heap ahead h) (hp : Pl h m) (R : Hh) : Ctr (τ := (SH × List Qtimer_one × List (Int × Int)) × SH × List Int) Tryz.prog 127 [.pointer (some (padd t 0)), .int .i64 now] R [Bx t 157 (ctimer_Timers ⟨lim, X, some r⟩), Sv 2 224 X.v (h.map ctimer_one), Mp r (vInt .i64) (vInt .i64) m] (fun x => Heap ahead x.1.2.1 ∧ Pl x.1.2.1 x.1.2.2 ∧ x.1.2.1.Perm (h.filter fun y => decide (now < y.at_)) ∧ ∃ O : List Qtimer_one, x.2.2 = O.map (·.id) ∧ O.Perm (h.filter fun y => decide (y.at_ ≤ now))) (fun x => x.2.1.v) (fun x => [Bx t 157 (ctimer_Timers ⟨lim, x.1.1, some r⟩), Sv 2 224 x.1.1.v (x.1.2.1.map ctimer_one), Mp r (vInt .i64) (vInt .i64) x.1.2.2, Sv 1 3 x.2.1.v (x.2.2.map (cInt .i64))]) := by
  refine in_ Tryz.func127 fun w0 => ?_
  refine nil_ (cInt .i64) 1 3 ?_
  refine lo_ (fun z : (SH × List Qtimer_one × List (Int × Int)) × SH × List Int => [(5, z.2.1.v)]) (fun z => [Bx t 157 (ctimer_Timers ⟨lim, z.1.1, some r⟩), Sv 2 224 z.1.1.v (z.1.2.1.map ctimer_one), Mp r (vInt .i64) (vInt .i64) z.1.2.2, Sv 1 3 z.2.1.v (z.2.2.map (cInt .i64))]) (fun z => Heap ahead z.1.2.1 ∧ Pl z.1.2.1 z.1.2.2 ∧ ∃ O : List Qtimer_one, z.2.2 = O.map (·.id) ∧ h.Perm (O ++ z.1.2.1) ∧ ∀ x ∈ O, x.at_ ≤ now) (fun z => z.1.2.1.length) ((X, h, m), nilH, []) ⟨hh0, hp, [], rfl, .refl _, by simp⟩ fun ⟨⟨X, hc, mc⟩, U, is⟩ hz => ?_
  dsimp only at hz
  obtain ⟨z1, z2, O, z0, z3, z4⟩ := hz
  have hln := z3.length_eq
  rw [List.length_append] at hln
  have hli : is.length = O.length := by rw [z0, List.length_map]
  dsimp only
  refine if_ (fun c1 => ?_) (fun c1 => ?_)
  · refine ca_ (fun R' q1 q2 => remove_c t lim X r hc mc 0 (by omega) (by omega) z1 z2 R') fun ⟨X2, h2, m2⟩ f => ?_
    dsimp only at f
    refine sl_ fun V => ?_
    refine ap_ fun W => ?_
    have hln2 := f.2.2.length_eq
    rw [List.length_cons] at hln2
    refine ba_ ((X2, h2, m2), W, is ++ [(gt hc 0).id]) ⟨f.1, f.2.1, O ++ [gt hc 0], by simp [z0], ?_, ?_⟩
    · rw [List.append_assoc]; exact z3.trans (List.Perm.append_left O f.2.2)
    · intro x hx
      rcases List.mem_append.1 hx with hx | hx
      · exact z4 x hx
      · rw [List.mem_singleton] at hx; rw [hx]; exact c1.2
  · have e := filt_split z3 z4 (heap_all z1 (by rintro ⟨h1, h2⟩; omega))
    exact rt_ ((X, hc, mc), U, is) ⟨z1, z2, e.1, O, z0, e.2⟩
end Go.Proofs.YtdallmabajeajaaGreatDoor.Fw
set_option linter.all false
set_option maxHeartbeats 4000000
set_option maxRecDepth 100000
namespace Go.Proofs.YtdallmabajeajaaGreatDoor.Fw
open Go
theorem mid_eq {i j : Nat} (h : i + j < 4611686018427387904) : IntKind.i64.wrap ((IntKind.u64.wrap ((i : Int) + j)).fdiv (2 ^ min (1 : Int).toNat IntKind.u64.bits)) = (((i + j) / 2 : Nat) : Int) := by
  have e : (2 : Int) ^ min (Int.toNat 1) IntKind.u64.bits = 2 := by decide
  rw [e, Int.fdiv_eq_ediv_of_nonneg _ (by decide)]
  simp only [IntKind.wrap, IntKind.bits, IntKind.signed]
  simp
  omega
theorem search_c (f : FuncId) (cap : List Value) (g : Nat → Bool) (n : Nat) (R : Hh) (Pc : List HP) (hf : callable Tryz.prog f = true) (hn : n < 1152921504606846976) (hm : ∀ i j, i ≤ j → j < n → g i = true → g j = true) (h : ∀ i : Nat, i < n → Ctp Tryz.prog f (.int .i64 (i : Int) :: cap) R Pc (.bool (g i))) :
    Ctr (τ := Nat) Tryz.prog 141 [.int .i64 (n : Int), .func (.func f) ⟨[]⟩ ⟨cap⟩] R Pc (fun k => k ≤ n ∧ (∀ i, i < k → g i = false) ∧ (∀ i, k ≤ i → i < n → g i = true)) (fun k => .int .i64 (k : Int)) (fun _ => Pc) := by
  refine in_ Tryz.func141 fun w0 => ?_
  refine lo_ (fun z : Nat × Nat => [(5, .int .i64 (z.1 : Int)), (6, .int .i64 (z.2 : Int))]) (fun _ => []) (fun z => z.1 ≤ z.2 ∧ z.2 ≤ n ∧ (∀ i, i < z.1 → g i = false) ∧ (∀ i, z.2 ≤ i → i < n → g i = true)) (fun z => z.2 - z.1) (0, n) ⟨by omega, by omega, by omega, by omega⟩ fun ⟨i, j⟩ hz => ?_
  dsimp only at hz
  obtain ⟨z1, z2, z3, z4⟩ := hz
  dsimp only
  refine if_ (fun c1 => ?_) (fun c1 => ?_)
  · simp only [mid_eq (i := i) (j := j) (by omega)]
    refine csm_ (h ((i + j) / 2) (by omega)) ?_ (hf := hf)
    refine if_ (fun c2 => ?_) (fun c2 => ?_)
    · refine ba_ ((i + j) / 2 + 1, j) ⟨by dsimp only; omega, z2, fun k hk => ?_, z4⟩ (by dsimp only; omega) (hP := Sub.rfl')
      dsimp only at hk
      cases hg : g k with
      | false => rfl
      | true => rw [hm k ((i + j) / 2) (by omega) (by omega) hg] at c2; cases c2
    · exact ba_ (i, (i + j) / 2) ⟨by dsimp only; omega, by dsimp only; omega, z3, fun k hk hk2 => hm _ k hk hk2 c2⟩ (by dsimp only; omega) (hP := Sub.rfl')
  · refine rt_ i ⟨by omega, z3, fun k hk hk2 => z4 k (by omega) hk2⟩ (hz := Sub.rfl')
structure PG where
  net : QPrefix
  sl : Int
  mn : Int
  mx : Int
  K : SH
  ik : Nat
  ks : List Int
  km : List (Int × Int)
abbrev PG.c (g : PG) (X : SH) : Qpool_Pool := ⟨g.net, g.sl, g.mn, g.mx, g.K, some g.ik, X⟩
abbrev plP (p : Addr) (g : PG) (X : SH) (rs : List Qpool_run) : List HP := [Bx p 163 (cpool_Pool (g.c X)), Sv 2 222 X.v (rs.map cpool_run), Sv 1 2 g.K.v (g.ks.map (cInt .i64)), Mp g.ik (vInt .i64) (vInt .i64) g.km]
abbrev RunsP : List Qpool_run → Prop := Runs Qpool_run.from_ Qpool_run.to
abbrev inP : List Qpool_run → Int → Prop := inR Qpool_run.from_ Qpool_run.to
theorem at1_c (p : Addr) (b2 b3 : Addr) (g : PG) (X : SH) (rs : List Qpool_run) (n : Int) (i : Nat) (hi : i < rs.length) (R : Hh) : Ctp Tryz.prog 142 [.int .i64 (i : Int), .pointer (some (padd b2 0)), .pointer (some (padd b3 0))] R (Bx b3 2 [.int .i64 n] :: Bx b2 118 [.pointer (some (padd p 0))] :: plP p g X rs) (.bool (decide (n ≤ (gt rs i).to))) := by
  refine in_ Tryz.func142 fun w0 => ?_
  refine re_ ?_
  simp [pack, el_gt]
theorem runs_rise {rs : List Qpool_run} (h : RunsP rs) {i j : Nat} (hij : i ≤ j) (hj : j < rs.length) : (gt rs i).to ≤ (gt rs j).to := by
  by_cases e : i = j
  · subst e; omega
  · have h1 := List.pairwise_iff_getElem.1 h.1 i j (by omega) hj (by omega)
    have h2 := h.2 rs[j] (by simp)
    have e1 : gt rs i = rs[i] := by simp [gt, List.getD_eq_getElem?_getD]; rw [List.getElem?_eq_getElem (by omega)]; rfl
    have e2 : gt rs j = rs[j] := by simp [gt, List.getD_eq_getElem?_getD]; rw [List.getElem?_eq_getElem (by omega)]; rfl
    rw [e1, e2]
    omega
theorem place_of {rs : List Qpool_run} {n : Int} {k : Nat} (h0 : k ≤ rs.length) (h1 : ∀ i, i < k → decide (n ≤ (gt rs i).to) = false) (h2 : ∀ i, k ≤ i → i < rs.length → decide (n ≤ (gt rs i).to) = true) : PlaceR Qpool_run.to rs n k := by
  refine ⟨h0, fun a ha => ?_, fun b hb => ?_⟩
  · obtain ⟨i, hi, rfl⟩ := List.mem_iff_getElem.1 ha
    rw [List.length_take] at hi
    have := h1 i (by omega)
    have e1 : gt rs i = rs[i] := by simp [gt, List.getD_eq_getElem?_getD]; rw [List.getElem?_eq_getElem (by omega)]; rfl
    rw [e1, decide_eq_false_iff_not] at this
    rw [List.getElem_take]
    omega
  · obtain ⟨i, hi, rfl⟩ := List.mem_iff_getElem.1 hb
    rw [List.length_drop] at hi
    have := h2 (k + i) (by omega) (by omega)
    have e1 : gt rs (k + i) = rs[k + i] := by simp [gt, List.getD_eq_getElem?_getD]; rw [List.getElem?_eq_getElem (by omega)]; rfl
    rw [e1, decide_eq_true_eq] at this
    rw [List.getElem_drop]
    exact this
theorem at_c (p : Addr) (g : PG) (X : SH) (rs : List Qpool_run) (n : Int) (hl : rs.length ≤ 65536) (hr : RunsP rs) (R : Hh) : Ctr (τ := Nat) Tryz.prog 104 [.pointer (some (padd p 0)), .int .i64 n] R (plP p g X rs) (fun k => PlaceR Qpool_run.to rs n k) (fun k => .tuple #[.int .i64 (k : Int), .bool (decide (k < rs.length ∧ (gt rs k).from_ ≤ n))]) (fun _ => plP p g X rs) := by
  refine in_ Tryz.func104 fun w0 => ?_
  refine bo_' fun b2 => ?_
  refine bo_' fun b3 => ?_
  refine ca_ (fun R' q1 q2 => search_c 142 [.pointer (some (padd b2 0)), .pointer (some (padd b3 0))] (fun i => decide (n ≤ (gt rs i).to)) rs.length R' (Bx b3 2 [.int .i64 n] :: Bx b2 118 [.pointer (some (padd p 0))] :: plP p g X rs) (cat rfl) (by omega) (fun i j h1 h2 h3 => ?_) (fun i hi => at1_c p b2 b3 g X rs n i hi R')) fun k hk => ?_
  · have := runs_rise hr h1 h2
    simp only [decide_eq_true_eq] at h3 ⊢
    omega
  · have e : (bif decide ((k : Int) < rs.length) then decide ((el rs (k : Int)).from_ ≤ n) else false) = decide (k < rs.length ∧ (gt rs k).from_ ≤ n) := by
      rw [el_gt]; by_cases h : k < rs.length <;> simp [h]
    simp only [e]
    exact rt_ k (place_of hk.1 hk.2.1 hk.2.2)
theorem pw_fdiv {n : Int} (h0 : 0 ≤ n) (h1 : n ≤ 32) : (2 : Int) ^ min (32 - n).toNat IntKind.i64.bits = pw n := by
  unfold pw
  rw [show min (32 - n).toNat IntKind.i64.bits = (32 - n).toNat by simp only [IntKind.bits]; omega]
theorem number_c (p : Addr) (g : PG) (X : SH) (a : Int) (h0 : 0 ≤ a) (h1 : a < 4294967296) (hz0 : 0 ≤ g.sl) (hz1 : g.sl ≤ 32) (R : Hh) : Ctp Tryz.prog 91 [.pointer (some (padd p 0)), .int .u32 a] R [Bx p 163 (cpool_Pool (g.c X))] (.int .i64 (a / pw g.sl)) := by
  have e1 : IntKind.i64.wrap a = a := wrap_i64 (by omega) (by omega)
  have t0 : 0 ≤ (g.c X).sublen := hz0
  have t1 : (g.c X).sublen ≤ 32 := hz1
  refine in_ Tryz.func91 fun w0 => ?_
  refine re_ ?_
  simp only [pack, e1]
  rw [pw_fdiv t0 t1, Int.fdiv_eq_ediv_of_nonneg _ (Int.le_of_lt pw_pos)]
theorem subnet_c (p : Addr) (g : PG) (X : SH) (k : Int) (h0 : 0 ≤ k) (h1 : k * pw g.sl < 4294967296) (hz0 : 0 ≤ g.sl) (hz1 : g.sl ≤ 32) (R : Hh) : Ctp Tryz.prog 197 [.pointer (some (padd p 0)), .int .i64 k] R [Bx p 163 (cpool_Pool (g.c X))] (.agg ⟨cPrefix ⟨k * pw g.sl, g.sl⟩⟩) := by
  have t0 : 0 ≤ (g.c X).sublen := hz0
  have t1 : (g.c X).sublen ≤ 32 := hz1
  refine in_ Tryz.func197 fun w0 => ?_
  refine ax_ fun b => ?_
  have e2 : IntKind.i64.wrap (k * pw (g.c X).sublen) = k * pw g.sl := wrap_i64 (by have := Int.mul_nonneg h0 (Int.le_of_lt (pw_pos (n := g.sl))); show _ ≤ k * pw g.sl; omega) (by show k * pw g.sl ≤ _; omega)
  have e3 : IntKind.u32.wrap (k * pw g.sl) = k * pw g.sl := wrap32 (Int.mul_nonneg h0 (Int.le_of_lt pw_pos)) h1
  simp only [pw_fdiv t0 t1, e2, e3]
  exact reC_ rfl
end Go.Proofs.YtdallmabajeajaaGreatDoor.Fw
set_option linter.all false
set_option maxHeartbeats 4000000
set_option maxRecDepth 100000
namespace Go.Proofs.YtdallmabajeajaaGreatDoor.Fw
open Go
section
variable {rs A B : List Qpool_run} {r y x : Qpool_run} {n : Int} {k : Nat}
theorem split_at (h : k < rs.length) : rs = rs.take k ++ gt rs k :: rs.drop (k + 1) := by
  conv => lhs; rw [← List.take_append_drop k rs, List.drop_eq_getElem_cons h]
  have e1 : gt rs k = rs[k] := by simp [gt, List.getD_eq_getElem?_getD, h]
  rw [e1]
theorem take_last (h : k < rs.length) : rs.take (k + 1) = rs.take k ++ [gt rs k] := by
  have e1 : gt rs k = rs[k] := by simp [gt, List.getD_eq_getElem?_getD, h]
  rw [List.take_succ, List.getElem?_eq_getElem h, e1]; rfl
theorem ahead_lt (R : RunsP rs) (p : PlaceR Qpool_run.to rs n k) (h : k = 0 ∨ (gt rs (k - 1)).to ≠ n - 1) : ∀ a ∈ rs.take k, a.to + 1 < n := fun a ha => by
  obtain ⟨i, hi, rfl⟩ := List.mem_iff_getElem.1 ha
  rw [List.length_take] at hi
  have h1 := p.2.1 _ ha
  have hkl := p.1
  rw [List.getElem_take] at h1 ⊢
  have h2 := runs_rise R (i := i) (j := k - 1) (by omega) (by omega)
  have h3 := p.2.1 (gt rs (k - 1)) (by
    rw [show k = (k - 1) + 1 by omega, take_last (by omega)]; simp)
  have e1 : gt rs i = rs[i] := by simp [gt, List.getD_eq_getElem?_getD]; rw [List.getElem?_eq_getElem (by omega)]; rfl
  rw [e1] at h2
  omega
theorem behind_gt (R : RunsP rs) (p : PlaceR Qpool_run.to rs n k) (hf : ¬ inP rs n) (h : rs.length ≤ k ∨ (gt rs k).from_ ≠ n + 1) : ∀ b ∈ rs.drop k, n + 1 < b.from_ := fun b hb => by
  have h0 := place_free R p hf
  by_cases hk : k < rs.length
  · have e := List.drop_eq_getElem_cons hk
    have e1 : gt rs k = rs[k] := by simp [gt, List.getD_eq_getElem?_getD, hk]
    rw [← e1] at e
    have h1 := h0 (gt rs k) (by rw [e]; simp)
    rw [e] at hb
    have R2 : RunsP (rs.drop k) := by
      rw [← List.take_append_drop k rs] at R; exact (Runs.app.1 R).2.1
    rw [e] at R2
    have R3 := Runs.cons.1 R2
    rcases List.mem_cons.1 hb with rfl | hb
    · omega
    · have := R3.2.2 b hb; omega
  · rw [List.drop_of_length_le (by omega)] at hb; cases hb
theorem put_in {z : Qpool_run} (h : k ≤ rs.length) : ((((rs ++ [z]).take (k + 1)) ++ (((rs ++ [z]).drop k).take ((rs ++ [z]).length - (k + 1)))).set k x) = rs.take k ++ x :: rs.drop k := by
  apply List.ext_getElem?
  intro i
  simp only [List.getElem?_set, List.getElem?_append, List.length_append, List.length_take, List.length_drop, List.length_cons, List.length_nil, List.getElem?_take, List.getElem?_drop]
  grind
theorem set_cut (h0 : 0 < k) (h : k < rs.length) : (rs.set (k - 1) x).take k ++ (rs.set (k - 1) x).drop (k + 1) = rs.take (k - 1) ++ x :: rs.drop (k + 1) := by
  apply List.ext_getElem?
  intro i
  simp only [List.getElem?_set, List.getElem?_append, List.length_append, List.length_take, List.length_drop, List.length_set, List.length_cons, List.length_nil, List.getElem?_take, List.getElem?_drop, List.getElem?_cons]
  grind
theorem split_two (h0 : 0 < k) (h : k < rs.length) : rs = rs.take (k - 1) ++ gt rs (k - 1) :: gt rs k :: rs.drop (k + 1) := by
  have h1 := split_at (rs := rs) (k := k - 1) (by omega)
  have h2 := split_at (rs := rs.drop k) (k := 0) (by simp; omega)
  rw [show k - 1 + 1 = k by omega] at h1
  have e : gt (rs.drop k) 0 = gt rs k := by simp [gt, List.getD_eq_getElem?_getD]
  rw [e] at h2
  simp only [List.take_zero, List.nil_append, List.drop_drop] at h2
  rw [show k + (0 + 1) = k + 1 by omega] at h2
  conv => lhs; rw [h1, h2]
end
theorem lay_c (p : Addr) (g : PG) (X : SH) (rs : List Qpool_run) (n : Int) (hl : rs.length ≤ 65000) (hr : RunsP rs) (h0 : 0 ≤ n) (h1 : n ≤ 4294967296) (hf : ¬ inP rs n) (R : Hh) : Ctr (τ := SH × List Qpool_run) Tryz.prog 105 [.pointer (some (padd p 0)), .int .i64 n] R (plP p g X rs) (fun x => RunsP x.2 ∧ (∀ m, inP x.2 m ↔ inP rs m ∨ m = n) ∧ x.2.length ≤ rs.length + 1) (fun _ => .tuple #[]) (fun x => plP p g x.1 x.2) := by
  refine in_ Tryz.func105 fun w0 => ?_
  refine ca_ (fun R' q1 q2 => at_c p g X rs n (by omega) hr R') fun k hk => ?_
  have hk1 := hk.1
  refine run_ ?_
  refine if_ (fun c1 => ?_) (fun c1 => ?_)
  · obtain ⟨⟨d1, d2⟩, d3, d4⟩ := c1
    have k0 : 0 < k := by omega
    have k1 : k < rs.length := by omega
    have e1 : ((k : Int) - 1) = ((k - 1 : Nat) : Int) := by omega
    rw [e1] at d2
    rw [el_gt] at d2 d4
    simp only [e1, Int.toNat_natCast]
    have hls : (rs.set (k - 1) ⟨(gt rs (k - 1)).from_, (gt rs k).to⟩).length = rs.length := by simp
    refine hh_ [[0], [1, 2, 3, 4, 5, 6, 7, 8, 9, 10, 11, 12, 13], [14], [15, 16], [17]] [[], [Bx p 163 (cpool_Pool (g.c X)), Sv 2 222 X.v ((rs.set (k - 1) ⟨(gt rs (k - 1)).from_, (gt rs k).to⟩).map cpool_run)]] ?_
    have e4 : ((k : Int) + 1).toNat = k + 1 := by omega
    simp only [Int.toNat_natCast, e4, el_gt]
    refine af_ k (k + 1) ?_
    simp only [set_cut (x := (⟨(gt rs (k - 1)).from_, (gt rs k).to⟩ : Qpool_run)) k0 k1]
    have e3 := split_two k0 k1
    have h5 := lay_both (f := Qpool_run.from_) (t := Qpool_run.to) (A := rs.take (k - 1)) (B := rs.drop (k + 1)) (r := gt rs (k - 1)) (y := gt rs k) (x := ⟨(gt rs (k - 1)).from_, (gt rs k).to⟩) (n := n) (e3 ▸ hr) d2 d4 rfl rfl
    refine rn_ (_, rs.take (k - 1) ++ ⟨(gt rs (k - 1)).from_, (gt rs k).to⟩ :: rs.drop (k + 1)) ⟨h5.1, by rw [← e3] at h5; exact h5.2, by simp; omega⟩
  · refine if_ (fun c2 => ?_) (fun c2 => ?_)
    · have k0 : 0 < k := by omega
      have e1 : ((k : Int) - 1) = ((k - 1 : Nat) : Int) := by omega
      obtain ⟨c2, c3⟩ := c2
      have c4 : rs.length ≤ k ∨ (gt rs k).from_ ≠ n + 1 := by rw [← el_gt]; omega
      rw [e1, el_gt] at c3
      have hn : k - 1 < rs.length := by omega
      have e2 : rs.set (k - 1) ⟨(gt rs (k - 1)).from_, n⟩ = rs.take (k - 1) ++ ⟨(gt rs (k - 1)).from_, n⟩ :: rs.drop k := by
        rw [List.set_eq_take_append_cons_drop, if_pos hn, show k - 1 + 1 = k by omega]
      simp only [e1, Int.toNat_natCast, el_gt, e2]
      have e3 := split_at hn
      rw [show k - 1 + 1 = k by omega] at e3
      have h5 := lay_left (f := Qpool_run.from_) (t := Qpool_run.to) (A := rs.take (k - 1)) (B := rs.drop k) (r := gt rs (k - 1)) (x := ⟨(gt rs (k - 1)).from_, n⟩) (n := n) (e3 ▸ hr) c3 (behind_gt hr hk hf c4) rfl rfl
      refine rn_ (X, rs.take (k - 1) ++ ⟨(gt rs (k - 1)).from_, n⟩ :: rs.drop k) ⟨h5.1, by rw [← e3] at h5; exact h5.2, by simp; omega⟩
    · refine if_ (fun c3 => ?_) (fun c3 => ?_)
      · rw [el_gt] at c3
        have hn : k < rs.length := by omega
        have e2 : rs.set k ⟨n, (gt rs k).to⟩ = rs.take k ++ ⟨n, (gt rs k).to⟩ :: rs.drop (k + 1) := by
          rw [List.set_eq_take_append_cons_drop, if_pos hn]
        simp only [Int.toNat_natCast, el_gt, e2]
        have e3 := split_at hn
        have h5 := lay_right (f := Qpool_run.from_) (t := Qpool_run.to) (A := rs.take k) (B := rs.drop (k + 1)) (r := gt rs k) (x := ⟨n, (gt rs k).to⟩) (n := n) (e3 ▸ hr) c3.2 (ahead_lt hr hk (by
          by_cases h : k = 0
          · exact .inl h
          · right; rw [show ((k : Int) - 1) = ((k - 1 : Nat) : Int) by omega, el_gt] at c2; omega)) rfl rfl
        refine rn_ (X, rs.take k ++ ⟨n, (gt rs k).to⟩ :: rs.drop (k + 1)) ⟨h5.1, by rw [← e3] at h5; exact h5.2, by simp; omega⟩
      · have hlen : (rs ++ [(⟨0, 0⟩ : Qpool_run)]).length = rs.length + 1 := by simp
        refine sl_ fun V => ?_
        refine ap_ fun W => ?_
        have e4 : ((k : Int) + 1).toNat = k + 1 := by omega
        simp only [Int.toNat_natCast, e4]
        have hlen2 : ((rs ++ [(⟨0, 0⟩ : Qpool_run)]).take (k + 1) ++ ((rs ++ [(⟨0, 0⟩ : Qpool_run)]).drop k).take ((rs ++ [(⟨0, 0⟩ : Qpool_run)]).length - (k + 1))).length = rs.length + 1 := by simp; omega
        refine ci_ k (k + 1) ?_
        simp only [Int.toNat_natCast, put_in hk1]
        have h5 := lay_new (f := Qpool_run.from_) (t := Qpool_run.to) (rs.take k) (rs.drop k) (x := ⟨n, n⟩) (n := n) (by rw [List.take_append_drop]; exact hr) (ahead_lt hr hk (by
          by_cases h : k = 0
          · exact .inl h
          · right; rw [show ((k : Int) - 1) = ((k - 1 : Nat) : Int) by omega, el_gt] at c2; omega)) (behind_gt hr hk hf (by rw [el_gt] at c3; omega)) rfl rfl
        rw [List.take_append_drop] at h5
        exact rn_ (W, rs.take k ++ ⟨n, n⟩ :: rs.drop k) ⟨h5.1, h5.2, by simp; omega⟩
end Go.Proofs.YtdallmabajeajaaGreatDoor.Fw
set_option linter.all false
set_option maxHeartbeats 4000000
set_option maxRecDepth 100000
namespace Go.Proofs.YtdallmabajeajaaGreatDoor.Fw
open Go
structure PI (g : PG) (rs : List Qpool_run) : Prop where
  runs : RunsP rs
  len : rs.length ≤ 64000
  num : ∀ m, inP rs m → 0 ≤ m ∧ m < 4294967296
  sl : 0 ≤ g.sl ∧ g.sl ≤ 32
  mn : 0 ≤ g.mn
  mx : g.mx < 4294967296
  mnx : g.mn ≤ g.mx
  top : ∀ n, n ≤ g.mx → n * pw g.sl < 4294967296
  klen : g.ks.length ≤ 1024
  ks : g.ks.Pairwise (· < ·)
  kn : ∀ m ∈ g.ks, 0 ≤ m ∧ m < 4294967296
  km : ∀ m, mget g.km m = some 1 ↔ m ∈ g.ks
  kd : KD g.km
def numP (g : PG) (s : QPrefix) : Int := s.Addr / pw g.sl
theorem claim_c (p : Addr) (g : PG) (X : SH) (rs : List Qpool_run) (s : QPrefix) (hI : PI g rs) (h0 : 0 ≤ s.Addr) (h1 : s.Addr < 4294967296) (h2 : s.Len = g.sl) (h3 : validM s = true) (h4 : contM g.net s.Addr = true) (h5 : (g.mn ≤ numP g s ∧ numP g s ≤ g.mx) ∨ numP g s ∈ g.ks) (R : Hh) :
    Ctr (τ := Bool × SH × List Qpool_run) Tryz.prog 65 [.pointer (some (padd p 0)), .agg ⟨cPrefix s⟩] R (plP p g X rs) (fun x => (x.1 = true ↔ ¬ inP rs (numP g s)) ∧ RunsP x.2.2 ∧ (∀ m, inP x.2.2 m ↔ inP rs m ∨ m = numP g s) ∧ x.2.2.length ≤ rs.length + 1 ∧ (x.1 = false → x.2.2 = rs)) (fun x => .int .i64 (if x.1 then 0 else 102)) (fun x => plP p g x.2.1 x.2.2) := by
  have hsl := hI.sl
  have hr := hI.runs
  have hl := hI.len
  have hn : 0 ≤ numP g s ∧ numP g s < 4294967296 := ⟨Int.ediv_nonneg h0 (Int.le_of_lt pw_pos), by have := Int.ediv_le_self (pw g.sl) h0; unfold numP; omega⟩
  refine in_ Tryz.func65 fun w0 => ?_
  refine bo_' fun b => ?_
  refine if_ (fun c1 => ?_) (fun c1 => ?_)
  · exfalso; simp [h2, h3] at c1
  · refine cp_ (fun R' q1 q2 => number_c p g X s.Addr h0 h1 hsl.1 hsl.2 R') ?_
    refine run4_ ?_
    have e1 : (bif !contM (g.c X).network s.Addr then true else bif bif decide (s.Addr / pw g.sl < (g.c X).min) then true else decide (s.Addr / pw g.sl > (g.c X).max) then (mget g.km (s.Addr / pw g.sl)).getD 0 == 0 else false) = false := by
      have e2 : contM (g.c X).network s.Addr = true := h4
      rw [e2]
      simp only [Bool.not_true, cond_false]
      rcases h5 with ⟨h5, h6⟩ | h5
      · have e3 : ¬ (s.Addr / pw g.sl < (g.c X).min) := by show ¬ (numP g s < g.mn); omega
        have e4 : ¬ (s.Addr / pw g.sl > (g.c X).max) := by show ¬ (numP g s > g.mx); omega
        simp [e3, e4]
      · have e3 : mget g.km (s.Addr / pw g.sl) = some 1 := (hI.km _).2 h5
        rw [e3]
        simp
    simp only [e1]
    refine run_ ?_
    refine ca_ (fun R' q1 q2 => at_c p g X rs (numP g s) (by omega) hr R') fun k hk => ?_
    have hp := place_in hr hk
    refine if_ (fun c2 => ?_) (fun c2 => ?_)
    · have hin : inP rs (numP g s) := hp.2 (by simpa using c2)
      refine rt_ (false, X, rs) ⟨by simp [hin], hr, fun m => ⟨fun h => .inl h, fun h => h.elim id fun e => e ▸ hin⟩, by dsimp only; omega, fun _ => rfl⟩
    · have hin : ¬ inP rs (numP g s) := fun h => by have := hp.1 h; simp at c2; omega
      refine ca_ (fun R' q1 q2 => lay_c p g X rs (numP g s) (by omega) hr hn.1 (by omega) hin R') fun ⟨X2, rs2⟩ f => ?_
      exact rt_ (true, X2, rs2) ⟨by simp [hin], f.1, f.2.1, f.2.2, fun h => by cases h⟩
theorem take1_c (p : Addr) (b1 b2 : Addr) (g : PG) (X : SH) (rs : List Qpool_run) (n : Int) (i : Nat) (hi : i < g.ks.length) (R : Hh) : Ctp Tryz.prog 196 [.int .i64 (i : Int), .pointer (some (padd b1 0)), .pointer (some (padd b2 0))] R (Bx b2 2 (cInt .i64 n) :: Bx b1 118 [.pointer (some (padd p 0))] :: plP p g X rs) (.bool (decide (n ≤ el g.ks (i : Int)))) := by
  refine in_ Tryz.func196 fun w0 => ?_
  refine re_ ?_
  simp [pack]
theorem ks_rise {l : List Int} (h : l.Pairwise (· < ·)) {i j : Nat} (hij : i ≤ j) (hj : j < l.length) : gt l i ≤ gt l j := by
  by_cases e : i = j
  · subst e; omega
  · have h1 := List.pairwise_iff_getElem.1 h i j (by omega) hj (by omega)
    have e1 : gt l i = l[i] := by simp [gt, List.getD_eq_getElem?_getD]; rw [List.getElem?_eq_getElem (by omega)]; rfl
    have e2 : gt l j = l[j] := by simp [gt, List.getD_eq_getElem?_getD]; rw [List.getElem?_eq_getElem (by omega)]; rfl
    rw [e1, e2]; omega
theorem drop_gt {rs : List Qpool_run} {k : Nat} (h : k < rs.length) : rs.drop k = gt rs k :: rs.drop (k + 1) := by
  have e1 : gt rs k = rs[k] := by simp [gt, List.getD_eq_getElem?_getD, h]
  rw [List.drop_eq_getElem_cons h, e1]
theorem gtI_mem {l : List Int} {k : Nat} (h : k < l.length) : gt l k ∈ l := by
  have e1 : gt l k = l[k] := by simp [gt, List.getD_eq_getElem?_getD, h]
  rw [e1]; simp
theorem mem_gtI {l : List Int} {x : Int} (h : x ∈ l) : ∃ k, k < l.length ∧ gt l k = x := by
  obtain ⟨i, hi, e⟩ := List.mem_iff_getElem.1 h
  exact ⟨i, hi, by simp [gt, List.getD_eq_getElem?_getD, hi, e]⟩
theorem gtR_mem {l : List Qpool_run} {k : Nat} (h : k < l.length) : gt l k ∈ l := by
  have e1 : gt l k = l[k] := by simp [gt, List.getD_eq_getElem?_getD, h]
  rw [e1]; simp
structure TkR (g : PG) (rs rs2 : List Qpool_run) (ok : Bool) (n : Int) : Prop where
  some : ok = true → g.mn ≤ n ∧ n ≤ g.mx ∧ ¬ inP rs n ∧ n ∉ g.ks ∧ (∀ m, g.mn ≤ m → m < n → inP rs m ∨ m ∈ g.ks) ∧ RunsP rs2 ∧ (∀ m, inP rs2 m ↔ inP rs m ∨ m = n) ∧ rs2.length ≤ rs.length + 1
  none : ok = false → rs2 = rs ∧ ∀ m, g.mn ≤ m → m ≤ g.mx → inP rs m ∨ m ∈ g.ks
theorem take_c (p : Addr) (g : PG) (X : SH) (rs : List Qpool_run) (hI : PI g rs) (R : Hh) :
    Ctr (τ := Bool × Int × SH × List Qpool_run) Tryz.prog 176 [.pointer (some (padd p 0))] R (plP p g X rs) (fun x => TkR g rs x.2.2.2 x.1 x.2.1) (fun x => .tuple #[.agg ⟨cPrefix (if x.1 then ⟨x.2.1 * pw g.sl, g.sl⟩ else ⟨0, 0⟩)⟩, .int .i64 (if x.1 then 0 else 4)]) (fun x => plP p g x.2.2.1 x.2.2.2) := by
  have hsl := hI.sl
  have hr := hI.runs
  have hl := hI.len
  have hkl := hI.klen
  refine in_ Tryz.func176 fun w0 => ?_
  refine bo_' fun b => ?_
  refine ax_ fun b2 => ?_
  refine ax_ fun b3 => ?_
  have hmn := hI.mn
  have hmx := hI.mx
  have hmnx := hI.mnx
  refine ca_ (fun R' q1 q2 => at_c p g X rs g.mn (by omega) hr R') fun k hk => ?_
  have hk1 := hk.1
  refine ca_ (fun R' q1 q2 => search_c 196 [.pointer (some (padd b 0)), .pointer (some (padd b3 0))] (fun i => decide (g.mn ≤ el g.ks (i : Int))) g.ks.length R' (Bx b3 2 (cInt .i64 g.mn) :: Bx b 118 [.pointer (some (padd p 0))] :: plP p g X rs) (cat rfl) (by omega) (fun i j h1 h2 h3 => ?_) (fun i hi => take1_c p b b3 g X rs g.mn i hi R')) fun j0 hj0 => ?_
  · have h3' : g.mn ≤ el g.ks (i : Int) := of_decide_eq_true h3
    rw [el_gt] at h3'
    have := ks_rise hI.ks h1 h2
    show decide (g.mn ≤ el g.ks (j : Int)) = true
    rw [el_gt, decide_eq_true_eq]
    omega
  obtain ⟨hj1, hj2, hj3⟩ := hj0
  refine lo_ (fun z : Int × Nat × Nat => [(5, .int .i64 (z.2.1 : Int)), (7, .int .i64 (z.2.2 : Int))]) (fun z => [Bx b3 2 (cInt .i64 z.1)]) (fun z => g.mn ≤ z.1 ∧ z.1 ≤ 4294967296 ∧ PlaceR Qpool_run.to rs z.1 z.2.1 ∧ z.2.2 ≤ g.ks.length ∧ (∀ a, a < z.2.2 → gt g.ks a < z.1) ∧ ∀ m, g.mn ≤ m → m < z.1 → inP rs m ∨ m ∈ g.ks) (fun z => (rs.length - z.2.1) + (g.ks.length - z.2.2)) (g.mn, k, j0) ⟨by omega, by omega, hk, hj1, fun a ha => by have := hj2 a ha; rw [el_gt] at this; simpa using this, fun m h1 h2 => by dsimp only at h2; omega⟩ fun ⟨n, i, j⟩ hz => ?_
  dsimp only at hz
  obtain ⟨z1, z2, z3, z4, z5, z6⟩ := hz
  have z3l := z3.1
  have hto : i < rs.length → 0 ≤ (el rs (i : Int)).to ∧ (el rs (i : Int)).to < 4294967296 := fun h => by
    have hm : gt rs i ∈ rs := gtR_mem h
    have := hr.2 _ hm
    rw [el_gt]
    exact hI.num _ ⟨_, hm, by omega, by omega⟩
  dsimp only
  refine if_ (fun c1 => ?_) (fun c1 => ?_)
  · refine if_ (fun c2 => ?_) (fun c2 => ?_)
    · obtain ⟨c2, c3⟩ := c2
      have hi : i < rs.length := by omega
      have e1 := split_at hi
      rw [el_gt] at c3
      have z3b := z3.2.2 (gt rs i) (by rw [drop_gt hi]; simp)
      have hR := hr
      rw [e1] at hR
      have hR2 := (Runs.app.1 hR)
      have hR3 := Runs.cons.1 hR2.2.1
      refine ba_ ((gt rs i).to + 1, i + 1, j) ⟨by dsimp only; omega, by have := hto hi; rw [el_gt] at this; dsimp only; omega, ⟨by dsimp only; omega, fun a ha => ?_, fun b hb => ?_⟩, z4, fun a ha => by have := z5 a ha; dsimp only; omega, fun m h1 h2 => ?_⟩ (by dsimp only; omega)
      · dsimp only at ha ⊢
        rw [take_last hi] at ha
        rcases List.mem_append.1 ha with ha | ha
        · have := z3.2.1 a ha; omega
        · rw [List.mem_singleton] at ha; rw [ha]; omega
      · dsimp only at hb ⊢
        have h3 := hR3.2.2 b hb
        have h4 := hr.2 b (List.mem_of_mem_drop hb)
        omega
      · dsimp only at h2
        by_cases h3 : m < n
        · exact z6 m h1 h3
        · left
          exact ⟨gt rs i, gtR_mem hi, by omega, by omega⟩
    · have hnin : ¬ inP rs n := fun h => by
        have := (place_in hr z3).1 h
        rw [el_gt] at c2
        omega
      refine lo_ (fun z : Nat => [(7, .int .i64 (z : Int))]) (fun _ => []) (fun z => j ≤ z ∧ z ≤ g.ks.length ∧ ∀ a, a < z → gt g.ks a < n) (fun z => g.ks.length - z) j ⟨by omega, z4, z5⟩ fun j2 hz2 => ?_
      obtain ⟨y1, y2, y3⟩ := hz2
      refine if_ (fun c3 => ?_) (fun c3 => ?_)
      · obtain ⟨c3, c4⟩ := c3
        have hj : j2 < g.ks.length := by omega
        rw [el_gt] at c4
        have e5 : ((j2 : Int) + 1 - 1) = ((j2 : Nat) : Int) := by omega
        simp only [e5, el_gt]
        refine run_ ?_
        refine if_ (fun c5 => ?_) (fun c5 => ?_)
        · refine ba_ (n + 1, i, j2 + 1) ⟨by dsimp only; omega, by dsimp only; omega, ⟨z3l, fun a ha => by have := z3.2.1 a ha; dsimp only; omega, fun b hb => ?_⟩, by dsimp only; omega, fun a ha => ?_, fun m h1 h2 => ?_⟩ (by dsimp only; omega)
          · have h3 := z3.2.2 b hb
            have h4 := place_free hr z3 hnin b hb
            have h5 := hr.2 b (List.mem_of_mem_drop hb)
            dsimp only
            omega
          · dsimp only at ha ⊢
            by_cases h : a < j2
            · have := y3 a h; omega
            · rw [show a = j2 by omega, c5]; omega
          · dsimp only at h2
            by_cases h3 : m < n
            · exact z6 m h1 h3
            · right
              rw [show m = n by omega, ← c5]
              exact gtI_mem hj
        · exact ba_ (j2 + 1) ⟨by omega, by omega, fun a ha => by
            by_cases h : a < j2
            · exact y3 a h
            · rw [show a = j2 by omega]; omega⟩
      · have hk3 : n ∉ g.ks := fun h => by
          obtain ⟨a, ha, e⟩ := mem_gtI h
          by_cases h2 : a < j2
          · have := y3 a h2; omega
          · have := ks_rise hI.ks (show j2 ≤ a by omega) ha
            rw [el_gt] at c3
            omega
        have hmul : 0 ≤ n := by omega
        refine ca_ (fun R' q1 q2 => lay_c p g X rs n (by omega) hr hmul (by omega) hnin R') fun ⟨X2, rs2⟩ f => ?_
        refine cp_ (fun R' q1 q2 => subnet_c p g X2 n hmul (hI.top n c1) hsl.1 hsl.2 R') ?_
        exact rm_ (true, n, X2, rs2) ⟨fun _ => ⟨z1, c1, hnin, hk3, z6, f.1, f.2.1, f.2.2⟩, fun h => by cases h⟩
  · refine rm_ (false, 0, X, rs) ⟨fun h => (by cases h), fun _ => ⟨rfl, fun m h1 h2 => z6 m h1 (by omega)⟩⟩
end Go.Proofs.YtdallmabajeajaaGreatDoor.Fw
set_option linter.all false
set_option maxHeartbeats 4000000
set_option maxRecDepth 100000
namespace Go.Proofs.YtdallmabajeajaaGreatDoor.Fw
open Go
theorem free_c (p : Addr) (g : PG) (X : SH) (rs : List Qpool_run) (s : QPrefix) (hI : PI g rs) (h0 : 0 ≤ s.Addr) (h1 : s.Addr < 4294967296) (h2 : s.Len = g.sl) (h3 : validM s = true) (h4 : inP rs (numP g s)) (R : Hh) :
    Ctr (τ := SH × List Qpool_run) Tryz.prog 133 [.pointer (some (padd p 0)), .agg ⟨cPrefix s⟩] R (plP p g X rs) (fun x => RunsP x.2 ∧ (∀ m, inP x.2 m ↔ inP rs m ∧ m ≠ numP g s) ∧ x.2.length ≤ rs.length + 1) (fun x => .int .i64 0) (fun x => plP p g x.1 x.2) := by
  have hsl := hI.sl
  have hr := hI.runs
  have hl := hI.len
  have hn : 0 ≤ numP g s ∧ numP g s < 4294967296 := ⟨Int.ediv_nonneg h0 (Int.le_of_lt pw_pos), by have := Int.ediv_le_self (pw g.sl) h0; unfold numP; omega⟩
  refine in_ Tryz.func133 fun w0 => ?_
  refine bo_' fun b => ?_
  refine if_ (fun c1 => ?_) (fun c1 => ?_)
  · exfalso; simp [h2, h3] at c1
  · refine cp_ (v := .int .i64 (numP g s)) (fun R' q1 q2 => number_c p g X s.Addr h0 h1 hsl.1 hsl.2 R') ?_
    refine ca_ (fun R' q1 q2 => at_c p g X rs (numP g s) (by omega) hr R') fun k hk => ?_
    have hp := (place_in hr hk).1 h4
    have hkl := hk.1
    have ed : decide (k < rs.length ∧ (gt rs k).from_ ≤ numP g s) = true := decide_eq_true hp
    simp only [ed]
    refine run_ ?_
    refine ax_ fun b2 => ?_
    have hb := hI.num _ ⟨gt rs k, gtR_mem hp.1, hp.2, hk.2.2 _ (by rw [drop_gt hp.1]; simp)⟩
    have hto := hk.2.2 (gt rs k) (by rw [drop_gt hp.1]; simp)
    have hrg := hr.2 (gt rs k) (gtR_mem hp.1)
    refine nil_ cpool_run 2 222 ?_
    simp only [el_gt]
    refine jm_ (ι := SH × List Qpool_run) (fun z => [(9, z.1.v)]) (fun z => [Sv 2 222 z.1.v (z.2.map cpool_run)]) [Sv 2 222 nilH.v (([] : List Qpool_run).map cpool_run)] (fun z => z.2 = if (gt rs k).from_ < numP g s then [⟨(gt rs k).from_, numP g s - 1⟩] else []) ?_ fun ⟨U, l1⟩ hu => ?_
    · refine if_ (fun c2 => ?_) (fun c2 => ?_)
      · have c2 : (gt rs k).from_ < numP g s := of_decide_eq_true c2
        refine sl_ fun V => ?_
        refine ap_ (X := nilH) (xs := ([] : List Qpool_run)) fun W => ?_
        exact ma_ (W, [⟨(gt rs k).from_, numP g s - 1⟩]) (by dsimp only; rw [if_pos c2])
      · have c2 : ¬ (gt rs k).from_ < numP g s := of_decide_eq_false c2
        exact ma_ (nilH, []) (by dsimp only; rw [if_neg c2])
    · dsimp only at hu ⊢
      have hul : l1.length ≤ 1 := by rw [hu]; split <;> simp
      refine jm_ (ι := SH × List Qpool_run) (fun z => [(9, z.1.v)]) (fun z => [Sv 2 222 z.1.v (z.2.map cpool_run)]) [Sv 2 222 U.v (l1.map cpool_run)] (fun z => z.2 = l1 ++ if numP g s < (gt rs k).to then [⟨numP g s + 1, (gt rs k).to⟩] else []) ?_ fun ⟨U2, l2⟩ hu2 => ?_
      · refine if_ (fun c2 => ?_) (fun c2 => ?_)
        · have c2 : numP g s < (gt rs k).to := by first | exact c2 | exact of_decide_eq_true c2
          refine sl_ fun V => ?_
          refine ap_ fun W => ?_
          exact ma_ (W, l1 ++ [⟨numP g s + 1, (gt rs k).to⟩]) (by dsimp only; rw [if_pos c2])
        · have c2 : ¬ numP g s < (gt rs k).to := by first | exact of_decide_eq_false c2 | omega
          exact ma_ (U, l1) (by dsimp only; rw [if_neg c2]; simp)
      · dsimp only at hu2 ⊢
        have hul2 : l2.length ≤ 2 := by rw [hu2]; split <;> simp <;> omega
        refine hh_ [[0, 8, 10, 11, 12, 13, 14, 15, 16], [1, 2, 3, 4, 5, 6], [7], [9], [17], [18, 19], [20]] [[Bx p 163 (cpool_Pool (g.c X)), Sv 2 222 X.v (rs.map cpool_run)], [Bx p 163 (cpool_Pool (g.c X)), Sv 2 222 X.v (rs.map cpool_run)]] ?_
        have e4 : ((k : Int) + 1).toNat = k + 1 := by omega
        simp only [Int.toNat_natCast, e4]
        refine anu_ k fun W => ?_
        have hlt : (rs.take k).length ≤ 64000 := by simp; omega
        refine ap_ fun W2 => ?_
        have hlt2 : (rs.take k ++ l2).length ≤ 65000 := by simp; omega
        refine apw_ (k + 1) fun W3 => ?_
        have hfr := free_run (f := Qpool_run.from_) (t := Qpool_run.to) (A := rs.take k) (B := rs.drop (k + 1)) (r := gt rs k) (n := numP g s) (L := l2) (by rw [← split_at hp.1]; exact hr) ⟨hp.2, hto⟩ ?_ ?_ ?_
        · rw [← split_at hp.1] at hfr
          exact rt_ (W3, rs.take k ++ l2 ++ rs.drop (k + 1)) ⟨hfr.1, hfr.2, by simp; omega⟩
        · rw [hu2, hu]
          split <;> split <;> simp [Runs] <;> omega
        · intro x hx
          rw [hu2, hu] at hx
          revert hx
          split <;> split <;> simp <;> (try rintro rfl) <;> (try (rintro (rfl | rfl))) <;> simp <;> omega
        · intro m
          rw [hu2, hu]
          unfold inR
          split <;> split <;> simp <;> omega
end Go.Proofs.YtdallmabajeajaaGreatDoor.Fw
set_option linter.all false
set_option maxHeartbeats 4000000
set_option maxRecDepth 100000
namespace Go.Proofs.YtdallmabajeajaaGreatDoor.Fw
open Go
def cmpM (x y : Int) : Int := if x < y then -1 else if y < x then 1 else 0
theorem nan64_c (x : Int) (R : Hh) : Ctp Tryz.prog 175 [.int .i64 x] R [] (.bool false) := by
  refine in_ Tryz.func175 fun w0 => ?_
  refine re_ ?_
  simp [pack]
instance (x : Int) (R : Hh) : Cp 175 [.int .i64 x] R [] True (.bool false) := ⟨fun _ => nan64_c x R⟩
theorem cmp64_c (x y : Int) (R : Hh) : Ctp Tryz.prog 130 [.int .i64 x, .int .i64 y] R [] (.int .i64 (cmpM x y)) := by
  refine in_ Tryz.func130 fun w0 => ?_
  refine if_ (fun h => ?_) (fun h => ?_)
  · refine re_ ?_; grind [cmpM, pack]
  · refine if_ (fun h => ?_) (fun h => ?_) <;> refine re_ ?_ <;> grind [cmpM, pack]
instance (x y : Int) (R : Hh) : Cp 130 [.int .i64 x, .int .i64 y] R [] True (.int .i64 (cmpM x y)) := ⟨fun _ => cmp64_c x y R⟩
theorem nanI_c (x : Int) (R : Hh) : Ctp Tryz.prog 186 [.int .i64 x] R [] (.bool false) := by
  refine in_ Tryz.func186 fun w0 => ?_
  refine re_ ?_
  simp [pack]
instance (x : Int) (R : Hh) : Cp 186 [.int .i64 x] R [] True (.bool false) := ⟨fun _ => nanI_c x R⟩
theorem cmpI_c (x y : Int) (R : Hh) : Ctp Tryz.prog 139 [.int .i64 x, .int .i64 y] R [] (.int .i64 (cmpM x y)) := by
  refine in_ Tryz.func139 fun w0 => ?_
  refine if_ (fun h => ?_) (fun h => ?_)
  · refine re_ ?_; grind [cmpM, pack]
  · refine if_ (fun h => ?_) (fun h => ?_) <;> refine re_ ?_ <;> grind [cmpM, pack]
instance (x y : Int) (R : Hh) : Cp 139 [.int .i64 x, .int .i64 y] R [] True (.int .i64 (cmpM x y)) := ⟨fun _ => cmpI_c x y R⟩
theorem nanA_c (x : Int) (R : Hh) : Ctp Tryz.prog 185 [.int .u32 x] R [] (.bool false) := by
  refine in_ Tryz.func185 fun w0 => ?_
  refine re_ ?_
  simp [pack]
instance (x : Int) (R : Hh) : Cp 185 [.int .u32 x] R [] True (.bool false) := ⟨fun _ => nanA_c x R⟩
theorem cmpA_c (x y : Int) (R : Hh) : Ctp Tryz.prog 138 [.int .u32 x, .int .u32 y] R [] (.int .i64 (cmpM x y)) := by
  refine in_ Tryz.func138 fun w0 => ?_
  refine if_ (fun h => ?_) (fun h => ?_)
  · refine re_ ?_; grind [cmpM, pack]
  · refine if_ (fun h => ?_) (fun h => ?_) <;> refine re_ ?_ <;> grind [cmpM, pack]
instance (x y : Int) (R : Hh) : Cp 138 [.int .u32 x, .int .u32 y] R [] True (.int .i64 (cmpM x y)) := ⟨fun _ => cmpA_c x y R⟩
end Go.Proofs.YtdallmabajeajaaGreatDoor.Fw
set_option linter.all false
set_option maxHeartbeats 4000000
set_option maxRecDepth 100000
namespace Go.Proofs.YtdallmabajeajaaGreatDoor.Fw
open Go
def orL : List Int → Int
  | [] => 0
  | x :: l => if x = 0 then orL l else x
theorem orL_at {xs : List Int} {k : Nat} (h : k < xs.length) (z : orL xs = orL (xs.drop k)) : orL xs = if el xs k = 0 then orL (xs.drop (k + 1)) else el xs k := by
  have e : xs[k] = el xs k := by simp [el, List.getD_eq_getElem?_getD, h]
  rw [z, List.drop_eq_getElem_cons h, e]; rfl
theorem or_c (x : SH) (xs : List Int) (R : Hh) (hx : RdS R 1 x.v (xs.map (cInt .i64))) : Ctp Tryz.prog 129 [x.v] R [] (.int .i64 (orL xs)) := by
  have := hx.bd
  refine in_ Tryz.func129 fun w0 => ?_
  refine lo_ (fun k : Nat => [(8, .int .i64 k)]) (fun _ => []) (fun k => k ≤ xs.length ∧ orL xs = orL (xs.drop k)) (fun k => xs.length - k) 0 ⟨by omega, rfl⟩ fun k hk => ?_
  refine if_ (fun h => ?_) (fun h => ?_)
  · refine if_ (fun h2 => ?_) (fun h2 => ?_)
    · refine re_ ?_
      rw [orL_at (by omega) hk.2]; simp [pack, h2]
    · refine ba_ (k + 1) ⟨by omega, ?_⟩
      rw [orL_at (by omega) hk.2]; simp [h2]
  · refine re_ ?_
    rw [hk.2, List.drop_of_length_le (by omega)]; rfl
end Go.Proofs.YtdallmabajeajaaGreatDoor.Fw
set_option linter.all false
set_option maxHeartbeats 4000000
set_option maxRecDepth 100000
namespace Go.Proofs.YtdallmabajeajaaGreatDoor.Fw
open Go
end Go.Proofs.YtdallmabajeajaaGreatDoor.Fw
set_option linter.all false
set_option maxHeartbeats 4000000
set_option maxRecDepth 100000
namespace Go.Proofs.YtdallmabajeajaaGreatDoor.Fw
open Go
structure SG where
  sp : Addr
  tp : Addr
  pp : Addr
  rl : Nat
  rk : Nat
  tm : Nat
  c : QConfig
  rs : List QReserve
  mk' : List (Int × QPrefix)
  g : PG
structure SV where
  now : Int
  rev : Int
  X : SH
  es : List QEvent
  ml : List (Int × QLease)
  TX : SH
  th : List Qtimer_one
  tl : List (Int × Int)
  PX : SH
  pr : List Qpool_run
abbrev SG.st (s : SG) (now rev : Int) (X : SH) : Qlease_Store := ⟨⟨now, rev⟩, ⟨s.c.Log, X⟩, s.c, some s.rl, some s.rk, some (padd s.tp 0), some (padd s.pp 0)⟩
abbrev SG.b (s : SG) (v : SV) : HP := Bx s.sp 120 (clease_Store (s.st v.now v.rev v.X))
abbrev stP (s : SG) (v : SV) : List HP := [Bx s.sp 120 (clease_Store (s.st v.now v.rev v.X)), Sv 14 72 v.X.v (v.es.map cEvent), Sv 3 58 s.c.Reserved.v (s.rs.map cReserve), Mp s.rl (vInt .i64) (vAgg cLease) v.ml, Mp s.rk (vInt .i64) (vAgg cPrefix) s.mk',
  Bx s.tp 157 (ctimer_Timers ⟨64, v.TX, some s.tm⟩), Sv 2 224 v.TX.v (v.th.map ctimer_one), Mp s.tm (vInt .i64) (vInt .i64) v.tl,
  Bx s.pp 163 (cpool_Pool (s.g.c v.PX)), Sv 2 222 v.PX.v (v.pr.map cpool_run), Sv 1 2 s.g.K.v (s.g.ks.map (cInt .i64)), Mp s.g.ik (vInt .i64) (vInt .i64) s.g.km]
section
variable (s : SG) (v : SV) (R : Hh)
theorem step_c (now rev : Int) (X : SH) (h0 : 0 ≤ rev) (h1 : rev ≤ 1099511627776) : Ctr (τ := Unit) Tryz.prog 136 [.pointer (some (padd s.sp 0))] R [Bx s.sp 120 (clease_Store (s.st now rev X))] (fun _ => True) (fun _ => .int .i64 (rev + 1)) (fun _ => [Bx s.sp 120 (clease_Store (s.st now (rev + 1) X))]) := by
  refine in_ Tryz.func136 fun w0 => ?_
  have e : IntKind.i64.wrap (rev + 1) = rev + 1 := wrap_i64 (by omega) (by omega)
  simp only [e]
  exact rt_ () trivial
theorem pass_c (now rev : Int) (X : SH) (n : Int) : Ctr (τ := Unit) Tryz.prog 126 [.pointer (some (padd s.sp 0)), .int .i64 n] R [Bx s.sp 120 (clease_Store (s.st now rev X))] (fun _ => True) (fun _ => .tuple #[]) (fun _ => [Bx s.sp 120 (clease_Store (s.st (afterM now n) rev X))]) := by
  refine in_ Tryz.func126 fun w0 => ?_
  exact rn_ () trivial
theorem room_c (now rev : Int) (X : SH) (n : Int) (h0 : 0 ≤ rev) (h1 : rev ≤ 1099511627776) (h2 : 0 ≤ n) (h3 : n ≤ 65536) : Ctp Tryz.prog 97 [.pointer (some (padd s.sp 0)), .int .i64 n] R [Bx s.sp 120 (clease_Store (s.st now rev X))] (.bool (decide (rev + n ≤ 1099511627776))) := by
  refine in_ Tryz.func97 fun w0 => ?_
  have e : IntKind.i64.wrap (rev + n) = rev + n := wrap_i64 (by omega) (by omega)
  refine re_ ?_
  show pack [Value.bool (decide (IntKind.i64.wrap (rev + n) ≤ 1099511627776))] = _
  rw [e]; rfl
theorem until_c (now rev : Int) (X : SH) : Ctp Tryz.prog 96 [.pointer (some (padd s.sp 0))] R [Bx s.sp 120 (clease_Store (s.st now rev X))] (.int .i64 (afterM now s.c.TTL)) := by
  refine in_ Tryz.func96 fun w0 => ?_
  exact re_ rfl
end
theorem cloneE_c (X : SH) (xs : List QEvent) (hl : xs.length ≤ 65536) (R : Hh) (hx : RdS R 14 X.v (xs.map cEvent)) : Ctr (τ := SH) Tryz.prog 61 [X.v] R [] (fun _ => True) (fun x => x.v) (fun x => [Sv 14 72 x.v (xs.map cEvent)]) := by
  refine in_ Tryz.func61 fun w0 => ?_
  refine if_ (fun c1 => ?_) (fun c1 => ?_)
  · have hxn := hx.isnil c1
    subst hxn
    refine nil_ cEvent 14 72 ?_
    exact rt_ nilH trivial
  · refine sl0_ cEvent fun U => ?_
    refine ap_ fun W => ?_
    exact rt_ W trivial
section
variable (s : SG) (v : SV) (R : Hh)
theorem note_c (now rev : Int) (X : SH) (es : List QEvent) (e : QEvent) (hl : es.length ≤ 65000) (h0 : 1 ≤ s.c.Log) (h1 : s.c.Log ≤ 65000) (h2 : es.length ≤ s.c.Log) : Ctr (τ := SH) Tryz.prog 135 [.pointer (some (padd s.sp 2)), .agg ⟨cEvent e⟩] R [Bx s.sp 120 (clease_Store (s.st now rev X)), Sv 14 72 X.v (es.map cEvent)] (fun _ => True) (fun _ => .tuple #[]) (fun Y => [Bx s.sp 120 (clease_Store (s.st now rev Y)), Sv 14 72 Y.v (((es ++ [e]).drop (es.length + 1 - s.c.Log.toNat)).map cEvent)]) := by
  refine in_ Tryz.func135 fun w0 => ?_
  refine bo_' fun b => ?_
  refine hh_ [[0, 1, 2, 3, 4], [5], [6], [7], [8, 9], [10]] [[Bx s.sp 120 (clease_Store (s.st now rev X))], [Bx b 72 (cEvent e)]] ?_
  refine sl_ fun V => ?_
  refine ap_ fun W => ?_
  have hlen : (es ++ [e]).length = es.length + 1 := by simp
  refine if_ (fun c1 => ?_) (fun c1 => ?_)
  · have hbo : (s.st now rev W).history.bound = s.c.Log := rfl
    refine hh_ [[0], [1, 2, 3, 4, 5, 6, 7, 8, 9, 10, 11, 12, 13, 14, 15], [16], [17, 18], [19]] [[], [Bx s.sp 120 (clease_Store (s.st now rev W)), Sv 14 72 W.v ((es ++ [e]).map cEvent)]] ?_
    have e1 : ((es ++ [e]).length : Int) - (s.st now rev W).history.bound = ((es.length + 1 - s.c.Log.toNat : Nat) : Int) := by rw [hbo]; omega
    simp only [e1, Int.toNat_natCast]
    refine ca_ (fun R' q1 q2 => cloneE_c _ ((es ++ [e]).drop (es.length + 1 - s.c.Log.toNat)) (by simp; omega) R' (Rqw (rq_ q2 r0) _ (by omega))) fun Y _ => ?_
    exact rn_ Y trivial
  · have e2 : es.length + 1 - s.c.Log.toNat = 0 := by omega
    refine rn_ W trivial (hz := ?_)
    rw [e2, List.drop_zero]
    exact .c r3 (.c r0 .n)
theorem hold_c (l : QLease) (hn : v.th.length ≤ 65535) (hf : mget v.tl l.Host = none → v.th.length < 64) (hh0 : Heap ahead v.th) (hp : Pl v.th v.tl) : Ctr (τ := SH × List Qtimer_one × List (Int × Int)) Tryz.prog 66 [.pointer (some (padd s.sp 0)), .agg ⟨cLease l⟩] R (stP s v) (fun x => Heap ahead x.2.1 ∧ Pl x.2.1 x.2.2 ∧ x.2.1.Perm (⟨l.Host, l.Until⟩ :: v.th.filter fun y => decide (y.id ≠ l.Host))) (fun _ => .tuple #[]) (fun x => stP s { v with ml := mset v.ml l.Host l, TX := x.1, th := x.2.1, tl := x.2.2 }) := by
  refine in_ Tryz.func66 fun w0 => ?_
  refine bo_' fun b => ?_
  refine mu_ ?_
  refine ca_ (fun R' q1 q2 => set_c s.tp 64 v.TX s.tm v.th v.tl l.Host l.Until (by omega) (fun h => by have := hf h; omega) hh0 hp R') fun x hx => ?_
  exact rn_ x hx
theorem put_lc (l : QLease) (hn : v.th.length ≤ 65535) (hf : mget v.tl l.Host = none → v.th.length < 64) (hh0 : Heap ahead v.th) (hp : Pl v.th v.tl) (r0' : 0 ≤ v.rev) (r1' : v.rev ≤ 1099511627776) (hl : v.es.length ≤ 65000) (h0 : 1 ≤ s.c.Log) (h1 : s.c.Log ≤ 65000) (h2 : v.es.length ≤ s.c.Log) : Ctr (τ := (SH × List Qtimer_one × List (Int × Int)) × SH) Tryz.prog 131 [.pointer (some (padd s.sp 0)), .agg ⟨cLease l⟩] R (stP s v) (fun x => Heap ahead x.1.2.1 ∧ Pl x.1.2.1 x.1.2.2 ∧ x.1.2.1.Perm (⟨l.Host, l.Until⟩ :: v.th.filter fun y => decide (y.id ≠ l.Host))) (fun _ => .agg ⟨cLease { l with Rev := v.rev + 1 }⟩) (fun x => stP s { v with rev := v.rev + 1, X := x.2, es := (v.es ++ [(⟨v.rev + 1, 1, { l with Rev := v.rev + 1 }⟩ : QEvent)]).drop (v.es.length + 1 - s.c.Log.toNat), ml := mset v.ml l.Host { l with Rev := v.rev + 1 }, TX := x.1.1, th := x.1.2.1, tl := x.1.2.2 }) := by
  refine in_ Tryz.func131 fun w0 => ?_
  refine bo_' fun b => ?_
  refine ax_ fun b2 => ?_
  refine ca_ (fun R' q1 q2 => step_c s R' v.now v.rev v.X r0' r1') fun _ _ => ?_
  refine ca_ (fun R' q1 q2 => hold_c s { v with rev := v.rev + 1 } R' { l with Rev := v.rev + 1 } hn hf hh0 hp) fun x hx => ?_
  refine ca_ (fun R' q1 q2 => note_c s R' v.now (v.rev + 1) v.X v.es ⟨v.rev + 1, 1, { l with Rev := v.rev + 1 }⟩ hl h0 h1 h2) fun Y _ => ?_
  exact rmN_ (x, Y) hx
theorem remove_lc (l : QLease) (hn : v.th.length ≤ 64) (hh0 : Heap ahead v.th) (hp : Pl v.th v.tl) (hI : PI s.g v.pr) (r0' : 0 ≤ v.rev) (r1' : v.rev ≤ 1099511627776) (hl : v.es.length ≤ 65000) (h0 : 1 ≤ s.c.Log) (h1 : s.c.Log ≤ 65000) (h2 : v.es.length ≤ s.c.Log)
    (a0 : 0 ≤ l.Subnet.Addr) (a1 : l.Subnet.Addr < 4294967296) (a2 : l.Subnet.Len = s.g.sl) (a3 : validM l.Subnet = true) (a4 : inP v.pr (numP s.g l.Subnet)) (a5 : mget v.tl l.Host ≠ none) :
    Ctr (τ := ((SH × List Qtimer_one × List (Int × Int)) × SH) × SH × List Qpool_run) Tryz.prog 98 [.pointer (some (padd s.sp 0)), .agg ⟨cLease l⟩] R (stP s v) (fun x => (Heap ahead x.1.1.2.1 ∧ Pl x.1.1.2.1 x.1.1.2.2 ∧ x.1.1.2.1.Perm (v.th.filter fun y => decide (y.id ≠ l.Host))) ∧ RunsP x.2.2 ∧ (∀ m, inP x.2.2 m ↔ inP v.pr m ∧ m ≠ numP s.g l.Subnet) ∧ x.2.2.length ≤ v.pr.length + 1) (fun _ => .tuple #[]) (fun x => stP s { v with rev := v.rev + 1, X := x.1.2, es := (v.es ++ [(⟨v.rev + 1, 2, l⟩ : QEvent)]).drop (v.es.length + 1 - s.c.Log.toNat), ml := mdel v.ml l.Host, TX := x.1.1.1, th := x.1.1.2.1, tl := x.1.1.2.2, PX := x.2.1, pr := x.2.2 }) := by
  refine in_ Tryz.func98 fun w0 => ?_
  refine bo_' fun b => ?_
  refine ca_ (fun R' q1 q2 => free_c s.pp s.g v.PX v.pr l.Subnet hI a0 a1 a2 a3 a4 R') fun y hy => ?_
  refine ca_ (fun R' q1 q2 => drop_c s.tp 64 v.TX s.tm v.th v.tl l.Host (by omega) a5 hh0 hp R') fun x hx => ?_
  refine md_ ?_
  refine hh_ [[0, 1, 2, 7], [3, 4, 5], [6], [8], [9]] [[Bx b 39 (cLease l)]] ?_
  refine ca_ (fun R' q1 q2 => step_c s R' v.now v.rev v.X r0' r1') fun _ _ => ?_
  refine ca_ (fun R' q1 q2 => note_c s R' v.now (v.rev + 1) v.X v.es ⟨v.rev + 1, 2, l⟩ hl h0 h1 h2) fun Y _ => ?_
  exact rn_ ((x, Y), y) ⟨hx, hy⟩
end
end Go.Proofs.YtdallmabajeajaaGreatDoor.Fw
set_option linter.all false
set_option maxHeartbeats 4000000
set_option maxRecDepth 100000
namespace Go.Proofs.YtdallmabajeajaaGreatDoor.Fw
open Go
def mayM (c : QConfig) (rs : List QReserve) (mk' : List (Int × QPrefix)) (h : Int) (p : QPrefix) : Bool := match mget mk' h with
  | some q => decide (p = q)
  | none => decide (p.Len = c.SubnetLen) && validM p && contM c.Network p.Addr && !(rs.any fun r => decide (r.Subnet = p)) && decide (c.Min ≤ p.Addr) && decide (p.Addr ≤ c.Max)
theorem gtX_mem {α : Type} [Inhabited α] {l : List α} {k : Nat} (h : k < l.length) : gt l k ∈ l := by
  have e1 : gt l k = l[k] := by simp [gt, List.getD_eq_getElem?_getD, h]
  rw [e1]; simp
theorem gtX_of {α : Type} [Inhabited α] {l : List α} {x : α} (h : x ∈ l) : ∃ k, k < l.length ∧ gt l k = x := by
  obtain ⟨i, hi, e⟩ := List.mem_iff_getElem.1 h
  exact ⟨i, hi, by simp [gt, List.getD_eq_getElem?_getD, hi, e]⟩
structure FindR (s : SG) (v : SV) (h : Int) (p : QPrefix) (ok : Bool) (q : QPrefix) (pr : List Qpool_run) : Prop where
  no : ok = false → pr = v.pr
  yes : ok = true → RunsP pr ∧ (∀ m, inP pr m ↔ inP v.pr m ∨ m = numP s.g q) ∧ pr.length ≤ v.pr.length + 1
  own : ∀ q', mget s.mk' h = some q' → ok = true ∧ q = q'
  wish : mget s.mk' h = none → mayM s.c s.rs s.mk' h p = true → ¬ inP v.pr (numP s.g p) → ok = true ∧ q = p
  low : mget s.mk' h = none → ¬ (mayM s.c s.rs s.mk' h p = true ∧ ¬ inP v.pr (numP s.g p)) → (ok = true → ∃ n, q = ⟨n * pw s.g.sl, s.g.sl⟩ ∧ s.g.mn ≤ n ∧ n ≤ s.g.mx ∧ ¬ inP v.pr n ∧ n ∉ s.g.ks ∧ ∀ m, s.g.mn ≤ m → m < n → inP v.pr m ∨ m ∈ s.g.ks) ∧ (ok = false → ∀ m, s.g.mn ≤ m → m ≤ s.g.mx → inP v.pr m ∨ m ∈ s.g.ks)
theorem find_t {s : SG} {v : SV} {h n : Int} {p : QPrefix} {pr : List Qpool_run} (hm : mget s.mk' h = none) (hno : ¬ (mayM s.c s.rs s.mk' h p = true ∧ ¬ inP v.pr (numP s.g p))) (hx : TkR s.g v.pr pr true n) : FindR s v h p true ⟨n * pw s.g.sl, s.g.sl⟩ pr where
  no e := by cases e
  yes _ := by
    obtain ⟨a1, a2, a3, a4, a5, a6, a7, a8⟩ := hx.some rfl
    have e : numP s.g ⟨n * pw s.g.sl, s.g.sl⟩ = n := Int.mul_ediv_cancel n (Int.ne_of_gt pw_pos)
    rw [e]
    exact ⟨a6, a7, a8⟩
  own q' e := by rw [hm] at e; cases e
  wish _ a b := absurd ⟨a, b⟩ hno
  low _ _ := ⟨fun _ => by
    obtain ⟨a1, a2, a3, a4, a5, a6, a7, a8⟩ := hx.some rfl
    exact ⟨n, rfl, a1, a2, a3, a4, a5⟩, fun e => by cases e⟩
theorem find_f {s : SG} {v : SV} {h n : Int} {p : QPrefix} {pr : List Qpool_run} (hm : mget s.mk' h = none) (hno : ¬ (mayM s.c s.rs s.mk' h p = true ∧ ¬ inP v.pr (numP s.g p))) (hx : TkR s.g v.pr pr false n) : FindR s v h p false ⟨0, 0⟩ pr where
  no _ := (hx.none rfl).1
  yes e := by cases e
  own q' e := by rw [hm] at e; cases e
  wish _ a b := absurd ⟨a, b⟩ hno
  low _ _ := ⟨fun e => (by cases e), fun _ => (hx.none rfl).2⟩
section
variable (s : SG) (v : SV) (R : Hh)
theorem may_c (now rev : Int) (X : SH) (h : Int) (p : QPrefix) (hl : s.rs.length ≤ 64000) : Ctp Tryz.prog 140 [.pointer (some (padd s.sp 0)), .int .i64 h, .agg ⟨cPrefix p⟩] R [Bx s.sp 120 (clease_Store (s.st now rev X)), Sv 3 58 s.c.Reserved.v (s.rs.map cReserve), Mp s.rk (vInt .i64) (vAgg cPrefix) s.mk'] (.bool (mayM s.c s.rs s.mk' h p)) := by
  refine in_ Tryz.func140 fun w0 => ?_
  refine bo_' fun b => ?_
  refine ax_ fun b2 => ?_
  cases hm : mget s.mk' h with
  | some q =>
    simp only [hm, Option.isSome_some, Option.getD_some]
    refine run_ ?_
    refine re_ ?_
    simp [pack, mayM, hm]
  | none =>
    simp only [hm, Option.isSome_none, Option.getD_none]
    refine run_ ?_
    refine if_ (fun c1 => ?_) (fun c1 => ?_)
    · refine re_ ?_
      simp only [mayM, hm, pack, Value.bool.injEq]
      grind
    · refine lo_ (fun k : Nat => [(54, .int .i64 (k : Int))]) (fun _ => []) (fun k => k ≤ s.rs.length ∧ ∀ i, i < k → (gt s.rs i).Subnet ≠ p) (fun k => s.rs.length - k) 0 ⟨by omega, fun i hi => by omega⟩ fun k hk => ?_
      obtain ⟨hk1, hk2⟩ := hk
      refine if_ (fun c2 => ?_) (fun c2 => ?_)
      · have hk : k < s.rs.length := by omega
        refine ax_ fun b3 => ?_
        refine if_ (fun c3 => ?_) (fun c3 => ?_)
        · have c3 : (gt s.rs k).Subnet = p := by first | exact of_decide_eq_true c3 | exact c3
          refine re_ ?_
          have : (s.rs.any fun r => decide (r.Subnet = p)) = true := List.any_eq_true.2 ⟨gt s.rs k, gtX_mem hk, by simpa using c3⟩
          simp [mayM, hm, pack, this]
        · have c3 : ¬ (gt s.rs k).Subnet = p := by first | exact of_decide_eq_false c3 | exact c3
          refine ba_ (k + 1) ⟨by omega, fun i hi => ?_⟩
          by_cases h2 : i < k
          · exact hk2 i h2
          · rw [show i = k by omega]; exact c3
      · have hno : (s.rs.any fun r => decide (r.Subnet = p)) = false := by
          rw [← Bool.not_eq_true, List.any_eq_true]
          rintro ⟨r, hr, e⟩
          obtain ⟨i, hi, rfl⟩ := gtX_of hr
          exact hk2 i (by omega) (by simpa using e)
        refine re_ ?_
        simp only [mayM, hm, pack, hno, c1.1.1, c1.1.2, c1.2]
        show Value.bool (bif decide (p.Addr ≥ s.c.Min) then decide (p.Addr ≤ s.c.Max) else false) = _
        by_cases h1 : s.c.Min ≤ p.Addr <;> simp [h1]
theorem find_c (h : Int) (p : QPrefix) (hl : s.rs.length ≤ 64000) (hI : PI s.g v.pr) (p0 : 0 ≤ p.Addr) (p1 : p.Addr < 4294967296)
    (hown : ∀ q, mget s.mk' h = some q → 0 ≤ q.Addr ∧ q.Addr < 4294967296 ∧ q.Len = s.g.sl ∧ validM q = true ∧ contM s.g.net q.Addr = true ∧ ((s.g.mn ≤ numP s.g q ∧ numP s.g q ≤ s.g.mx) ∨ numP s.g q ∈ s.g.ks) ∧ ¬ inP v.pr (numP s.g q))
    (hmay : mget s.mk' h = none → mayM s.c s.rs s.mk' h p = true → p.Len = s.g.sl ∧ validM p = true ∧ contM s.g.net p.Addr = true ∧ s.g.mn ≤ numP s.g p ∧ numP s.g p ≤ s.g.mx) :
    Ctr (τ := Bool × QPrefix × SH × List Qpool_run) Tryz.prog 132 [.pointer (some (padd s.sp 0)), .int .i64 h, .agg ⟨cPrefix p⟩] R (stP s v) (fun x => FindR s v h p x.1 x.2.1 x.2.2.2) (fun x => .tuple #[.agg ⟨cPrefix (if x.1 then x.2.1 else ⟨0, 0⟩)⟩, .int .i64 (if x.1 then 0 else 4)]) (fun x => stP s { v with PX := x.2.2.1, pr := x.2.2.2 }) := by
  refine in_ Tryz.func132 fun w0 => ?_
  refine bo_' fun b => ?_
  refine ax_ fun b2 => ?_
  refine ax_ fun b3 => ?_
  cases hm : mget s.mk' h with
  | some q =>
    obtain ⟨u0, u1, u2, u3, u4, u5, u6⟩ := hown q hm
    simp only [hm, Option.isSome_some, Option.getD_some]
    refine run_ ?_
    refine hh_ [[0], [1, 2, 3, 4, 5], [6], [7], [8]] [[Bx b3 25 (cPrefix q)], [Bx b3 25 (cPrefix q), Bx s.sp 120 (clease_Store (s.st v.now v.rev v.X))]] ?_
    refine ca_ (fun R' q1 q2 => claim_c s.pp s.g v.PX v.pr q hI u0 u1 u2 u3 u4 u5 R') fun ⟨ok, Y, pr⟩ hx => ?_
    obtain ⟨x1, x2, x3, x4, x5⟩ := hx
    have hok : ok = true := x1.2 u6
    subst hok
    refine rm_ (true, q, Y, pr) ⟨fun h => (by cases h), fun _ => ⟨x2, x3, x4⟩, fun q' e => ?_, fun e => ?_, fun e => ?_⟩
    · rw [hm] at e; cases e; exact ⟨rfl, rfl⟩
    · rw [hm] at e; cases e
    · rw [hm] at e; cases e
  | none =>
    simp only [hm, Option.isSome_none, Option.getD_none]
    refine run_ ?_
    refine cp_ (fun R' q1 q2 => may_c s R' v.now v.rev v.X h p hl) ?_
    cases hy : mayM s.c s.rs s.mk' h p with
    | true =>
      obtain ⟨u1, u2, u3, u4, u5⟩ := hmay hm hy
      refine run_ ?_
      refine ca_ (fun R' q1 q2 => claim_c s.pp s.g v.PX v.pr p hI p0 p1 u1 u2 u3 (.inl ⟨u4, u5⟩) R') fun ⟨ok, Y, pr⟩ hx => ?_
      obtain ⟨x1, x2, x3, x4, x5⟩ := hx
      cases ok with
      | true =>
        refine run_ ?_
        refine rm_ (true, p, Y, pr) ⟨fun h => (by cases h), fun _ => ⟨x2, x3, x4⟩, fun q' e => ?_, fun _ _ _ => ⟨rfl, rfl⟩, fun _ e => ?_⟩
        · rw [hm] at e; cases e
        · exact absurd ⟨hy, x1.1 rfl⟩ e
      | false =>
        have x5 := x5 rfl
        dsimp only at x5
        subst x5
        refine run_ ?_
        refine ca_ (fun R' q1 q2 => take_c s.pp s.g Y v.pr hI R') fun ⟨ok, n, Y2, pr2⟩ hx => ?_
        dsimp only at hx x1
        have hno : ¬ (mayM s.c s.rs s.mk' h p = true ∧ ¬ inP v.pr (numP s.g p)) := fun e => by cases x1.2 e.2
        cases ok with
        | true => exact rm_ (true, ⟨n * pw s.g.sl, s.g.sl⟩, Y2, pr2) (find_t hm hno hx)
        | false => exact rm_ (false, ⟨0, 0⟩, Y2, pr2) (find_f hm hno hx)
    | false =>
      refine run_ ?_
      refine ca_ (fun R' q1 q2 => take_c s.pp s.g v.PX v.pr hI R') fun ⟨ok, n, Y, pr⟩ hx => ?_
      dsimp only at hx
      have hno : ¬ (mayM s.c s.rs s.mk' h p = true ∧ ¬ inP v.pr (numP s.g p)) := fun e => by rw [hy] at e; cases e.1
      cases ok with
      | true => exact rm_ (true, ⟨n * pw s.g.sl, s.g.sl⟩, Y, pr) (find_t hm hno hx)
      | false => exact rm_ (false, ⟨0, 0⟩, Y, pr) (find_f hm hno hx)
end
end Go.Proofs.YtdallmabajeajaaGreatDoor.Fw
set_option linter.all false
set_option maxHeartbeats 1000000
namespace Go.Proofs.YtdallmabajeajaaGreatDoor.Fw
open Go
structure SOK (s : SG) : Prop where
  f : FieldsOK s.c
  po : PoolOK s.c s.rs
  rn : 0 ≤ s.c.Network.Addr ∧ s.c.Network.Addr < 4294967296
  rmin : 0 ≤ s.c.Min ∧ s.c.Min < 4294967296
  rmax : 0 ≤ s.c.Max ∧ s.c.Max < 4294967296
  rr : ∀ r ∈ s.rs, 0 ≤ r.Subnet.Addr ∧ r.Subnet.Addr < 4294967296
  rl : s.rs.length ≤ 64
  kep : ∀ h, mget s.mk' h = own s.rs h
  net : s.g.net = s.c.Network
  sl : s.g.sl = s.c.SubnetLen
  mn : s.g.mn = s.c.Min / pw s.c.SubnetLen
  mx : s.g.mx = s.c.Max / pw s.c.SubnetLen
  ks : ∀ m, m ∈ s.g.ks ↔ ∃ r ∈ s.rs, numP s.g r.Subnet = m
  pg : ∀ pr, RunsP pr → pr.length ≤ 64000 → (∀ m, inP pr m → 0 ≤ m ∧ m < 4294967296) → PI s.g pr
structure Rel (s : SG) (v : SV) (S : LS) : Prop where
  li : LI s.c s.rs S
  now : v.now = S.now
  rev : v.rev = S.rev
  es : v.es = logS s.c S
  kd : KD v.ml
  ml : (v.ml.map (·.2)).Perm S.ls
  mh : ∀ e ∈ v.ml, e.1 = e.2.Host
  hp : Heap ahead v.th
  pl : Pl v.th v.tl
  th : v.th.Perm (S.ls.map fun l => (⟨l.Host, l.Until⟩ : Qtimer_one))
  runs : RunsP v.pr
  tk : ∀ n, inP v.pr n ↔ ∃ l ∈ S.ls, numP s.g l.Subnet = n
section
variable {s : SG} {v : SV} {S : LS} {p q : QPrefix} {h : Int} {l : QLease}
theorem nodup_sub : ∀ {l t : List Int}, l.Nodup → (∀ x ∈ l, x ∈ t) → l.length ≤ t.length
  | [], _, _, _ => by simp
  | a :: l, t, d, h => by
    rw [List.nodup_cons] at d
    have ha := h a (by simp)
    have := nodup_sub (l := l) (t := t.erase a) d.2 fun x hx => by
      have hne : x ≠ a := fun e => d.1 (e ▸ hx)
      exact (List.mem_erase_of_ne hne).2 (h x (by simp [hx]))
    rw [List.length_erase_of_mem ha] at this
    have hp : 0 < t.length := List.length_pos_of_mem ha
    simp only [List.length_cons]; omega
theorem runs_len {rs : List Qpool_run} {t : List Int} (R : RunsP rs) (h : ∀ n, inP rs n → n ∈ t) : rs.length ≤ t.length := by
  have hd : (rs.map (·.from_)).Nodup := by
    unfold List.Nodup
    rw [List.pairwise_map]
    refine List.Pairwise.imp_of_mem (fun {a b} ha hb h => ?_) R.1
    have h1 := R.2 a ha
    omega
  have := nodup_sub hd (t := t) fun x hx => by
    obtain ⟨r, hr, rfl⟩ := List.mem_map.1 hx
    exact h _ ⟨r, hr, by omega, R.2 r hr⟩
  simpa using this
/-! ### numbers of subnets -/
theorem num_mul (o : SOK s) (hb : base s.c p.Addr) : numP s.g p * pw s.c.SubnetLen = p.Addr := by
  unfold numP
  rw [o.sl]
  exact Int.ediv_mul_cancel (Int.dvd_of_emod_eq_zero hb.2)
theorem num_inj (o : SOK s) (h1 : p.Len = s.c.SubnetLen) (h2 : q.Len = s.c.SubnetLen) (b1 : base s.c p.Addr) (b2 : base s.c q.Addr) (e : numP s.g p = numP s.g q) : p = q := by
  have e1 := num_mul o b1
  have e2 := num_mul o b2
  rw [e] at e1
  obtain ⟨a, b⟩ := p
  obtain ⟨a', b'⟩ := q
  simp only at *
  rw [h1, h2, ← e1, e2]
theorem base_rng (o : SOK s) (b : base s.c p.Addr) : 0 ≤ p.Addr ∧ p.Addr < 4294967296 := by
  have h1 := vld_top b.1.1 o.rn.1 o.rn.2
  have := b.1.2
  have := o.rn
  omega
theorem may_facts (o : SOK s) (m : May s.c s.rs h p) : p.Len = s.c.SubnetLen ∧ base s.c p.Addr ∧ 0 ≤ p.Addr ∧ p.Addr < 4294967296 := by
  obtain ⟨h1, h2⟩ := may_len o.po m
  exact ⟨h1, h2, base_rng o h2⟩
theorem base_vld (o : SOK s) (h1 : p.Len = s.c.SubnetLen) (b : base s.c p.Addr) : Vld p ∧ validM p = true ∧ contM s.c.Network p.Addr = true := by
  have hr := base_rng o b
  have hf := o.f.sub
  have hn := o.f.net
  have hv : Vld p := ⟨by rw [h1]; omega, by rw [h1]; omega, by rw [h1]; exact b.2⟩
  exact ⟨hv, (validM_iff hr.1 hr.2).2 hv, (contM_iff o.rn.1 o.rn.2 hr.1 hr.2).2 b.1⟩
theorem num_rng (o : SOK s) (b : base s.c p.Addr) : 0 ≤ numP s.g p ∧ numP s.g p < 4294967296 := by
  have hr := base_rng o b
  exact ⟨Int.ediv_nonneg hr.1 (Int.le_of_lt pw_pos), by have := Int.ediv_le_self (pw s.g.sl) hr.1; unfold numP; omega⟩
theorem row_iff (o : SOK s) (b : base s.c p.Addr) : (s.g.mn ≤ numP s.g p ↔ s.c.Min ≤ p.Addr) ∧ (numP s.g p ≤ s.g.mx ↔ p.Addr ≤ s.c.Max) := by
  have e1 := num_mul o b
  have e2 : s.g.mn * pw s.c.SubnetLen = s.c.Min := by rw [o.mn]; exact Int.ediv_mul_cancel (Int.dvd_of_emod_eq_zero o.f.sub.2.2.1.2)
  have e3 : s.g.mx * pw s.c.SubnetLen = s.c.Max := by rw [o.mx]; exact Int.ediv_mul_cancel (Int.dvd_of_emod_eq_zero o.f.sub.2.2.2.2)
  have hp : 0 < pw s.c.SubnetLen := pw_pos
  rw [← e1, ← e2, ← e3]
  exact ⟨(Int.mul_le_mul_right hp).symm, (Int.mul_le_mul_right hp).symm⟩
theorem mayM_iff (o : SOK s) (p0 : 0 ≤ p.Addr) (p1 : p.Addr < 4294967296) : mayM s.c s.rs s.mk' h p = true ↔ May s.c s.rs h p := by
  unfold mayM May
  rw [o.kep]
  cases own s.rs h with
  | some q => simp
  | none =>
    simp only [Bool.and_eq_true, decide_eq_true_eq, Bool.not_eq_true', validM_iff p0 p1, contM_iff o.rn.1 o.rn.2 p0 p1]
    unfold Frei
    rw [← Bool.not_eq_true, List.any_eq_true]
    constructor
    · rintro ⟨⟨⟨⟨⟨h1, h2⟩, h3⟩, h4⟩, h5⟩, h6⟩
      exact ⟨h1, h3, h2, fun r hr e => h4 ⟨r, hr, by simpa using e⟩, h5, h6⟩
    · rintro ⟨h1, h3, h2, h4, h5, h6⟩
      exact ⟨⟨⟨⟨⟨h1, h2⟩, h3⟩, fun ⟨r, hr, e⟩ => h4 r hr (by simpa using e)⟩, h5⟩, h6⟩
theorem taken_iff (o : SOK s) (r : Rel s v S) (h1 : p.Len = s.c.SubnetLen) (b : base s.c p.Addr) : inP v.pr (numP s.g p) ↔ ¬ free S.ls p := by
  rw [r.tk]
  unfold free
  constructor
  · rintro ⟨l, hl, e⟩ hf
    have m := may_facts o (r.li.ok l hl).may
    exact hf l hl (num_inj o m.1 h1 m.2.1 b e)
  · intro hf
    have : ∃ l, l ∈ S.ls ∧ l.Subnet = p := by
      refine Classical.byContradiction fun hn => hf fun l hl e => hn ⟨l, hl, e⟩
    obtain ⟨l, hl, e⟩ := this
    exact ⟨l, hl, by rw [e]⟩
theorem rel_len (r : Rel s v S) (o : SOK s) : S.ls.length ≤ 64 ∧ v.th.length ≤ 64 ∧ v.ml.length ≤ 64 ∧ v.pr.length ≤ 64 := by
  have h1 := r.li.len o.f
  have h2 := r.th.length_eq
  have h3 := r.ml.length_eq
  simp only [List.length_map] at h2 h3
  have h4 := runs_len r.runs (t := S.ls.map fun l => numP s.g l.Subnet) fun n hn => by
    obtain ⟨l, hl, e⟩ := (r.tk n).1 hn
    exact List.mem_map.2 ⟨l, hl, e⟩
  simp only [List.length_map] at h4
  omega
theorem rel_pi (r : Rel s v S) (o : SOK s) : PI s.g v.pr := o.pg v.pr r.runs (by have := rel_len r o; omega) fun m hm => by
  obtain ⟨l, hl, e⟩ := (r.tk m).1 hm
  have := num_rng o (may_facts o (r.li.ok l hl).may).2.1
  omega
theorem log_len (r : Rel s v S) : (v.es.length : Int) = min s.c.Log S.rev ∨ s.c.Log < 0 := by
  have h1 := r.li.log
  have h2 := r.li.rev
  rw [r.es, logS, List.length_drop]
  omega
theorem log_app (r : Rel s v S) (o : SOK s) {S' : LS} {e : QEvent} (h1 : S'.rev = S.rev + 1) (h2 : S'.es = S.es ++ [e]) : (v.es ++ [e]).drop (v.es.length + 1 - s.c.Log.toNat) = logS s.c S' := by
  have hl := log_len r
  have hlog := o.f.log
  have h3 := r.li.log
  have h4 := r.li.rev
  have h5 : v.es.length = (min s.c.Log S.rev).toNat := by omega
  have e1 : v.es ++ [e] = (S.es ++ [e]).drop (S.es.length - (min s.c.Log S.rev).toNat) := by
    rw [r.es, logS, List.drop_append_of_le_length (by omega)]
  rw [e1, List.drop_drop, logS, h2, h1, List.length_append]
  congr 1
  simp only [List.length_cons, List.length_nil]
  omega
theorem mget_ofH (r : Rel s v S) : mget v.ml h = ofH S.ls h := by
  apply Option.ext
  intro x
  rw [mget_iff r.kd, ofH_some r.li.apart, ← r.ml.mem_iff, List.mem_map]
  constructor
  · intro e
    exact ⟨⟨_, e, rfl⟩, (r.mh _ e).symm⟩
  · rintro ⟨⟨⟨k, y⟩, he, rfl⟩, rfl⟩
    have := r.mh _ he
    simp only at this
    rw [this] at he
    exact he
theorem del_none (hn : ∀ y ∈ S.ls, y.Host ≠ h) : del S.ls h = S.ls := List.filter_eq_self.2 fun y hy => by simpa using hn y hy
theorem del_perm (a : Apart S.ls) (hl : l ∈ S.ls) : S.ls.Perm (l :: del S.ls l.Host) := by
  obtain ⟨A, B, e⟩ := List.append_of_mem hl
  rw [e] at a ⊢
  rw [apart_nodup, List.map_append, List.map_cons, List.nodup_append, List.nodup_cons] at a
  have hA : A.filter (fun y => decide (y.Host ≠ l.Host)) = A := List.filter_eq_self.2 fun y hy => by
    simp only [decide_eq_true_eq]
    exact a.2.2 _ (List.mem_map_of_mem (f := (·.Host)) hy) _ (by simp)
  have hB : B.filter (fun y => decide (y.Host ≠ l.Host)) = B := List.filter_eq_self.2 fun y hy => by
    simp only [decide_eq_true_eq]
    exact fun e => a.2.1.1 (e ▸ List.mem_map_of_mem (f := (·.Host)) hy)
  unfold del
  rw [List.filter_append, List.filter_cons_of_neg (by simp), hA, hB]
  exact List.perm_middle
theorem upd_perm (a : Apart S.ls) {x : QLease} (hl : l ∈ S.ls) (e : l.Host = x.Host) : (upd S.ls x).Perm (x :: del S.ls x.Host) := by
  have h1 := (del_perm a hl).map fun y => if y.Host = x.Host then x else y
  rw [List.map_cons, if_pos e, e] at h1
  have h2 : (del S.ls x.Host).map (fun y => if y.Host = x.Host then x else y) = del S.ls x.Host := by
    conv => rhs; rw [← List.map_id (del S.ls x.Host)]
    apply List.map_congr_left
    intro y hy
    rw [if_neg (mem_del.1 hy).2]; rfl
  rw [h2] at h1
  exact h1
theorem ml_rest (r : Rel s v S) {x : QLease} (hl : l ∈ S.ls) (e : l.Host = x.Host) : ((mset v.ml x.Host x).map (·.2)).Perm (x :: del S.ls x.Host) := by
  have hg : mget v.ml x.Host = some l := by rw [mget_ofH r]; exact (ofH_some r.li.apart).2 ⟨hl, e⟩
  obtain ⟨t, h1, h2, _⟩ := mset_perm hg
  have h3 := (h1.map (·.2)).symm.trans r.ml
  have h4 := h3.trans (del_perm r.li.apart hl)
  simp only [List.map_cons] at h4
  have h5 := (List.perm_cons l).1 h4
  rw [e] at h5
  have h6 := (h2 x).map (·.2)
  rw [List.map_cons] at h6
  exact h6.trans (h5.cons x)
theorem rel_ml (r : Rel s v S) {x : QLease} : ((mset v.ml x.Host x).map (·.2)).Perm (x :: del S.ls x.Host) := by
  cases hg : ofH S.ls x.Host with
  | some l =>
    obtain ⟨h1, h2⟩ := (ofH_some r.li.apart).1 hg
    exact ml_rest r h1 h2
  | none =>
    have hn := ofH_none.1 hg
    rw [mset_new (by rw [mget_ofH r, hg]), List.map_append, del_none hn]
    exact (List.perm_append_comm).trans (r.ml.cons x)
theorem rel_th (r : Rel s v S) : (v.th.filter fun y => decide (y.id ≠ h)).Perm ((del S.ls h).map fun l => (⟨l.Host, l.Until⟩ : Qtimer_one)) := by
  refine (r.th.filter _).trans ?_
  rw [List.filter_map]
  exact .refl _
theorem rel_set (r : Rel s v S) {S' : LS} {x : QLease} {y : SH × List Qtimer_one × List (Int × Int)} {X PX : SH} {es : List QEvent} {pr : List Qpool_run} (li : LI s.c s.rs S') (hls : S'.ls.Perm (x :: del S.ls x.Host)) (hy : Heap ahead y.2.1 ∧ Pl y.2.1 y.2.2 ∧ y.2.1.Perm (⟨x.Host, x.Until⟩ :: v.th.filter fun z => decide (z.id ≠ x.Host)))
    (hnow : v.now = S'.now) {rev : Int} (hrev : rev = S'.rev) (hes : es = logS s.c S') (hr : RunsP pr) (htk : ∀ n, inP pr n ↔ ∃ l ∈ S'.ls, numP s.g l.Subnet = n) : Rel s ⟨v.now, rev, X, es, mset v.ml x.Host x, y.1, y.2.1, y.2.2, PX, pr⟩ S' where
  li := li
  now := hnow
  rev := hrev
  es := hes
  kd := r.kd.set
  ml := (rel_ml r).trans hls.symm
  mh e he := by
    cases hg : mget v.ml x.Host with
    | none =>
      rw [mset_new hg] at he
      rcases List.mem_append.1 he with h | h
      · exact r.mh e h
      · rw [List.mem_singleton] at h; rw [h]
    | some u =>
      obtain ⟨A, B, e1, _, _, e2⟩ := msplit hg
      rw [e2] at he
      rcases List.mem_append.1 he with h | h
      · exact r.mh e (by rw [e1]; simp [h])
      · rcases List.mem_cons.1 h with h | h
        · rw [h]
        · exact r.mh e (by rw [e1]; simp [h])
  hp := hy.1
  pl := hy.2.1
  th := by
    have h1 := (hls.map fun l => (⟨l.Host, l.Until⟩ : Qtimer_one)).symm
    rw [List.map_cons] at h1
    exact hy.2.2.trans (((rel_th r).cons _).trans h1)
  runs := hr
  tk := htk
theorem rel_rem (r : Rel s v S) (o : SOK s) (hl : l ∈ S.ls) (hr : S.rev + 1 ≤ maxRev) {y : (SH × List Qtimer_one × List (Int × Int)) × SH} {z : SH × List Qpool_run} (hy : Heap ahead y.1.2.1 ∧ Pl y.1.2.1 y.1.2.2 ∧ y.1.2.1.Perm (v.th.filter fun y => decide (y.id ≠ l.Host)))
    (hz : RunsP z.2 ∧ (∀ m, inP z.2 m ↔ inP v.pr m ∧ m ≠ numP s.g l.Subnet) ∧ z.2.length ≤ v.pr.length + 1) : Rel s ⟨v.now, v.rev + 1, y.2, (v.es ++ [(⟨v.rev + 1, 2, l⟩ : QEvent)]).drop (v.es.length + 1 - s.c.Log.toNat), mdel v.ml l.Host, y.1.1, y.1.2.1, y.1.2.2, z.1, z.2⟩ (remS S l) where
  li := r.li.rem hr hl
  now := r.now
  rev := by show v.rev + 1 = S.rev + 1; rw [r.rev]
  es := by
    refine log_app r o rfl ?_
    rw [r.rev]; rfl
  kd := r.kd.del
  ml := by
    have hg : mget v.ml l.Host = some l := by rw [mget_ofH r]; exact (ofH_some r.li.apart).2 ⟨hl, rfl⟩
    obtain ⟨t, h1, _, h2⟩ := mset_perm hg
    have h3 := ((h1.map (·.2)).symm.trans r.ml).trans (del_perm r.li.apart hl)
    simp only [List.map_cons] at h3
    exact (h2.map (·.2)).trans ((List.perm_cons l).1 h3)
  mh e he := by
    have hg : mget v.ml l.Host = some l := by rw [mget_ofH r]; exact (ofH_some r.li.apart).2 ⟨hl, rfl⟩
    obtain ⟨A, B, e1, _, e2, _⟩ := msplit hg
    rw [e2] at he
    refine r.mh e ?_
    rw [e1]
    rcases List.mem_append.1 he with h | h <;> simp [h]
  hp := hy.1
  pl := hy.2.1
  th := hy.2.2.trans (rel_th r)
  runs := hz.1
  tk n := by
    rw [hz.2.1, r.tk]
    constructor
    · rintro ⟨⟨x, hx, e⟩, hne⟩
      refine ⟨x, mem_del.2 ⟨hx, fun e2 => ?_⟩, e⟩
      rw [apart_eq r.li.apart hx hl e2] at e
      exact hne e.symm
    · rintro ⟨x, hx, e⟩
      have hx := mem_del.1 hx
      refine ⟨⟨x, hx.1, e⟩, fun e2 => hx.2 ?_⟩
      have m1 := may_facts o (r.li.ok x hx.1).may
      have m2 := may_facts o (r.li.ok l hl).may
      have := num_inj o m1.1 m2.1 m1.2.1 m2.2.1 (e.trans e2)
      have := rise_eq r.li.rise hx.1 hl (by rw [this])
      rw [this]
end
end Go.Proofs.YtdallmabajeajaaGreatDoor.Fw
set_option linter.all false
set_option maxHeartbeats 1000000
namespace Go.Proofs.YtdallmabajeajaaGreatDoor.Fw
open Go
section
variable {s : SG} {v : SV} {S : LS} {p q : QPrefix} {h : Int} {l : QLease}
theorem own_some {rs : List QReserve} (e : own rs h = some q) : ∃ r ∈ rs, r.Host = h ∧ r.Subnet = q := by
  unfold own at e
  cases hf : rs.find? fun r => decide (r.Host = h) with
  | none => rw [hf] at e; cases e
  | some r =>
    rw [hf] at e
    simp only [Option.map_some, Option.some.injEq] at e
    have := List.find?_some hf
    exact ⟨r, List.mem_of_find?_eq_some hf, by simpa using this, e⟩
theorem res_host (po : PoolOK s.c s.rs) {a b : QReserve} (ha : a ∈ s.rs) (hb : b ∈ s.rs) (e : a.Subnet = b.Subnet) : a.Host = b.Host := by
  obtain ⟨i, hi, rfl⟩ := List.mem_iff_getElem.1 ha
  obtain ⟨j, hj, rfl⟩ := List.mem_iff_getElem.1 hb
  have hp := List.pairwise_iff_getElem.1 po.apart
  rcases Nat.lt_trichotomy i j with h1 | h1 | h1
  · exact absurd e (hp i j hi hj h1)
  · subst h1; rfl
  · exact absurd e.symm (hp j i hj hi h1)
theorem own_free (o : SOK s) (r : Rel s v S) (e : own s.rs h = some q) (hn : ofH S.ls h = none) : free S.ls q := by
  intro x hx hq
  obtain ⟨a, ha, e1, e2⟩ := own_some e
  have m := (r.li.ok x hx).may
  unfold May at m
  cases ho : own s.rs x.Host with
  | some q2 =>
    rw [ho] at m
    obtain ⟨b, hb, e3, e4⟩ := own_some ho
    have := res_host o.po ha hb (by rw [e2, e4, ← m, hq])
    exact ofH_none.1 hn x hx (by rw [← e3, ← this, e1])
  | none =>
    rw [ho] at m
    exact m.2.2.2.1 a ha (by rw [e2, hq])
theorem row_base (o : SOK s) {k : Nat} (hk : k < rowN s.c) : base s.c (rowAt s.c k).Addr ∧ (rowAt s.c k).Addr ≤ s.c.Max ∧ s.c.Min ≤ (rowAt s.c k).Addr ∧ numP s.g (rowAt s.c k) = s.g.mn + k := by
  have hp : 0 < pw s.c.SubnetLen := pw_pos
  have b1 := o.f.sub.2.2.1
  have b2 := o.f.sub.2.2.2
  have hm := o.po.row
  have hk2 : (k : Int) ≤ (s.c.Max - s.c.Min) / pw s.c.SubnetLen := by
    have h0 : 0 ≤ (s.c.Max - s.c.Min) / pw s.c.SubnetLen := Int.ediv_nonneg (by omega) (by omega)
    unfold rowN at hk
    omega
  have hk3 : (k : Int) * pw s.c.SubnetLen ≤ s.c.Max - s.c.Min := by
    have := Int.mul_le_mul_of_nonneg_right hk2 (Int.le_of_lt hp)
    have := Int.ediv_mul_le (s.c.Max - s.c.Min) (Int.ne_of_gt hp)
    omega
  have hk4 : 0 ≤ (k : Int) * pw s.c.SubnetLen := Int.mul_nonneg (by omega) (Int.le_of_lt hp)
  have e1 : (rowAt s.c k).Addr = s.c.Min + k * pw s.c.SubnetLen := rfl
  rw [e1]
  refine ⟨⟨⟨b1.1.1, by have := b1.1.2.1; omega, by have := b2.1.2.2; omega⟩, ?_⟩, by omega, by omega, ?_⟩
  · rw [Int.add_mul_emod_self_right]; exact b1.2
  · unfold numP
    rw [e1, o.sl, o.mn, Int.add_mul_ediv_right _ _ (Int.ne_of_gt hp)]
theorem row_top (o : SOK s) {n : Int} (h1 : s.g.mn ≤ n) (h2 : n ≤ s.g.mx) : (n - s.g.mn).toNat < rowN s.c := by
  have hp : 0 < pw s.c.SubnetLen := pw_pos
  have e2 : s.g.mn * pw s.c.SubnetLen = s.c.Min := by rw [o.mn]; exact Int.ediv_mul_cancel (Int.dvd_of_emod_eq_zero o.f.sub.2.2.1.2)
  have e3 : s.g.mx * pw s.c.SubnetLen = s.c.Max := by rw [o.mx]; exact Int.ediv_mul_cancel (Int.dvd_of_emod_eq_zero o.f.sub.2.2.2.2)
  have e4 : (s.c.Max - s.c.Min) / pw s.c.SubnetLen = s.g.mx - s.g.mn := by
    rw [← e2, ← e3, ← Int.sub_mul]
    exact Int.mul_ediv_cancel _ (Int.ne_of_gt hp)
  unfold rowN
  rw [e4]
  omega
theorem row_frei (o : SOK s) (r : Rel s v S) {k : Nat} (hk : k < rowN s.c) : (Frei s.c s.rs (rowAt s.c k) ∧ free S.ls (rowAt s.c k)) ↔ (s.g.mn + k ∉ s.g.ks ∧ ¬ inP v.pr (s.g.mn + k)) := by
  obtain ⟨b, h1, h2, e⟩ := row_base o hk
  have hl : (rowAt s.c k).Len = s.c.SubnetLen := rfl
  rw [← e, taken_iff o r hl b, o.ks, Classical.not_not]
  refine and_congr_left fun _ => ?_
  constructor
  · rintro hf ⟨a, ha, e2⟩
    have hh := o.po.host a ha
    exact hf.2.2.2.1 a ha (num_inj o hh.2.2.1 hl hh.2.2.2 b e2)
  · intro hn
    exact ⟨hl, b.1, (base_vld o hl b).1, fun a ha e2 => hn ⟨a, ha, by rw [e2]⟩, h2, h1⟩
theorem find_row {α : Type} (f : Nat → α) (P : α → Bool) (n k : Nat) (hk : k < n) (h1 : P (f k) = true) (h2 : ∀ j, j < k → P (f j) = false) : ((List.range n).map f).find? P = some (f k) := by
  rw [List.find?_map]
  have : (List.range n).find? (P ∘ f) = some k := by
    rw [List.find?_range_eq_some]
    exact ⟨h1, by simpa using hk, fun j hj => by simp [Function.comp, h2 j hj]⟩
  rw [this]; rfl
theorem lowest_some (o : SOK s) (r : Rel s v S) {n : Int} (h1 : s.g.mn ≤ n) (h2 : n ≤ s.g.mx) (h3 : ¬ inP v.pr n) (h4 : n ∉ s.g.ks) (h5 : ∀ m, s.g.mn ≤ m → m < n → inP v.pr m ∨ m ∈ s.g.ks) : lowest s.c s.rs S.ls = some ⟨n * pw s.g.sl, s.g.sl⟩ := by
  have hk := row_top o h1 h2
  have e0 : s.g.mn + ((n - s.g.mn).toNat : Int) = n := by omega
  have e : rowAt s.c (n - s.g.mn).toNat = ⟨n * pw s.g.sl, s.g.sl⟩ := by
    have e2 : s.g.mn * pw s.c.SubnetLen = s.c.Min := by rw [o.mn]; exact Int.ediv_mul_cancel (Int.dvd_of_emod_eq_zero o.f.sub.2.2.1.2)
    unfold rowAt
    rw [o.sl, ← e2, ← Int.add_mul, e0]
  unfold lowest
  rw [← e]
  refine find_row (rowAt s.c) _ _ _ hk (decide_eq_true ((row_frei o r hk).2 (by rw [e0]; exact ⟨h4, h3⟩))) fun j hj => decide_eq_false fun hf => ?_
  have hf := (row_frei o r (by omega)).1 hf
  rcases h5 (s.g.mn + j) (by omega) (by omega) with h6 | h6
  · exact hf.2 h6
  · exact hf.1 h6
theorem lowest_none (o : SOK s) (r : Rel s v S) (h5 : ∀ m, s.g.mn ≤ m → m ≤ s.g.mx → inP v.pr m ∨ m ∈ s.g.ks) : lowest s.c s.rs S.ls = none := by
  unfold lowest
  rw [List.find?_eq_none]
  intro x hx
  obtain ⟨k, hk, rfl⟩ := List.mem_map.1 hx
  rw [List.mem_range] at hk
  simp only [decide_eq_true_eq]
  intro hf
  have hf := (row_frei o r hk).1 hf
  obtain ⟨b, h1, h2, e⟩ := row_base o hk
  have h6 := (row_iff o b).2.2 h1
  rw [e] at h6
  rcases h5 (s.g.mn + k) (by omega) h6 with h7 | h7
  · exact hf.2 h7
  · exact hf.1 h7
theorem find_choose (o : SOK s) (r : Rel s v S) (hn : ofH S.ls h = none) (p0 : 0 ≤ p.Addr) (p1 : p.Addr < 4294967296) {ok : Bool} {pr : List Qpool_run} (fr : FindR s v h p ok q pr) : choose s.c s.rs S.ls h p = if ok then some q else none := by
  unfold choose
  cases ho : own s.rs h with
  | some q' =>
    obtain ⟨e1, e2⟩ := fr.own q' (by rw [o.kep, ho])
    subst e2; subst e1
    simp only [if_pos (own_free o r ho hn), if_true]
  | none =>
    have hm : mget s.mk' h = none := by rw [o.kep, ho]
    simp only
    have hmay : (mayM s.c s.rs s.mk' h p = true ∧ ¬ inP v.pr (numP s.g p)) ↔ (Frei s.c s.rs p ∧ free S.ls p) := by
      rw [mayM_iff o p0 p1]
      have e : May s.c s.rs h p ↔ Frei s.c s.rs p := by unfold May; rw [ho]
      rw [e]
      refine and_congr_right fun hf => ?_
      have m := may_facts o (e.2 hf)
      rw [taken_iff o r m.1 m.2.1, Classical.not_not]
    by_cases hc : Frei s.c s.rs p ∧ free S.ls p
    · rw [if_pos hc]
      obtain ⟨h1, h2⟩ := hmay.2 hc
      obtain ⟨e1, e2⟩ := fr.wish hm h1 h2
      rw [e1, e2]; rfl
    · rw [if_neg hc]
      obtain ⟨h1, h2⟩ := fr.low hm fun e => hc (hmay.1 e)
      cases ok with
      | true =>
        obtain ⟨n, e, a1, a2, a3, a4, a5⟩ := h1 rfl
        rw [lowest_some o r a1 a2 a3 a4 a5, e]; rfl
      | false => rw [lowest_none o r (h2 rfl)]; rfl
theorem find_own (o : SOK s) (r : Rel s v S) (hn : ofH S.ls h = none) : ∀ q, mget s.mk' h = some q → 0 ≤ q.Addr ∧ q.Addr < 4294967296 ∧ q.Len = s.g.sl ∧ validM q = true ∧ contM s.g.net q.Addr = true ∧ ((s.g.mn ≤ numP s.g q ∧ numP s.g q ≤ s.g.mx) ∨ numP s.g q ∈ s.g.ks) ∧ ¬ inP v.pr (numP s.g q) := fun q e => by
  rw [o.kep] at e
  obtain ⟨a, ha, e1, e2⟩ := own_some e
  have hh := o.po.host a ha
  rw [e2] at hh
  have hr := base_rng o hh.2.2.2
  have hv := base_vld o hh.2.2.1 hh.2.2.2
  refine ⟨hr.1, hr.2, by rw [o.sl]; exact hh.2.2.1, hv.2.1, by rw [o.net]; exact hv.2.2, .inr ((o.ks _).2 ⟨a, ha, by rw [e2]⟩), ?_⟩
  rw [taken_iff o r hh.2.2.1 hh.2.2.2, Classical.not_not]
  exact own_free o r e hn
theorem find_may (o : SOK s) (p0 : 0 ≤ p.Addr) (p1 : p.Addr < 4294967296) : mget s.mk' h = none → mayM s.c s.rs s.mk' h p = true → p.Len = s.g.sl ∧ validM p = true ∧ contM s.g.net p.Addr = true ∧ s.g.mn ≤ numP s.g p ∧ numP s.g p ≤ s.g.mx := fun hm hy => by
  have m := (mayM_iff o p0 p1).1 hy
  have mf := may_facts o m
  have hv := base_vld o mf.1 mf.2.1
  have hr := row_iff o mf.2.1
  unfold May at m
  rw [o.kep] at hm
  rw [hm] at m
  exact ⟨by rw [o.sl]; exact mf.1, hv.2.1, by rw [o.net]; exact hv.2.2, hr.1.2 m.2.2.2.2.1, hr.2.2 m.2.2.2.2.2⟩
theorem rel_tl (r : Rel s v S) : mget v.tl h = none ↔ ofH S.ls h = none := by
  rw [r.pl.none, ofH_none]
  constructor
  · intro hx y hy
    exact hx ⟨y.Host, y.Until⟩ (r.th.mem_iff.2 (List.mem_map.2 ⟨y, hy, rfl⟩))
  · intro hx y hy
    obtain ⟨l, hl, rfl⟩ := List.mem_map.1 (r.th.mem_iff.1 hy)
    exact hx l hl
theorem rel_room (o : SOK s) (r : Rel s v S) (hn : ofH S.ls h = none) (h0 : 0 ≤ h) (h1 : h < s.c.Hosts) : v.th.length < 64 := by
  have hl := r.th.length_eq
  rw [List.length_map] at hl
  have := nodup_bound 64 (h :: S.ls.map (·.Host)) (by
    rw [List.nodup_cons]
    refine ⟨fun hm => ?_, apart_nodup.1 r.li.apart⟩
    obtain ⟨y, hy, e⟩ := List.mem_map.1 hm
    exact ofH_none.1 hn y hy e) (fun x hx => by
    have hh := o.f.log
    rcases List.mem_cons.1 hx with rfl | hx
    · omega
    · obtain ⟨y, hy, rfl⟩ := List.mem_map.1 hx
      have := (r.li.ok y hy).host
      omega)
  simp at this
  omega
end
end Go.Proofs.YtdallmabajeajaaGreatDoor.Fw
set_option linter.all false
set_option maxHeartbeats 1000000
namespace Go.Proofs.YtdallmabajeajaaGreatDoor.Fw
open Go
def watchS (c : QConfig) (S : LS) (from_ most : Int) : List QEvent × Int := if from_ < 0 ∨ most < 1 then ([], 1) else if S.rev < from_ then ([], 113) else if from_ < S.rev - (logS c S).length then ([], 112) else (((logS c S).drop ((logS c S).length - (S.rev - from_)).toNat).take most.toNat, 0)
section
variable {s : SG} {v : SV} {S : LS} {a : Int}
theorem holder_some (o : SOK s) (r : Rel s v S) {x : QLease} (hx : x ∈ S.ls) (hc : Cnt x.Subnet a) : holderS S a = some x := by
  unfold holderS
  cases hf : S.ls.find? fun y => decide (Cnt y.Subnet a) with
  | none => rw [List.find?_eq_none] at hf; exact absurd (decide_eq_true hc) (hf x hx)
  | some y =>
    have hy := List.mem_of_find?_eq_some hf
    have hc2 : Cnt y.Subnet a := by have h := List.find?_some hf; exact of_decide_eq_true h
    have m1 := may_facts o (r.li.ok x hx).may
    have m2 := may_facts o (r.li.ok y hy).may
    have e1 := (mod_iff pw_pos hc.1.2.2).2 hc.2
    have e2 := (mod_iff pw_pos hc2.1.2.2).2 hc2.2
    rw [m1.1] at e1
    rw [m2.1] at e2
    rw [rise_eq r.li.rise hx hy (by rw [← e1, ← e2])]
theorem holder_none (h : ∀ x ∈ S.ls, ¬ Cnt x.Subnet a) : holderS S a = none := by
  unfold holderS
  rw [List.find?_eq_none]
  intro x hx
  simpa using h x hx
end
end Go.Proofs.YtdallmabajeajaaGreatDoor.Fw
set_option linter.all false
set_option maxHeartbeats 4000000
set_option maxRecDepth 100000
namespace Go.Proofs.YtdallmabajeajaaGreatDoor.Fw
open Go
def OutR (c : QConfig) (rs : List QReserve) (S : LS) (cmd : QCmd) (S' : LS) (l : QLease) (e : Int) : Prop := applyS c rs S cmd = (S', ⟨e, if e = 0 then l else zL, S'.rev, S'.now⟩)
section
variable {s : SG} {v : SV} {S : LS}
theorem out_ok {c : QConfig} {rs : List QReserve} {cmd : QCmd} {S' : LS} {l : QLease} (h : cmdS c rs S cmd = (S', l, 0)) (hr : S'.rev ≤ maxRev) : OutR c rs S cmd S' l 0 := by
  unfold OutR applyS
  rw [h]
  simp only
  rw [if_neg (by omega)]; rfl
theorem out_no {c : QConfig} {rs : List QReserve} {cmd : QCmd} {e : Int} (h : cmdS c rs S cmd = (S, zL, e)) (hr : S.rev ≤ maxRev) (he : e ≠ 0) (x : QLease) : OutR c rs S cmd S x e := by
  unfold OutR applyS
  rw [h]
  simp only
  rw [if_neg (by omega), if_neg he]
theorem out_full {c : QConfig} {rs : List QReserve} {cmd : QCmd} (h : (cmdS c rs S cmd).1.rev > maxRev) (x : QLease) : OutR c rs S cmd S x 4 := by
  unfold OutR applyS
  rw [if_pos h, if_neg (by decide)]
theorem out_same {cmd : QCmd} {l : QLease} (o : SOK s) (r : Rel s v S) (hk : cmd.Kind = 1) (h0 : 0 ≤ cmd.Host) (h1 : cmd.Host < s.c.Hosts) (hg : ofH S.ls cmd.Host = some l) (he : l.Pub = cmd.Pub ∧ l.MAC = cmd.MAC) :
    OutR s.c s.rs S cmd ⟨S.now, S.rev, upd S.ls { l with Until := aft S.now s.c.TTL }, S.es⟩ { l with Until := aft S.now s.c.TTL } 0 := out_ok (by
  unfold cmdS
  rw [if_neg (by omega), if_neg (by omega), if_neg (by omega), hg]
  simp only [hk, if_true, he, and_self]) r.li.rev.2
theorem cmd_turn {cmd : QCmd} {l : QLease} (hk : cmd.Kind = 1) (h0 : 0 ≤ cmd.Host) (h1 : cmd.Host < s.c.Hosts) (hg : ofH S.ls cmd.Host = some l) (he : ¬ (l.Pub = cmd.Pub ∧ l.MAC = cmd.MAC)) : cmdS s.c s.rs S cmd =
    (⟨S.now, S.rev + 1, upd S.ls ⟨l.Host, l.Subnet, cmd.Pub, cmd.MAC, aft S.now s.c.TTL, S.rev + 1⟩, S.es ++ [⟨S.rev + 1, 1, ⟨l.Host, l.Subnet, cmd.Pub, cmd.MAC, aft S.now s.c.TTL, S.rev + 1⟩⟩]⟩, ⟨l.Host, l.Subnet, cmd.Pub, cmd.MAC, aft S.now s.c.TTL, S.rev + 1⟩, 0) := by
  unfold cmdS
  rw [if_neg (by omega), if_neg (by omega), if_neg (by omega), hg]
  simp only [hk, if_true, he, if_false]
theorem cmd_new {cmd : QCmd} (hk : cmd.Kind = 1) (h0 : 0 ≤ cmd.Host) (h1 : cmd.Host < s.c.Hosts) (hg : ofH S.ls cmd.Host = none) : cmdS s.c s.rs S cmd = (match choose s.c s.rs S.ls cmd.Host cmd.Subnet with
      | none => (S, zL, 4)
      | some p => (⟨S.now, S.rev + 1, ins S.ls ⟨cmd.Host, p, cmd.Pub, cmd.MAC, aft S.now s.c.TTL, S.rev + 1⟩, S.es ++ [⟨S.rev + 1, 1, ⟨cmd.Host, p, cmd.Pub, cmd.MAC, aft S.now s.c.TTL, S.rev + 1⟩⟩]⟩, ⟨cmd.Host, p, cmd.Pub, cmd.MAC, aft S.now s.c.TTL, S.rev + 1⟩, 0)) := by
  unfold cmdS
  rw [if_neg (by omega), if_neg (by omega), if_neg (by omega), hg]
  simp only [hk, if_true]
  cases choose s.c s.rs S.ls cmd.Host cmd.Subnet <;> rfl
theorem tk_upd (r : Rel s v S) {l x : QLease} {n : Int} (hl : l ∈ S.ls) (e1 : l.Host = x.Host) (e2 : l.Subnet = x.Subnet) : (∃ y ∈ S.ls, numP s.g y.Subnet = n) ↔ ∃ y ∈ upd S.ls x, numP s.g y.Subnet = n := by
  have h := upd_addrs r.li.apart hl e1 e2
  have key : ∀ ls : List QLease, (∃ y ∈ ls, numP s.g y.Subnet = n) ↔ ∃ p ∈ ls.map (·.Subnet), numP s.g p = n := fun ls => by
    constructor
    · rintro ⟨y, hy, e⟩; exact ⟨_, List.mem_map_of_mem hy, e⟩
    · rintro ⟨p, hp, e⟩
      obtain ⟨y, hy, rfl⟩ := List.mem_map.1 hp
      exact ⟨y, hy, e⟩
  rw [key, key, h]
theorem aft_now (o : SOK s) (r : Rel s v S) : afterM v.now s.c.TTL = aft S.now s.c.TTL := by
  have h1 := r.li.now
  have h2 := o.f.ttl
  rw [r.now]
  exact after_eq h1.1 h1.2 (by omega) (by unfold never; omega)
variable (s v S) (R : Hh)
theorem acquire_c (o : SOK s) (r : Rel s v S) (cmd : QCmd) (hk : cmd.Kind = 1) (h0 : 0 ≤ cmd.Host) (h1 : cmd.Host < s.c.Hosts) (p0 : 0 ≤ cmd.Subnet.Addr) (p1 : cmd.Subnet.Addr < 4294967296) :
    Ctr (τ := SV × LS × QLease × Int) Tryz.prog 95 [.pointer (some (padd s.sp 0)), .agg ⟨cCmd cmd⟩, .agg ⟨cLease ((ofH S.ls cmd.Host).getD zL)⟩, .bool (ofH S.ls cmd.Host).isSome] R (stP s v) (fun x => Rel s x.1 x.2.1 ∧ OutR s.c s.rs S cmd x.2.1 x.2.2.1 x.2.2.2) (fun x => .tuple #[.agg ⟨cLease x.2.2.1⟩, .int .i64 x.2.2.2]) (fun x => stP s x.1) := by
  have hlen := rel_len r o
  have hrev := r.li.rev
  have hvr := r.rev
  refine in_ Tryz.func95 fun w0 => ?_
  refine bo_' fun b1 => ?_
  refine bo_' fun b2 => ?_
  refine ax_ fun b3 => ?_
  cases hg : ofH S.ls cmd.Host with
  | some l =>
    obtain ⟨hl, hlh⟩ := (ofH_some r.li.apart).1 hg
    simp only [hg, Option.isSome_some, Option.getD_some]
    refine run_ ?_
    refine cp_ (v := .int .i64 (aft S.now s.c.TTL)) (fun R' q1 q2 => by rw [← aft_now o r]; exact until_c s R' v.now v.rev v.X) ?_
    have hr0 : 0 ≤ v.rev := by omega
    have hr1 : v.rev ≤ 1099511627776 := by unfold maxRev at hrev; omega
    have hli := r.li.ok l hl
    have haft := aft_lt r.li.now.1 r.li.now.2 (n := s.c.TTL) (by have := o.f.ttl; omega)
    have hth : v.th.length ≤ 65535 := by omega
    have hno : mget v.tl l.Host = none → v.th.length < 64 := fun e => by
      rw [rel_tl r, hlh, hg] at e; cases e
    refine if_ (fun c1 => ?_) (fun c1 => ?_)
    · have c1 : l.Pub = cmd.Pub ∧ l.MAC = cmd.MAC := c1
      refine ca_ (fun R' q1 q2 => hold_c s v R' { l with Until := aft S.now s.c.TTL } hth hno r.hp r.pl) fun x hx => ?_
      have li := r.li.upd1 (y := { l with Until := aft S.now s.c.TTL }) hl rfl rfl ⟨hli.host, hli.may, hli.rev, haft⟩
      refine rm_ (_, _, { l with Until := aft S.now s.c.TTL }, 0) ⟨rel_set r li (upd_perm r.li.apart hl rfl) hx r.now (X := v.X) (PX := v.PX) (es := v.es) hvr (by rw [r.es]; rfl) r.runs (fun n => ?_), out_same o r hk h0 h1 hg c1⟩
      rw [r.tk]
      exact tk_upd r hl rfl rfl
    · have c1 : ¬ (l.Pub = cmd.Pub ∧ l.MAC = cmd.MAC) := fun e => by
        rcases c1 with c | c
        · exact c e.1
        · exact c e.2
      refine cp_ (fun R' q1 q2 => room_c s R' v.now v.rev v.X 1 (by omega) (by unfold maxRev at hrev; omega) (by omega) (by omega)) ?_
      refine if_ (fun c2 => ?_) (fun c2 => ?_)
      · refine rm_ (v, S, { l with Until := aft S.now s.c.TTL }, 4) ⟨r, out_full (by rw [cmd_turn hk h0 h1 hg c1]; show S.rev + 1 > maxRev; unfold maxRev; omega) _⟩
      · refine hh_ [[2, 3], [0, 1, 4], [5], [6], [7]] [[Bx b1 44 (cCmd cmd)], [Bx b1 44 (cCmd cmd)]] ?_
        have hlg := log_len r
        have hlo := o.f.log
        refine ca_ (fun R' q1 q2 => put_lc s v R' ⟨l.Host, l.Subnet, cmd.Pub, cmd.MAC, aft S.now s.c.TTL, l.Rev⟩ hth hno r.hp r.pl hr0 hr1 (by omega) (by omega) (by omega) (by omega)) fun x hx => ?_
        have li := r.li.upd2 (by unfold maxRev; omega) (y := ⟨l.Host, l.Subnet, cmd.Pub, cmd.MAC, aft S.now s.c.TTL, S.rev + 1⟩) hl rfl rfl ⟨hli.host, hli.may, ⟨by show 1 ≤ S.rev + 1; omega, by show S.rev + 1 ≤ S.rev + 1; omega⟩, haft⟩
        have hout := out_ok (cmd_turn (s := s) (S := S) hk h0 h1 hg c1) (by show S.rev + 1 ≤ maxRev; unfold maxRev; omega)
        have hla := log_app r o (S' := ⟨S.now, S.rev + 1, upd S.ls ⟨l.Host, l.Subnet, cmd.Pub, cmd.MAC, aft S.now s.c.TTL, S.rev + 1⟩, S.es ++ [⟨S.rev + 1, 1, ⟨l.Host, l.Subnet, cmd.Pub, cmd.MAC, aft S.now s.c.TTL, S.rev + 1⟩⟩]⟩) rfl rfl
        rw [← hvr] at li hout hla
        exact rm_ (_, _, _, 0) ⟨rel_set r (x := ⟨l.Host, l.Subnet, cmd.Pub, cmd.MAC, aft S.now s.c.TTL, v.rev + 1⟩) li (upd_perm r.li.apart hl rfl) hx r.now (X := x.2) (PX := v.PX) (rev := v.rev + 1) rfl hla r.runs (fun n => by rw [r.tk]; exact tk_upd r hl rfl rfl), hout⟩
  | none =>
    simp only [hg, Option.isSome_none, Option.getD_none]
    refine run_ ?_
    refine cp_ (fun R' q1 q2 => room_c s R' v.now v.rev v.X 1 (by omega) (by unfold maxRev at hrev; omega) (by omega) (by omega)) ?_
    refine if_ (fun c1 => ?_) (fun c1 => ?_)
    · have hout : OutR s.c s.rs S cmd S zL 4 := by
        cases hcc : choose s.c s.rs S.ls cmd.Host cmd.Subnet with
        | none => exact out_no (by rw [cmd_new hk h0 h1 hg, hcc]) hrev.2 (by decide) _
        | some p => exact out_full (by rw [cmd_new hk h0 h1 hg, hcc]; show S.rev + 1 > maxRev; unfold maxRev; omega) _
      exact rm_ (v, S, zL, 4) ⟨r, hout⟩
    · refine ca_ (fun R' q1 q2 => find_c s v R' cmd.Host cmd.Subnet (by have := o.rl; omega) (rel_pi r o) p0 p1 (find_own o r hg) (find_may o p0 p1)) fun ⟨ok, q, Y, pr⟩ fr => ?_
      dsimp only at fr
      have hch := find_choose o r hg p0 p1 fr
      cases ok with
      | true =>
        refine ax_ fun b4 => ?_
        simp only [if_true] at hch
        have hlg := log_len r
        have hlo := o.f.log
        have hth := rel_room o r hg h0 h1
        refine hh_ [[0, 1, 2, 3, 4, 5, 6, 7], [8], [9], [10], [11], [12], [13]] [[Bx b1 44 (cCmd cmd), Bx b4 25 (cPrefix q)]] ?_
        refine cp_ (v := .int .i64 (aft S.now s.c.TTL)) (fun R' q1 q2 => by rw [← aft_now o r]; exact until_c s R' v.now v.rev v.X) ?_
        refine ca_ (fun R' q1 q2 => put_lc s { v with PX := Y, pr := pr } R' ⟨cmd.Host, q, cmd.Pub, cmd.MAC, aft S.now s.c.TTL, 0⟩ (by show v.th.length ≤ 65535; omega) (fun _ => hth) r.hp r.pl (by show 0 ≤ v.rev; omega) (by show v.rev ≤ _; omega) (by show v.es.length ≤ 65000; omega) (by omega) (by omega) (by show (v.es.length : Int) ≤ s.c.Log; omega)) fun x hx => ?_
        obtain ⟨cm, cf⟩ := choose_ok hch
        have haft := aft_lt r.li.now.1 r.li.now.2 (n := s.c.TTL) (by have := o.f.ttl; omega)
        have li := r.li.put o.po (by unfold maxRev; omega) (y := ⟨cmd.Host, q, cmd.Pub, cmd.MAC, aft S.now s.c.TTL, S.rev + 1⟩) ⟨⟨h0, h1⟩, cm, ⟨by show 1 ≤ S.rev + 1; omega, by show S.rev + 1 ≤ S.rev + 1; omega⟩, haft⟩ (ofH_none.1 hg) cf
        have hout := out_ok (by rw [cmd_new (s := s) (S := S) hk h0 h1 hg, hch]) (by show S.rev + 1 ≤ maxRev; unfold maxRev; omega)
        have hla := log_app r o (S' := ⟨S.now, S.rev + 1, ins S.ls ⟨cmd.Host, q, cmd.Pub, cmd.MAC, aft S.now s.c.TTL, S.rev + 1⟩, S.es ++ [⟨S.rev + 1, 1, ⟨cmd.Host, q, cmd.Pub, cmd.MAC, aft S.now s.c.TTL, S.rev + 1⟩⟩]⟩) rfl rfl
        rw [← hvr] at li hout hla
        have hfy := fr.yes rfl
        exact rm_ (_, _, _, 0) ⟨rel_set r (x := ⟨cmd.Host, q, cmd.Pub, cmd.MAC, aft S.now s.c.TTL, v.rev + 1⟩) li (by show (ins S.ls _).Perm (_ :: del S.ls cmd.Host); rw [del_none (ofH_none.1 hg)]; exact ins_perm) hx r.now (X := x.2) (PX := Y) (rev := v.rev + 1) rfl hla hfy.1 (fun n => by
          rw [hfy.2.1, r.tk]
          constructor
          · rintro (⟨y, hy, e⟩ | e)
            · exact ⟨y, mem_ins.2 (.inr hy), e⟩
            · exact ⟨_, mem_ins.2 (.inl rfl), e.symm⟩
          · rintro ⟨y, hy, e⟩
            rcases mem_ins.1 hy with rfl | hy
            · exact .inr e.symm
            · exact .inl ⟨y, hy, e⟩), hout⟩
      | false =>
        refine ax_ fun b4 => ?_
        have hpr := fr.no rfl
        simp only [Bool.false_eq_true, if_false] at hch
        have hout : OutR s.c s.rs S cmd S zL 4 := out_no (by rw [cmd_new hk h0 h1 hg, hch]) hrev.2 (by decide) _
        exact rm_ ({ v with PX := Y, pr := pr }, S, zL, 4) ⟨by rw [hpr]; exact { r with }, hout⟩
end
end Go.Proofs.YtdallmabajeajaaGreatDoor.Fw
set_option linter.all false
set_option maxHeartbeats 1000000
namespace Go.Proofs.YtdallmabajeajaaGreatDoor.Fw
open Go Go.Shelf Go.RowKit Go.Lib Go.Sort
section
variable {w0 w w' : World} {R : Hh} {Ps : List HP} {P : Program} {f : FuncId} {args : List Value} {v : Value}
theorem Hp.growL : ∀ (os : List Obj) {w : World} (m : Hp w0 R Ps w), Hp w0 R Ps (grow w os.toArray)
  | [], w, m => by simpa [grow] using m
  | o :: os, w, m => by
    have h := Hp.growL os (m.alloc o).drop
    rw [Go.Sort.alloc_eq_grow, Go.Sort.grow_grow] at h
    simpa using h
theorem Hp.grown (m : Hp w0 R Ps w) (os : Array Obj) : Hp w0 R Ps (grow w os) := by
  have := Hp.growL os.toList m
  simpa using this
theorem exact_of (h : ∀ R, Ctp P f args R [] v) (W : World) : Calls P f ⟨args⟩ W fun e w' => e = .returned v ∧ ∃ q os, w' = grow (W.drewN q) os := by
  refine (h (hh W) W W (Hp.start W)).mono fun e w' he => ?_
  obtain ⟨_, _, h1, m⟩ := he
  refine ⟨h1, w'.drawn - W.drawn, w'.heap.extract W.heap.size w'.heap.size, ?_⟩
  have hsz := m.size
  have hh' : w'.heap = W.heap ++ w'.heap.extract W.heap.size w'.heap.size := by
    apply Array.ext_getElem?
    intro i
    rw [Array.getElem?_append]
    by_cases hi : i < W.heap.size
    · rw [if_pos hi]
      have := m.frame i (W.heap[i]) (by unfold hh; rw [Array.getElem?_eq_getElem hi])
      unfold hh at this
      rw [this, Array.getElem?_eq_getElem hi]
    · rw [if_neg hi, Array.getElem?_extract]
      split
      · congr 1; omega
      · rw [Array.getElem?_eq_none (by omega)]
  obtain ⟨h1', t1, d1, o1, u1⟩ := w'
  obtain ⟨h2', t2, d2, o2, u2⟩ := W
  have e1 := m.os; have e2 := m.tape; have e3 := m.output
  simp only at *
  subst e1 e2 e3
  unfold grow World.drewN
  simp only [World.mk.injEq, true_and, and_true]
  exact ⟨hh', by omega⟩
end
section
variable {α : Type} [Inhabited α] {c : α → List Value} {k : Nat}
theorem flat_at : ∀ (l : List α), (∀ x, (c x).length = k) → ∀ t, t < l.length * k → (l.map c).flatten[t]? = some ((c l.toArray[t / k]!)[t % k]!)
  | [], _, t, h => by simp at h
  | a :: l, hk, t, h => by
    have hk0 : 0 < k := by rcases Nat.eq_zero_or_pos k with e | e; · rw [e] at h; simp at h
                           · exact e
    simp only [List.map_cons, List.flatten_cons]
    by_cases ht : t < k
    · rw [List.getElem?_append_left (by rw [hk]; exact ht), Nat.div_eq_of_lt ht, Nat.mod_eq_of_lt ht]
      simp [List.getElem!_eq_getElem?_getD, hk, ht]
    · rw [List.getElem?_append_right (by rw [hk]; omega), hk]
      have h2 := flat_at l hk (t - k) (by simp only [List.length_cons, Nat.add_mul] at h; omega)
      rw [h2]
      have e1 : t / k = (t - k) / k + 1 := by
        conv => lhs; rw [show t = (t - k) + k by omega]
        rw [Nat.add_div_right _ hk0]
      have e2 : t % k = (t - k) % k := by
        conv => lhs; rw [show t = (t - k) + k by omega]
        rw [Nat.add_mod_right]
      rw [e1, e2]
      simp
theorem flatc_len (hk : ∀ x, (c x).length = k) : ∀ xs : List α, (xs.map c).flatten.length = xs.length * k
  | [] => by simp
  | x :: xs => by
    have := flatc_len hk xs
    simp only [List.map_cons, List.flatten_cons, List.length_append, List.length_cons, hk, this, Nat.add_mul]
    omega
theorem flatK_list (hk : ∀ x, (c x).length = k) (xs : List α) : (flatK c k xs.toArray).toList = (xs.map c).flatten := by
  have hl := flatc_len hk xs
  apply List.ext_getElem?
  intro t
  by_cases ht : t < xs.length * k
  · rw [flat_at xs hk t ht]
    have := get_flatK c k xs.toArray t (by simpa using ht)
    rw [Array.getElem?_toList, ← this]
    rw [Array.getElem?_eq_getElem (by simpa using ht), getElem!_pos _ _ (by simpa using ht)]
  · rw [List.getElem?_eq_none (by rw [Array.length_toList, size_flatK, List.size_toArray]; omega), List.getElem?_eq_none (by rw [hl]; omega)]
theorem put_list (F : Array Value) (off : Nat) (cs : Array Value) (h : off + F.size ≤ cs.size) : ((putCells id off F cs).toList.drop off).take F.size = F.toList ∧ (putCells id off F cs).size = cs.size := by
  refine ⟨?_, by simp [putCells]⟩
  apply List.ext_getElem?
  intro t
  by_cases ht : t < F.size
  · rw [List.getElem?_take_of_lt ht, List.getElem?_drop, Array.getElem?_toList, Array.getElem?_toList]
    unfold putCells
    rw [Array.getElem?_mapIdx, Array.getElem?_eq_getElem (by omega), Array.getElem?_eq_getElem ht]
    simp only [Option.map_some, Option.some.injEq]
    rw [if_pos (by omega)]
    simp [ht]
  · rw [List.getElem?_eq_none (by simp; omega), List.getElem?_eq_none (by simpa using ht)]
end
end Go.Proofs.YtdallmabajeajaaGreatDoor.Fw
set_option maxRecDepth 100000
namespace Go.Proofs
open Go.Shelf
def Tryz.laysGg6_ren : Go.Shelf.Ren := ⟨fun | 6 => 92 | 10 => 120 | 11 => 121 | 12 => 122 | 13 => 123 | 14 => 124 | 24 => 164 | 25 => 165 | 26 => 166 | 27 => 167 | 28 => 168 | 29 => 169 | 30 => 170 | 31 => 171 | 32 => 172 | 33 => 173 | 34 => 191 | 35 => 192 | 36 => 193 | 37 => 194 | 38 => 195 | 39 => 204 | n => n, fun | 20 => 20 | 26 => 78 | 35 => 198 | 0 => 0 | 37 => 200 | 3 => 3 | 41 => 130 | 44 => 206 | 49 => 22 | 51 => 153 | 4 => 4 | 54 => 236 | 53 => 235 | 58 => 177 | 5 => 5 | 9 => 9 | 60 => 257 | 64 => 261 | 66 => 267 | 67 => 268 | 17 => 17 | 32 => 195 | 33 => 196 | 82 => 285 | 12 => 12 | 75 => 278 | 76 => 279 | 77 => 280 | 78 => 281 | 79 => 282 | 80 => 283 | n => n, fun | n => n⟩
theorem Tryz.laysGg6 : Go.Proofs.LaysGg.n6 Tryz.prog Tryz.laysGg6_ren := {
  mixed := by kernel_rfl
  f6 := Tryz.func92.trans (congrArg some (by kernel_rfl))
  f10 := Tryz.func120.trans (congrArg some (by kernel_rfl))
  f11 := Tryz.func121.trans (congrArg some (by kernel_rfl))
  f12 := Tryz.func122.trans (congrArg some (by kernel_rfl))
  f13 := Tryz.func123.trans (congrArg some (by kernel_rfl))
  f14 := Tryz.func124.trans (congrArg some (by kernel_rfl))
  f24 := Tryz.func164.trans (congrArg some (by kernel_rfl))
  f25 := Tryz.func165.trans (congrArg some (by kernel_rfl))
  f26 := Tryz.func166.trans (congrArg some (by kernel_rfl))
  f27 := Tryz.func167.trans (congrArg some (by kernel_rfl))
  f28 := Tryz.func168.trans (congrArg some (by kernel_rfl))
  f29 := Tryz.func169.trans (congrArg some (by kernel_rfl))
  f30 := Tryz.func170.trans (congrArg some (by kernel_rfl))
  f31 := Tryz.func171.trans (congrArg some (by kernel_rfl))
  f32 := Tryz.func172.trans (congrArg some (by kernel_rfl))
  f33 := Tryz.func173.trans (congrArg some (by kernel_rfl))
  f34 := Tryz.func191.trans (congrArg some (by kernel_rfl))
  f35 := Tryz.func192.trans (congrArg some (by kernel_rfl))
  f36 := Tryz.func193.trans (congrArg some (by kernel_rfl))
  f37 := Tryz.func194.trans (congrArg some (by kernel_rfl))
  f38 := Tryz.func195.trans (congrArg some (by kernel_rfl))
  f39 := Tryz.func204.trans (congrArg some (by kernel_rfl))
  t0 := Tryz.underlying0
  a0 := Tryz.isAgg0
  z0 := Tryz.sizeOf0
  v0 := Tryz.zeroValue0
  i0 := by kernel_rfl
  t3 := Tryz.underlying3
  a3 := Tryz.isAgg3
  z3 := Tryz.sizeOf3
  v3 := Tryz.zeroValue3
  i3 := by kernel_rfl
  t4 := Tryz.underlying4
  a4 := Tryz.isAgg4
  z4 := Tryz.sizeOf4
  v4 := Tryz.zeroValue4
  i4 := by kernel_rfl
  t5 := Tryz.underlying5
  a5 := Tryz.isAgg5
  z5 := Tryz.sizeOf5
  v5 := Tryz.zeroValue5
  i5 := by kernel_rfl
  t9 := Tryz.underlying9
  a9 := Tryz.isAgg9
  z9 := Tryz.sizeOf9
  v9 := Tryz.zeroValue9
  i9 := by kernel_rfl
  t12 := Tryz.underlying12
  a12 := Tryz.isAgg12
  z12 := Tryz.sizeOf12
  v12 := Tryz.zeroValue12
  i12 := by kernel_rfl
  t17 := Tryz.underlying17
  a17 := Tryz.isAgg17
  z17 := Tryz.sizeOf17
  v17 := Tryz.zeroValue17
  i17 := by kernel_rfl
  t20 := Tryz.underlying20
  a20 := Tryz.isAgg20
  z20 := Tryz.sizeOf20
  v20 := Tryz.zeroValue20
  i20 := by kernel_rfl
  t26 := Tryz.underlying78
  a26 := Tryz.isAgg78
  z26 := Tryz.sizeOf78
  v26 := Tryz.zeroValue78
  i26 := by kernel_rfl
  t32 := Tryz.underlying195
  a32 := Tryz.isAgg195
  z32 := Tryz.sizeOf195
  v32 := Tryz.zeroValue195
  i32 := by kernel_rfl
  t33 := Tryz.underlying196
  a33 := Tryz.isAgg196
  z33 := Tryz.sizeOf196
  v33 := Tryz.zeroValue196
  i33 := by kernel_rfl
  t35 := Tryz.underlying198
  a35 := Tryz.isAgg198
  z35 := Tryz.sizeOf198
  v35 := Tryz.zeroValue198
  i35 := by kernel_rfl
  t37 := Tryz.underlying200
  a37 := Tryz.isAgg200
  z37 := Tryz.sizeOf200
  v37 := Tryz.zeroValue200
  i37 := by kernel_rfl
  t41 := Tryz.underlying130
  a41 := Tryz.isAgg130
  z41 := Tryz.sizeOf130
  v41 := Tryz.zeroValue130
  i41 := by kernel_rfl
  t44 := Tryz.underlying206
  a44 := Tryz.isAgg206
  z44 := Tryz.sizeOf206
  v44 := Tryz.zeroValue206
  i44 := by kernel_rfl
  t49 := Tryz.underlying22
  a49 := Tryz.isAgg22
  z49 := Tryz.sizeOf22
  v49 := Tryz.zeroValue22
  i49 := by kernel_rfl
  t51 := Tryz.underlying153
  a51 := Tryz.isAgg153
  z51 := Tryz.sizeOf153
  v51 := Tryz.zeroValue153
  i51 := by kernel_rfl
  t53 := Tryz.underlying235
  a53 := Tryz.isAgg235
  z53 := Tryz.sizeOf235
  v53 := Tryz.zeroValue235
  i53 := by kernel_rfl
  t54 := Tryz.underlying236
  a54 := Tryz.isAgg236
  z54 := Tryz.sizeOf236
  v54 := Tryz.zeroValue236
  i54 := by kernel_rfl
  t58 := Tryz.underlying177
  a58 := Tryz.isAgg177
  z58 := Tryz.sizeOf177
  v58 := Tryz.zeroValue177
  i58 := by kernel_rfl
  t60 := Tryz.underlying257
  a60 := Tryz.isAgg257
  z60 := Tryz.sizeOf257
  v60 := Tryz.zeroValue257
  i60 := by kernel_rfl
  t64 := Tryz.underlying261
  a64 := Tryz.isAgg261
  z64 := Tryz.sizeOf261
  v64 := Tryz.zeroValue261
  i64 := by kernel_rfl
  t66 := Tryz.underlying267
  a66 := Tryz.isAgg267
  z66 := Tryz.sizeOf267
  v66 := Tryz.zeroValue267
  i66 := by kernel_rfl
  t67 := Tryz.underlying268
  a67 := Tryz.isAgg268
  z67 := Tryz.sizeOf268
  v67 := Tryz.zeroValue268
  i67 := by kernel_rfl
  t75 := Tryz.underlying278
  a75 := Tryz.isAgg278
  z75 := Tryz.sizeOf278
  v75 := Tryz.zeroValue278
  i75 := by kernel_rfl
  t76 := Tryz.underlying279
  a76 := Tryz.isAgg279
  z76 := Tryz.sizeOf279
  v76 := Tryz.zeroValue279
  i76 := by kernel_rfl
  t77 := Tryz.underlying280
  a77 := Tryz.isAgg280
  z77 := Tryz.sizeOf280
  v77 := Tryz.zeroValue280
  i77 := by kernel_rfl
  t78 := Tryz.underlying281
  a78 := Tryz.isAgg281
  z78 := Tryz.sizeOf281
  v78 := Tryz.zeroValue281
  i78 := by kernel_rfl
  t79 := Tryz.underlying282
  a79 := Tryz.isAgg282
  z79 := Tryz.sizeOf282
  v79 := Tryz.zeroValue282
  i79 := by kernel_rfl
  t80 := Tryz.underlying283
  a80 := Tryz.isAgg283
  z80 := Tryz.sizeOf283
  v80 := Tryz.zeroValue283
  i80 := by kernel_rfl
  t82 := Tryz.underlying285
  a82 := Tryz.isAgg285
  z82 := Tryz.sizeOf285
  v82 := Tryz.zeroValue285
  i82 := by kernel_rfl }
def Tryz.laysSlF06_f100_ren : Go.Shelf.Ren := ⟨fun | 6 => 100 | 15 => 123 | 14 => 137 | 28 => 164 | 29 => 165 | 20 => 177 | 21 => 178 | 22 => 179 | 23 => 180 | 24 => 181 | 25 => 182 | 26 => 183 | 27 => 184 | 46 => 198 | 47 => 199 | 48 => 200 | 49 => 201 | 50 => 202 | 57 => 205 | n => n, fun | 22 => 50 | 24 => 39 | 25 => 173 | 3 => 3 | 39 => 130 | 0 => 0 | 53 => 22 | 55 => 153 | 4 => 4 | 46 => 248 | 45 => 247 | 50 => 177 | 5 => 5 | 9 => 9 | 66 => 264 | 70 => 261 | 76 => 270 | 77 => 268 | n => n, fun | n => n⟩
theorem Tryz.laysSlF06_f100 : Go.Proofs.SlLaysF0.n6 Tryz.prog Tryz.laysSlF06_f100_ren := {
  mixed := by kernel_rfl
  f6 := ⟨Tryz.f100.name, by decide, Tryz.func100.trans (congrArg some (by kernel_rfl))⟩
  f14 := ⟨Tryz.f137.name, by decide, Tryz.func137.trans (congrArg some (by kernel_rfl))⟩
  f15 := Tryz.func123.trans (congrArg some (by kernel_rfl))
  f20 := ⟨Tryz.f177.name, by decide, Tryz.func177.trans (congrArg some (by kernel_rfl))⟩
  f21 := ⟨Tryz.f178.name, by decide, Tryz.func178.trans (congrArg some (by kernel_rfl))⟩
  f22 := ⟨Tryz.f179.name, by decide, Tryz.func179.trans (congrArg some (by kernel_rfl))⟩
  f23 := ⟨Tryz.f180.name, by decide, Tryz.func180.trans (congrArg some (by kernel_rfl))⟩
  f24 := ⟨Tryz.f181.name, by decide, Tryz.func181.trans (congrArg some (by kernel_rfl))⟩
  f25 := ⟨Tryz.f182.name, by decide, Tryz.func182.trans (congrArg some (by kernel_rfl))⟩
  f26 := ⟨Tryz.f183.name, by decide, Tryz.func183.trans (congrArg some (by kernel_rfl))⟩
  f27 := ⟨Tryz.f184.name, by decide, Tryz.func184.trans (congrArg some (by kernel_rfl))⟩
  f28 := Tryz.func164.trans (congrArg some (by kernel_rfl))
  f29 := Tryz.func165.trans (congrArg some (by kernel_rfl))
  f46 := ⟨Tryz.f198.name, by decide, Tryz.func198.trans (congrArg some (by kernel_rfl))⟩
  f47 := Tryz.func199.trans (congrArg some (by kernel_rfl))
  f48 := Tryz.func200.trans (congrArg some (by kernel_rfl))
  f49 := ⟨Tryz.f201.name, by decide, Tryz.func201.trans (congrArg some (by kernel_rfl))⟩
  f50 := ⟨Tryz.f202.name, by decide, Tryz.func202.trans (congrArg some (by kernel_rfl))⟩
  f57 := ⟨Tryz.f205.name, by decide, Tryz.func205.trans (congrArg some (by kernel_rfl))⟩
  t0 := Tryz.underlying0
  a0 := Tryz.isAgg0
  z0 := Tryz.sizeOf0
  v0 := Tryz.zeroValue0
  t3 := Tryz.underlying3
  a3 := Tryz.isAgg3
  z3 := Tryz.sizeOf3
  v3 := Tryz.zeroValue3
  t4 := Tryz.underlying4
  a4 := Tryz.isAgg4
  z4 := Tryz.sizeOf4
  v4 := Tryz.zeroValue4
  t5 := Tryz.underlying5
  a5 := Tryz.isAgg5
  z5 := Tryz.sizeOf5
  v5 := Tryz.zeroValue5
  t9 := Tryz.underlying9
  a9 := Tryz.isAgg9
  z9 := Tryz.sizeOf9
  v9 := Tryz.zeroValue9
  t22 := Tryz.underlying50
  a22 := Tryz.isAgg50
  z22 := Tryz.sizeOf50
  v22 := Tryz.zeroValue50
  t25 := Tryz.underlying173
  a25 := Tryz.isAgg173
  z25 := Tryz.sizeOf173
  v25 := Tryz.zeroValue173
  t39 := Tryz.underlying130
  a39 := Tryz.isAgg130
  z39 := Tryz.sizeOf130
  v39 := Tryz.zeroValue130
  t45 := Tryz.underlying247
  a45 := Tryz.isAgg247
  z45 := Tryz.sizeOf247
  v45 := Tryz.zeroValue247
  t46 := Tryz.underlying248
  a46 := Tryz.isAgg248
  z46 := Tryz.sizeOf248
  v46 := Tryz.zeroValue248
  t50 := Tryz.underlying177
  a50 := Tryz.isAgg177
  z50 := Tryz.sizeOf177
  v50 := Tryz.zeroValue177
  t53 := Tryz.underlying22
  a53 := Tryz.isAgg22
  z53 := Tryz.sizeOf22
  v53 := Tryz.zeroValue22
  t55 := Tryz.underlying153
  a55 := Tryz.isAgg153
  z55 := Tryz.sizeOf153
  v55 := Tryz.zeroValue153
  t66 := Tryz.underlying264
  a66 := Tryz.isAgg264
  z66 := Tryz.sizeOf264
  v66 := Tryz.zeroValue264
  t70 := Tryz.underlying261
  a70 := Tryz.isAgg261
  z70 := Tryz.sizeOf261
  v70 := Tryz.zeroValue261
  t76 := Tryz.underlying270
  a76 := Tryz.isAgg270
  z76 := Tryz.sizeOf270
  v76 := Tryz.zeroValue270
  t77 := Tryz.underlying268
  a77 := Tryz.isAgg268
  z77 := Tryz.sizeOf268
  v77 := Tryz.zeroValue268 }
end Go.Proofs
set_option linter.all false
set_option maxHeartbeats 1000000
namespace Go.Proofs.YtdallmabajeajaaGreatDoor.Fw
open Go Go.Shelf Go.RowKit Go.Lib Go.Sort
theorem sortHp {α : Type} [Inhabited α] {c : α → List Value} {w0 w : World} {R : Hh} {Ps : List HP} {k : Nat} {E : TypeId} {X : SH} {xs : List α} (m : Hp w0 R (Sv k E X.v (xs.map c) :: Ps) w) (hne : xs ≠ []) (hk : ∀ x, (c x).length = k) :
    ∃ b off, X.a = some ⟨b, off, none⟩ ∧ X.n = xs.length ∧ b < w.heap.size ∧ HoldsK c k w b off xs.toArray ∧ ∀ n (ys : List α) os, ys.length = xs.length → Hp w0 R (Sv k E X.v (ys.map c) :: Ps) (sortWorldK c k w b off n ys.toArray os) := by
  obtain ⟨g, s, hg, m'⟩ := m.exact
  obtain ⟨h1, hn, ⟨_, e, _⟩ | ⟨b, off, cs, ha, hcap, hoff, hcells, rfl⟩⟩ := s.un
  · exact absurd (List.map_eq_nil_iff.1 e) hne
  rw [List.length_map] at h1 hn hcap hcells
  have hb : w.heap[b]? = some (.cells ⟨cs⟩ E (0, 0)) := hg b _ (by simp [hone])
  have hbs : b < w.heap.size := (Array.getElem?_eq_some_iff.1 hb).1
  have hcm : xs.length * k ≤ X.c * k := Nat.mul_le_mul_right _ hcap
  refine ⟨b, off, ha, hn, hbs, fun j hj => ⟨?_, ?_⟩, fun n ys os hys => ?_⟩
  · rw [size_flatK, List.size_toArray] at hj
    unfold World.cell?
    simp only [hb]
    have e1 : (cs.drop off)[j]? = (flatK c k xs.toArray).toList[j]? := by
      rw [flatK_list hk, ← hcells, List.getElem?_take_of_lt hj]
    rw [List.getElem?_drop, Array.getElem?_toList (xs := flatK c k xs.toArray)] at e1
    rw [if_neg (by simp)]
    show (⟨cs⟩ : Array Value)[off + j]? = _
    rw [show (⟨cs⟩ : Array Value)[off + j]? = cs[off + j]? from by simp, e1, Array.getElem?_eq_getElem (by simpa using hj), getElem!_pos _ _ (by simpa using hj)]
    rfl
  · unfold World.frozen?
    simp only [hb]
    simp
  · unfold sortWorldK
    refine Hp.grown ?_ os
    have hsz : (flatK c k ys.toArray).size = ys.length * k := by simp
    have hp := put_list (flatK c k ys.toArray) off ⟨cs⟩ (by rw [hsz, hys]; show _ ≤ cs.length; omega)
    have m2 : Hp w0 R ((fun h => h = hone b (.cells (putCells id off (flatK c k ys.toArray) ⟨cs⟩) E (0, 0))) :: Ps) (putRowK c k (Sort.ahead w n) b off ys.toArray) := by
      refine m'.block ?_ rfl rfl ⟨rfl, ?_⟩
      · show w.heap.modify b _ = _
        apply Array.ext_getElem?
        intro i
        rw [Array.getElem?_modify, Array.getElem?_setIfInBounds]
        by_cases hi : b = i
        · subst hi
          rw [if_pos rfl, if_pos rfl, if_pos hbs, hb]
          rfl
        · rw [if_neg hi, if_neg hi]
      · show w.drawn ≤ _
        simp [putRowK, putRow, mapBlock, Sort.ahead]
    refine m2.swp ⟨[], Ps, rfl, rfl⟩ fun h e => ?_
    subst e
    refine ⟨⟨fun d hd => ?_, by rw [List.length_map, hys]; exact h1.2⟩, .inr ⟨b, off, X.c, (putCells id off (flatK c k ys.toArray) ⟨cs⟩).toList, ?_, by rw [List.length_map, hys]; exact hcap, ?_, ?_, rfl⟩⟩
    · obtain ⟨x, _, rfl⟩ := List.mem_map.1 hd
      exact hk x
    · show Value.slice X.a X.n X.c = _
      rw [ha, hn, List.length_map, hys]
    · rw [Array.length_toList, hp.2]; exact hoff
    · rw [List.length_map, ← flatK_list hk, ← hsz]
      exact hp.1
end Go.Proofs.YtdallmabajeajaaGreatDoor.Fw
set_option linter.all false
set_option maxHeartbeats 4000000
set_option maxRecDepth 100000
namespace Go.Proofs.YtdallmabajeajaaGreatDoor.Fw
open Go
structure CmpOK {α : Type} (cf : α → α → Int) : Prop where
  irr : ∀ x, ¬ cf x x < 0
  tr : ∀ x y z, cf x y < 0 → cf y z < 0 → cf x z < 0
  nt : ∀ x y z, ¬ cf x y < 0 → ¬ cf y z < 0 → ¬ cf x z < 0
theorem sortF_c (X : SH) (xs : List QLease) (cf : QLease → QLease → Int) (g : FuncId) (hg : callable Tryz.prog g = true) (hc : ∀ x y R, Ctp Tryz.prog g [.agg ⟨cLease x⟩, .agg ⟨cLease y⟩] R [] (.int .i64 (cf x y))) (hO : CmpOK cf) (hl : xs.length ≤ 65536) (R : Hh) :
    Ctr (τ := List QLease) Tryz.prog 100 [X.v, .func (.func g) ⟨[]⟩ ⟨[]⟩] R [Sv 12 39 X.v (xs.map cLease)] (fun ys => ys.Perm xs ∧ ys.Pairwise fun a b => ¬ cf b a < 0) (fun _ => .tuple #[]) (fun ys => [Sv 12 39 X.v (ys.map cLease)]) := by
  intro w0 w m
  have hk : ∀ x : QLease, (cLease x).length = 12 := fun _ => rfl
  have h1 : ∀ x : QLease, ∀ v ∈ cLease x, v.oneCell' = true := fun x v hv => by
    simp only [cLease, List.mem_cons, List.not_mem_nil, or_false] at hv
    rcases hv with h | h | h | h | h | h | h | h | h | h | h | h <;> (rw [h]; rfl)
  by_cases hne : xs = []
  · subst hne
    have hn := (Hp.ncap m ⟨[], [], rfl, rfl⟩).1
    have h0 : X.n = 0 := hn
    have hv : X.v = .slice X.a 0 X.c := by unfold SH.v; rw [h0]
    have := AnyF.slices_SortFunc_none Tryz.laysSlF06_f100 X.a X.c (.func (.func g) #[] #[]) w
    rw [hv]
    refine Calls.mono this fun e w' he => ?_
    obtain ⟨rfl, rfl⟩ := he
    exact ⟨[], ⟨.refl _, .nil⟩, rfl, by rw [← hv]; exact m⟩
  · obtain ⟨b, off, ha, hn, hb, hH, hW⟩ := sortHp m hne hk
    have hv : X.v = .slice (some ⟨b, off, none⟩) xs.toArray.size X.c := by unfold SH.v; rw [ha, hn]; rfl
    rw [hv]
    have hO2 : Go.Sort.SWO (ltOf cf) := ⟨fun x => decide_eq_false (hO.irr x), fun x y z h1 h2 => decide_eq_true (hO.tr x y z (of_decide_eq_true h1) (of_decide_eq_true h2)), fun x y z h1 h2 => decide_eq_false (hO.nt x y z (of_decide_eq_false h1) (of_decide_eq_false h2))⟩
    have hcmp : CmpLays Tryz.prog g #[] cLease 12 cf b off xs.toArray.size w := fun q os dk _ x y => exact_of (hc x y) _
    have := AnyQ.slices_SortFunc Tryz.laysSlF06_f100 12 Tryz.isAgg39 Tryz.sizeOf39 cLease hk h1 cf hO2 g #[] b off X.c xs.toArray w (fun args w => run_callFunc hg args w) hcmp hH hb (by simp only [List.size_toArray]; omega)
    refine Calls.mono this fun e w' he => ?_
    obtain ⟨rfl, d', n, os, hp, hs, rfl⟩ := he
    obtain ⟨ys⟩ := d'
    have hl2 : ys.length = xs.length := by simpa using hp.1
    have hm := hW n ys os hl2
    refine ⟨ys, ⟨?_, ?_⟩, rfl, by rw [← hv]; exact hm⟩
    · have h2 := hp.2.2
      have e1 : ((⟨ys⟩ : Array QLease).extract 0 xs.toArray.size).toList = ys := by rw [show xs.toArray.size = ys.length by simp [hl2]]; simp
      have e2 : (xs.toArray.extract 0 xs.toArray.size).toList = xs := by simp
      rw [e1, e2] at h2
      exact h2
    · rw [List.pairwise_iff_getElem]
      intro i j hi hj hij
      have h2 := hs i j (Nat.zero_le _) hij (by simp only [List.size_toArray]; omega)
      rw [getElem!_pos _ _ (by simpa using hj), getElem!_pos _ _ (by simpa using hi)] at h2
      exact of_decide_eq_false h2
end Go.Proofs.YtdallmabajeajaaGreatDoor.Fw
set_option linter.all false
set_option maxHeartbeats 4000000
set_option maxRecDepth 100000
namespace Go.Proofs.YtdallmabajeajaaGreatDoor.Fw
open Go
def bySM (a b : QLease) : Int := orL [cmpM a.Subnet.Addr b.Subnet.Addr, cmpM a.Subnet.Len b.Subnet.Len]
theorem bySubnet_c (a b : QLease) (R : Hh) : Ctp Tryz.prog 101 [.agg ⟨cLease a⟩, .agg ⟨cLease b⟩] R [] (.int .i64 (bySM a b)) := by
  refine in_ Tryz.func101 fun w0 => ?_
  refine bo_' fun b1 => ?_
  refine bo_' fun b2 => ?_
  refine slz_ (e1 := cmpM a.Subnet.Addr b.Subnet.Addr) (e2 := cmpM a.Subnet.Len b.Subnet.Len) fun V => ?_
  refine cp_ (fun R' q1 q2 => or_c V [cmpM a.Subnet.Addr b.Subnet.Addr, cmpM a.Subnet.Len b.Subnet.Len] R' (rq_ q2 r0)) ?_
  exact re_ rfl
instance (a b : QLease) (R : Hh) : Cp 101 [.agg ⟨cLease a⟩, .agg ⟨cLease b⟩] R [] True (.int .i64 (bySM a b)) := ⟨fun _ => bySubnet_c a b R⟩
def byUM (a b : QLease) : Int := orL [cmpM a.Until b.Until, bySM a b]
theorem byUntil_c (a b : QLease) (R : Hh) : Ctp Tryz.prog 128 [.agg ⟨cLease a⟩, .agg ⟨cLease b⟩] R [] (.int .i64 (byUM a b)) := by
  refine in_ Tryz.func128 fun w0 => ?_
  refine bo_' fun b1 => ?_
  refine bo_' fun b2 => ?_
  refine slz_ (e1 := cmpM a.Until b.Until) (e2 := bySM a b) fun V => ?_
  refine cp_ (fun R' q1 q2 => or_c V [cmpM a.Until b.Until, bySM a b] R' (rq_ q2 r0)) ?_
  exact re_ rfl
theorem bySM_lt {a b : QLease} : bySM a b < 0 ↔ a.Subnet.Addr < b.Subnet.Addr ∨ a.Subnet.Addr = b.Subnet.Addr ∧ a.Subnet.Len < b.Subnet.Len := by
  simp only [bySM, orL, cmpM]; grind
theorem bySM_ok : CmpOK bySM := ⟨fun x => by rw [bySM_lt]; omega, fun x y z h1 h2 => by rw [bySM_lt] at *; omega, fun x y z h1 h2 => by rw [bySM_lt] at *; omega⟩
theorem byUM_lt {a b : QLease} : byUM a b < 0 ↔ a.Until < b.Until ∨ a.Until = b.Until ∧ (a.Subnet.Addr < b.Subnet.Addr ∨ a.Subnet.Addr = b.Subnet.Addr ∧ a.Subnet.Len < b.Subnet.Len) := by
  rw [← bySM_lt]
  simp only [byUM, orL, cmpM]; grind
theorem byUM_ok : CmpOK byUM := ⟨fun x => by rw [byUM_lt]; omega, fun x y z h1 h2 => by rw [byUM_lt] at *; omega, fun x y z h1 h2 => by rw [byUM_lt] at *; omega⟩
theorem leases_c (s : SG) (v : SV) (S : LS) (o : SOK s) (r : Rel s v S) (R : Hh) : Ctr (τ := SH) Tryz.prog 58 [.pointer (some (padd s.sp 0))] R (stP s v) (fun _ => True) (fun X => X.v) (fun X => Sv 12 39 X.v (S.ls.map cLease) :: stP s v) := by
  have hlen := rel_len r o
  refine in_ Tryz.func58 fun w0 => ?_
  refine rg_ fun b => ?_
  refine nil_ cLease 12 39 ?_
  refine lo_ (fun z : SH × List QLease × List (Int × QLease) => [(3, z.1.v)]) (fun z => [Sv 12 39 z.1.v (z.2.1.map cLease), Ri b s.rl (vInt .i64) (vAgg cLease) v.ml z.2.2]) (fun z => (z.2.1 ++ z.2.2.map (·.2)).Perm S.ls) (fun z => z.2.2.length) (nilH, [], v.ml) (by simpa using r.ml) fun ⟨U, l1, left⟩ hz => ?_
  dsimp only at hz ⊢
  have hzl := hz.length_eq
  rw [List.length_append, List.length_map] at hzl
  refine nx_ (fun h => ?_) (fun i e h => ?_)
  · subst h
    simp only [List.map_nil, List.append_nil] at hz
    refine ur_ ?_
    refine ca_ (fun R' q1 q2 => sortF_c U l1 bySM 101 (cat rfl) bySubnet_c bySM_ok (by omega) R') fun ys hy => ?_
    have e : ys = S.ls := sorted_uniq (lt := fun a b => bySM a b < 0) (hy.1.trans hz) hy.2 (r.li.rise.imp fun {a b} h => by rw [bySM_lt]; omega) fun a ha b hb h1 h2 => by
      rw [bySM_lt] at h1 h2
      exact rise_eq r.li.rise ((hy.1.trans hz).mem_iff.1 ha) ((hy.1.trans hz).mem_iff.1 hb) (by omega)
    subst e
    exact rt_ U trivial
  · refine ax_ fun b3 => ?_
    refine sl_ fun V => ?_
    refine ap_ fun W => ?_
    refine ue_ ?_
    have hp := perm_erase h
    refine ba_ (W, l1 ++ [e.2], left.eraseIdx i) ?_ ?_
    · dsimp only
      rw [List.append_assoc]
      refine (List.Perm.append_left l1 ?_).trans hz
      exact (hp.map (·.2)).symm
    · dsimp only
      have := hp.length_eq
      simp only [List.length_cons] at this
      omega
end Go.Proofs.YtdallmabajeajaaGreatDoor.Fw
set_option linter.all false
set_option maxHeartbeats 4000000
set_option maxRecDepth 100000
namespace Go.Proofs.YtdallmabajeajaaGreatDoor.Fw
open Go
section
variable (s : SG) (v : SV) (S : LS) (o : SOK s) (r : Rel s v S) (R : Hh)
include o r
theorem snapshot_c : Ctr (τ := SH) Tryz.prog 25 [.pointer (some (padd s.sp 0))] R (stP s v) (fun _ => True) (fun X => .agg ⟨cSnap ⟨S.rev, S.now, X⟩⟩) (fun X => Sv 12 39 X.v (S.ls.map cLease) :: stP s v) := by
  rw [← r.rev, ← r.now]
  refine in_ Tryz.func25 fun w0 => ?_
  refine ax_ fun b => ?_
  refine hh_ [[0, 1, 2, 3, 4, 5, 6, 7, 8, 9], [10], [11], [12], [13]] [[Bx s.sp 120 (clease_Store (s.st v.now v.rev v.X))]] ?_
  refine ca_ (fun R' q1 q2 => leases_c s v S o r R') fun X _ => ?_
  exact rtC_ X trivial
theorem image_c : Ctr (τ := SH × SH) Tryz.prog 30 [.pointer (some (padd s.sp 0))] R (stP s v) (fun _ => True) (fun X => .agg ⟨cImage ⟨S.rev, S.now, X.1, X.2⟩⟩) (fun X => Sv 12 39 X.1.v (S.ls.map cLease) :: Sv 14 72 X.2.v ((logS s.c S).map cEvent) :: stP s v) := by
  have hlg := log_len r
  have hlo := o.f.log
  rw [← r.rev, ← r.now, ← r.es]
  refine in_ Tryz.func30 fun w0 => ?_
  refine ax_ fun b => ?_
  refine hh_ [[0, 1, 2, 3, 4, 5, 6, 7, 8, 9, 12, 13, 14, 15, 16], [10], [11], [17], [18], [19]] [[Bx s.sp 120 (clease_Store (s.st v.now v.rev v.X))]] ?_
  refine ca_ (fun R' q1 q2 => leases_c s v S o r R') fun X _ => ?_
  refine ca_ (fun R' q1 q2 => cloneE_c v.X v.es (by omega) R' (rq_ q2 r2)) fun Y _ => ?_
  exact rtC_ (X, Y) trivial
theorem holder_c (a : Int) (a0 : 0 ≤ a) (a1 : a < 4294967296) : Ctr (τ := QLease × Int) Tryz.prog 24 [.pointer (some (padd s.sp 0)), .int .u32 a] R (stP s v) (fun x => x = match holderS S a with | some l => (l, 0) | none => (zL, 3)) (fun x => .tuple #[.agg ⟨cLease x.1⟩, .int .i64 x.2]) (fun x => stP s v) := by
  have hlen := rel_len r o
  refine in_ Tryz.func24 fun w0 => ?_
  refine ax_ fun b => ?_
  refine rg_ fun b2 => ?_
  have key : ∀ e ∈ v.ml, contM e.2.Subnet a = true ↔ Cnt e.2.Subnet a := fun e he => by
    have hm := r.ml.mem_iff.1 (List.mem_map_of_mem (f := (·.2)) he)
    have m := may_facts o (r.li.ok _ hm).may
    exact contM_iff m.2.2.1 m.2.2.2 a0 a1
  refine lo_ (fun left : List (Int × QLease) => []) (fun left => [Ri b2 s.rl (vInt .i64) (vAgg cLease) v.ml left]) (fun left => ∃ dn : List (Int × QLease), v.ml.Perm (dn ++ left) ∧ ∀ e ∈ dn, ¬ contM e.2.Subnet a = true) (fun left => left.length) v.ml ⟨[], .refl _, by simp⟩ fun left ⟨dn, h1, h2⟩ => ?_
  refine nx_ (fun h => ?_) (fun i e h => ?_)
  · subst h
    rw [List.append_nil] at h1
    refine ur_ ?_
    refine rm_ (zL, 3) ?_
    rw [holder_none fun x hx => ?_]
    obtain ⟨e, he, rfl⟩ := List.mem_map.1 (r.ml.mem_iff.2 hx)
    rw [← key e he]
    exact h2 e (h1.mem_iff.1 he)
  · have he : e ∈ v.ml := h1.mem_iff.2 (by simp [List.mem_of_getElem? h])
    have hp := perm_erase h
    refine ax_ fun b3 => ?_
    refine if_ (fun c1 => ?_) (fun c1 => ?_)
    · refine ue_ ?_
      refine ur_ ?_
      refine rm_ (e.2, 0) ?_
      rw [holder_some o r (r.ml.mem_iff.1 (List.mem_map_of_mem (f := (·.2)) he)) ((key e he).1 c1)]
    · refine ue_ ?_
      refine ba_ (left.eraseIdx i) ⟨dn ++ [e], ?_, fun x hx => ?_⟩ (by have := hp.length_eq; simp only [List.length_cons] at this; omega)
      · rw [List.append_assoc]
        exact h1.trans (List.Perm.append_left dn hp)
      · rcases List.mem_append.1 hx with hx | hx
        · exact h2 x hx
        · rw [List.mem_singleton] at hx
          rw [hx]
          intro e2
          rw [e2] at c1
          cases c1
theorem watch_c (from_ most : Int) : Ctr (τ := SH) Tryz.prog 32 [.pointer (some (padd s.sp 0)), .int .i64 from_, .int .i64 most] R (stP s v) (fun _ => True) (fun X => .tuple #[X.v, .int .i64 (watchS s.c S from_ most).2]) (fun X => Sv 14 72 X.v ((watchS s.c S from_ most).1.map cEvent) :: stP s v) := by
  have hlg := log_len r
  have hlo := o.f.log
  have hrv := r.li.rev
  unfold maxRev at hrv
  have er := r.rev
  have eb : (s.st v.now v.rev v.X).clock.rev = v.rev := rfl
  unfold watchS
  rw [← r.rev, ← r.es] 
  refine in_ Tryz.func32 fun w0 => ?_
  refine if_ (fun c1 => ?_) (fun c1 => ?_)
  · rw [if_pos (by omega)]
    refine nil_ cEvent 14 72 ?_
    exact rt_ nilH trivial
  · rw [if_neg (by omega)]
    refine if_ (fun c2 => ?_) (fun c2 => ?_)
    · rw [if_pos (by omega)]
      refine nil_ cEvent 14 72 ?_
      exact rt_ nilH trivial
    · rw [if_neg (by omega)]
      refine if_ (fun c3 => ?_) (fun c3 => ?_)
      · rw [if_pos (by omega)]
        refine nil_ cEvent 14 72 ?_
        exact rt_ nilH trivial
      · rw [if_neg (by omega)]
        have e9 : (v.es.drop (v.es.length - (v.rev - from_)).toNat).length = v.es.length - (v.es.length - (v.rev - from_)).toNat := List.length_drop
        have e10 : (v.es.drop (v.es.length - ((s.st v.now v.rev v.X).clock.rev - from_)).toNat).length = v.es.length - (v.es.length - (v.rev - from_)).toNat := List.length_drop
        refine if_ (fun c4 => ?_) (fun c4 => ?_)
        · refine ca_ (fun R' q1 q2 => cloneE_c _ ((v.es.drop (v.es.length - (v.rev - from_)).toNat).take most.toNat) (by simp only [List.length_take, List.length_drop]; omega) R' (Rqu (Rqw (rq_ q2 r1) _ (by omega)) _ (by omega))) fun Y _ => ?_
          exact rt_ Y trivial
        · rw [List.take_of_length_le (by omega)]
          refine ca_ (fun R' q1 q2 => cloneE_c _ (v.es.drop (v.es.length - (v.rev - from_)).toNat) (by simp only [List.length_drop]; omega) R' (Rqw (rq_ q2 r1) _ (by omega))) fun Y _ => ?_
          exact rt_ Y trivial
end
end Go.Proofs.YtdallmabajeajaaGreatDoor.Fw
set_option linter.all false
set_option maxHeartbeats 4000000
set_option maxRecDepth 100000
namespace Go.Proofs.YtdallmabajeajaaGreatDoor.Fw
open Go
theorem heap_ex (L : List Qtimer_one) (d : (L.map (·.id)).Nodup) : ∃ h m, Heap ahead h ∧ Pl h m ∧ h.Perm L := by
  let le : Qtimer_one → Qtimer_one → Bool := fun a b => !decide (ahead b a)
  have hs : (L.mergeSort le).Pairwise fun a b => le a b = true := List.pairwise_mergeSort (fun a b c h1 h2 => by
    simp only [le, Bool.not_eq_true', decide_eq_false_iff_not] at *
    unfold ahead at *; omega) (fun a b => by
    simp only [le, Bool.or_eq_true, Bool.not_eq_true', decide_eq_false_iff_not]
    unfold ahead; omega) L
  have hp := List.mergeSort_perm L le
  generalize L.mergeSort le = h at hs hp
  have hd : (h.map (·.id)).Nodup := (hp.map _).nodup_iff.2 d
  have hgt : ∀ j, (hj : j < h.length) → gt h j = h[j] := fun j hj => by
    unfold gt
    simp [hj]
  have hkd : KD ((h.zipIdx).map fun e => (e.1.id, (e.2 : Int))) := by
    unfold KD
    rw [List.map_map]
    have : ((·.1) ∘ fun e : Qtimer_one × Nat => (e.1.id, (e.2 : Int))) = (·.id) ∘ (·.1) := rfl
    rw [this, ← List.map_map, List.zipIdx_map_fst]
    exact hd
  refine ⟨h, (h.zipIdx).map fun e => (e.1.id, (e.2 : Int)), fun j h1 h2 => ?_, ⟨hkd, fun j k hj hk e => ?_, fun j hj _ => ?_, fun k v e => ?_⟩, hp⟩
  · have hpl := par_lt h1
    rw [List.pairwise_iff_getElem] at hs
    have := hs (par j) j (by omega) h2 hpl
    rw [hgt j h2, hgt (par j) (by omega)]
    simpa [le] using this
  · rw [hgt j hj, hgt k hk] at e
    have h1 := hd
    unfold List.Nodup at h1
    rw [List.pairwise_map, List.pairwise_iff_getElem] at h1
    rcases Nat.lt_trichotomy j k with hjk | hjk | hjk
    · exact absurd e (h1 j k hj hk hjk)
    · exact hjk
    · exact absurd e.symm (h1 k j hk hj hjk)
  · refine mget_mem hkd (List.mem_map.2 ⟨(gt h j, j), ?_, rfl⟩)
    rw [hgt j hj, List.mem_zipIdx_iff_getElem?]
    simp [hj]
  · obtain ⟨⟨x, i⟩, hx, e2⟩ := List.mem_map.1 (mget_in e)
    rw [List.mem_zipIdx_iff_getElem?] at hx
    obtain ⟨hi, e3⟩ := List.getElem?_eq_some_iff.1 hx
    refine ⟨i, hi, ?_⟩
    rw [hgt i hi, e3]
    exact congrArg Prod.fst e2
theorem drop0_c (t : Addr) (lim : Int) (X : SH) (r : Nat) (h : List Qtimer_one) (m : List (Int × Int)) (id : Int) (hi : mget m id = none) (R : Hh) : Ctr (τ := Int) Tryz.prog 134 [.pointer (some (padd t 0)), .int .i64 id] R [Bx t 157 (ctimer_Timers ⟨lim, X, some r⟩), Sv 2 224 X.v (h.map ctimer_one), Mp r (vInt .i64) (vInt .i64) m] (fun _ => True) (fun e => .int .i64 e) (fun _ => [Bx t 157 (ctimer_Timers ⟨lim, X, some r⟩), Sv 2 224 X.v (h.map ctimer_one), Mp r (vInt .i64) (vInt .i64) m]) := by
  refine in_ Tryz.func134 fun w0 => ?_
  simp only [hi, Option.isSome_none, Option.getD_none, Bool.not_false]
  refine run_ ?_
  exact rt_ 3 trivial
section
variable (s : SG) (v : SV) (R : Hh)
theorem remove0_lc (l : QLease) (hI : PI s.g v.pr) (r0' : 0 ≤ v.rev) (r1' : v.rev ≤ 1099511627776) (hl : v.es.length ≤ 65000) (h0 : 1 ≤ s.c.Log) (h1 : s.c.Log ≤ 65000) (h2 : v.es.length ≤ s.c.Log)
    (a0 : 0 ≤ l.Subnet.Addr) (a1 : l.Subnet.Addr < 4294967296) (a2 : l.Subnet.Len = s.g.sl) (a3 : validM l.Subnet = true) (a4 : inP v.pr (numP s.g l.Subnet)) (a5 : mget v.tl l.Host = none) :
    Ctr (τ := SH × SH × List Qpool_run) Tryz.prog 98 [.pointer (some (padd s.sp 0)), .agg ⟨cLease l⟩] R (stP s v) (fun x => RunsP x.2.2 ∧ (∀ m, inP x.2.2 m ↔ inP v.pr m ∧ m ≠ numP s.g l.Subnet) ∧ x.2.2.length ≤ v.pr.length + 1) (fun _ => .tuple #[]) (fun x => stP s { v with rev := v.rev + 1, X := x.1, es := (v.es ++ [(⟨v.rev + 1, 2, l⟩ : QEvent)]).drop (v.es.length + 1 - s.c.Log.toNat), ml := mdel v.ml l.Host, PX := x.2.1, pr := x.2.2 }) := by
  refine in_ Tryz.func98 fun w0 => ?_
  refine bo_' fun b => ?_
  refine ca_ (fun R' q1 q2 => free_c s.pp s.g v.PX v.pr l.Subnet hI a0 a1 a2 a3 a4 R') fun y hy => ?_
  refine ca_ (fun R' q1 q2 => drop0_c s.tp 64 v.TX s.tm v.th v.tl l.Host a5 R') fun x hx => ?_
  refine md_ ?_
  refine hh_ [[0, 1, 2, 7], [3, 4, 5], [6], [8], [9]] [[Bx b 39 (cLease l)]] ?_
  refine ca_ (fun R' q1 q2 => step_c s R' v.now v.rev v.X r0' r1') fun _ _ => ?_
  refine ca_ (fun R' q1 q2 => note_c s R' v.now (v.rev + 1) v.X v.es ⟨v.rev + 1, 2, l⟩ hl h0 h1 h2) fun Y _ => ?_
  exact rn_ (Y, y) hy
end
end Go.Proofs.YtdallmabajeajaaGreatDoor.Fw
set_option linter.all false
namespace Go.Proofs.YtdallmabajeajaaGreatDoor.Fw
open Go
def tickR (S : LS) (n : Int) : LS × Int := if n < 0 then (S, 1) else if (tickS S n).rev > maxRev then (S, 4) else (tickS S n, 0)
section
variable {s : SG} {v : SV} {S : LS} {m : Int} {l : QLease}
theorem due_sort (o : SOK s) (r : Rel s v S) : (dueS S m).Pairwise fun a b => ¬ byUM b a < 0 := by
  have hs : (dueS S m).Pairwise fun a b => leU a b = true := List.pairwise_mergeSort (fun a b c h1 h2 => by
    unfold leU at *
    simp only [decide_eq_true_eq] at *
    omega) (fun a b => by
    unfold leU
    simp only [Bool.or_eq_true, decide_eq_true_eq]
    omega) _
  refine List.Pairwise.imp_of_mem (fun {a b} ha hb h => ?_) hs
  have h1 := (may_facts o (r.li.ok a (mem_due.1 ha).1).may).1
  have h2 := (may_facts o (r.li.ok b (mem_due.1 hb).1).may).1
  unfold leU at h
  rw [decide_eq_true_eq] at h
  rw [byUM_lt]
  omega
theorem due_inj (r : Rel s v S) {a b : QLease} (ha : a ∈ dueS S m) (hb : b ∈ dueS S m) (h1 : ¬ byUM a b < 0) (h2 : ¬ byUM b a < 0) : a = b := by
  rw [byUM_lt] at h1 h2
  exact rise_eq r.li.rise (mem_due.1 ha).1 (mem_due.1 hb).1 (by omega)
theorem due_host (r : Rel s v S) : ((dueS S m).map (·.Host)).Nodup := by
  rw [(due_perm.map _).nodup_iff]
  exact ((apart_nodup.1 r.li.apart).sublist (List.filter_sublist.map _))
theorem due_ids (r : Rel s v S) {OD : List Qtimer_one} (h : OD.Perm (v.th.filter fun y => decide (y.at_ ≤ m))) : ((OD.map (·.id)).map fun k => (mget v.ml k).getD zL).Perm (dueS S m) := by
  refine List.Perm.trans ?_ due_perm.symm
  have h1 := ((h.trans (r.th.filter _)).map (·.id)).map fun k => (mget v.ml k).getD zL
  refine h1.trans ?_
  rw [List.filter_map, List.map_map, List.map_map]
  have e : (List.filter ((fun y : Qtimer_one => decide (y.at_ ≤ m)) ∘ fun l : QLease => (⟨l.Host, l.Until⟩ : Qtimer_one)) S.ls) = S.ls.filter fun x => decide (x.Until ≤ m) := rfl
  rw [e]
  have e2 : (S.ls.filter fun x => decide (x.Until ≤ m)).map (((fun k => (mget v.ml k).getD zL) ∘ fun x : Qtimer_one => x.id) ∘ fun l : QLease => (⟨l.Host, l.Until⟩ : Qtimer_one)) = (S.ls.filter fun x => decide (x.Until ≤ m)).map id := by
    apply List.map_congr_left
    intro x hx
    have hx := (List.mem_filter.1 hx).1
    show (mget v.ml x.Host).getD zL = x
    rw [mget_ofH r, (ofH_some r.li.apart).2 ⟨hx, rfl⟩]
    rfl
  rw [e2, List.map_id]
def TickI (s : SG) (S : LS) (m : Int) (th : List Qtimer_one) (tl : List (Int × Int)) (k : Nat) (u : SV) : Prop :=
  (∃ gv : SV, Rel s gv (((dueS S m).take k).foldl remS S) ∧ gv.rev = u.rev ∧ gv.es = u.es ∧ gv.ml = u.ml ∧ gv.pr = u.pr) ∧ u.now = m ∧ u.th = th ∧ u.tl = tl
variable {th : List Qtimer_one} {tl : List (Int × Int)} {k : Nat} {u : SV}
theorem tick_in (r : Rel s v S) (hk : k < (dueS S m).length) : (dueS S m)[k] ∈ (((dueS S m).take k).foldl remS S).ls := by
  rw [foldl_rem]
  have hm := (mem_due.1 (List.getElem_mem hk)).1
  refine List.mem_filter.2 ⟨hm, decide_eq_true fun x hx e => ?_⟩
  have hd := due_host (m := m) r
  unfold List.Nodup at hd
  rw [List.pairwise_map, List.pairwise_iff_getElem] at hd
  obtain ⟨j, hj, rfl⟩ := List.getElem_of_mem hx
  rw [List.length_take] at hj
  rw [List.getElem_take] at e
  exact hd j k (by omega) hk (by omega) e.symm
theorem tick_step (o : SOK s) (r : Rel s v S) (hk : k < (dueS S m).length) (hr : S.rev + (dueS S m).length ≤ maxRev) (h : TickI s S m th tl k u) {X PX : SH} {pr : List Qpool_run} (hz : RunsP pr ∧ (∀ i, inP pr i ↔ inP u.pr i ∧ i ≠ numP s.g (dueS S m)[k].Subnet) ∧ pr.length ≤ u.pr.length + 1) :
    TickI s S m th tl (k + 1) { u with rev := u.rev + 1, X := X, es := (u.es ++ [(⟨u.rev + 1, 2, (dueS S m)[k]⟩ : QEvent)]).drop (u.es.length + 1 - s.c.Log.toNat), ml := mdel u.ml (dueS S m)[k].Host, PX := PX, pr := pr } := by
  obtain ⟨⟨gv, rg, e1, e2, e3, e4⟩, h2, h3, h4⟩ := h
  have hin := tick_in r hk
  obtain ⟨h', m', a1, a2, a3⟩ := heap_ex (gv.th.filter fun y => decide (y.id ≠ (dueS S m)[k].Host)) (rg.pl.nd.sublist (List.filter_sublist.map _))
  have hrv : (((dueS S m).take k).foldl remS S).rev = S.rev + k := by
    rw [foldl_rem, List.length_take]
    show S.rev + _ = _
    rw [Nat.min_eq_left (by omega)]
  have := rel_rem rg o hin (by rw [hrv]; omega) (y := ((nilH, h', m'), X)) (z := (PX, pr)) ⟨a1, a2, a3⟩ (by rw [e4]; exact hz)
  refine ⟨⟨⟨gv.now, gv.rev + 1, X, (gv.es ++ [(⟨gv.rev + 1, 2, (dueS S m)[k]⟩ : QEvent)]).drop (gv.es.length + 1 - s.c.Log.toNat), mdel gv.ml (dueS S m)[k].Host, nilH, h', m', PX, pr⟩, ?_, ?_, ?_, ?_, ?_⟩, h2, h3, h4⟩
  · rw [List.take_succ_eq_append_getElem hk, List.foldl_append]
    exact this
  · show gv.rev + 1 = u.rev + 1; rw [e1]
  · show (gv.es ++ [_]).drop _ = (u.es ++ [_]).drop _; rw [e1, e2]
  · show mdel gv.ml _ = mdel u.ml _; rw [e3]
  · rfl
theorem tick_end {n : Int} (r : Rel s v S) (hn : 0 ≤ n) (hm : m = aft S.now n) (hr : S.rev + (dueS S m).length ≤ maxRev) (hk : k = (dueS S m).length) (h : TickI s S m th tl k u) (h1 : Heap ahead th) (h2 : Pl th tl) (h3 : th.Perm (v.th.filter fun y => decide (m < y.at_))) : Rel s u (tickS S n) := by
  obtain ⟨⟨gv, rg, e1, e2, e3, e4⟩, f2, f3, f4⟩ := h
  rw [hk, List.take_length] at rg
  have q1 : tickS S n = ⟨m, ((dueS S m).foldl remS S).rev, ((dueS S m).foldl remS S).ls, ((dueS S m).foldl remS S).es⟩ := by
    unfold tickS
    rw [← hm, foldl_rem, foldl_rem]
  have q2 : (tickS S n).ls = S.ls.filter fun y => decide (m < y.Until) := by rw [tick_eq r.li.apart, ← hm]
  have q3 := r.li.tick hn (by rw [← hm]; exact hr)
  refine ⟨q3, by rw [f2, q1], by rw [← e1, rg.rev, q1], ?_, by rw [← e3]; exact rg.kd, by rw [← e3, q1]; exact rg.ml, by rw [← e3]; exact rg.mh, by rw [f3]; exact h1, by rw [f3, f4]; exact h2, ?_, by rw [← e4]; exact rg.runs, by rw [← e4, q1]; exact rg.tk⟩
  · rw [← e2, rg.es, q1]; rfl
  · rw [f3, q2]
    refine h3.trans ((r.th.filter _).trans ?_)
    rw [List.filter_map]
    exact .refl _
end
end Go.Proofs.YtdallmabajeajaaGreatDoor.Fw
set_option linter.all false
set_option maxHeartbeats 4000000
set_option maxRecDepth 100000
namespace Go.Proofs.YtdallmabajeajaaGreatDoor.Fw
open Go
section
variable (s : SG) (v : SV) (S : LS) (R : Hh)
theorem tick_c (o : SOK s) (r : Rel s v S) (n : Int) (hn : n ≤ 9223372036854775807) : Ctr (τ := SV × LS × Int) Tryz.prog 94 [.pointer (some (padd s.sp 0)), .int .i64 n] R (stP s v) (fun x => Rel s x.1 x.2.1 ∧ tickR S n = x.2) (fun x => .int .i64 x.2.2) (fun x => stP s x.1) := by
  have hlen := rel_len r o
  have hrev := r.li.rev
  have hvr := r.rev
  refine in_ Tryz.func94 fun w0 => ?_
  refine if_ (fun c1 => ?_) (fun c1 => ?_)
  · exact rt_ (v, S, 1) ⟨r, by unfold tickR; rw [if_pos (by omega)]⟩
  · have haft : afterM v.now n = aft S.now n := by
      have h1 := r.li.now
      rw [r.now]
      exact after_eq h1.1 h1.2 (by omega) (by unfold never; omega)
    refine rg_ fun b => ?_
    refine lo_ (fun z : Int × List (Int × QLease) => [(5, .int .i64 z.1)]) (fun z => [Ri b s.rl (vInt .i64) (vAgg cLease) v.ml z.2]) (fun z => ∃ dn : List (Int × QLease), v.ml.Perm (dn ++ z.2) ∧ z.1 = ((dn.filter fun e => decide (e.2.Until ≤ aft S.now n)).length : Int)) (fun z => z.2.length) (0, v.ml) ⟨[], .refl _, rfl⟩ fun ⟨cn, left⟩ ⟨dn, h1, h2⟩ => ?_
    dsimp only at h1 h2 ⊢
    have hdl := h1.length_eq
    rw [List.length_append] at hdl
    have hcn : cn ≤ dn.length ∧ 0 ≤ cn := by rw [h2]; exact ⟨Int.ofNat_le.2 (List.length_filter_le _ _), Int.natCast_nonneg _⟩
    refine nx_ (fun h => ?_) (fun i e h => ?_)
    · subst h
      refine ur_ ?_
      have hr0 : 0 ≤ v.rev := by omega
      have hr1 : v.rev ≤ 1099511627776 := by unfold maxRev at hrev; omega
      refine cp_ (fun R' q1 q2 => room_c s R' v.now v.rev v.X cn hr0 hr1 (by omega) (by omega)) ?_
      have hcd : cn = ((dueS S (aft S.now n)).length : Int) := by
        rw [h2]
        rw [List.append_nil] at h1
        have e1 := (h1.map (·.2)).symm.trans r.ml
        have e2 := ((e1.filter fun x => decide (x.Until ≤ aft S.now n)).length_eq)
        rw [(due_perm (s := S)).length_eq, ← e2, List.filter_map, List.length_map]
        rfl
      have htk := congrArg LS.rev (tick_eq r.li.apart n)
      refine if_ (fun c2 => ?_) (fun c2 => ?_)
      · exact rt_ (v, S, 4) ⟨r, by unfold tickR; rw [if_neg (by omega), if_pos (by rw [htk]; show S.rev + _ > maxRev; unfold maxRev; omega)]⟩
      · have hout : tickR S n = (tickS S n, 0) := by unfold tickR; rw [if_neg (by omega), if_neg (by rw [htk]; show ¬ S.rev + _ > maxRev; unfold maxRev; omega)]
        refine ca_ (fun R' q1 q2 => pass_c s R' v.now v.rev v.X n) fun _ _ => ?_
        rw [haft]
        refine nil_ cLease 12 39 ?_
        refine run_ ?_
        refine hh_ [[11], [0, 1, 2, 3, 4, 5, 6, 7, 8], [9], [10]] [[], [Bx s.sp 120 (clease_Store (s.st (aft S.now n) v.rev v.X))]] ?_
        refine ca_ (fun R' q1 q2 => due_c s.tp 64 v.TX s.tm v.th v.tl (aft S.now n) (by omega) r.hp r.pl R') fun ⟨⟨TX, th, tl⟩, DX, ds⟩ ⟨hh0, hpl, hth, OD, hds, hOD⟩ => ?_
        dsimp only at hh0 hpl hth hds hOD ⊢
        have hdl := hOD.length_eq
        have hdl2 : OD.length ≤ 64 := by rw [hdl]; exact Nat.le_trans (List.length_filter_le _ _) hlen.2.1
        have hdl3 : ds.length = OD.length := by rw [hds, List.length_map]
        let lo : Int → QLease := fun k => (mget v.ml k).getD zL
        refine lo_ (fun z : SH × List QLease × Nat => [(8, z.1.v), (56, .int .i64 z.2.2)]) (fun z => [Sv 12 39 z.1.v (z.2.1.map cLease)]) (fun z => z.2.2 ≤ ds.length ∧ z.2.1 = (ds.take z.2.2).map lo) (fun z => ds.length - z.2.2) (nilH, [], 0) ⟨by dsimp only; omega, rfl⟩ fun ⟨U, l1, k⟩ hz => ?_
        dsimp only at hz ⊢
        have hl1 : l1.length = k := by rw [hz.2, List.length_map, List.length_take]; omega
        refine if_ (fun c3 => ?_) (fun c3 => ?_)
        · refine sl_ fun V => ?_
          refine ap_ fun W => ?_
          refine ba_ (W, l1 ++ [lo (el ds k)], k + 1) ⟨by dsimp only; omega, ?_⟩ (by dsimp only; omega)
          dsimp only
          rw [hz.2, List.take_succ_eq_append_getElem (by omega), List.map_append]
          have : el ds k = ds[k] := by simp [el, List.getD_eq_getElem?_getD, show k < ds.length by omega]
          rw [this]
          rfl
        · have hkd : k = ds.length := by omega
          have hl1d : l1.Perm (dueS S (aft S.now n)) := by
            rw [hz.2, hkd, List.take_length, hds]
            exact due_ids r hOD
          refine ca_ (fun R' q1 q2 => sortF_c U l1 byUM 128 (cat rfl) byUntil_c byUM_ok (by omega) R') fun ys hy => ?_
          have hyd : ys = dueS S (aft S.now n) := sorted_uniq (lt := fun a b => byUM a b < 0) (hy.1.trans hl1d) hy.2 (due_sort o r) fun a ha b hb h3 h4 => due_inj r ((hy.1.trans hl1d).mem_iff.1 ha) ((hy.1.trans hl1d).mem_iff.1 hb) h3 h4
          have hyl : ys.length ≤ 64 := by rw [hyd, due_perm.length_eq]; exact Nat.le_trans (List.length_filter_le _ _) hlen.1
          have hro : S.rev + (dueS S (aft S.now n)).length ≤ maxRev := by unfold maxRev; omega
          refine lo_ (fun z : SV × Nat => [(74, .int .i64 z.2)]) (fun z => stP s z.1) (fun z => z.2 ≤ ys.length ∧ TickI s S (aft S.now n) th tl z.2 z.1) (fun z => ys.length - z.2) ({ v with now := aft S.now n, TX := TX, th := th, tl := tl }, 0) ⟨by dsimp only; omega, ⟨v, r, rfl, rfl, rfl, rfl⟩, rfl, rfl, rfl⟩ fun ⟨u, k2⟩ ⟨hk2, hu⟩ => ?_
          dsimp only at hk2 hu ⊢
          refine if_ (fun c4 => ?_) (fun c4 => ?_)
          · have hkl : k2 < (dueS S (aft S.now n)).length := by rw [← hyd]; omega
            have hel : el ys k2 = (dueS S (aft S.now n))[k2] := by
              subst hyd
              simp [el, List.getD_eq_getElem?_getD, hkl]
            have hu' := hu
            obtain ⟨⟨gv, rg, e1, e2, e3, e4⟩, f2, f3, f4⟩ := hu'
            have hgl := rel_len rg o
            have hgp := rel_pi rg o
            have hgg := log_len rg
            have hgr := rg.li.rev
            have hgv := rg.rev
            have hlo := o.f.log
            have hin := tick_in r hkl
            have hok := rg.li.ok _ hin
            have hmf := may_facts o hok.may
            have hmd := mem_due.1 (List.getElem_mem hkl)
            have hbv := base_vld o hmf.1 hmf.2.1
            rw [← hel] at hin hok hmf hmd hbv
            rw [e4] at hgp
            rw [e2] at hgg
            have hgt := (rg.tk (numP s.g (el ys k2).Subnet)).2 ⟨_, hin, rfl⟩
            rw [e4] at hgt
            have hnone : mget u.tl (el ys k2).Host = none := by
              rw [f4]
              refine hpl.none.2 fun x hx e => ?_
              have hx := List.mem_filter.1 (hth.mem_iff.1 hx)
              obtain ⟨y, hy, rfl⟩ := List.mem_map.1 (r.th.mem_iff.1 hx.1)
              have := apart_eq r.li.apart hy hmd.1 e
              have h9 := of_decide_eq_true hx.2
              rw [this] at h9
              have := hmd.2
              dsimp only at h9
              omega
            unfold maxRev at hgr
            refine ax_ fun b4 => ?_
            refine ca_ (fun R' q1 q2 => remove0_lc s u R' (el ys k2) hgp (by omega) (by omega) (by omega) (by omega) (by omega) (by omega) hmf.2.2.1 hmf.2.2.2 (hmf.1.trans o.sl.symm) hbv.2.1 hgt hnone) fun ⟨X3, PX3, pr3⟩ hz3 => ?_
            dsimp only at hz3 ⊢
            rw [hel] at hz3 ⊢
            exact ba_ (_, k2 + 1) ⟨by dsimp only; omega, tick_step o r hkl hro hu hz3⟩ (by dsimp only; omega)
          · refine rt_ (u, tickS S n, 0) ⟨tick_end r c1 rfl hro (by rw [← hyd]; omega) hu hh0 hpl hth, hout⟩
    · have hp := perm_erase h
      have hpl := hp.length_eq
      simp only [List.length_cons] at hpl
      have hpp : v.ml.Perm ((dn ++ [e]) ++ left.eraseIdx i) := by rw [List.append_assoc]; exact h1.trans (List.Perm.append_left dn hp)
      refine ax_ fun b3 => ?_
      refine if_ (fun c2 => ?_) (fun c2 => ?_)
      · have c2 : e.2.Until ≤ aft S.now n := by rw [← haft]; exact c2
        refine ue_ ?_
        refine ba_ (cn + 1, left.eraseIdx i) ⟨dn ++ [e], hpp, ?_⟩ (by dsimp only; omega)
        rw [List.filter_append, List.length_append, List.filter_cons_of_pos (by simpa using c2)]
        simp only [List.filter_nil, List.length_cons, List.length_nil]
        omega
      · have c2 : ¬ e.2.Until ≤ aft S.now n := by
          rw [← haft]
          exact fun h => absurd h (by first | exact Int.not_le.2 c2 | exact c2 | (intro h; omega))
        refine ue_ ?_
        refine ba_ (cn, left.eraseIdx i) ⟨dn ++ [e], hpp, ?_⟩ (by dsimp only; omega)
        rw [List.filter_append, List.length_append, List.filter_cons_of_neg (by simpa using c2)]
        simp only [List.filter_nil, List.length_nil]
        omega
end
end Go.Proofs.YtdallmabajeajaaGreatDoor.Fw
set_option linter.all false
set_option maxHeartbeats 4000000
set_option maxRecDepth 100000
namespace Go.Proofs.YtdallmabajeajaaGreatDoor.Fw
open Go
theorem out_tick {c : QConfig} {rs : List QReserve} {S S' : LS} {cmd : QCmd} {e : Int} (hk : cmd.Kind = 4) (hr : S.rev ≤ maxRev) (h : tickR S cmd.N = (S', e)) : OutR c rs S cmd S' zL e := by
  have hcm : cmdS c rs S cmd = if cmd.N < 0 then (S, zL, 1) else (tickS S cmd.N, zL, 0) := by
    unfold cmdS
    rw [if_neg (by omega), if_pos hk]
  unfold tickR at h
  split at h
  · cases h
    exact out_no (by rw [hcm, if_pos (by assumption)]) hr (by decide) _
  · rename_i hn
    rw [if_neg hn] at hcm
    split at h
    · cases h
      exact out_full (by rw [hcm]; assumption) _
    · cases h
      exact out_ok hcm (by omega)
section
variable {c : QConfig} {rs : List QReserve} {S : LS} {x : QCmd} {l : QLease} (h1 : ¬ (x.Kind < 1 ∨ 4 < x.Kind)) (h2 : ¬ x.Kind = 4) (h3 : ¬ (x.Host < 0 ∨ c.Hosts ≤ x.Host))
include h1 h2 h3
theorem cmd_two (hg : ofH S.ls x.Host = some l) (hk : x.Kind = 2) : cmdS c rs S x = if l.Subnet = x.Subnet then (⟨S.now, S.rev, upd S.ls { l with Until := aft S.now c.TTL }, S.es⟩, { l with Until := aft S.now c.TTL }, 0) else (S, zL, 111) := by
  unfold cmdS
  rw [if_neg h1, if_neg h2, if_neg h3, hg]
  show (if x.Kind = 1 then _ else if x.Kind = 2 then _ else _) = _
  rw [if_neg (by omega), if_pos hk]
theorem cmd_rel (hg : ofH S.ls x.Host = some l) (hk : ¬ x.Kind = 1) (hk2 : ¬ x.Kind = 2) : cmdS c rs S x = (remS S l, l, 0) := by
  unfold cmdS
  rw [if_neg h1, if_neg h2, if_neg h3, hg]
  show (if x.Kind = 1 then _ else if x.Kind = 2 then _ else _) = _
  rw [if_neg hk, if_neg hk2]
theorem cmd_non (hg : ofH S.ls x.Host = none) (hk : ¬ x.Kind = 1) : cmdS c rs S x = (S, zL, 111) := by
  unfold cmdS
  rw [if_neg h1, if_neg h2, if_neg h3, hg]
  show (if x.Kind = 1 then _ else _) = _
  rw [if_neg hk]
end
section
variable (s : SG) (v : SV) (S : LS) (R : Hh)
theorem apply_c (o : SOK s) (r : Rel s v S) (cmd : QCmd) (hc : CmdR cmd) : Ctr (τ := SV × LS × QLease × Int) Tryz.prog 56 [.pointer (some (padd s.sp 0)), .agg ⟨cCmd cmd⟩] R (stP s v) (fun x => Rel s x.1 x.2.1 ∧ OutR s.c s.rs S cmd x.2.1 x.2.2.1 x.2.2.2) (fun x => .tuple #[.agg ⟨cLease x.2.2.1⟩, .int .i64 x.2.2.2]) (fun x => stP s x.1) := by
  have hlen := rel_len r o
  have hrev := r.li.rev
  have hvr := r.rev
  refine in_ Tryz.func56 fun w0 => ?_
  refine bo_' fun b1 => ?_
  refine ax_ fun b3 => ?_
  refine if_ (fun c1 => ?_) (fun c1 => ?_)
  · exact rm_ (v, S, zL, 110) ⟨r, out_no (e := 110) (by unfold cmdS; rw [if_pos (by omega)]) hrev.2 (by decide) _⟩
  · refine if_ (fun c2 => ?_) (fun c2 => ?_)
    · refine ca_ (fun R' q1 q2 => tick_c s v S R' o r cmd.N hc.n1) fun ⟨v2, S2, e2⟩ ⟨h1, h2⟩ => ?_
      dsimp only at h1 h2 ⊢
      exact rm_ (v2, S2, zL, e2) ⟨h1, out_tick c2 hrev.2 h2⟩
    · refine if_ (fun c3 => ?_) (fun c3 => ?_)
      · exact rm_ (v, S, zL, 1) ⟨r, out_no (e := 1) (by unfold cmdS; rw [if_neg (by omega), if_neg c2, if_pos c3]) hrev.2 (by decide) _⟩
      · refine hh_ [[0, 1, 2, 3, 4, 5, 6, 7, 8, 9], [10], [11], [12]] [[Bx b1 44 (cCmd cmd), Bx s.sp 120 (clease_Store (s.st v.now v.rev v.X)), Mp s.rl (vInt .i64) (vAgg cLease) v.ml]] ?_
        refine ax_ fun b4 => ?_
        have hm := mget_ofH r (h := cmd.Host)
        have hacq := fun (R : Hh) (c4 : cmd.Kind = 1) => acquire_c s v S R o r cmd c4 c3.1 c3.2 hc.p0 hc.p1
        have hr0 : 0 ≤ v.rev := by omega
        have hr1 : v.rev ≤ 1099511627776 := by unfold maxRev at hrev; omega
        have hcm1 : ¬ (cmd.Kind < 1 ∨ 4 < cmd.Kind) := by omega
        have hcm2 : ¬ (cmd.Host < 0 ∨ s.c.Hosts ≤ cmd.Host) := by omega
        cases hg : ofH S.ls cmd.Host with
        | some l =>
          rw [hg] at hm hacq
          obtain ⟨hl, hlh⟩ := (ofH_some r.li.apart).1 hg
          simp only [hm, Option.isSome_some, Option.getD_some]
          refine if_ (fun c4 => ?_) (fun c4 => ?_)
          · refine ca_ (fun R' q1 q2 => hacq R' c4) fun ⟨v2, S2, l2, e2⟩ h1 => ?_
            exact rm_ (v2, S2, l2, e2) h1
          · refine if_ (fun c5 => ?_) (fun c5 => ?_)
            · refine if_ (fun c6 => ?_) (fun c6 => ?_)
              · exact rm_ (v, S, l, 111) ⟨r, out_no (e := 111) (by rw [cmd_two hcm1 c2 hcm2 hg c5]; exact if_neg c6) hrev.2 (by decide) _⟩
              · refine cp_ (v := .int .i64 (aft S.now s.c.TTL)) (fun R' q1 q2 => by rw [← aft_now o r]; exact until_c s R' v.now v.rev v.X) ?_
                have hli := r.li.ok l hl
                have haft := aft_lt r.li.now.1 r.li.now.2 (n := s.c.TTL) (by have := o.f.ttl; omega)
                have hno : mget v.tl l.Host = none → v.th.length < 64 := fun e => by
                  rw [rel_tl r, hlh, hg] at e; cases e
                refine ca_ (fun R' q1 q2 => hold_c s v R' { l with Until := aft S.now s.c.TTL } (by omega) hno r.hp r.pl) fun x hx => ?_
                have li := r.li.upd1 (y := { l with Until := aft S.now s.c.TTL }) hl rfl rfl ⟨hli.host, hli.may, hli.rev, haft⟩
                refine rm_ (_, _, { l with Until := aft S.now s.c.TTL }, 0) ⟨rel_set r li (upd_perm r.li.apart hl rfl) hx r.now (X := v.X) (PX := v.PX) (es := v.es) hvr (by rw [r.es]; rfl) r.runs (fun n => ?_), out_ok (by rw [cmd_two hcm1 c2 hcm2 hg c5]; exact if_pos c6) hrev.2⟩
                rw [r.tk]
                exact tk_upd r hl rfl rfl
            · have hlg := log_len r
              have hlo := o.f.log
              have hli := r.li.ok l hl
              have hmf := may_facts o hli.may
              have hbv := base_vld o hmf.1 hmf.2.1
              have hcs3 : cmdS s.c s.rs S cmd = (remS S l, l, 0) := cmd_rel hcm1 c2 hcm2 hg c4 c5
              refine cp_ (fun R' q1 q2 => room_c s R' v.now v.rev v.X 1 hr0 hr1 (by omega) (by omega)) ?_
              refine if_ (fun c6 => ?_) (fun c6 => ?_)
              · exact rm_ (v, S, l, 4) ⟨r, out_full (by rw [hcs3]; show S.rev + 1 > maxRev; unfold maxRev; omega) _⟩
              · refine ca_ (fun R' q1 q2 => remove_lc s v R' l hlen.2.1 r.hp r.pl (rel_pi r o) hr0 hr1 (by omega) (by omega) (by omega) (by omega) hmf.2.2.1 hmf.2.2.2 (hmf.1.trans o.sl.symm) hbv.2.1 ((r.tk _).2 ⟨l, hl, rfl⟩) (fun e => by rw [rel_tl r, hlh, hg] at e; cases e)) fun x hx => ?_
                exact rm_ (_, remS S l, l, 0) ⟨rel_rem r o hl (by unfold maxRev; omega) hx.1 hx.2, out_ok hcs3 (by show S.rev + 1 ≤ maxRev; unfold maxRev; omega)⟩
        | none =>
          rw [hg] at hm hacq
          simp only [hm, Option.isSome_none, Option.getD_none]
          refine if_ (fun c4 => ?_) (fun c4 => ?_)
          · refine ca_ (fun R' q1 q2 => hacq R' c4) fun ⟨v2, S2, l2, e2⟩ h1 => ?_
            exact rm_ (v2, S2, l2, e2) h1
          · refine if_ (fun c5 => ?_) (fun c5 => ?_)
            · exact rm_ (v, S, zL, 111) ⟨r, out_no (e := 111) (cmd_non hcm1 c2 hcm2 hg c4) hrev.2 (by decide) _⟩
            · exact rm_ (v, S, zL, 111) ⟨r, out_no (e := 111) (cmd_non hcm1 c2 hcm2 hg c4) hrev.2 (by decide) _⟩
end
end Go.Proofs.YtdallmabajeajaaGreatDoor.Fw
set_option linter.all false
set_option maxHeartbeats 4000000
set_option maxRecDepth 100000
namespace Go.Proofs.YtdallmabajeajaaGreatDoor.Fw
open Go
section
variable (s : SG) (v : SV) (S : LS) (R : Hh)
theorem Apply_c (o : SOK s) (r : Rel s v S) (cmd : QCmd) (hc : CmdR cmd) : Ctr (τ := SV × LS × QAnswer) Tryz.prog 22 [.pointer (some (padd s.sp 0)), .agg ⟨cCmd cmd⟩] R (stP s v) (fun x => Rel s x.1 x.2.1 ∧ applyS s.c s.rs S cmd = x.2) (fun x => .agg ⟨cAnswer x.2.2⟩) (fun x => stP s x.1) := by
  refine in_ Tryz.func22 fun w0 => ?_
  refine bo_' fun b1 => ?_
  refine ax_ fun b2 => ?_
  refine ca_ (fun R' q1 q2 => apply_c s v S R' o r cmd hc) fun ⟨v2, S2, l2, e2⟩ ⟨h1, h2⟩ => ?_
  dsimp only at h1 h2 ⊢
  unfold OutR at h2
  have hn := h1.now
  have hv := h1.rev
  refine ax_ fun b3 => ?_
  refine if_ (fun c1 => ?_) (fun c1 => ?_)
  · rw [if_neg c1] at h2
    exact rtC_ (v2, S2, ⟨e2, zL, v2.rev, v2.now⟩) ⟨h1, by rw [h2, hn, hv]⟩
  · have c1 : e2 = 0 := by omega
    rw [if_pos c1] at h2
    exact rtC_ (v2, S2, ⟨e2, l2, v2.rev, v2.now⟩) ⟨h1, by rw [h2, hn, hv]⟩
end
end Go.Proofs.YtdallmabajeajaaGreatDoor.Fw
set_option linter.all false
set_option maxHeartbeats 4000000
set_option maxRecDepth 100000
namespace Go.Proofs.YtdallmabajeajaaGreatDoor.Fw
open Go
section
variable {P : Program} {ops : Array Oper} {n : Nat} {w0 : World} {R : Hh} {Ps : List HP} {C' : World → Prop} {L : List (Nat × Value)} {d : Nat} {op : Op} {ty : TypeId} {pos : String} {aft : Array Edge} {v : Value}
theorem qx_ (hC : ∀ w, C' w → Hp w0 R Ps w) (h : Ok P (Hp w0 R Ps) L ⟨some d, op, ty, pos, aft, none⟩ v) (hd : Nat.blt d n = true) : Stq P ops n C' L ⟨some d, op, ty, pos, aft, none⟩ d v := q_ (fun a ha w hw => h a ha w (hC w hw)) hd
end
theorem less_x {W0 W : World} {R : Hh} (b pp : Addr) (g : PG) (X : SH)
    (m : Hp W0 R [Bx b 118 [.pointer (some (padd pp 0))], Bx pp 163 (cpool_Pool (g.c X)), Sv 1 2 g.K.v (g.ks.map (cInt .i64))] W) (i j : Nat) (hi : i < g.ks.length) (hj : j < g.ks.length) :
    Calls Tryz.prog 93 ⟨[.int .i64 i, .int .i64 j, .pointer (some (padd b 0))]⟩ W fun e w' => e = .returned (.bool (decide (el g.ks i < el g.ks j))) ∧ ∃ q, w' = W.drewN q := by
  refine enter Tryz.func93 rfl rfl rfl fun a hs => ?_
  refine c_reg ?_
  refine (p_ (C := Hp W0 R _) (ok_assign rfl)).g _ _ _ _ hs m fun a hs => ?_
  refine wpList_nil ?_
  have hC : ∀ w, (∃ q, w = W.drewN q) → Hp W0 R [Bx b 118 [.pointer (some (padd pp 0))], Bx pp 163 (cpool_Pool (g.c X)), Sv 1 2 g.K.v (g.ks.map (cInt .i64))] w := by
    rintro w ⟨q, rfl⟩
    exact m.drawn (W.drawn + q)
  refine wp_seq (wp_region_quiet (C := fun w' => ∃ q, w' = W.drewN q) mo (by kernel_rfl) ⟨1, rfl⟩ ?_)
  iterate 16 refine (qx_ hC (by exact OA_) rfl).g _ _ _ hs fun a hs => ?_
  refine wpQuiet_nil fun w' hw => ?_
  refine wp_ret (leave hs (rs := [.tmp 5]) rfl (resT_vs (L := _) _ _ rfl) ?_)
  exact ⟨rfl, hw⟩
end Go.Proofs.YtdallmabajeajaaGreatDoor.Fw
set_option linter.all false
set_option maxHeartbeats 4000000
set_option maxRecDepth 100000
namespace Go.Proofs.YtdallmabajeajaaGreatDoor.Fw
open Go Go.Shelf Go.RowKit Go.Lib Go.Sort
theorem ks_is : (Tryz.prog.info? 160).isSome = true := by kernel_rfl
theorem ki_is : (Tryz.prog.info? 2).isSome = true := by kernel_rfl
theorem ks_ex : ∃ i : TypeInfo, Tryz.prog.info? 160 = some i ∧ i.desc = .slice 2 := ⟨(Tryz.prog.info? 160).get ks_is, (Option.some_get _).symm, by kernel_rfl⟩
theorem ki_ex : ∃ i : TypeInfo, Tryz.prog.info? 2 = some i ∧ i.size = 1 ∧ i.hasPointers = false ∧ i.bytes = 8 ∧ i.desc = .int .i64 ∧ (i.str == "int") = false := ⟨(Tryz.prog.info? 2).get ki_is, (Option.some_get _).symm, by kernel_rfl, by kernel_rfl, by kernel_rfl, by kernel_rfl, by kernel_rfl⟩
theorem ks_pk : Tryz.prog.packed 160 = false := by kernel_rfl
theorem ki_swp {i : TypeInfo} (h3 : i.hasPointers = false) (h4 : i.bytes = 8) (n : Nat) (h : 2 ≤ n) : swapperK n i 6 = 5 := by
  unfold swapperK
  have h1 : (n == 0) = false := by simp; omega
  have h2 : (n == 1) = false := by simp; omega
  rw [h1, h2, h3, h4]
  rfl
theorem ki_kind {i : TypeInfo} (h1 : Tryz.prog.info? 2 = some i) (h2 : i.desc = .int .i64) (h3 : (i.str == "int") = false) (w : World) : (Extern.Rtype.kind 2).run Tryz.prog w = .ok 6 w := by
  simp [Extern.Rtype.kind, Extern.Rtype.under, underlying, typeInfo, h1, h2, h3, Result.andThen]
  exact ne_of_beq_false h3
theorem putK {α : Type} [Inhabited α] (enc : α → Value) (w : World) (blk off : Nat) (d : Array α) : putRow enc w blk off d = putRowK (fun x => [enc x]) 1 w blk off d := by
  unfold putRowK putRow
  congr 1
  funext c
  unfold putCells
  rw [size_flatK, Nat.mul_one]
  congr 1
  funext k x
  by_cases h : off ≤ k ∧ k < off + d.size
  · rw [if_pos h, if_pos h]
    have := get_flatK (fun x => [enc x]) 1 d (k - off) (by omega)
    rw [this, Nat.div_one, Nat.mod_one]
    rfl
  · rw [if_neg h, if_neg h]
theorem holdsK {α : Type} [Inhabited α] (enc : α → Value) (w : World) (blk off : Nat) (d : Array α) (h : HoldsK (fun x => [enc x]) 1 w blk off d) : Holds enc w blk off d := by
  intro j hj
  have h2 := h j (by rw [size_flatK]; omega)
  have := get_flatK (fun x => [enc x]) 1 d j (by omega)
  rw [this, Nat.div_one, Nat.mod_one] at h2
  exact h2
theorem sortK_c (b pp : Addr) (g : PG) (X : SH) (hl : g.ks.length ≤ 65536) (R : Hh) : Ctr (τ := List Int) Tryz.prog 92 [.iface 160 g.K.v, .func (.func 93) ⟨[]⟩ ⟨[.pointer (some (padd b 0))]⟩] R [Bx b 118 [.pointer (some (padd pp 0))], Bx pp 163 (cpool_Pool (g.c X)), Sv 1 2 g.K.v (g.ks.map (cInt .i64))] (fun ks => ks.Perm g.ks ∧ ks.Pairwise (· ≤ ·)) (fun _ => .tuple #[]) (fun ks => [Bx b 118 [.pointer (some (padd pp 0))], Bx pp 163 (cpool_Pool (g.c X)), Sv 1 2 g.K.v (ks.map (cInt .i64))]) := by
  intro w0 w m
  obtain ⟨si, hs1, hs2⟩ := ks_ex
  obtain ⟨ii, hi1, hi2, hi3, hi4, hi5, hi6⟩ := ki_ex
  have hn := (Hp.ncapM m ⟨[_, _], [], rfl, rfl⟩).1
  by_cases h2 : g.ks.length ≤ 1
  · have key : ∀ f, Tryz.prog.funcs.findIdx? (·.name == "internal/reflectlite" ++ ".Swapper$" ++ toString (swapperK g.K.n ii 6)) = some f → _ := fun f hf => Any.sort_Slice_tiny Tryz.laysGg6 160 2 si ii hs1 hs2 ks_pk hi1 6 (ki_kind hi1 hi5 hi6) g.K.a g.K.n g.K.c (by omega) f hf (.func 93) #[] #[.pointer (some (padd b 0))] w
    have h3 : ∃ f, Tryz.prog.funcs.findIdx? (·.name == "internal/reflectlite" ++ ".Swapper$" ++ toString (swapperK g.K.n ii 6)) = some f := by
      have h4 : g.K.n = 0 ∨ g.K.n = 1 := by omega
      rcases h4 with h4 | h4
      · rw [h4]; exact ⟨155, by kernel_rfl⟩
      · rw [h4]; exact ⟨156, by kernel_rfl⟩
    obtain ⟨f, hf⟩ := h3
    refine Calls.mono (key f hf) fun e w' he => ?_
    obtain ⟨rfl, os, rfl⟩ := he
    refine ⟨g.ks, ⟨.refl _, ?_⟩, rfl, m.grown os⟩
    match hk : g.ks with
    | [] => exact .nil
    | [x] => exact List.pairwise_singleton _ _
    | _ :: _ :: _ => rw [hk] at h2; simp at h2
  · obtain ⟨blk, off, ha, hn', hblk, hH, hW⟩ := sortHp (m.perm (List.perm_append_comm (l₁ := [_, _]) (l₂ := [_])) : Hp w0 R [Sv 1 2 g.K.v (g.ks.map (cInt .i64)), Bx b 118 [.pointer (some (padd pp 0))], Bx pp 163 (cpool_Pool (g.c X))] w) (fun e => by rw [e] at h2; simp at h2) (fun _ => rfl)
    have hv : g.K.v = .slice (some ⟨blk, off, none⟩) g.ks.toArray.size g.K.c := by unfold SH.v; rw [ha, hn']; rfl
    have hlt : Go.Sort.SWO (fun x y : Int => decide (x < y)) := ⟨fun x => decide_eq_false (by omega), fun x y z h1 h2 => decide_eq_true (by have := of_decide_eq_true h1; have := of_decide_eq_true h2; omega), fun x y z h1 h2 => decide_eq_false (by have := of_decide_eq_false h1; have := of_decide_eq_false h2; omega)⟩
    have hsw : ∀ q (dk : Array Int) os, dk.size = g.ks.toArray.size → Hp w0 R [Bx b 118 [.pointer (some (padd pp 0))], Bx pp 163 (cpool_Pool (g.c X)), Sv 1 2 g.K.v (dk.toList.map (cInt .i64))] (sortWorld (fun x : Int => .int .i64 x) w blk off q dk os) := fun q dk os hs => by
      have := hW q dk.toList os (by simpa using hs)
      unfold sortWorld
      rw [putK]
      exact this.perm (List.perm_append_comm (l₁ := [_]) (l₂ := [_, _]))
    have hless : LessReads Tryz.prog 93 #[.pointer (some (padd b 0))] (fun x : Int => .int .i64 x) (fun x y => decide (x < y)) blk off g.ks.toArray.size w := fun q os dk hs i j hi hj => by
      have h9 := less_x b pp { g with ks := dk.toList } X (hsw q dk os hs) i j (by simpa [hs] using hi) (by simpa [hs] using hj)
      refine Calls.mono h9 fun e w' he => ?_
      refine ⟨?_, he.2⟩
      rw [he.1]
      have e1 : ∀ z : Nat, z < dk.size → el dk.toList z = dk[z]! := fun z hz => by
        unfold el
        rw [List.getD_eq_getElem?_getD, Int.toNat_natCast, Array.getElem?_toList, getElem!_def, Array.getElem?_eq_getElem hz]
        rfl
      show Ending.returned (.bool (decide (el dk.toList i < el dk.toList j))) = _
      rw [e1 i (by omega), e1 j (by omega)]
    have := Any.sort_Slice_sorted Tryz.laysGg6 160 2 si ii hs1 hs2 ks_pk hi1 6 (ki_kind hi1 hi5 hi6) hi2 Tryz.isAgg2 (fun x : Int => .int .i64 x) (fun _ => rfl) _ hlt 93 #[.pointer (some (padd b 0))] (fun args w => run_callFunc (cat rfl) args w) blk off g.K.c g.ks.toArray (by simp only [List.size_toArray]; omega) (by simp only [List.size_toArray]; omega) 159 (by rw [ki_swp hi3 hi4 _ (by simp only [List.size_toArray]; omega)]; kernel_rfl) true (run_callFunc_extern Tryz.func159 (by kernel_rfl) (by kernel_rfl) (by kernel_rfl) (e := Extern.ReflectliteSwapper.swap true) (by kernel_rfl)) w hless (holdsK _ _ _ _ _ hH) hblk
    rw [hv]
    refine Calls.mono this fun e w' he => ?_
    obtain ⟨rfl, d', q, os, hp, hs, rfl⟩ := he
    have hm := hsw q d' os hp.1
    obtain ⟨ys⟩ := d'
    have hl2 : ys.length = g.ks.length := by simpa using hp.1
    refine ⟨ys, ⟨?_, ?_⟩, rfl, by rw [← hv]; exact hm⟩
    · have h2 := hp.2.2
      have e1 : ((⟨ys⟩ : Array Int).extract 0 g.ks.toArray.size).toList = ys := by rw [show g.ks.toArray.size = ys.length by simp [hl2]]; simp
      have e2 : (g.ks.toArray.extract 0 g.ks.toArray.size).toList = g.ks := by simp
      rw [e1, e2] at h2
      exact h2
    · rw [List.pairwise_iff_getElem]
      intro i j hi hj hij
      have h2 := hs i j (Nat.zero_le _) hij (by simp only [List.size_toArray]; omega)
      rw [getElem!_pos _ _ (by simpa using hj), getElem!_pos _ _ (by simpa using hi)] at h2
      have h3 := of_decide_eq_false h2
      have h4 : ¬ ys[j] < ys[i] := h3
      omega
end Go.Proofs.YtdallmabajeajaaGreatDoor.Fw
