/-
  Own work: walks and laws, joined by wip/tool/compact.py.
-/
import Derived.Test.YtdallmabajeajaaGreatDoorG5

set_option linter.all false
set_option linter.all false
set_option maxHeartbeats 4000000
set_option maxRecDepth 100000
namespace Go.Proofs.YtdallmabajeajaaGreatDoor.Fw
open Go
theorem b_logd {X : SH} {d : Nat} : logS (plainC X) (preS (pE d) (bT d)) = bEs d := by
  unfold logS
  show (pE d ++ bEs d).drop ((pE d ++ bEs d).length - (min (4 : Int) (5 + d)).toNat) = _
  have e : (pE d ++ bEs d).length - (min (4 : Int) (5 + d)).toNat = (pE d).length := by
    rw [List.length_append]
    simp only [bEs, List.length_cons, List.length_nil]
    omega
  rw [e, List.drop_left]
theorem b_img {X : SH} {d : Nat} (hd : 5 + (d : Int) ≤ maxRev) : ImgOK (plainC X) plainR 0 (5 + d) (bLs d) (bEs d) := by
  have h := img_ok (plain_f X) (b_li (X := X) hd) b_hi
  rw [b_logd] at h
  exact h
def bC (b : Int) : List QCmd := [asksM 0 (5000 + b), asksM 3 1, ⟨3, 0, ⟨0, 0⟩, 0, ⟨0, 0, 0, 0, 0, 0⟩, 0⟩, ⟨4, 0, ⟨0, 0⟩, 0, ⟨0, 0, 0, 0, 0, 0⟩, 10⟩, ⟨4, 0, ⟨0, 0⟩, 0, ⟨0, 0, 0, 0, 0, 0⟩, 9223372036854775807⟩]
theorem asks_rng {h n : Int} : CmdR (asksM h n) := ⟨by show (0 : Int) ≤ 0; omega, by show (0 : Int) < 4294967296; omega, by show (0 : Int) ≤ 9223372036854775807; omega⟩
theorem bC_all {X : SH} {n b q : Int} {E : List QEvent} (hn : IntKind.u32.wrap n ≠ IntKind.u32.wrap (5000 + b)) {i : Nat} (hi : i < 5) : applyS (plainC X) plainR (bN n maxRev q E) (el (bC b) i) = (bN n maxRev q E, ⟨4, zL, maxRev, 0⟩) ∧ CmdR (el (bC b) i) := by
  have h : i = 0 ∨ i = 1 ∨ i = 2 ∨ i = 3 ∨ i = 4 := by omega
  rcases h with rfl | rfl | rfl | rfl | rfl
  · exact ⟨b_ask hn, by show (0 : Int) ≤ 0; omega, by show (0 : Int) < 4294967296; omega, by show (0 : Int) ≤ 9223372036854775807; omega⟩
  · exact ⟨b_new, by show (0 : Int) ≤ 0; omega, by show (0 : Int) < 4294967296; omega, by show (0 : Int) ≤ 9223372036854775807; omega⟩
  · exact ⟨b_rel, by show (0 : Int) ≤ 0; omega, by show (0 : Int) < 4294967296; omega, by show (0 : Int) ≤ 9223372036854775807; omega⟩
  · exact ⟨b_tick (by omega) (by decide), by show (0 : Int) ≤ 0; omega, by show (0 : Int) < 4294967296; omega, by show (10 : Int) ≤ 9223372036854775807; omega⟩
  · exact ⟨b_tick (by omega) (by decide), by show (0 : Int) ≤ 0; omega, by show (0 : Int) < 4294967296; omega, by show (9223372036854775807 : Int) ≤ 9223372036854775807; omega⟩
section
variable {n : Nat} {w0 : World} {R : Hh} {Ps : List HP} {L : List (Nat × Value)} {ops : Array Oper} {Q : Exit → Act → World → Prop} {rest : List Oper} {d : Nat} {ty T T2 E : TypeId} {pos : String} {aft : Array Edge} {x y : Operand} {p : Addr} {t j : Nat} {want b : Bool}
theorem pqx_ {L1 : List (Nat × Value)} {Ps1 : List HP} {F1 : GF} (k : Gl n w0 R L1 Ps1 F1) (hx : ev L x = some (.pointer (some p)) := by rfl) (hy : ev L y = some (.pointer none) := by rfl) (hT : ptI Tryz.prog T = some E := by exact ptt rfl) (hj : (ops[j]?).bind (·.dst) = some t := by rfl) (ht : lk L t = some (.bool b) := by rfl) (hb : b = want := by first | rfl | assumption) (hd : Nat.blt d n = true := by rfl)
    (r : Av n w0 R ((d, .bool true) :: L) Ps (.li Tryz.prog ops Q rest) L1 Ps1 F1 := by (repeat (apply x_; exact A3_)); exact av_r) : Gl n w0 R L Ps (.li Tryz.prog ops Q (⟨some d, .binOp .neq T x y T2, ty, pos, aft, some (j, want)⟩ :: rest)) :=
  fun a w hs m => (pgx_ hj ht hd hb (ok_notNilP (C := Hp w0 R Ps) hx hy hT)).g _ _ _ _ hs m fun a hs => r.g k a w hs m
theorem pqy_ {L1 : List (Nat × Value)} {Ps1 : List HP} {F1 : GF} (k : Gl n w0 R L1 Ps1 F1) (hx : ev L x = some (.pointer (some p)) := by rfl) (hy : ev L y = some (.pointer none) := by rfl) (hT : ptI Tryz.prog T = some E := by exact ptt rfl) (hd : Nat.blt d n = true := by rfl)
    (r : Av n w0 R ((d, .bool true) :: L) Ps (.li Tryz.prog ops Q rest) L1 Ps1 F1 := by (repeat (apply x_; exact A3_)); exact av_r) : Gl n w0 R L Ps (.li Tryz.prog ops Q (⟨some d, .binOp .neq T x y T2, ty, pos, aft, none⟩ :: rest)) :=
  fun a w hs m => (p_ (C := Hp w0 R Ps) (ok_notNilP hx hy hT) hd).g _ _ _ _ hs m fun a hs => r.g k a w hs m
end
theorem mvs_ {n : Nat} {w0 : World} {R : Hh} {Ps : List HP} (Qs : List HP) {L : List (Nat × Value)} {F : GF} (k : Gl n w0 R L Qs F) (hP : Sub Qs Ps := by (repeat (first | exact Sub.n | (apply Sub.c; (repeat (first | exact r0 | apply remC)))))) : Gl n w0 R L Ps F := mv_ Qs k hP
def exE (e : QEvent) (d : Int) : QEvent := ⟨e.Rev + d, e.Kind, ⟨e.Lease.Host, ⟨e.Lease.Subnet.Addr, e.Lease.Subnet.Len⟩, e.Lease.Pub, ⟨e.Lease.MAC.b0, e.Lease.MAC.b1, e.Lease.MAC.b2, e.Lease.MAC.b3, e.Lease.MAC.b4, e.Lease.MAC.b5⟩, e.Lease.Until, e.Lease.Rev⟩⟩
theorem leaseBound_c (left : Int) (hl : IntKind.i64.wrap left = left) (pub : Int) (hp : IntKind.i64.wrap pub = pub) (X : SH) (R : Hh) (hC : ClsR R X) :
    Ctp Tryz.prog 9 [.int .i64 left, .int .i64 pub] R [] (.bool true) := by
  refine in_ Tryz.func9 fun w0 => ?_
  refine jm_ (ι := Int) (fun z => [(0, .int .i64 z)]) (fun z => []) [] (fun z => 0 ≤ z ∧ z ≤ 1000) ?_ fun a ha => ?_
  · refine if_ (fun c1 => ?_) (fun c1 => ?_)
    · exact ma_ 2 ⟨by omega, by omega⟩
    · exact ma_ left ⟨by omega, by omega⟩
  refine jm_ (ι := Int) (fun z => [(1, .int .i64 z)]) (fun z => []) [] (fun z => 0 ≤ z ∧ z ≤ 1000) ?_ fun b hb => ?_
  · refine if_ (fun c1 => ?_) (fun c1 => ?_)
    · exact ma_ 9 ⟨by omega, by omega⟩
    · exact ma_ pub ⟨by omega, by omega⟩
  refine ca_ (fun R' q1 q2 => plain_c R') fun X' _ => ?_
  refine ax_ fun b5 => ?_
  have g := plain_good X'
  refine ca_ (fun R' q1 q2 => newYes_c (plainC X') plainR g.hr g.rr X R' (hC.le q1) (rq_ q2 r1) g.ok g.f g.po g.rl) fun ⟨s, v⟩ ⟨o, r, e1, e2⟩ => ?_
  dsimp only at o r e1 e2 ⊢
  have gS : ∀ T x, applyS s.c s.rs T x = applyS (plainC X') plainR T x := fun T x => by rw [e1, e2]; rfl
  have gL : ∀ T, logS s.c T = logS (plainC X') T := fun T => by rw [e2]; rfl
  refine pnn_ ?_
  refine ca_ (fun R' q1 q2 => Apply_c s v _ R' o r (asksM 0 1) ⟨by decide, by decide, by decide⟩) fun ⟨v1, S1, a1⟩ ⟨h1, h2⟩ => ?_
  dsimp only at h1 h2 ⊢
  rw [gS] at h2
  obtain rfl := (congrArg Prod.fst h2).symm.trans (congrArg Prod.fst b_st1)
  refine ca_ (fun R' q1 q2 => Apply_c s v1 _ R' o h1 ⟨3, 0, ⟨0, 0⟩, 0, ⟨0, 0, 0, 0, 0, 0⟩, 0⟩ ⟨by decide, by decide, by decide⟩) fun ⟨v2, S2, a2⟩ ⟨h3, h4⟩ => ?_
  dsimp only at h3 h4 ⊢
  rw [gS] at h4
  obtain rfl := (congrArg Prod.fst h4).symm.trans b_st2
  refine ca_ (fun R' q1 q2 => Apply_c s v2 _ R' o h3 (asksM 0 1) ⟨by decide, by decide, by decide⟩) fun ⟨v3, S3, a3⟩ ⟨h5, h6⟩ => ?_
  dsimp only at h5 h6 ⊢
  rw [gS] at h6
  obtain rfl := (congrArg Prod.fst h6).symm.trans b_st3
  refine ca_ (fun R' q1 q2 => Apply_c s v3 _ R' o h5 (asksM 1 2) ⟨by decide, by decide, by decide⟩) fun ⟨v4, S4, a4⟩ ⟨h7, h8⟩ => ?_
  dsimp only at h7 h8 ⊢
  rw [gS] at h8
  obtain rfl := (congrArg Prod.fst h8).symm.trans b_st4
  refine ca_ (fun R' q1 q2 => Apply_c s v4 _ R' o h7 (asksM 0 3) ⟨by decide, by decide, by decide⟩) fun ⟨v5, S5, a5⟩ ⟨h9, h10⟩ => ?_
  dsimp only at h9 h10 ⊢
  rw [gS] at h10
  obtain rfl := (congrArg Prod.fst h10).symm.trans b_st5
  obtain ⟨d, hd⟩ : ∃ d : Nat, (1099511627776 - a - 5 : Int) = (d : Int) := ⟨(1099511627776 - a - 5).toNat, by omega⟩
  refine ca_ (φ := fun _ => True) (V := fun x : SH × SH => .agg ⟨cImage ⟨5, 0, x.1, x.2⟩⟩) (Z := fun x : SH × SH => Sv 12 39 x.1.v ((bLs 0).map cLease) :: Sv 14 72 x.2.v ((bEs 0).map cEvent) :: stP s v5) (fun R' q1 q2 => by
    have h := image_c s v5 _ o h9 R'
    rw [gL, b_log] at h; exact h) fun ⟨I, J⟩ _ => ?_
  refine ax_ fun b8 => ?_
  have hw : IntKind.i64.wrap (5 + (d : Int)) = 5 + (d : Int) := wrap_i64 (by omega) (by omega)
  dsimp only
  simp only [hd, hw]
  refine lo_ (fun z : List QLease × Nat => [(10, .int .i64 z.2)]) (fun z => [Sv 12 39 I.v (z.1.map cLease)]) (fun z => z.2 ≤ 2 ∧ z.1 = ((bLs 0).take z.2).map (shL d) ++ (bLs 0).drop z.2) (fun z => 2 - z.2) (bLs 0, 0) ⟨by dsimp only; omega, by simp⟩ fun ⟨L, k⟩ ⟨z1, z2⟩ => ?_
  dsimp only at z1 z2 ⊢
  have zl : L.length = 2 := by rw [z2]; exact sh_len (l := bLs 0) z1
  have ze : k < 2 → el L k = el (bLs 0) k := fun h => by rw [z2]; exact sh_el (l := bLs 0) h
  have zr : k < 2 → 0 ≤ (el L k).Rev ∧ (el L k).Rev ≤ 5 := fun h => by
    rw [ze h]
    have : k = 0 ∨ k = 1 := by omega
    rcases this with rfl | rfl <;> decide
  refine if_ (fun c1 => ?_) (fun c1 => ?_)
  · have hk : k < 2 := by omega
    have hw2 : IntKind.i64.wrap ((el L k).Rev + d) = (el L k).Rev + d := wrap_i64 (by have := zr hk; omega) (by have := zr hk; omega)
    refine ba_ (L.set (k : Int).toNat { el L k with Rev := (el L k).Rev + d }, k + 1) ⟨by dsimp only; omega, ?_⟩ (by dsimp only; omega)
    dsimp only
    have e : ({ el L k with Rev := (el L k).Rev + d } : QLease) = shL d (el (bLs 0) k) := by rw [ze hk]; rfl
    rw [e, z2, Int.toNat_natCast, sh_set (l := bLs 0) hk, sh_next (l := bLs 0) hk]
  · have hk : k = 2 := by omega
    subst hk
    have zd : L = bLs d := by rw [z2, ← sh_bLs]; rfl
    subst zd
    clear z1 z2 zl ze zr
    refine lo_ (fun z : List QEvent × Nat => [(11, .int .i64 z.2)]) (fun z => [Sv 14 72 J.v (z.1.map cEvent)]) (fun z => z.2 ≤ 4 ∧ z.1 = ((bEs 0).take z.2).map (shE d) ++ (bEs 0).drop z.2) (fun z => 4 - z.2) (bEs 0, 0) ⟨by dsimp only; omega, by simp⟩ fun ⟨M, k⟩ ⟨z1, z2⟩ => ?_
    dsimp only at z1 z2 ⊢
    have zl : M.length = 4 := by rw [z2]; exact sh_len (l := bEs 0) z1
    have ze : k < 4 → el M k = el (bEs 0) k := fun h => by rw [z2]; exact sh_el (l := bEs 0) h
    have zr : k < 4 → (0 ≤ (el M k).Rev ∧ (el M k).Rev ≤ 5) ∧ (0 ≤ (el M k).Lease.Rev ∧ (el M k).Lease.Rev ≤ 5) := fun h => by
      rw [ze h]
      have : k = 0 ∨ k = 1 ∨ k = 2 ∨ k = 3 := by omega
      rcases this with rfl | rfl | rfl | rfl <;> decide
    have zm : (M.set (k : Int).toNat (exE (el M k) d)).length = 4 := by rw [List.length_set]; exact zl
    have zq : k < 4 → el (M.set (k : Int).toNat (exE (el M k) d)) k = exE (el M k) d := fun h => by
      rw [z2, Int.toNat_natCast, sh_set (l := bEs 0) h, sh_el2 (l := bEs 0) h]
    have zw : k < 4 → 0 ≤ (el (M.set (k : Int).toNat (exE (el M k) d)) k).Lease.Rev ∧ (el (M.set (k : Int).toNat (exE (el M k) d)) k).Lease.Rev ≤ 5 := fun h => by rw [zq h]; exact (zr h).2
    dsimp only [exE] at zm zw
    refine if_ (fun c2 => ?_) (fun c2 => ?_)
    · have hk : k < 4 := by omega
      refine ba_ ((M.set (k : Int).toNat (exE (el M k) d)).set (k : Int).toNat { el (M.set (k : Int).toNat (exE (el M k) d)) k with Lease := { (el (M.set (k : Int).toNat (exE (el M k) d)) k).Lease with Rev := (el (M.set (k : Int).toNat (exE (el M k) d)) k).Lease.Rev + d } }, k + 1) ⟨by dsimp only; omega, ?_⟩ (by dsimp only; omega)
      dsimp only
      rw [zq hk]
      have e : ({ exE (el M k) d with Lease := { (exE (el M k) d).Lease with Rev := (exE (el M k) d).Lease.Rev + d } } : QEvent) = shE d (el (bEs 0) k) := by rw [ze hk]; rfl
      rw [e, z2, Int.toNat_natCast, sh_set (l := bEs 0) hk, sh_set2 (l := bEs 0) hk, sh_next (l := bEs 0) hk]
    · have hk : k = 4 := by omega
      subst hk
      have zd : M = bEs d := by rw [z2, ← sh_bEs]; rfl
      subst zd
      clear z1 z2 zl ze zr zm zq zw
      have hdm : 5 + (d : Int) ≤ maxRev := by unfold maxRev; omega
      refine ca_ (fun R' q1 q2 => restoreYes_c (plainC X') plainR g X ⟨5 + d, 0, I, J⟩ (bLs d) (bEs d) (b_img hdm) (by show (0 : Int) ≤ never; decide) (fun l hl => (b_li (X := X') hdm).ok l hl |>.till.2) R' (hC.le q1) (rq_ q2 r16) (rq_ q2 r1) (rq_ q2 r0)) fun ⟨t, w⟩ ⟨p, u, f1, f2⟩ => ?_
      dsimp only at p u f1 f2 ⊢
      have gT : ∀ T x, applyS t.c t.rs T x = applyS (plainC X') plainR T x := fun T x => by rw [f1, f2]; rfl
      have gM : ∀ T, logS t.c T = logS (plainC X') T := fun T => by rw [f2]; rfl
      refine pnn_ ?_
      refine lo_ (fun z : SV × Int × List QEvent × Nat => [(14, .int .i64 z.2.2.2)]) (fun z => stP t z.1) (fun z => (z.2.2.2 : Int) ≤ a ∧ Rel t z.1 (bN z.2.1 (5 + d + z.2.2.2) (4 + d) z.2.2.1) ∧ (0 ≤ z.2.1 ∧ z.2.1 < 2000 + b + z.2.2.2) ∧ Hst X' d (bN z.2.1 (5 + d + z.2.2.2) (4 + d) z.2.2.1)) (fun z => a.toNat - z.2.2.2) (w, 3, bEs d, 0) ⟨by dsimp only; omega, (by dsimp only; rw [show (5 + (d : Int) + ((0 : Nat) : Int)) = 5 + d from Int.add_zero _]; exact u), by dsimp only; omega, (by dsimp only; rw [show (5 + (d : Int) + ((0 : Nat) : Int)) = 5 + d from Int.add_zero _]; exact (⟨b_li hdm, b_hi⟩ : Hst X' d (bT d)))⟩ fun ⟨w1, n, E, i⟩ ⟨y1, y2, y3, y4⟩ => ?_
      dsimp only at y1 y2 y3 y4 ⊢
      refine if_ (fun c3 => ?_) (fun c3 => ?_)
      · refine ca_ (fun R' q1 q2 => Apply_c t w1 _ R' p y2 (asksM 0 (2000 + b + i)) asks_rng) fun ⟨w2, T2, a6⟩ ⟨h11, h12⟩ => ?_
        dsimp only at h11 h12 ⊢
        rw [gT] at h12
        have h13 := hst_apply (cmd := asksM 0 (2000 + b + i)) y4
        rw [b_turn (by rw [wrap32 (by omega) (by omega), wrap32 (by omega) (by omega)]; omega) (by unfold maxRev; omega)] at h12 h13
        simp only [Prod.mk.injEq] at h12
        obtain ⟨rfl, rfl⟩ := h12
        refine ax_ fun b15 => ?_
        refine if_ (fun c4 => ?_) (fun c4 => ?_)
        · exact absurd trivial c4
        · have e5 : (5 + d + i + 1 : Int) = 5 + d + ((i + 1 : Nat) : Int) := by omega
          rw [e5] at h11 h13
          exact ba_ (w2, 2000 + b + i, _, i + 1) ⟨by dsimp only; omega, h11, by dsimp only; omega, h13⟩ (by dsimp only; omega)
      · have er : (5 + d + i : Int) = maxRev := by unfold maxRev; omega
        rw [er] at y2 y4
        obtain ⟨G, hG⟩ : ∃ G, G = logS (plainC X') (bN n maxRev (4 + d) E) := ⟨_, rfl⟩
        refine ca_ (φ := fun _ => True) (V := fun x : SH × SH => .agg ⟨cImage ⟨1099511627776, 0, x.1, x.2⟩⟩) (Z := fun x : SH × SH => Sv 12 39 x.1.v ([lz 0 p0 n maxRev, lz 1 p1 2 (4 + d)].map cLease) :: Sv 14 72 x.2.v (G.map cEvent) :: stP t w1) (fun R' q1 q2 => by
          have h := image_c t w1 _ p y2 R'
          rw [gM, ← hG] at h; exact h) fun ⟨I2, J2⟩ _ => ?_
        refine ax_ fun b16 => ?_
        refine slice_ (c := cCmd) (ys := bC b) (fun K => ?_) (slt rfl) (tt rfl) (zet rfl) rfl rfl rfl rfl (by simp [bC, Value.cells]) inferInstance rfl rfl rfl
        refine run_ ?_
        have hl5 : (bC b).length = 5 := rfl
        have hll : ([lz 0 p0 n maxRev, lz 1 p1 2 (4 + d)] : List QLease).length = 2 := rfl
        have hnn : IntKind.u32.wrap n ≠ IntKind.u32.wrap (5000 + b) := by rw [wrap32 (by omega) (by omega), wrap32 (by omega) (by omega)]; omega
        refine lo_ (fun z : SV × Nat => [(18, .int .i64 z.2)]) (fun z => stP t z.1) (fun z => z.2 ≤ 5 ∧ Rel t z.1 (bN n maxRev (4 + d) E)) (fun z => 5 - z.2) (w1, 0) ⟨by dsimp only; omega, y2⟩ fun ⟨w2, j⟩ ⟨x1, x2⟩ => ?_
        dsimp only at x1 x2 ⊢
        refine if_ (fun c4 => ?_) (fun c4 => ?_)
        · obtain ⟨k1, k2⟩ := bC_all (X := X') (n := n) (b := b) (q := 4 + d) (E := E) hnn (i := j) (by omega)
          refine ca_ (fun R' q1 q2 => Apply_c t w2 _ R' p x2 (el (bC b) j) k2) fun ⟨w3, T3, a7⟩ ⟨k3, k4⟩ => ?_
          dsimp only at k3 k4 ⊢
          rw [gT, k1] at k4
          simp only [Prod.mk.injEq] at k4
          obtain ⟨rfl, rfl⟩ := k4
          refine ax_ fun b19 => ?_
          refine ax_ fun b20 => ?_
          refine hh_ [[0, 1, 2, 3, 4, 5, 6, 7, 8, 9, 10, 11, 12, 13, 14, 15, 16, 17, 18, 19], [22], [20], [21], [23], [24, 25]] [[Bx b19 41 (cAnswer ⟨4, zL, maxRev, 0⟩), Bx b20 39 (cLease zL), Bx b16 65 (cImage ⟨1099511627776, 0, I2, J2⟩)], [Bx b16 65 (cImage ⟨1099511627776, 0, I2, J2⟩)]] ?_
          refine ca_ (φ := fun _ => True) (V := fun x : SH × SH => .agg ⟨cImage ⟨1099511627776, 0, x.1, x.2⟩⟩) (Z := fun x : SH × SH => Sv 12 39 x.1.v ([lz 0 p0 n maxRev, lz 1 p1 2 (4 + d)].map cLease) :: Sv 14 72 x.2.v (G.map cEvent) :: stP t w3) (fun R' q1 q2 => by
            have h := image_c t w3 _ p k3 R'
            rw [gM, ← hG] at h; exact h) fun ⟨I3, J3⟩ _ => ?_
          refine cp_ (v := .bool true) (fun R' q1 q2 => ctpAs (eqImage_c ⟨1099511627776, 0, I3, J3⟩ ⟨1099511627776, 0, I2, J2⟩ [lz 0 p0 n maxRev, lz 1 p1 2 (4 + d)] [lz 0 p0 n maxRev, lz 1 p1 2 (4 + d)] G G R' (rq_ q2 r0) (rq_ q2 r18) (rq_ q2 r1) (rq_ q2 r19)) (by rw [decide_eq_true ⟨rfl, rfl, rfl, rfl⟩])) ?_
          exact ba_ (w3, j + 1) ⟨by dsimp only; omega, k3⟩ (by dsimp only; omega)
        · refine ca_ (fun R' q1 q2 => Apply_c t w2 _ R' p x2 ⟨4, 0, ⟨0, 0⟩, 0, ⟨0, 0, 0, 0, 0, 0⟩, 9⟩ ⟨by decide, by decide, by decide⟩) fun ⟨w3, T3, a7⟩ ⟨k3, k4⟩ => ?_
          dsimp only at k3 k4 ⊢
          have m1 := hst_apply (cmd := ⟨4, 0, ⟨0, 0⟩, 0, ⟨0, 0, 0, 0, 0, 0⟩, 9⟩) y4
          rw [gT, b_nine] at k4
          rw [b_nine] at m1
          simp only [Prod.mk.injEq] at k4
          obtain ⟨rfl, rfl⟩ := k4
          refine ax_ fun b21 => ?_
          refine ca_ (fun R' q1 q2 => Apply_c t w3 _ R' p k3 ⟨2, 0, p0, 0, ⟨0, 0, 0, 0, 0, 0⟩, 0⟩ ⟨by decide, by decide, by decide⟩) fun ⟨w4, T4, a8⟩ ⟨k5, k6⟩ => ?_
          dsimp only at k5 k6 ⊢
          have m2 := hst_apply (cmd := ⟨2, 0, p0, 0, ⟨0, 0, 0, 0, 0, 0⟩, 0⟩) m1
          rw [gT, b_renew] at k6
          rw [b_renew] at m2
          simp only [Prod.mk.injEq] at k6
          obtain ⟨rfl, rfl⟩ := k6
          refine ax_ fun b22 => ?_
          refine ca_ (fun R' q1 q2 => Apply_c t w4 _ R' p k5 ⟨3, 4, ⟨0, 0⟩, 0, ⟨0, 0, 0, 0, 0, 0⟩, 0⟩ ⟨by decide, by decide, by decide⟩) fun ⟨w5, T5, a9⟩ ⟨k7, k8⟩ => ?_
          dsimp only at k7 k8 ⊢
          rw [gT, b_rel4] at k8
          simp only [Prod.mk.injEq] at k8
          obtain ⟨rfl, rfl⟩ := k8
          refine ax_ fun b23 => ?_
          refine ca_ (fun R' q1 q2 => Apply_c t w5 _ R' p k7 ⟨4, 0, ⟨0, 0⟩, 0, ⟨0, 0, 0, 0, 0, 0⟩, -1⟩ ⟨by decide, by decide, by decide⟩) fun ⟨w6, T6, a10⟩ ⟨k9, k10⟩ => ?_
          dsimp only at k9 k10 ⊢
          rw [gT, b_back] at k10
          simp only [Prod.mk.injEq] at k10
          obtain ⟨rfl, rfl⟩ := k10
          refine ax_ fun b24 => ?_
          refine mvs_ (Bx b5 28 (cConfig (plainC X')) :: Sv 3 58 X'.v (plainR.map cReserve) :: Bx b21 41 (cAnswer ⟨0, zL, maxRev, 9⟩) :: Bx b22 41 (cAnswer ⟨0, ⟨0, p0, IntKind.u32.wrap n, macM n, 19, maxRev⟩, maxRev, 9⟩) :: Bx b23 41 (cAnswer ⟨111, zL, maxRev, 9⟩) :: Bx b24 41 (cAnswer ⟨1, zL, maxRev, 9⟩) :: stP t w6) ?_
          refine hh_ [[0], [1], [2], [3], [4, 5, 6, 7, 8]] [[Bx b5 28 (cConfig (plainC X'))]] ?_
          refine ca_ (fun R' q1 q2 => image_c t w6 _ p k9 R') fun ⟨I4, J4⟩ _ => ?_
          have m3 := hst_img m2 (by rw [← gM, ← gM]; exact log_pre k9.li)
          rw [← gM] at m3
          refine ca_ (fun R' q1 q2 => restoreYes_c (plainC X') plainR g X ⟨maxRev, 9, I4, J4⟩ (bU n (4 + d) E).ls (logS t.c (bU n (4 + d) E)) m3 (by show (9 : Int) ≤ never; decide) (fun l hl => (m2.1.ok l hl).till.2) R' (hC.le q1) (rq_ q2 r15) (rq_ q2 r0) (rq_ q2 r1)) fun ⟨t2, w7⟩ ⟨p2, u2, f3, f4⟩ => ?_
          refine mvs_ (Bx b21 41 (cAnswer ⟨0, zL, maxRev, 9⟩) :: Bx b22 41 (cAnswer ⟨0, ⟨0, p0, IntKind.u32.wrap n, macM n, 19, maxRev⟩, maxRev, 9⟩) :: Bx b23 41 (cAnswer ⟨111, zL, maxRev, 9⟩) :: Bx b24 41 (cAnswer ⟨1, zL, maxRev, 9⟩) :: []) ?_
          refine run_ ?_
          first | refine pqy_ ?_ | refine pqx_ ?_
          exact re_ rfl
end Go.Proofs.YtdallmabajeajaaGreatDoor.Fw
