/-
  Own work: walks and laws, joined by wip/tool/compact.py.
-/
import Derived.Test.YtdallmabajeajaaGreatDoorG5

set_option linter.all false
set_option linter.all false
set_option maxHeartbeats 4000000
set_option maxRecDepth 100000
namespace Go.Proofs.YtdallmabajeajaaGreatDoor.Fw
open Go
theorem hol_pre {P : List QEvent} {t : LS} {a : Int} : holderS (preS P t) a = holderS t a := rfl
theorem rds_nil {h : Hh} {k : Nat} {α : Type} {c : α → List Value} : RdS h k nilH.v (([] : List α).map c) := ⟨by simp, by simp, none, 0, rfl, Nat.le_refl _, fun h => absurd rfl h⟩
theorem leaseAgain_c (c0 : QConfig) (rs0 : List QReserve) (hr : CfgR c0) (hrr : ∀ r ∈ rs0, 0 ≤ r.Subnet.Addr ∧ r.Subnet.Addr < 4294967296) (X : SH) (R : Hh) (hC : ClsR R X) (hR : RdS R 3 c0.Reserved.v (rs0.map cReserve)) (cv : SH) (cmds : List QCmd) (hX : RdS R 12 cv.v (cmds.map cCmd)) (hq : ∀ x ∈ cmds, RCmd x) (mv : SH) (more : List Qweftlaw11_Op) (hM : RdS R 17 mv.v (more.map cweftlaw11_Op)) (hmq : ∀ x ∈ more, Rweftlaw11_Op x) :
    Ctp Tryz.prog 17 [.agg ⟨cConfig c0⟩, cv.v, mv.v] R [] (.bool true) := by
  have hbd := hX.bd
  have hbd2 := hM.bd
  refine in_ Tryz.func17 fun w0 => ?_
  refine bo_' fun b3 => ?_
  refine ca_ (fun R' q1 q2 => usable_c c0 rs0 hr hrr R' (hR.le q1)) fun ⟨c, rs⟩ g => ?_
  dsimp only at g ⊢
  refine ca_ (fun R' q1 q2 => newYes_c c rs g.hr g.rr X R' (hC.le q1) (rq_ q2 r0) g.ok g.f g.po g.rl) fun ⟨s, v⟩ ⟨o, r, e1, e2⟩ => ?_
  dsimp only at o r e1 e2 ⊢
  refine pnn_ ?_
  refine lo_ (fun z : SV × LS × Nat => [(9, .int .i64 z.2.2)]) (fun z => stP s z.1) (fun z => z.2.2 ≤ cmds.length ∧ Rel s z.1 z.2.1 ∧ HI s.c s.rs z.2.1) (fun z => cmds.length - z.2.2) (v, ⟨0, 0, [], []⟩, 0) ⟨by dsimp only; omega, r, hi_nil⟩ fun ⟨v1, S1, k⟩ ⟨z1, z2, z3⟩ => ?_
  dsimp only at z1 z2 z3 ⊢
  refine if_ (fun c1 => ?_) (fun c1 => ?_)
  · have hkl : k < cmds.length := by omega
    have hel : el cmds k = cmds[k] := el_of hkl
    refine ca_ (fun R' q1 q2 => Apply_c s v1 S1 R' o z2 (el cmds k) (cmd_rng (by rw [hel]; exact hq _ (List.getElem_mem hkl)))) fun ⟨v2, S2, a2⟩ ⟨h3, h4⟩ => ?_
    dsimp only at h3 h4 ⊢
    have hh := hi_apply (cmd := el cmds k) o.f z2.li z3
    rw [h4] at hh
    exact ba_ (v2, S2, k + 1) ⟨by dsimp only; omega, h3, hh⟩ (by dsimp only; omega)
  · refine ca_ (fun R' q1 q2 => Apply_c s v1 S1 R' o z2 (asksM 0 5) ⟨by decide, by decide, by decide⟩) fun ⟨v2, S2, a2⟩ ⟨h3, h4⟩ => ?_
    dsimp only at h3 h4 ⊢
    have hh := hi_apply (cmd := asksM 0 5) o.f z2.li z3
    rw [h4] at hh
    dsimp only at hh
    refine ca_ (fun R' q1 q2 => image_c s v2 S2 o h3 R') fun ⟨I, J⟩ _ => ?_
    refine ax_ fun b10 => ?_
    have hio := img_ok o.f h3.li hh
    have hio2 : ImgOK c rs S2.now S2.rev S2.ls (logS s.c S2) := by
      have h := img_res (Y := c.Reserved) hio
      rw [e1, e2] at h
      rw [e2]
      exact h
    refine ca_ (fun R' q1 q2 => restoreYes_c c rs g X ⟨S2.rev, S2.now, I, J⟩ S2.ls (logS s.c S2) hio2 h3.li.now.2 (fun l hl => (h3.li.ok l hl).till.2) R' (hC.le q1) (rq_ q2 r15) (rq_ q2 r1) (rq_ q2 r2)) fun ⟨t, w⟩ ⟨p, u, f1, f2⟩ => ?_
    dsimp only at p u f1 f2 ⊢
    have g1 : t.rs = s.rs := by rw [f1, e1]
    have g2 : ∀ T x, applyS t.c t.rs T x = applyS s.c s.rs T x := fun T x => by rw [g1, f2, e2]; rfl
    have g3 : ∀ T, logS t.c T = logS s.c T := fun T => by rw [f2, e2]; rfl
    have g4 : ∀ T f m, watchS t.c T f m = watchS s.c T f m := fun T f m => by rw [f2, e2]; rfl
    obtain ⟨P, T, hT, rfl⟩ : ∃ P T, T = (⟨S2.now, S2.rev, S2.ls, logS s.c S2⟩ : LS) ∧ S2 = preS P T := by
      refine ⟨S2.es.take (S2.es.length - (min s.c.Log S2.rev).toNat), _, rfl, ?_⟩
      obtain ⟨a1, a2, a3, a4⟩ := S2
      simp [preS, logS, List.take_append_drop]
    rw [← hT] at u
    have hlP : ∀ T, LI t.c t.rs T → logS s.c (preS P T) = logS s.c T := fun T h => by rw [← g3, ← g3]; exact log_pre h
    refine hh_ [[0, 1, 2, 3, 4, 5, 6], [9], [7], [8], [10], [11, 12, 13], [16], [14], [15], [17], [18], [19, 20]] [[], [Bx b10 65 (cImage ⟨(preS P T).rev, (preS P T).now, I, J⟩)]] ?_
    refine hpn_ ?_
    refine ca_ (fun R' q1 q2 => image_c t w T p u R') fun ⟨I2, J2⟩ _ => ?_
    refine cp_ (v := .bool true) (fun R' q1 q2 => ctpAs (eqImage_c ⟨T.rev, T.now, I2, J2⟩ ⟨(preS P T).rev, (preS P T).now, I, J⟩ T.ls (preS P T).ls (logS t.c T) (logS s.c (preS P T)) R' (rq_ q2 r0) (rq_ q2 r15) (rq_ q2 r1) (rq_ q2 r16)) (by rw [decide_eq_true ⟨rfl, rfl, rfl, by rw [g3, hlP _ u.li]⟩])) ?_
    refine ca_ (fun R' q1 q2 => snapshot_c t w T p u R') fun B2 _ => ?_
    refine ca_ (fun R' q1 q2 => snapshot_c s v2 (preS P T) o h3 R') fun B1 _ => ?_
    refine cp_ (v := .bool true) (fun R' q1 q2 => ctpAs (eqSnap_c ⟨T.rev, T.now, B2⟩ ⟨(preS P T).rev, (preS P T).now, B1⟩ T.ls (preS P T).ls R' (rq_ q2 r13) (rq_ q2 r0)) (by rw [decide_eq_true ⟨rfl, rfl, rfl⟩])) ?_
    refine lo_ (fun z : SV × SV × LS × Nat => [(13, .int .i64 z.2.2.2)]) (fun z => stP s z.1 ++ stP t z.2.1) (fun z => z.2.2.2 ≤ more.length ∧ Rel s z.1 (preS P z.2.2.1) ∧ Rel t z.2.1 z.2.2.1) (fun z => more.length - z.2.2.2) (v2, w, T, 0) ⟨by dsimp only; omega, h3, u⟩ fun ⟨v3, w3, T3, i⟩ ⟨y1, y2, y3⟩ => ?_
    dsimp only at y1 y2 y3 ⊢
    refine if_ (fun c2 => ?_) (fun c2 => ?_)
    · have hil : i < more.length := by omega
      have hei : el more i = more[i] := el_of hil
      have hop : Rweftlaw11_Op (el more i) := by rw [hei]; exact hmq _ (List.getElem_mem hil)
      refine ax_ fun b14 => ?_
      generalize el more (i : Int) = op at hop ⊢
      obtain ⟨kd, wh, ⟨ck, ch, ⟨pa, pl⟩, pu, ⟨m0, m1, m2, m3, m4, m5⟩, n⟩, fr, mx, ad⟩ := op
      dsimp only
      obtain ⟨_, _, q3, _, _, q6⟩ := hop
      have hcm := cmd_rng q3
      have hadr := u32_rng q6
      refine if_ (fun c3 => ?_) (fun c3 => ?_)
      · refine hh_ [[4, 5, 6], [0, 1, 2], [3], [7], [8]] [[Bx b14 97 (cweftlaw11_Op ⟨kd, wh, ⟨ck, ch, ⟨pa, pl⟩, pu, ⟨m0, m1, m2, m3, m4, m5⟩, n⟩, fr, mx, ad⟩)], [Bx b14 97 (cweftlaw11_Op ⟨kd, wh, ⟨ck, ch, ⟨pa, pl⟩, pu, ⟨m0, m1, m2, m3, m4, m5⟩, n⟩, fr, mx, ad⟩)]] ?_
        refine ca_ (fun R' q1 q2 => Apply_c s v3 (preS P T3) R' o y2 ⟨ck, ch, ⟨pa, pl⟩, pu, ⟨m0, m1, m2, m3, m4, m5⟩, n⟩ hcm) fun ⟨v4, S4, a4⟩ ⟨k1, k2⟩ => ?_
        dsimp only at k1 k2 ⊢
        refine ca_ (fun R' q1 q2 => Apply_c t w3 T3 R' p y3 ⟨ck, ch, ⟨pa, pl⟩, pu, ⟨m0, m1, m2, m3, m4, m5⟩, n⟩ hcm) fun ⟨w4, T4, a5⟩ ⟨k3, k4⟩ => ?_
        dsimp only at k3 k4 ⊢
        rw [apply_pre, ← g2, k4] at k2
        simp only [Prod.mk.injEq] at k2
        obtain ⟨rfl, rfl⟩ := k2
        refine if_ (fun c4 => ?_) (fun c4 => ?_)
        · exact absurd trivial c4
        · exact ba_ (v4, w4, T4, i + 1) ⟨by dsimp only; omega, k1, k3⟩ (by dsimp only; omega)
      · refine if_ (fun c4 => ?_) (fun c4 => ?_)
        · have hw : watchS s.c (preS P T3) fr mx = watchS t.c T3 fr mx := by rw [← g4, watch_pre y3.li]
          refine ca_ (V := fun X5 : SH => .tuple #[X5.v, .int .i64 (watchS t.c T3 fr mx).2]) (Z := fun X5 : SH => Sv 14 72 X5.v ((watchS t.c T3 fr mx).1.map cEvent) :: stP s v3) (fun R' q1 q2 => by
            have h := watch_c s v3 (preS P T3) o y2 R' fr mx
            rw [hw] at h; exact h) fun X5 _ => ?_
          have k5 : ((watchS t.c T3 fr mx).2 != (watchS t.c T3 fr mx).2) = false := by simp
          refine ca_ (fun R' q1 q2 => watch_c t w3 T3 p y3 R' fr mx) fun X6 _ => ?_
          refine cp_ (v := .bool true) (fun R' q1 q2 => ctpAs (eqEvents_c X5 X6 (watchS t.c T3 fr mx).1 (watchS t.c T3 fr mx).1 R' (rq_ q2 r13) (rq_ q2 r0)) (by rw [decide_eq_true rfl])) ?_
          exact ba_ (v3, w3, T3, i + 1) ⟨by dsimp only; omega, y2, y3⟩ (by dsimp only; omega)
        · refine if_ (fun c5 => ?_) (fun c5 => ?_)
          · refine ca_ (fun R' q1 q2 => holder_c s v3 (preS P T3) o y2 R' ad hadr.1 hadr.2) fun ⟨l1, x1⟩ k1 => ?_
            refine ax_ fun b19 => ?_
            refine ca_ (fun R' q1 q2 => holder_c t w3 T3 p y3 R' ad hadr.1 hadr.2) fun ⟨l2, x2⟩ k2 => ?_
            refine ax_ fun b21 => ?_
            rw [hol_pre, ← k2] at k1
            cases k1
            refine if_ (fun c6 => ?_) (fun c6 => ?_)
            · exfalso
              simp at c6
            · exact ba_ (v3, w3, T3, i + 1) ⟨by dsimp only; omega, y2, y3⟩ (by dsimp only; omega)
          · exact ba_ (v3, w3, T3, i + 1) ⟨by dsimp only; omega, y2, y3⟩ (by dsimp only; omega)
    · refine mv_ (Sv 3 58 c.Reserved.v (rs.map cReserve) :: Bx b3 28 (cConfig c) :: (stP s v3 ++ stP t w3)) ?_ (by
        apply Sub.c
        · exact remC (remC (remC r28))
        apply Sub.c
        · exact remC (remC (remC r28))
        repeat (first | exact Sub.n | (apply Sub.c; exact r0)))
      refine run_ ?_
      refine cp_ (fun R' q1 q2 => restoreNo_c c rs g X ⟨-1, 0, nilH, nilH⟩ [] [] (fun h => absurd h.r0 (by decide)) (by simp) (by simp) R' (hC.le q1) (rq_ q2 r0) rds_nil rds_nil) ?_
      refine ca_ (fun R' q1 q2 => image_c s v3 (preS P T3) o y2 R') fun ⟨I3, J3⟩ _ => ?_
      refine ca_ (fun R' q1 q2 => image_c t w3 T3 p y3 R') fun ⟨I4, J4⟩ _ => ?_
      refine cp_ (v := .bool true) (fun R' q1 q2 => ctpAs (eqImage_c ⟨(preS P T3).rev, (preS P T3).now, I3, J3⟩ ⟨T3.rev, T3.now, I4, J4⟩ (preS P T3).ls T3.ls (logS s.c (preS P T3)) (logS t.c T3) R' (rq_ q2 r14) (rq_ q2 r0) (rq_ q2 r15) (rq_ q2 r1)) (by rw [decide_eq_true ⟨rfl, rfl, rfl, by rw [g3, hlP _ y3.li]⟩])) ?_
      first | refine pny_ ?_ | refine pnx_ ?_
      exact re_ rfl
end Go.Proofs.YtdallmabajeajaaGreatDoor.Fw
