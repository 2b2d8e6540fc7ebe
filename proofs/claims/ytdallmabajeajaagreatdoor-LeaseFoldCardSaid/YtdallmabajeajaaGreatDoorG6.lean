/-
  Own work: walks and laws, joined by wip/tool/compact.py.
-/
import Derived.Test.YtdallmabajeajaaGreatDoorG5

set_option linter.all false
set_option linter.all false
set_option maxHeartbeats 4000000
set_option maxRecDepth 100000
namespace Go.Proofs.YtdallmabajeajaaGreatDoor.Fw
open Go
theorem watch_fol {s : SG} {S : LS} {L : List QLease} {q n : Int} (o : SOK s) (i : LI s.c s.rs S) (f : Fol S L q) (hn : 1 ≤ n) : (watchS s.c S q n = ([], 112) ∧ s.c.Log < S.rev - q) ∨ watchS s.c S q n = ((S.es.drop q.toNat).take n.toNat, 0) := by
  have hL := log_len' i
  have hlog := o.f.log
  have hl := f.len
  have hq := f.q0
  have hrv := i.rev
  unfold watchS
  rw [if_neg (by omega), if_neg (by omega)]
  by_cases h : q < S.rev - (logS s.c S).length
  · rw [if_pos h]
    exact .inl ⟨rfl, by rw [hL] at h; omega⟩
  · rw [if_neg h]
    refine .inr ?_
    rw [hL] at h ⊢
    have e : (logS s.c S).drop (((min s.c.Log S.rev).toNat : Int) - (S.rev - q)).toNat = S.es.drop q.toNat := by
      unfold logS
      rw [List.drop_drop]
      congr 1
      omega
    rw [e]
theorem ins_len {l : List QLease} {x : QLease} : (ins l x).length = l.length + 1 := by rw [ins_perm.length_eq]; rfl
theorem foldE_len {l : List QLease} {e : QEvent} : (foldE l e).length ≤ l.length + 1 := by
  have hd : (del l e.Lease.Host).length ≤ l.length := List.length_filter_le _ _
  unfold foldE
  split
  · rw [ins_len]; omega
  · omega
theorem leaseFold_c (c0 : QConfig) (rs0 : List QReserve) (hr : CfgR c0) (hrr : ∀ r ∈ rs0, 0 ≤ r.Subnet.Addr ∧ r.Subnet.Addr < 4294967296) (X : SH) (R : Hh) (hC : ClsR R X) (hR : RdS R 3 c0.Reserved.v (rs0.map cReserve)) (cv : SH) (cmds : List QCmd) (hX : RdS R 12 cv.v (cmds.map cCmd)) (hq : ∀ x ∈ cmds, RCmd x) (gv : SH) (gs : List Int) (hG : RdS R 1 gv.v (gs.map (cInt .u8))) (hgq : ∀ x ∈ gs, IntKind.u8.wrap x = x) :
    Ctp Tryz.prog 8 [.agg ⟨cConfig c0⟩, cv.v, gv.v] R [] (.bool true) := by
  have hbd := hX.bd
  have hbd2 := hG.bd
  refine in_ Tryz.func8 fun w0 => ?_
  refine bo_' fun b3 => ?_
  refine ca_ (fun R' q1 q2 => usable_c c0 rs0 hr hrr R' (hR.le q1)) fun ⟨c, rs⟩ g => ?_
  dsimp only at g ⊢
  refine ca_ (fun R' q1 q2 => newYes_c c rs g.hr g.rr X R' (hC.le q1) (rq_ q2 r0) g.ok g.f g.po g.rl) fun ⟨s, v⟩ ⟨o, r, e1, e2⟩ => ?_
  dsimp only at o r e1 e2 ⊢
  have hlog := g.f.log
  have hLog : c.Log = s.c.Log := by rw [e2]
  refine pnn_ ?_
  refine ca_ (fun R' q1 q2 => snapshot_c s v ⟨0, 0, [], []⟩ o r R') fun B _ => ?_
  refine ax_ fun b9 => ?_
  refine ca_ (fun R' q1 q2 => Apply_c s v ⟨0, 0, [], []⟩ R' o r (asksM 0 9) ⟨by decide, by decide, by decide⟩) fun ⟨v1, S1, a1⟩ ⟨h1, h2⟩ => ?_
  dsimp only at h1 h2 ⊢
  have ha1 := apply_rev (c := s.c) (rs := s.rs) (s := ⟨0, 0, [], []⟩) (cmd := asksM 0 9)
  have hf0 : Fol ⟨0, 0, [], []⟩ [] 0 := fol_now rfl (by simp)
  have hf1 := fol_cmd hf0 (evo_apply (cmd := asksM 0 9) r.li)
  rw [h2] at ha1 hf1
  dsimp only at ha1 hf1
  refine ax_ fun b10 => ?_
  refine lo_ (fun z : SV × LS × Int × Int × SH × List QLease × QAnswer × Nat => [(11, .int .i64 z.2.2.2.2.2.2.2)]) (fun z => Bx b9 52 (cSnap ⟨z.2.2.1, z.2.2.2.1, z.2.2.2.2.1⟩) :: Bx b10 41 (cAnswer z.2.2.2.2.2.2.1) :: Sv 12 39 z.2.2.2.2.1.v (z.2.2.2.2.2.1.map cLease) :: stP s z.1) (fun z => z.2.2.2.2.2.2.2 ≤ cmds.length ∧ Rel s z.1 z.2.1 ∧ Fol z.2.1 z.2.2.2.2.2.1 z.2.2.1 ∧ z.2.2.2.2.2.2.1.Rev = z.2.1.rev ∧ z.2.2.2.2.2.1.length ≤ z.2.2.1 + 64) (fun z => cmds.length - z.2.2.2.2.2.2.2) (v1, S1, 0, 0, B, [], a1, 0) ⟨by dsimp only; omega, h1, hf1, ha1.1, by simp⟩ fun ⟨v2, S2, q, nw, LX, L, a, k⟩ ⟨z1, z2, z3, z4, z5⟩ => ?_
  dsimp only at z1 z2 z3 z4 z5 ⊢
  have hrv := z2.li.rev
  unfold maxRev at hrv
  have hq0 := z3.q0
  refine if_ (fun c1 => ?_) (fun c1 => ?_)
  · have hkl : k < cmds.length := by omega
    have hel : el cmds k = cmds[k] := el_of hkl
    refine ca_ (fun R' q1 q2 => Apply_c s v2 S2 R' o z2 (el cmds k) (cmd_rng (by rw [hel]; exact hq _ (List.getElem_mem hkl)))) fun ⟨v3, S3, b⟩ ⟨h3, h4⟩ => ?_
    dsimp only at h3 h4 ⊢
    have hev := evo_apply (cmd := el cmds k) z2.li
    have hb1 := apply_rev (c := s.c) (rs := s.rs) (s := S2) (cmd := el cmds k)
    have hb2 := apply_err (c := s.c) (rs := s.rs) (s := S2) (cmd := el cmds k)
    have hb3 := renew_rev (c := s.c) (rs := s.rs) (s := S2) (cmd := el cmds k)
    rw [h4] at hev hb1 hb2 hb3
    dsimp only at hev hb1 hb2 hb3
    have hf3 := fol_cmd z3 hev
    have hrv3 := h3.li.rev
    unfold maxRev at hrv3
    have hup : S2.rev ≤ S3.rev := by obtain ⟨E, _, he, _⟩ := hev; omega
    have hbr := hb1.1
    refine ax_ fun b12 => ?_
    have hstep : IntKind.i64.wrap (b.Rev - a.Rev) = S3.rev - S2.rev := by rw [hbr, z4]; exact wrap_i64 (by omega) (by omega)
    have hge := el_u8 hgq (k : Int)
    have hgw : IntKind.i64.wrap (el gs k) = el gs k := wrap_i64 (by omega) (by omega)
    refine if_ (fun c2 => ?_) (fun c2 => ?_)
    · exfalso
      rw [hstep] at c2
      rcases c2 with (h | ⟨h, h'⟩) | ⟨h, h'⟩
      · omega
      · have := congrArg (fun x => x.1.rev) (hb2 h)
        dsimp only at this
        omega
      · have := hb3 h
        omega
    · refine jm_ (ι := Int) (fun z => [(14, .int .i64 z)]) (fun z => []) [] (fun z => 0 ≤ z ∧ z ≤ 5) ?_ fun n hn => ?_
      · refine if_ (fun c3 => ?_) (fun c3 => ?_)
        · refine ma_ (IntKind.i64.wrap (el gs k) % 6) ⟨?_, ?_⟩
          · exact Int.emod_nonneg _ (by decide)
          · have := Int.emod_lt_of_pos (IntKind.i64.wrap (el gs k)) (show (0 : Int) < 6 by decide); omega
        · exact ma_ 0 ⟨by omega, by omega⟩
      · refine if_ (fun c3 => ?_) (fun c3 => ?_)
        · exact ba_ (v3, S3, q, nw, LX, L, b, k + 1) ⟨by dsimp only; omega, h3, hf3, hbr, z5⟩ (by dsimp only; omega)
        · have hq3 := hf3.q0
          have hl3 := hf3.len
          have hsub : IntKind.i64.wrap (b.Rev - q) = S3.rev - q := by rw [hbr]; exact wrap_i64 (by omega) (by omega)
          rcases watch_fol (q := q) (n := n) o h3.li hf3 (by omega) with ⟨hw, hlt⟩ | hw
          · refine ca_ (V := fun X5 : SH => .tuple #[X5.v, .int .i64 112]) (Z := fun X5 : SH => Sv 14 72 X5.v (([] : List QEvent).map cEvent) :: stP s v3) (fun R' q1 q2 => by
              have h := watch_c s v3 S3 o h3 R' q n
              rw [hw] at h; exact h) fun X5 _ => ?_
            refine if_ (fun c4 => ?_) (fun c4 => ?_)
            · exfalso
              rw [hsub, hLog] at c4
              omega
            · refine ca_ (fun R' q1 q2 => snapshot_c s v3 S3 o h3 R') fun B3 _ => ?_
              have hsl := rel_len h3 o
              exact ba_ (v3, S3, S3.rev, S3.now, B3, S3.ls, b, k + 1) ⟨by dsimp only; omega, h3, fol_now hf3.len hf3.kind, hbr, by dsimp only; omega⟩ (by dsimp only; omega)
          · obtain ⟨E, hE⟩ : ∃ E, E = (S3.es.drop q.toNat).take n.toNat := ⟨_, rfl⟩
            rw [← hE] at hw
            have hEl : E.length = min n.toNat (S3.es.length - q.toNat) := by rw [hE, List.length_take, List.length_drop]
            refine ca_ (V := fun X5 : SH => .tuple #[X5.v, .int .i64 0]) (Z := fun X5 : SH => Sv 14 72 X5.v (E.map cEvent) :: stP s v3) (fun R' q1 q2 => by
              have h := watch_c s v3 S3 o h3 R' q n
              rw [hw] at h; exact h) fun X5 _ => ?_
            refine if_ (fun c4 => ?_) (fun c4 => ?_)
            · exfalso
              have hw2 : IntKind.i64.wrap (q + E.length) = q + E.length := wrap_i64 (by omega) (by omega)
              rw [hw2, hbr] at c4
              omega
            · refine lo_ (fun z : SH × List QLease × Int × Nat => [(17, .int .i64 z.2.2.2)]) (fun z => [Bx b9 52 (cSnap ⟨z.2.2.1, nw, z.1⟩), Sv 12 39 z.1.v (z.2.1.map cLease)]) (fun z => z.2.2.2 ≤ E.length ∧ z.2.2.1 = q + z.2.2.2 ∧ Fol S3 z.2.1 z.2.2.1 ∧ z.2.1.length ≤ z.2.2.1 + 64) (fun z => E.length - z.2.2.2) (LX, L, q, 0) ⟨by dsimp only; omega, by dsimp only; omega, hf3, z5⟩ fun ⟨LY, M, p, j⟩ ⟨y1, y2, y3, y4⟩ => ?_
              dsimp only at y1 y2 y3 y4 ⊢
              refine if_ (fun c5 => ?_) (fun c5 => ?_)
              · have hjl : j < E.length := by omega
                have hpl : p.toNat < S3.es.length := by omega
                have hej : el E j = S3.es[p.toNat] := by
                  rw [el_of hjl]
                  simp only [hE, List.getElem_take, List.getElem_drop]
                  congr 1; omega
                have hkd := hf3.kind _ (List.getElem_mem hpl)
                have hvs := h3.li.evs p.toNat hpl
                rw [← hej] at hkd hvs
                refine if_ (fun c6 => ?_) (fun c6 => ?_)
                · exfalso
                  have hw3 : IntKind.i64.wrap (p + 1) = p + 1 := wrap_i64 (by omega) (by omega)
                  rw [hw3] at c6
                  omega
                · have hw3 : IntKind.i64.wrap (p + 1) = p + 1 := wrap_i64 (by omega) (by omega)
                  simp only [hw3]
                  refine ca_ (fun R' q1 q2 => fold_c LY M (el E j) (by omega) R' (rq_ q2 r1)) fun Y _ => ?_
                  have hfl := foldE_len (l := M) (e := el E j)
                  refine ba_ (Y, foldE M (el E j), p + 1, j + 1) ⟨by dsimp only; omega, by dsimp only; omega, ?_, by dsimp only; omega⟩ (by dsimp only; omega)
                  rw [hej]
                  exact fol_one y3 hpl
              · have hsl := rel_len h3 o
                refine ca_ (fun R' q1 q2 => snapshot_c s v3 S3 o h3 R') fun B4 _ => ?_
                refine ax_ fun b18 => ?_
                refine if_ (fun c6 => ?_) (fun c6 => ?_)
                · exact ba_ (v3, S3, p, nw, LY, M, b, k + 1) ⟨by dsimp only; omega, h3, y3, hbr, y4⟩ (by dsimp only; omega)
                · have hpe : p = S3.rev := by first | exact c6 | exact Classical.not_not.1 c6
                  rw [hpe] at y3
                  have hnu := fol_end y3
                  have hll : M.length = S3.ls.length := by have := congrArg List.length hnu; simpa using this
                  refine if_ (fun c7 => ?_) (fun c7 => ?_)
                  · exfalso; omega
                  · refine lo_ (fun i : Nat => [(19, .int .i64 i)]) (fun _ => []) (fun i => i ≤ S3.ls.length) (fun i => S3.ls.length - i) 0 (Nat.zero_le _) fun i hi => ?_
                    refine if_ (fun c8 => ?_) (fun c8 => ?_)
                    · have hil : i < S3.ls.length := by omega
                      have hil2 : i < M.length := by omega
                      have hsm : nu (el M i) = nu (el S3.ls i) := by
                        have h := congrArg (fun l => l[i]?) hnu
                        simp only [List.getElem?_map, List.getElem?_eq_getElem hil, List.getElem?_eq_getElem hil2, Option.map_some, Option.some.injEq] at h
                        rw [el_of hil, el_of hil2]; exact h
                      refine cq_ (fun R' q1 q2 => same_c (el M i) (el S3.ls i) R') ?_
                      refine if_ (fun c9 => ?_) (fun c9 => ?_)
                      · exact absurd hsm c9
                      · exact ba_ (i + 1) (by omega) (by omega)
                    · rw [← hpe] at y3
                      exact ba_ (v3, S3, p, nw, LY, M, b, k + 1) ⟨by dsimp only; omega, h3, y3, hbr, y4⟩ (by dsimp only; omega)
  · have hlo2 := o.f.log
    have hw1 : watchS s.c S2 (a.Rev + 1) 1 = ([], 113) := by
      unfold watchS
      rw [if_neg (by omega), if_pos (by omega)]
    refine ca_ (V := fun X5 : SH => .tuple #[X5.v, .int .i64 113]) (Z := fun X5 : SH => Sv 14 72 X5.v (([] : List QEvent).map cEvent) :: stP s v2) (fun R' q1 q2 => by
      have h := watch_c s v2 S2 o z2 R' (a.Rev + 1) 1
      rw [hw1] at h; exact h) fun X5 _ => ?_
    have hw2 : (watchS s.c S2 a.Rev 1).2 = 0 := by
      rcases watch_fol (q := a.Rev) (n := 1) o z2.li (by rw [z4]; exact fol_now z3.len z3.kind) (by omega) with ⟨_, h⟩ | h
      · omega
      · rw [h]
    refine ca_ (V := fun X6 : SH => .tuple #[X6.v, .int .i64 0]) (Z := fun X6 : SH => Sv 14 72 X6.v ((watchS s.c S2 a.Rev 1).1.map cEvent) :: stP s v2) (fun R' q1 q2 => by
      have h := watch_c s v2 S2 o z2 R' a.Rev 1
      rw [hw2] at h; exact h) fun X6 _ => ?_
    exact re_ rfl
end Go.Proofs.YtdallmabajeajaaGreatDoor.Fw
