/-
  Own work: walks and laws, joined by wip/tool/compact.py.
-/
import Derived.Test.YtdallmabajeajaaGreatDoorG5

set_option linter.all false
set_option linter.all false
set_option maxHeartbeats 4000000
set_option maxRecDepth 100000
namespace Go.Proofs.YtdallmabajeajaaGreatDoor.Fw
open Go
section
variable {c : QConfig} {rs : List QReserve} {s : SG} {v : SV} {g : RG} {S : LS}
theorem Two.app (t : Two c rs s v g S) (x : QCmd) : applyS g.c g.rs S x = applyS s.c s.rs S x := by rw [t.gr, t.gc, t.sr, t.sc]; rfl
theorem Two.log (t : Two c rs s v g S) (T : LS) : logS g.c T = logS s.c T := by rw [t.gc, t.sc]; rfl
theorem Two.wat (t : Two c rs s v g S) (T : LS) (f m : Int) : watchS g.c T f m = watchS s.c T f m := by rw [t.gc, t.sc]; rfl
theorem cmd_es (cmd : QCmd) (h : S.es.length ≤ S.rev) : ((applyS c rs S cmd).1.es.length : Int) ≤ (applyS c rs S cmd).1.rev := by
  unfold applyS
  split
  · exact h
  · show ((cmdS c rs S cmd).1.es.length : Int) ≤ (cmdS c rs S cmd).1.rev
    unfold cmdS
    split
    · exact h
    split
    · split
      · exact h
      · unfold tickS
        rw [foldl_rem]
        simp only [List.length_append, evR_len]
        omega
    split
    · exact h
    split
    · split
      · split
        · exact h
        · simp only [List.length_append, List.length_cons, List.length_nil]; omega
      · split
        · split
          · exact h
          · exact h
        · simp only [remS, List.length_append, List.length_cons, List.length_nil]; omega
    · split
      · split
        · exact h
        · simp only [List.length_append, List.length_cons, List.length_nil]; omega
      · exact h
theorem Two.watch_c (t : Two c rs s v g S) (X E : SH) (R : Hh) (fr mx : Int) (hE : RdS R 14 E.v (S.es.map cEvent)) : Ctr (τ := SH) Tryz.prog 75 [.pointer (some (padd g.sp 0)), .int .i64 fr, .int .i64 mx] R [g.bx S.now S.rev X E] (fun _ => True) (fun Y => .tuple #[Y.v, .int .i64 (watchS s.c S fr mx).2]) (fun Y => [Sv 14 72 Y.v ((watchS s.c S fr mx).1.map cEvent), g.bx S.now S.rev X E]) := by
  have h := rwatch_c g t.gg S t.li t.es X E R fr mx hE
  rw [t.wat] at h
  exact h
theorem Two.image_c (t : Two c rs s v g S) (X E : SH) (R : Hh) : Ctr (τ := SH × SH) Tryz.prog 77 [.pointer (some (padd g.sp 0))] R (g.P S X E) (fun _ => True) (fun Y => .agg ⟨cImage ⟨S.rev, S.now, Y.1, Y.2⟩⟩) (fun Y => Sv 12 39 Y.1.v (S.ls.map cLease) :: Sv 14 72 Y.2.v ((logS s.c S).map cEvent) :: g.P S X E) := by
  have h := rimage_c g t.gg S t.li t.es X E R
  rw [t.log] at h
  exact h
end
theorem dr_ {n : Nat} {w0 : World} {R : Hh} {Ps : List HP} {p : HP} {L : List (Nat × Value)} {F : GF} (k : Gl n w0 R L Ps F) : Gl n w0 R L (p :: Ps) F := fun a w hs m => k a w hs m.drop
def PrG.op (pb : Addr) (c : QConfig) (s : SG) (v : SV) (g : RG) (S : LS) (X E : SH) : List HP := Bx pb 94 (cweftlaw11_Pair ⟨c, some (padd s.sp 0), some (padd g.sp 0)⟩) :: (stP s v ++ g.P S X E)
theorem plays_c (pb : Addr) (c : QConfig) (rs : List QReserve) (s : SG) (v : SV) (g : RG) (S : LS) (X E : SH) (t : Two c rs s v g S) (op : Qweftlaw11_Op) (hop : Rweftlaw11_Op op) (hk : op.Kind ≠ 6) (R : Hh) :
    Ctr (τ := SV × LS × SH × SH) Tryz.prog 44 [.pointer (some (padd pb 0)), .agg ⟨cweftlaw11_Op op⟩] R (PrG.op pb c s v g S X E) (fun x => Two c rs s x.1 g x.2.1) (fun _ => .bool true) (fun x => PrG.op pb c s x.1 g x.2.1 x.2.2.1 x.2.2.2) := by
  obtain ⟨kd, wh, cm, fr, mx, ad⟩ := op
  obtain ⟨_, _, q3, q4, q5, q6⟩ := hop
  have hcm := cmd_rng q3
  have hadr := u32_rng q6
  dsimp only at hk q4 q5
  refine in_ Tryz.func44 fun w0 => ?_
  refine bo_' fun b3 => ?_
  refine if_ (fun c1 => ?_) (fun c1 => ?_)
  · refine hh_ [[7, 8, 9, 10, 11, 12], [0, 1, 2, 3, 4, 5], [6], [13], [14, 15]] [[Bx pb 94 (cweftlaw11_Pair ⟨c, some (padd s.sp 0), some (padd g.sp 0)⟩), Bx b3 97 (cweftlaw11_Op ⟨kd, wh, cm, fr, mx, ad⟩)], [Bx pb 94 (cweftlaw11_Pair ⟨c, some (padd s.sp 0), some (padd g.sp 0)⟩), Bx b3 97 (cweftlaw11_Op ⟨kd, wh, cm, fr, mx, ad⟩)]] ?_
    refine ca_ (fun R' q1 q2 => Apply_c s v S R' t.o t.r cm hcm) fun ⟨v2, S2, a2⟩ ⟨k1, k2⟩ => ?_
    dsimp only at k1 k2 ⊢
    refine ca_ (fun R' q1 q2 => rApply_c g t.gg S t.li t.es X E R' cm ⟨hcm.1, hcm.2⟩ hcm.3) fun ⟨⟨S3, a3⟩, X2, E2⟩ k3 => ?_
    dsimp only at k3 ⊢
    rw [t.app, k2] at k3
    cases k3
    have hes := cmd_es (c := s.c) (rs := s.rs) cm t.es
    rw [k2] at hes
    exact rt_ (v2, S2, X2, E2) ⟨t.o, k1, t.gg, t.sr, t.sc, t.gr, t.gc, hes⟩ (hv := by simp [pack])
  · refine if_ (fun c2 => ?_) (fun c2 => ?_)
    · refine hh_ [[5, 6, 7, 8], [0, 1, 2, 3], [4], [9], [10], [11]] [[Bx pb 94 (cweftlaw11_Pair ⟨c, some (padd s.sp 0), some (padd g.sp 0)⟩)], [Bx pb 94 (cweftlaw11_Pair ⟨c, some (padd s.sp 0), some (padd g.sp 0)⟩)]] ?_
      refine ca_ (fun R' q1 q2 => snapshot_c s v S t.o t.r R') fun B1 _ => ?_
      refine ca_ (fun R' q1 q2 => rsnap_c g t.gg S t.li t.es X E R') fun B2 _ => ?_
      refine cp_ (v := .bool true) (fun R' q1 q2 => ctpAs (eqSnap_c ⟨S.rev, S.now, B1⟩ ⟨S.rev, S.now, B2⟩ S.ls S.ls R' (rq_ q2 r5) (rq_ q2 r0)) (by rw [decide_eq_true ⟨rfl, rfl, rfl⟩])) ?_
      exact rt_ (v, S, X, E) t
    · refine if_ (fun c3 => ?_) (fun c3 => ?_)
      · refine ca_ (fun R' q1 q2 => watch_c s v S t.o t.r R' fr mx) fun X5 _ => ?_
        refine ca_ (fun R' q1 q2 => t.watch_c X E R' fr mx (rq_ q2 r17)) fun X6 _ => ?_
        simp only [beq_self_eq_true]
        refine run_ ?_
        refine cp_ (v := .bool true) (fun R' q1 q2 => ctpAs (eqEvents_c X5 X6 (watchS s.c S fr mx).1 (watchS s.c S fr mx).1 R' (rq_ q2 r2) (rq_ q2 r0)) (by rw [decide_eq_true rfl])) ?_
        exact rt_ (v, S, X, E) t
      · refine if_ (fun c4 => ?_) (fun c4 => ?_)
        · refine hh_ [[0, 1, 2, 3, 4, 5], [6], [7, 8, 9], [10], [11], [12]] [[Bx pb 94 (cweftlaw11_Pair ⟨c, some (padd s.sp 0), some (padd g.sp 0)⟩), Bx b3 97 (cweftlaw11_Op ⟨kd, wh, cm, fr, mx, ad⟩)]] ?_
          refine hw2_ ?_ ?_
          refine ca_ (fun R' q1 q2 => holder_c s v S t.o t.r R' ad hadr.1 hadr.2) fun ⟨l1, x1⟩ k1 => ?_
          refine ax_ fun b9 => ?_
          rotate_left
          refine ax_ fun b9 => ?_
          refine ca_ (fun R' q1 q2 => holder_c s v S t.o t.r R' ad hadr.1 hadr.2) fun ⟨l1, x1⟩ k1 => ?_
          all_goals
            refine hh_ [[0, 1, 2, 3, 4, 5], [6], [7, 8, 9], [10], [11], [12]] [[Bx pb 94 (cweftlaw11_Pair ⟨c, some (padd s.sp 0), some (padd g.sp 0)⟩), Bx b3 97 (cweftlaw11_Op ⟨kd, wh, cm, fr, mx, ad⟩)]] ?_
            refine hw2_ ?_ ?_
            refine ca_ (fun R' q1 q2 => rholder_c g t.gg S t.li t.es X E R' ad hadr.1 hadr.2) fun ⟨l2, x2⟩ k2 => ?_
            refine ax_ fun b11 => ?_
            rotate_left
            refine ax_ fun b11 => ?_
            refine ca_ (fun R' q1 q2 => rholder_c g t.gg S t.li t.es X E R' ad hadr.1 hadr.2) fun ⟨l2, x2⟩ k2 => ?_
            all_goals
              cases k2.trans (Eq.symm k1)
              exact rt_ (v, S, X, E) t (hv := by simp [pack])
        · refine if_ (fun c5 => ?_) (fun c5 => ?_)
          · refine hh_ [[5, 6, 7, 8], [0, 1, 2, 3], [4], [9], [10], [11]] [[Bx pb 94 (cweftlaw11_Pair ⟨c, some (padd s.sp 0), some (padd g.sp 0)⟩)], [Bx pb 94 (cweftlaw11_Pair ⟨c, some (padd s.sp 0), some (padd g.sp 0)⟩)]] ?_
            refine ca_ (fun R' q1 q2 => image_c s v S t.o t.r R') fun ⟨I1, J1⟩ _ => ?_
            refine ca_ (fun R' q1 q2 => t.image_c X E R') fun ⟨I2, J2⟩ _ => ?_
            refine cp_ (v := .bool true) (fun R' q1 q2 => ctpAs (eqImage_c ⟨S.rev, S.now, I1, J1⟩ ⟨S.rev, S.now, I2, J2⟩ S.ls S.ls (logS s.c S) (logS s.c S) R' (rq_ q2 r6) (rq_ q2 r0) (rq_ q2 r7) (rq_ q2 r1)) (by rw [decide_eq_true ⟨rfl, rfl, rfl, rfl⟩])) ?_
            refine dr_ (dr_ ?_)
            exact rt_ (v, S, X, E) t
          · refine if_ (fun c6 => ?_) (fun c6 => ?_)
            · exact absurd c6 hk
            · exact rt_ (v, S, X, E) t
end Go.Proofs.YtdallmabajeajaaGreatDoor.Fw
