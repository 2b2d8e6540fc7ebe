/-
  Own work: walks and laws, joined by wip/tool/compact.py.
-/
import Derived.Test.YtdallmabajeajaaGreatDoorG5

set_option linter.all false
set_option linter.all false
set_option maxHeartbeats 4000000
set_option maxRecDepth 100000
namespace Go.Proofs.YtdallmabajeajaaGreatDoor.Fw
open Go
def Lk (p : QPrefix) (T n r : Int) : QLease := ⟨0, p, IntKind.u32.wrap n, macM n, T, r⟩
def Sk (p : QPrefix) (T n r : Int) (es : List QEvent) : LS := ⟨0, r, [Lk p T n r], es ++ [⟨r, 1, Lk p T n r⟩]⟩
theorem sk_first {s : SG} (o : SOK s) {p : QPrefix} {n : Int} (hp : choose s.c s.rs [] 0 ⟨0, 0⟩ = some p) : applyS s.c s.rs ⟨0, 0, [], []⟩ (asksM 0 n) = (Sk p s.c.TTL n 1 [], ⟨0, Lk p s.c.TTL n 1, 1, 0⟩) := by
  have hlog := o.f.log
  have ht := o.f.ttl
  have ea : aft 0 s.c.TTL = s.c.TTL := by rw [aft_eq (by unfold never; omega)]; omega
  refine (ap_new (c := s.c) (rs := s.rs) (s := ⟨0, 0, [], []⟩) (h := 0) (w := ⟨0, 0⟩) (pub := IntKind.u32.wrap n) (m := macM n) (n := 0) (by omega) (by omega) rfl hp (by decide)).trans ?_
  simp only [ea]; rfl
theorem sk_same {s : SG} (o : SOK s) {p w : QPrefix} {n r : Int} {es : List QEvent} (hr : r ≤ 1000) : applyS s.c s.rs (Sk p s.c.TTL n r es) ⟨1, 0, w, IntKind.u32.wrap n, macM n, 0⟩ = (Sk p s.c.TTL n r es, ⟨0, Lk p s.c.TTL n r, r, 0⟩) := by
  have hlog := o.f.log
  have ht := o.f.ttl
  have ea : aft 0 s.c.TTL = s.c.TTL := by rw [aft_eq (by unfold never; omega)]; omega
  refine (ap_same (s := Sk p s.c.TTL n r es) (l := Lk p s.c.TTL n r) (w := w) (by decide) (by omega) (ofH_one rfl) ⟨rfl, rfl⟩ (by show r ≤ maxRev; unfold maxRev; omega)).trans ?_
  show ((⟨0, r, upd [Lk p s.c.TTL n r] { Lk p s.c.TTL n r with Until := aft 0 s.c.TTL }, es ++ [⟨r, 1, Lk p s.c.TTL n r⟩]⟩ : LS), (⟨0, { Lk p s.c.TTL n r with Until := aft 0 s.c.TTL }, r, 0⟩ : QAnswer)) = _
  rw [ea]
  simp [upd, Lk, Sk]
theorem sk_turn {s : SG} (o : SOK s) {p w : QPrefix} {n m r : Int} {es : List QEvent} (hr : r ≤ 1000) (hn : IntKind.u32.wrap n ≠ IntKind.u32.wrap m) : applyS s.c s.rs (Sk p s.c.TTL n r es) ⟨1, 0, w, IntKind.u32.wrap m, macM m, 0⟩ = (Sk p s.c.TTL m (r + 1) (es ++ [⟨r, 1, Lk p s.c.TTL n r⟩]), ⟨0, Lk p s.c.TTL m (r + 1), r + 1, 0⟩) := by
  have hlog := o.f.log
  have ht := o.f.ttl
  have ea : aft 0 s.c.TTL = s.c.TTL := by rw [aft_eq (by unfold never; omega)]; omega
  refine (ap_turn (s := Sk p s.c.TTL n r es) (l := Lk p s.c.TTL n r) (w := w) (by decide) (by omega) (ofH_one rfl) (fun h => hn h.1) (by show r + 1 ≤ maxRev; unfold maxRev; omega)).trans ?_
  show ((⟨0, r + 1, upd [Lk p s.c.TTL n r] ⟨0, p, IntKind.u32.wrap m, macM m, aft 0 s.c.TTL, r + 1⟩, (es ++ [⟨r, 1, Lk p s.c.TTL n r⟩]) ++ [⟨r + 1, 1, ⟨0, p, IntKind.u32.wrap m, macM m, aft 0 s.c.TTL, r + 1⟩⟩]⟩ : LS), (⟨0, ⟨0, p, IntKind.u32.wrap m, macM m, aft 0 s.c.TTL, r + 1⟩, r + 1, 0⟩ : QAnswer)) = _
  rw [ea]
  simp [upd, Lk, Sk]
theorem sk_any {s : SG} (o : SOK s) {p w : QPrefix} {n m r : Int} {es : List QEvent} (hr : r ≤ 1000) (n0 : 0 ≤ n ∧ n ≤ 1000) (m0 : 0 ≤ m ∧ m ≤ 1000) : ∃ es', applyS s.c s.rs (Sk p s.c.TTL n r es) ⟨1, 0, w, IntKind.u32.wrap m, macM m, 0⟩ = (Sk p s.c.TTL m (if m ≠ n then r + 1 else r) es', ⟨0, Lk p s.c.TTL m (if m ≠ n then r + 1 else r), if m ≠ n then r + 1 else r, 0⟩) := by
  by_cases h : m = n
  · subst h
    exact ⟨es, by rw [if_neg (by simp)]; exact sk_same o hr⟩
  · exact ⟨es ++ [⟨r, 1, Lk p s.c.TTL n r⟩], by rw [if_pos h]; exact sk_turn o hr (by rw [wrap32 (by omega) (by omega), wrap32 (by omega) (by omega)]; exact fun e => h e.symm)⟩
theorem leaseSticks_c (c0 : QConfig) (rs0 : List QReserve) (hr : CfgR c0) (hrr : ∀ r ∈ rs0, 0 ≤ r.Subnet.Addr ∧ r.Subnet.Addr < 4294967296) (X : SH) (R : Hh) (hC : ClsR R X) (hR : RdS R 3 c0.Reserved.v (rs0.map cReserve)) (gv : SH) (gs : List Int) (hX : RdS R 1 gv.v (gs.map (cInt .u8))) (hq : ∀ x ∈ gs, IntKind.u8.wrap x = x) (w : QPrefix) (hw : RPrefix w) :
    Ctp Tryz.prog 6 [.agg ⟨cConfig c0⟩, gv.v, .agg ⟨cPrefix w⟩] R [] (.bool true) := by
  have hbd := hX.bd
  have hwr := u32_rng hw.1
  refine in_ Tryz.func6 fun w0 => ?_
  refine bo_' fun b2 => ?_
  refine bo_' fun b5 => ?_
  refine ca_ (fun R' q1 q2 => usable_c c0 rs0 hr hrr R' (hR.le q1)) fun ⟨c, rs⟩ g => ?_
  dsimp only at g ⊢
  have hs := g.f.sub
  have hnet := g.f.net
  have hrl := g.rl
  have ew : IntKind.i64.wrap (32 - c.SubnetLen) = 32 - c.SubnetLen := wrap_i64 (by omega) (by omega)
  have hrow := row_fdiv g
  simp only [ew, hrow.1]
  refine run_ ?_
  refine jm_ (ι := QConfig × List QReserve) (fun z => []) (fun z => [Sv 3 58 z.1.Reserved.v (z.2.map cReserve), Bx b2 28 (cConfig z.1)]) [Sv 3 58 c.Reserved.v (rs.map cReserve), Bx b2 28 (cConfig c)] (fun z => GoodC z.1 z.2 ∧ z.2.length < rowN z.1) ?_ fun ⟨c, rs⟩ ⟨g, hn⟩ => ?_
  · refine if_ (fun c1 => ?_) (fun c1 => ?_)
    · refine ca_ (fun R' q1 q2 => plain_c R') fun X' _ => ?_
      exact ma_ (plainC X', plainR) ⟨plain_good X', by show 1 < ((167772928 - 167772160 : Int) / pw 24).toNat + 1; decide⟩
    · exact ma_ (c, rs) ⟨g, by dsimp only; omega⟩
  · dsimp only at g hn ⊢
    refine ca_ (fun R' q1 q2 => newYes_c c rs g.hr g.rr X R' (hC.le q1) (rq_ q2 r0) g.ok g.f g.po g.rl) fun ⟨s, v⟩ ⟨o, r, e1, e2⟩ => ?_
    dsimp only at o r e1 e2 ⊢
    refine pnn_ ?_
    have hn2 : s.rs.length < rowN s.c := by rw [e1, e2]; exact hn
    obtain ⟨p, hp⟩ := choose_first o hn2 0 ⟨0, 0⟩
    refine ca_ (fun R' q1 q2 => Apply_c s v ⟨0, 0, [], []⟩ R' o r (asksM 0 100) ⟨by decide, by decide, by decide⟩) fun ⟨v1, S1, a1⟩ ⟨h1, h2⟩ => ?_
    dsimp only at h1 h2 ⊢
    rw [sk_first o hp] at h2
    simp only [Prod.mk.injEq] at h2
    obtain ⟨rfl, rfl⟩ := h2
    refine ax_ fun b9 => ?_
    refine lo_ (fun z : SV × Int × Int × List QEvent × Nat => [(10, .int .i64 z.2.1), (11, .int .i64 z.2.2.1), (12, .int .i64 z.2.2.2.2)]) (fun z => stP s z.1) (fun z => z.2.2.2.2 ≤ gs.length ∧ z.2.2.2.2 ≤ 200 ∧ (100 ≤ z.2.1 ∧ z.2.1 ≤ 102) ∧ 1 ≤ z.2.2.1 ∧ z.2.2.1 ≤ z.2.2.2.2 + 1 ∧ Rel s z.1 (Sk p s.c.TTL z.2.1 z.2.2.1 z.2.2.2.1)) (fun z => gs.length - z.2.2.2.2) (v1, 100, 1, [], 0) ⟨by dsimp only; omega, by dsimp only; omega, by dsimp only; omega, by dsimp only; omega, by dsimp only; omega, h1⟩ fun ⟨v2, n, rv, es, k⟩ ⟨z1, z2, z3, z4, z5, z6⟩ => ?_
    dsimp only at z1 z2 z3 z4 z5 z6 ⊢
    have hge := el_u8 hq (k : Int)
    have hgw : IntKind.i64.wrap (el gs k) = el gs k := wrap_i64 (by omega) (by omega)
    refine if_ (fun c2 => ?_) (fun c2 => ?_)
    · simp only [hgw]
      obtain ⟨m, hm⟩ : ∃ m, m = 100 + el gs k % 3 := ⟨_, rfl⟩
      simp only [← hm]
      refine ax_ fun b14 => ?_
      obtain ⟨es', hk⟩ := sk_any (p := p) (w := w) (n := n) (m := m) (r := rv) (es := es) o (by omega) (by omega) (by omega)
      obtain ⟨rv', hrv⟩ : ∃ x, x = if m ≠ n then rv + 1 else rv := ⟨_, rfl⟩
      rw [← hrv] at hk
      have hb : 1 ≤ rv' ∧ rv' ≤ rv + 1 := by rw [hrv]; split <;> omega
      refine ca_ (fun R' q1 q2 => Apply_c s v2 (Sk p s.c.TTL n rv es) R' o z6 ⟨1, 0, w, IntKind.u32.wrap m, macM m, 0⟩ ⟨hwr.1, hwr.2, by show (0 : Int) ≤ 9223372036854775807; decide⟩) fun ⟨v3, S3, a3⟩ ⟨h3, h4⟩ => ?_
      dsimp only at h3 h4 ⊢
      rw [hk] at h4
      simp only [Prod.mk.injEq] at h4
      obtain ⟨rfl, rfl⟩ := h4
      refine ax_ fun b15 => ?_
      refine jm_ (ι := Int) (fun z => [(11, .int .i64 z)]) (fun z => []) [] (fun z => z = rv') ?_ fun z hz => ?_
      · refine if_ (fun c3 => ?_) (fun c3 => ?_)
        · exact ma_ (rv + 1) (by rw [hrv, if_pos (by first | exact c3 | simpa using c3)])
        · exact ma_ rv (by rw [hrv, if_neg (by first | exact not_not_intro c3 | simpa using c3)])
      · subst hz
        refine if_ (fun c4 => ?_) (fun c4 => ?_)
        · exfalso
          simp [Lk] at c4
        · have hw5 : watchS s.c (Sk p s.c.TTL m z es') (z - 1) 5 = ([⟨z, 1, Lk p s.c.TTL m z⟩], 0) := watch_last o h3.li (es := es') (e := ⟨z, 1, Lk p s.c.TTL m z⟩) rfl hb.1
          have hl1 : ([(⟨z, 1, Lk p s.c.TTL m z⟩ : QEvent)]).length = 1 := rfl
          have he1 : el [(⟨z, 1, Lk p s.c.TTL m z⟩ : QEvent)] 0 = ⟨z, 1, Lk p s.c.TTL m z⟩ := rfl
          refine ca_ (V := fun X5 : SH => .tuple #[X5.v, .int .i64 0]) (Z := fun X5 : SH => Sv 14 72 X5.v ([(⟨z, 1, Lk p s.c.TTL m z⟩ : QEvent)].map cEvent) :: stP s v3) (fun R' q1 q2 => by
            have h := watch_c s v3 (Sk p s.c.TTL m z es') o h3 R' (z - 1) 5
            rw [hw5] at h; exact h) fun X5 _ => ?_
          refine if_ (fun c5 => ?_) (fun c5 => ?_)
          · exfalso
            rw [he1] at c5
            simp [Lk] at c5
          · exact ba_ (v3, m, z, es', k + 1) ⟨by dsimp only; omega, by dsimp only; omega, by dsimp only; omega, by dsimp only; omega, by dsimp only; omega, h3⟩ (by dsimp only; omega)
    · exact re_ rfl
end Go.Proofs.YtdallmabajeajaaGreatDoor.Fw
