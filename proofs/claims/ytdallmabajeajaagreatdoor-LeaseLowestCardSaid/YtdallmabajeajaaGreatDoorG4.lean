/-
  Own work: walks and laws, joined by wip/tool/compact.py.
-/
import Derived.Test.YtdallmabajeajaaGreatDoorG3

set_option linter.all false
set_option linter.all false
set_option maxHeartbeats 4000000
set_option maxRecDepth 100000
namespace Go.Proofs.YtdallmabajeajaaGreatDoor.Fw
open Go
theorem choose_split {s : SG} {v : SV} {S : LS} {h : Int} {w : QPrefix} (o : SOK s) (r : Rel s v S) (hn : ofH S.ls h = none) : choose s.c s.rs S.ls h w = match own s.rs h with
    | some q => some q
    | none => if Frei s.c s.rs w ∧ free S.ls w then some w else lowest s.c s.rs S.ls := by
  unfold choose
  cases e : own s.rs h with
  | some q => dsimp only; rw [if_pos (own_free o r e hn)]
  | none => rfl
theorem fits_free {c : QConfig} {rs : List QReserve} {h : Int} {w : QPrefix} {x : QMAC} (h0 : 0 ≤ h) (h1 : h < c.Hosts) (ho : own rs h = none) : Fits c rs ⟨h, w, 0, x, 9223372036854775807, 0⟩ 0 ↔ Frei c rs w := by
  unfold Fits May
  dsimp only
  rw [ho]
  exact ⟨fun h => h.2.2.2.2.2, fun k => ⟨⟨h0, h1⟩, k.1, k.2.2.1, k.2.1, .inr rfl, k⟩⟩
theorem el_of {α : Type} [Inhabited α] {l : List α} {k : Nat} (h : k < l.length) : el l k = l[k] := by simp [el, List.getD_eq_getElem?_getD, h]
theorem leaseLowest_c (c0 : QConfig) (rs0 : List QReserve) (hr : CfgR c0) (hrr : ∀ r ∈ rs0, 0 ≤ r.Subnet.Addr ∧ r.Subnet.Addr < 4294967296) (X : SH) (R : Hh) (hC : ClsR R X) (hR : RdS R 3 c0.Reserved.v (rs0.map cReserve)) (gv : SH) (gs : List Int) (hX : RdS R 1 gv.v (gs.map (cInt .u8))) (hq : ∀ x ∈ gs, IntKind.u8.wrap x = x) (wv : SH) (ws : List QPrefix) (hW : RdS R 2 wv.v (ws.map cPrefix)) (hwq : ∀ x ∈ ws, RPrefix x) :
    Ctp Tryz.prog 4 [.agg ⟨cConfig c0⟩, gv.v, wv.v] R [] (.bool true) := by
  have hbd := hX.bd
  have hbd2 := hW.bd
  refine in_ Tryz.func4 fun w0 => ?_
  refine bo_' fun b3 => ?_
  refine ca_ (fun R' q1 q2 => usable_c c0 rs0 hr hrr R' (hR.le q1)) fun ⟨c, rs⟩ g => ?_
  dsimp only at g ⊢
  refine ca_ (fun R' q1 q2 => newYes_c c rs g.hr g.rr X R' (hC.le q1) (rq_ q2 r0) g.ok g.f g.po g.rl) fun ⟨s, v⟩ ⟨o, r, e1, e2⟩ => ?_
  dsimp only at o r e1 e2 ⊢
  have hH : c.Hosts = s.c.Hosts := by rw [e2]
  have hlog := g.f.log
  have hrl := g.rl
  have hlo : ∀ ls, lowest s.c s.rs ls = lowest c rs ls := fun ls => by rw [e1, e2]; rfl
  have hfr : ∀ w, Frei s.c s.rs w ↔ Frei c rs w := fun w => by rw [e1, e2]; exact Iff.rfl
  refine pnn_ ?_
  refine lo_ (fun z : SV × LS × Nat => [(9, .int .i64 z.2.2)]) (fun z => stP s z.1) (fun z => z.2.2 ≤ gs.length ∧ z.2.2 ≤ 300 ∧ Rel s z.1 z.2.1 ∧ 0 ≤ z.2.1.rev ∧ z.2.1.rev ≤ z.2.2) (fun z => gs.length - z.2.2) (v, ⟨0, 0, [], []⟩, 0) ⟨by dsimp only; omega, by dsimp only; omega, r, by dsimp only; omega, by dsimp only; omega⟩ fun ⟨v1, S, k⟩ ⟨z1, z2, z3, z4, z5⟩ => ?_
  dsimp only at z1 z2 z3 z4 z5 ⊢
  have hge := el_u8 hq (k : Int)
  have hgw : IntKind.i64.wrap (el gs k) = el gs k := wrap_i64 (by omega) (by omega)
  have hsl := rel_len z3 o
  have hwr : IntKind.i64.wrap (S.rev + 1) = S.rev + 1 := wrap_i64 (by omega) (by omega)
  refine if_ (fun c2 => ?_) (fun c2 => ?_)
  · simp only [hgw]
    refine run_ ?_
    have hd0 : 0 ≤ el gs k % c.Hosts := Int.emod_nonneg _ (by omega)
    have hd1 : el gs k % c.Hosts < c.Hosts := Int.emod_lt_of_pos _ (by omega)
    generalize el gs k % c.Hosts = h at hd0 hd1 ⊢
    refine ca_ (fun R' q1 q2 => snapshot_c s v1 S o z3 R') fun B _ => ?_
    refine ax_ fun b11 => ?_
    refine lo_ (fun z : Bool × Nat => [(12, .bool z.1), (13, .int .i64 z.2)]) (fun _ => []) (fun z => z.2 ≤ S.ls.length ∧ (z.1 = true ↔ ∃ x ∈ S.ls.take z.2, x.Host = h)) (fun z => S.ls.length - z.2) (false, 0) ⟨by dsimp only; omega, by simp⟩ fun ⟨f, j⟩ ⟨y1, y2⟩ => ?_
    dsimp only at y1 y2 ⊢
    refine if_ (fun c3 => ?_) (fun c3 => ?_)
    · have hjl : j < S.ls.length := by omega
      refine ba_ (bif f then true else (el S.ls j).Host == h, j + 1) ⟨by dsimp only; omega, ?_⟩ (by dsimp only; omega)
      dsimp only
      rw [List.take_succ_eq_append_getElem hjl, ← el_of hjl]
      simp only [List.mem_append, List.mem_singleton]
      cases hf : f with
      | true =>
        rw [hf] at y2
        obtain ⟨x, hx, e⟩ := y2.1 rfl
        exact ⟨fun _ => ⟨x, .inl hx, e⟩, fun _ => rfl⟩
      | false =>
        rw [hf] at y2
        simp only [cond_false, beq_iff_eq]
        exact ⟨fun e => ⟨_, .inr rfl, e⟩, fun ⟨x, hx, e⟩ => hx.elim (fun hx => (by have := y2.2 ⟨x, hx, e⟩; cases this)) (fun hx => hx ▸ e)⟩
    · have hj : j = S.ls.length := by omega
      rw [hj, List.take_length] at y2
      refine if_ (fun c4 => ?_) (fun c4 => ?_)
      · obtain ⟨x, hx, he⟩ := y2.1 c4
        have hof : ofH S.ls h = some x := (ofH_some z3.li.apart).2 ⟨hx, he⟩
        refine ca_ (fun R' q1 q2 => Apply_c s v1 S R' o z3 ⟨3, h, ⟨0, 0⟩, 0, ⟨0, 0, 0, 0, 0, 0⟩, 0⟩ ⟨Int.le_refl 0, by show (0 : Int) < 4294967296; decide, by show (0 : Int) ≤ 9223372036854775807; decide⟩) fun ⟨v2, S2, a2⟩ ⟨h1, h2⟩ => ?_
        dsimp only at h1 h2 ⊢
        rw [ap_rel hd0 (by omega) hof (by unfold maxRev; omega)] at h2
        simp only [Prod.mk.injEq] at h2
        obtain ⟨rfl, rfl⟩ := h2
        refine ax_ fun b14 => ?_
        refine if_ (fun c5 => ?_) (fun c5 => ?_)
        · exfalso
          simp [he, hwr] at c5
        · exact ba_ (v2, remS S x, k + 1) ⟨by dsimp only; omega, by dsimp only; omega, h1, by show 0 ≤ S.rev + 1; omega, by show S.rev + 1 ≤ ((k + 1 : Nat) : Int); omega⟩ (by dsimp only; omega)
      · have hof : ofH S.ls h = none := ofH_none.2 fun x hx e => by rw [y2.2 ⟨x, hx, e⟩] at c4; cases c4
        refine cp_ (fun R' q1 q2 => lowest_c c rs g B S.ls R' (rq_ q2 r14) (rq_ q2 r1)) ?_
        obtain ⟨w1, hw1⟩ : ∃ w1 : QPrefix → Option QPrefix, w1 = fun w => if Frei c rs w ∧ free S.ls w then some w else lowest c rs S.ls := ⟨_, rfl⟩
        refine ax_ fun b15 => ?_
        refine ax_ fun b17 => ?_
        have hz0 : own rs h = none → lowest c rs S.ls = w1 ⟨0, 0⟩ := fun _ => by
          rw [hw1]; dsimp only
          rw [if_neg fun h => ?_]
          have := h.1.1
          have := g.f.sub
          have := g.f.net
          dsimp only at *
          omega
        refine jm_ (ι := QPrefix × Option QPrefix) (fun z => [(16, .bool z.2.isSome)]) (fun z => [Bx b15 25 (cPrefix (z.2.getD ⟨0, 0⟩)), Bx b17 44 (cCmd ⟨1, h, z.1, IntKind.u32.wrap k, macM k, 0⟩)]) [Bx b15 25 (cPrefix ((lowest c rs S.ls).getD ⟨0, 0⟩)), Bx b17 44 (cCmd ⟨1, h, ⟨0, 0⟩, IntKind.u32.wrap k, macM k, 0⟩)] (fun z => (0 ≤ z.1.Addr ∧ z.1.Addr < 4294967296) ∧ (own rs h = none → z.2 = w1 z.1)) ?_ fun ⟨w, ow⟩ ⟨hwa, hwo⟩ => ?_
        · refine if_ (fun c5 => ?_) (fun c5 => ?_)
          · have hkw : k < ws.length := by omega
            have hwr2 := u32_rng (hwq _ (List.getElem_mem hkw)).1
            rw [← el_of hkw] at hwr2
            refine ax_ fun b18 => ?_
            refine cp_ (fun R' q1 q2 => fits_c c rs ⟨h, el ws k, 0, ⟨0, 0, 0, 0, 0, 0⟩, 9223372036854775807, 0⟩ 0 g hwr2 R' (rq_ q2 r17)) ?_
            refine lo_ (fun z : Bool × Nat => [(19, .bool z.1), (20, .int .i64 z.2)]) (fun _ => []) (fun z => z.2 ≤ S.ls.length ∧ (z.1 = true ↔ Fits c rs ⟨h, el ws k, 0, ⟨0, 0, 0, 0, 0, 0⟩, 9223372036854775807, 0⟩ 0 ∧ ∀ x ∈ S.ls.take z.2, x.Subnet ≠ el ws k)) (fun z => S.ls.length - z.2) (decide (Fits c rs ⟨h, el ws k, 0, ⟨0, 0, 0, 0, 0, 0⟩, 9223372036854775807, 0⟩ 0), 0) ⟨by dsimp only; omega, by simp⟩ fun ⟨f3, i⟩ ⟨x1, x2⟩ => ?_
            dsimp only at x1 x2 ⊢
            refine if_ (fun c6 => ?_) (fun c6 => ?_)
            · have hil : i < S.ls.length := by omega
              refine ba_ (bif f3 then !decide ((el S.ls i).Subnet = el ws k) else false, i + 1) ⟨by dsimp only; omega, ?_⟩ (by dsimp only; omega)
              dsimp only
              rw [List.take_succ_eq_append_getElem hil, ← el_of hil]
              simp only [List.mem_append, List.mem_singleton]
              cases hf : f3 with
              | true =>
                rw [hf] at x2
                simp only [cond_true, Bool.not_eq_true', decide_eq_false_iff_not]
                exact ⟨fun h => ⟨(x2.1 rfl).1, fun x hx => hx.elim ((x2.1 rfl).2 x) (fun e => e ▸ h)⟩, fun h => h.2 _ (.inr rfl)⟩
              | false =>
                rw [hf] at x2
                simp only [cond_false]
                exact ⟨fun h => (by cases h), fun h => x2.2 ⟨h.1, fun x hx => h.2 x (.inl hx)⟩⟩
            · have hi : i = S.ls.length := by omega
              rw [hi, List.take_length] at x2
              have hfree : own rs h = none → (f3 = true ↔ Frei c rs (el ws k) ∧ free S.ls (el ws k)) := fun ho => by
                rw [x2, fits_free hd0 hd1 ho]; exact Iff.rfl
              refine if_ (fun c7 => ?_) (fun c7 => ?_)
              · exact ma_ (el ws k, some (el ws k)) ⟨hwr2, fun ho => by rw [hw1]; dsimp only; rw [if_pos ((hfree ho).1 c7)]⟩
              · exact ma_ (el ws k, lowest c rs S.ls) ⟨hwr2, fun ho => by rw [hw1]; dsimp only; rw [if_neg fun h => by rw [(hfree ho).2 h] at c7; cases c7]⟩
          · exact ma_ (⟨0, 0⟩, lowest c rs S.ls) ⟨by dsimp only; decide, hz0⟩
        · dsimp only at hwa hwo ⊢
          refine lo_ (fun z : Option QPrefix × Nat => [(16, .bool z.1.isSome), (21, .int .i64 z.2)]) (fun z => [Bx b15 25 (cPrefix (z.1.getD ⟨0, 0⟩))]) (fun z => z.2 ≤ rs.length ∧ z.1 = match own (rs.take z.2) h with | some q => some q | none => ow) (fun z => rs.length - z.2) (ow, 0) ⟨by dsimp only; omega, rfl⟩ fun ⟨u, i⟩ ⟨x1, x2⟩ => ?_
          dsimp only at x1 x2 ⊢
          refine if_ (fun c5 => ?_) (fun c5 => ?_)
          · have hil : i < rs.length := by omega
            have hadd := own_add (l := rs.take i) (r := el rs i) (h := h) (fun x hx => by have := cp_lt g.po.rise hil hx; rw [← el_of hil] at this; omega)
            have e5 : rs.take i ++ [el rs i] = rs.take (i + 1) := by rw [el_of hil, List.take_succ_eq_append_getElem hil]
            rw [e5] at hadd
            refine if_ (fun c6 => ?_) (fun c6 => ?_)
            · refine ba_ (some (el rs i).Subnet, i + 1) ⟨by dsimp only; omega, ?_⟩ (by dsimp only; omega)
              dsimp only
              rw [← hadd, if_pos c6.symm]
            · refine ba_ (u, i + 1) ⟨by dsimp only; omega, ?_⟩ (by dsimp only; omega)
              dsimp only
              rw [← hadd, if_neg fun e => c6 e.symm]
              exact x2
          · have hi : i = rs.length := by omega
            rw [hi, List.take_length] at x2
            have hch : choose s.c s.rs S.ls h w = u := by
              rw [choose_split o z3 hof]
              have e9 : own s.rs h = own rs h := by rw [e1]
              rw [e9]
              cases ho : own rs h with
              | some q => rw [ho] at x2; exact x2.symm
              | none =>
                rw [ho] at x2
                dsimp only at x2 ⊢
                rw [x2, hwo ho, hw1, hlo]
                dsimp only
                by_cases hf : Frei c rs w ∧ free S.ls w
                · rw [if_pos ⟨(hfr w).2 hf.1, hf.2⟩, if_pos hf]
                · rw [if_neg fun h => hf ⟨(hfr w).1 h.1, h.2⟩, if_neg hf]
            refine ca_ (fun R' q1 q2 => Apply_c s v1 S R' o z3 ⟨1, h, w, IntKind.u32.wrap k, macM k, 0⟩ ⟨hwa.1, hwa.2, by show (0 : Int) ≤ 9223372036854775807; decide⟩) fun ⟨v2, S2, a2⟩ ⟨h1, h2⟩ => ?_
            dsimp only at h1 h2 ⊢
            cases u with
            | none =>
              rw [ap_full hd0 (by omega) hof hch z3.li.rev.2] at h2
              simp only [Prod.mk.injEq] at h2
              obtain ⟨rfl, rfl⟩ := h2
              refine ax_ fun b22 => ?_
              refine hh_ [[0, 1, 2, 3], [6], [4], [5], [7], [8, 9]] [[Bx b22 41 (cAnswer ⟨4, zL, S.rev, S.now⟩)], [Bx b11 52 (cSnap ⟨S.rev, S.now, B⟩)]] ?_
              refine ca_ (fun R' q1 q2 => snapshot_c s v2 S o h1 R') fun B2 _ => ?_
              refine cp_ (fun R' q1 q2 => eqSnap_c ⟨S.rev, S.now, B2⟩ ⟨S.rev, S.now, B⟩ S.ls S.ls R' (rq_ q2 r0) (rq_ q2 r17)) ?_
              refine if_ (fun c8 => ?_) (fun c8 => ?_)
              · simp at c8
              · exact ba_ (v2, S, k + 1) ⟨by dsimp only; omega, by dsimp only; omega, h1, by dsimp only; omega, by dsimp only; omega⟩ (by dsimp only; omega)
            | some p =>
              rw [ap_new hd0 (by omega) hof hch (by unfold maxRev; omega)] at h2
              simp only [Prod.mk.injEq] at h2
              obtain ⟨rfl, rfl⟩ := h2
              refine ax_ fun b22 => ?_
              refine if_ (fun c8 => ?_) (fun c8 => ?_)
              · exfalso
                simp [hwr] at c8
              · exact ba_ (v2, ⟨S.now, S.rev + 1, ins S.ls ⟨h, p, IntKind.u32.wrap k, macM k, aft S.now s.c.TTL, S.rev + 1⟩, S.es ++ [⟨S.rev + 1, 1, ⟨h, p, IntKind.u32.wrap k, macM k, aft S.now s.c.TTL, S.rev + 1⟩⟩]⟩, k + 1) ⟨by dsimp only; omega, by dsimp only; omega, h1, by dsimp only; omega, by dsimp only; omega⟩ (by dsimp only; omega)
  · refine ca_ (fun R' q1 q2 => Apply_c s v1 S R' o z3 (asksM c.Hosts 1) ⟨Int.le_refl 0, by show (0 : Int) < 4294967296; decide, by show (0 : Int) ≤ 9223372036854775807; decide⟩) fun ⟨v2, S2, a2⟩ ⟨h1, h2⟩ => ?_
    dsimp only at h1 h2 ⊢
    rw [show asksM c.Hosts 1 = ⟨1, c.Hosts, ⟨0, 0⟩, IntKind.u32.wrap 1, macM 1, 0⟩ from rfl, ap_arg (by omega) z3.li.rev.2] at h2
    simp only [Prod.mk.injEq] at h2
    obtain ⟨rfl, rfl⟩ := h2
    refine ax_ fun b23 => ?_
    exact re_ rfl
end Go.Proofs.YtdallmabajeajaaGreatDoor.Fw
