/-
  Own work: walks and laws, joined by wip/tool/compact.py.
-/
import Derived.Test.YtdallmabajeajaaGreatDoorG3

set_option linter.all false
set_option linter.all false
set_option maxHeartbeats 4000000
set_option maxRecDepth 100000
namespace Go.Proofs.YtdallmabajeajaaGreatDoor.Fw
open Go
theorem row_fdiv32 {c : QConfig} {rs : List QReserve} (g : GoodC c rs) : IntKind.i64.wrap (IntKind.i64.wrap ((IntKind.u32.wrap (c.Max - c.Min)).fdiv (2 ^ min (32 - c.SubnetLen).toNat IntKind.u32.bits)) + 1) = rowN c := by
  have hr := g.hr
  have hmn := hr.mn
  have hmx := hr.mx
  have hrow := g.po.row
  have hs := g.f.sub
  have hnet := g.f.net
  have e : min (32 - c.SubnetLen).toNat IntKind.u32.bits = (32 - c.SubnetLen).toNat := Nat.min_eq_left (by show (32 - c.SubnetLen).toNat ≤ 32; omega)
  have hp : (0 : Int) < pw c.SubnetLen := pw_pos
  have e2 : IntKind.u32.wrap (c.Max - c.Min) = c.Max - c.Min := wrap32 (by omega) (by omega)
  have e3 : (c.Max - c.Min).fdiv (2 ^ (32 - c.SubnetLen).toNat) = (c.Max - c.Min) / pw c.SubnetLen := Int.fdiv_eq_ediv_of_nonneg _ (Int.le_of_lt hp)
  have h0 : 0 ≤ (c.Max - c.Min) / pw c.SubnetLen := Int.ediv_nonneg (by omega) (Int.le_of_lt hp)
  have h1 : (c.Max - c.Min) / pw c.SubnetLen ≤ c.Max - c.Min := Int.ediv_le_self _ (by omega)
  have e4 : IntKind.i64.wrap ((c.Max - c.Min) / pw c.SubnetLen) = (c.Max - c.Min) / pw c.SubnetLen := wrap_i64 (by omega) (by omega)
  rw [e, e2, e3, e4, wrap_i64 (by omega) (by omega)]
  unfold rowN
  omega
theorem bif_there {e k : Int} : (bif bif e != 0 then true else k == 4 then true else k == 3) = true ↔ (e ≠ 0 ∨ k = 4 ∨ k = 3) := by
  by_cases h1 : e = 0 <;> by_cases h2 : k = 4 <;> by_cases h3 : k = 3 <;> simp [h1, h2, h3]
theorem leaseDisjoint_c (c0 : QConfig) (rs0 : List QReserve) (hr : CfgR c0) (hrr : ∀ r ∈ rs0, 0 ≤ r.Subnet.Addr ∧ r.Subnet.Addr < 4294967296) (X : SH) (R : Hh) (hC : ClsR R X) (hR : RdS R 3 c0.Reserved.v (rs0.map cReserve)) (cv : SH) (cmds : List QCmd) (hX : RdS R 12 cv.v (cmds.map cCmd)) (hq : ∀ x ∈ cmds, RCmd x) :
    Ctp Tryz.prog 7 [.agg ⟨cConfig c0⟩, cv.v] R [] (.bool true) := by
  have hbd := hX.bd
  refine in_ Tryz.func7 fun w0 => ?_
  refine bo_' fun b2 => ?_
  refine ca_ (fun R' q1 q2 => usable_c c0 rs0 hr hrr R' (hR.le q1)) fun ⟨c, rs⟩ g => ?_
  dsimp only at g ⊢
  refine ca_ (fun R' q1 q2 => newYes_c c rs g.hr g.rr X R' (hC.le q1) (rq_ q2 r0) g.ok g.f g.po g.rl) fun ⟨s, v⟩ ⟨o, r, e1, e2⟩ => ?_
  dsimp only at o r e1 e2 ⊢
  have hs := g.f.sub
  have hnet := g.f.net
  have hlog := g.f.log
  have hrl := g.rl
  have hfits : ∀ l n, Fits s.c s.rs l n ↔ Fits c rs l n := fun l n => by rw [e1, e2]; exact Iff.rfl
  refine pnn_ ?_
  refine lo_ (fun z : SV × LS × Int => [(7, .int .i64 z.2.2)]) (fun z => stP s z.1) (fun z => -1 ≤ z.2.2 ∧ z.2.2 ≤ cmds.length ∧ Rel s z.1 z.2.1 ∧ (z.2.2 < 0 → z.2.1 = ⟨0, 0, [], []⟩)) (fun z => (cmds.length - z.2.2).toNat) (v, ⟨0, 0, [], []⟩, -1) ⟨by dsimp only; omega, by dsimp only; omega, r, fun _ => rfl⟩ fun ⟨v1, S, i⟩ ⟨z1, z2, z3, z4⟩ => ?_
  dsimp only at z1 z2 z3 z4 ⊢
  refine if_ (fun c1 => ?_) (fun c1 => ?_)
  · refine ax_ fun b8 => ?_
    refine jm_ (ι := QCmd) (fun z => []) (fun z => [Bx b8 44 (cCmd z), Bx b2 28 (cConfig c)]) [Bx b8 44 (cCmd (asksM 0 7)), Bx b2 28 (cConfig c)] (fun z => CmdR z ∧ (i < 0 → z = asksM 0 7)) ?_ fun cmd ⟨hcr, hc0⟩ => ?_
    · refine if_ (fun c2 => ?_) (fun c2 => ?_)
      · have hkl : i.toNat < cmds.length := by omega
        have hel : el cmds i = cmds[i.toNat] := by simp [el, List.getD_eq_getElem?_getD, hkl]
        exact ma_ (el cmds i) ⟨cmd_rng (by rw [hel]; exact hq _ (List.getElem_mem hkl)), fun h => by omega⟩
      · exact ma_ (asksM 0 7) ⟨⟨by decide, by decide, by decide⟩, fun _ => rfl⟩
    · refine ca_ (fun R' q1 q2 => Apply_c s v1 S R' o z3 cmd hcr) fun ⟨v2, S2, a2⟩ ⟨h1, h2⟩ => ?_
      dsimp only at h1 h2 ⊢
      have h3 := h1.li
      refine ax_ fun b9 => ?_
      have hrow := row_fdiv32 g
      refine if_ (fun c5 => ?_) (fun c5 => ?_)
      · exfalso
        rw [hrow] at c5
        obtain ⟨⟨k1, k2⟩, k3⟩ := c5
        have hn2 : s.rs.length < rowN s.c := by rw [e1, e2]; show rs.length < rowN c; omega
        obtain ⟨p, hp⟩ := choose_first o hn2 0 ⟨0, 0⟩
        have hH : c.Hosts = s.c.Hosts := by rw [e2]
        rw [z4 k1, hc0 k1, show asksM 0 7 = ⟨1, 0, ⟨0, 0⟩, IntKind.u32.wrap 7, macM 7, 0⟩ from rfl, ap_new (c := s.c) (rs := s.rs) (s := ⟨0, 0, [], []⟩) (by decide) (by omega) rfl hp (by decide)] at h2
        rw [← (Prod.mk.inj h2).2] at k2
        exact k2 rfl
      · refine ca_ (fun R' q1 q2 => snapshot_c s v2 S2 o h1 R') fun B _ => ?_
        refine ax_ fun b10 => ?_
        refine lo_ (fun z : Bool × Nat => [(11, .bool z.1), (12, .int .i64 z.2)]) (fun _ => []) (fun z => z.2 ≤ S2.ls.length ∧ (z.1 = true ↔ (a2.Err ≠ 0 ∨ cmd.Kind = 4 ∨ cmd.Kind = 3) ∨ ∃ x ∈ S2.ls.take z.2, x = a2.Lease)) (fun z => S2.ls.length - z.2) (bif bif a2.Err != 0 then true else cmd.Kind == 4 then true else cmd.Kind == 3, 0) ⟨by dsimp only; omega, ?_⟩ fun ⟨t, j⟩ ⟨y1, y2⟩ => ?_
        · dsimp only
          rw [bif_there]; simp
        · dsimp only at y1 y2 ⊢
          have hsl := rel_len h1 o
          refine if_ (fun c6 => ?_) (fun c6 => ?_)
          · have hjl : j < S2.ls.length := by omega
            have hel : el S2.ls j = S2.ls[j] := el_of hjl
            have hm : el S2.ls j ∈ S2.ls := by rw [hel]; exact List.getElem_mem hjl
            have hok := h3.ok _ hm
            have hmf := may_facts o hok.may
            have hft : Fits c rs (el S2.ls j) S2.now := (hfits _ _).1 (fits_of o h3 hm)
            refine ax_ fun b13 => ?_
            have hft2 : ∀ {R' : Hh}, Ctp Tryz.prog 27 [.agg ⟨cConfig c⟩, .agg ⟨cLease (el S2.ls j)⟩, .int .i64 S2.now] R' [] (.bool (decide (Fits c rs (el S2.ls j) S2.now))) → Ctp Tryz.prog 27 [.agg ⟨cConfig c⟩, .agg ⟨cLease (el S2.ls j)⟩, .int .i64 S2.now] R' [] (.bool true) := fun h => by rw [decide_eq_true hft] at h; exact h
            refine cp_ (v := .bool true) (fun R' q1 q2 => hft2 (fits_c c rs (el S2.ls j) S2.now g hmf.2.2 R' (rq_ q2 r18))) ?_
            have hrv := hok.rev
            have hadd : (el S2.ls j).Subnet.Addr + 1 < 4294967296 := by
              have hv := (base_vld o hmf.1 hmf.2.1).1
              have ht := vld_top hv hmf.2.2.1 hmf.2.2.2
              have h2p : 2 ≤ pw (el S2.ls j).Subnet.Len := by
                unfold pw
                have hss := o.f.sub
                rw [hmf.1]
                have h2 : (2 : Nat) ^ 1 ≤ 2 ^ (32 - s.c.SubnetLen).toNat := Nat.pow_le_pow_right (by omega) (by omega)
                have h4 : (2 : Int) ^ (32 - s.c.SubnetLen).toNat = ((2 ^ (32 - s.c.SubnetLen).toNat : Nat) : Int) := by simp
                omega
              omega
            have haw : IntKind.u32.wrap ((el S2.ls j).Subnet.Addr + 1) = (el S2.ls j).Subnet.Addr + 1 := wrap32 (by omega) hadd
            refine if_ (fun c7 => ?_) (fun c7 => ?_)
            · exfalso
              omega
            · refine lo_ (fun k : Nat => [(14, .int .i64 k)]) (fun _ => []) (fun k => k ≤ j) (fun k => j - k) 0 (Nat.zero_le _) fun k hkj => ?_
              refine if_ (fun c8 => ?_) (fun c8 => ?_)
              · have hkl : k < S2.ls.length := by omega
                have hek : el S2.ls k = S2.ls[k] := el_of hkl
                have hap := List.pairwise_iff_getElem.1 h3.apart k j hkl hjl (by omega)
                have hri := List.pairwise_iff_getElem.1 h3.rise k j hkl hjl (by omega)
                rw [← hek, ← hel] at hap hri
                refine if_ (fun c9 => ?_) (fun c9 => ?_)
                · exfalso
                  rcases c9 with h | h
                  · exact hap h
                  · omega
                · exact ba_ (k + 1) (by omega) (by omega)
              · refine ca_ (fun R' q1 q2 => holder_c s v2 S2 o h1 R' (IntKind.u32.wrap ((el S2.ls j).Subnet.Addr + 1)) (by omega) (by omega)) fun ⟨l5, e5⟩ h8 => ?_
                rw [haw, holder_next o h1 hm] at h8
                simp only [Prod.mk.injEq] at h8
                obtain ⟨rfl, rfl⟩ := h8
                refine ax_ fun b15 => ?_
                refine if_ (fun c10 => ?_) (fun c10 => ?_)
                · exfalso
                  simp at c10
                · refine ba_ (bif t then true else decide (el S2.ls j = a2.Lease), j + 1) ⟨by dsimp only; omega, ?_⟩ (by dsimp only; omega)
                  dsimp only
                  rw [List.take_succ_eq_append_getElem hjl, ← hel]
                  simp only [List.mem_append, List.mem_singleton]
                  cases hf : t with
                  | true =>
                    rw [hf] at y2
                    exact ⟨fun _ => (y2.1 rfl).elim .inl fun ⟨x, hx, e⟩ => .inr ⟨x, .inl hx, e⟩, fun _ => rfl⟩
                  | false =>
                    rw [hf] at y2
                    simp only [cond_false, decide_eq_true_eq]
                    exact ⟨fun e => .inr ⟨_, .inr rfl, e⟩, fun h => h.elim (fun h => (by have := y2.2 (.inl h); cases this)) fun ⟨x, hx, e⟩ => hx.elim (fun hx => (by have := y2.2 (.inr ⟨x, hx, e⟩); cases this)) fun hx => hx ▸ e⟩
          · have hj : j = S2.ls.length := by omega
            rw [hj, List.take_length] at y2
            have hrn := apply_rev (c := s.c) (rs := s.rs) (s := S) (cmd := cmd)
            have hth := apply_there (c := s.c) (rs := s.rs) (s := S) (cmd := cmd)
            rw [h2] at hrn hth
            dsimp only at hrn hth
            have ht : t = true := y2.2 (by
              by_cases k1 : a2.Err = 0
              · by_cases k3 : cmd.Kind = 3
                · exact .inl (.inr (.inr k3))
                · by_cases k4 : cmd.Kind = 4
                  · exact .inl (.inr (.inl k4))
                  · exact .inr ⟨_, hth k1 k3 k4, rfl⟩
              · exact .inl (.inl k1))
            refine if_ (fun c11 => ?_) (fun c11 => ?_)
            · exfalso
              rw [ht, hrn.1, hrn.2] at c11
              simp at c11
            · exact ba_ (v2, S2, i + 1) ⟨by dsimp only; omega, by dsimp only; omega, h1, fun h => by dsimp only at h; omega⟩ (by dsimp only; omega)
  · exact re_ rfl
end Go.Proofs.YtdallmabajeajaaGreatDoor.Fw
