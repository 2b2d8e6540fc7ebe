/-
  Plain laws of AgentDiffLeads: the changes lead from the one tables to the others.
-/
import Derived.Test.YtnbpodjbemfpbaaGreatPl7
set_option linter.all false
namespace Go.Proofs.YtnbpodjbemfpbaaGreat.Fw
open Go
structure Step (t w : TB) (o : TOp) (rest : List TOp) : Prop where
  ord : OrdT (afterT t o)
  next : dl (afterT t o) w = rest
  lR : (afterT t o).R.length ≤ t.R.length ∨ (afterT t o).R.length ≤ w.R.length
  lN : (afterT t o).N.length ≤ t.N.length ∨ (afterT t o).N.length ≤ w.N.length
  lF : (afterT t o).F.length ≤ t.F.length ∨ (afterT t o).F.length ≤ w.F.length
  wh : wholeT t → wholeT w → wholeT (afterT t o)
section
variable {t w : TB} {o : TOp} {rest r' : List TOp}
theorem stays_all (h1 : g1 t w = []) (h2 : g2 t w = []) : ∀ e ∈ t.R, stT t w e = true := by
  intro e he
  have a := pick_nil.1 h1 e he
  have b := pick_nil.1 h2 e he
  cases hs : stT t w e with
  | true => rfl
  | false =>
    rw [hs] at a b
    cases hl : e.Local with
    | true => rw [hl] at a; cases a
    | false => rw [hl] at b; cases b
theorem step_NF {t' : TB} (ht : OrdT t) (hw : OrdT w) (ht' : OrdT t') (h1 : g1 t w = []) (h2 : g2 t w = []) (hR : t'.R = t.R) (hway : ∀ e ∈ t.R, wayC t.N t.F e = wayC w.N w.F e → wayC t'.N t'.F e = wayC w.N w.F e) :
    g1 t' w = [] ∧ g2 t' w = [] ∧ g7 t' w = g7 t w ∧ (wholeT t → wholeT t') := by
  have hst := stays_all h1 h2
  have hst' : ∀ e ∈ t.R, stT t' w e = true := by
    intro e he
    have h := (stT_iff ht hw).1 (hst e he)
    refine (stT_iff ht' hw).2 ⟨h.1, ?_⟩
    rcases h.2 with hl | hc
    · exact .inl hl
    · exact .inr (hway e he hc)
  refine ⟨?_, ?_, ?_, ?_⟩
  · unfold g1
    rw [hR, pick_nil]
    intro e he
    rw [hst' e he]; rfl
  · unfold g2
    rw [hR, pick_nil]
    intro e he
    rw [hst' e he]; rfl
  · unfold g7
    rw [hR]
    refine pick_congr fun e _ => ?_
    by_cases hm : e ∈ t.R
    · rw [hst e hm, hst' e hm]
    · simp [hm]
  · intro hwh e he
    rw [hR] at he
    have h := (stT_iff ht hw).1 (hst e he)
    rcases h.2 with hl | hc
    · exact .inl hl
    rcases hwh e he with hl | ⟨x, y, hxy⟩
    · exact .inl hl
    · exact .inr ⟨x, y, by rw [hway e he hc, ← hc, hxy]⟩
theorem step_R {x : TRoute} (ht : OrdT t) (hw : OrdT w) (hx : x ∈ t.R) (hs : stT t w x = false) : OrdT ⟨rm kR x.Dst t.R, t.N, t.F⟩ ∧ g7 ⟨rm kR x.Dst t.R, t.N, t.F⟩ w = g7 t w ∧ (wholeT t → wholeT ⟨rm kR x.Dst t.R, t.N, t.F⟩) := by
  refine ⟨⟨fun e he => ht.valid e ((rm_mem kR).1 he).1, rm_srt kR ht.routes, ht.neighs, ht.fdbs⟩, ?_, fun hwh e he => hwh e ((rm_mem kR).1 he).1⟩
  unfold g7
  refine pick_congr fun e _ => ?_
  show (!decide (e ∈ rm kR x.Dst t.R) || !stT t w e) = _
  by_cases hm : e ∈ t.R
  · by_cases hk : kR e = x.Dst
    · have : e = x := same_key koPrefix kR ht.routes hm hx hk
      subst this
      simp [hs]
    · have : e ∈ rm kR x.Dst t.R := (rm_mem kR).2 ⟨hm, hk⟩
      simp [hm, this]
  · have : ¬ e ∈ rm kR x.Dst t.R := fun h => hm ((rm_mem kR).1 h).1
    simp [hm, this]
theorem step1 (ht : OrdT t) (hw : OrdT w) (h : g1 t w = o :: r') : Step t w o (r' ++ (g2 t w ++ (g3 t w ++ (g4 t w ++ (g5 t w ++ (g6 t w ++ g7 t w)))))) := by
  obtain ⟨x, hx, hp, rfl, hr⟩ := pick_del koPrefix kR ht.routes h
  simp only [Bool.and_eq_true, Bool.not_eq_true', beq_iff_eq] at hp
  obtain ⟨s1, s2, s3⟩ := step_R ht hw hx hp.1
  have e1 : g1 ⟨rm kR x.Dst t.R, t.N, t.F⟩ w = r' := hr
  have e2 : g2 ⟨rm kR x.Dst t.R, t.N, t.F⟩ w = g2 t w := pick_rm koPrefix kR (p := fun e => !stT t w e && (e.Local == false)) ht.routes hx (by simp [hp.2])
  refine ⟨by rw [after_delR]; exact s1, ?_, .inl ?_, .inl ?_, .inl ?_, by rw [after_delR]; exact fun h _ => s3 h⟩
  · rw [after_delR]
    unfold dl
    rw [e1, e2, s2]
    rfl
  · rw [after_delR]; exact rm_len kR
  · rw [after_delR]; exact Nat.le_refl _
  · rw [after_delR]; exact Nat.le_refl _
theorem step2 (ht : OrdT t) (hw : OrdT w) (h1 : g1 t w = []) (h : g2 t w = o :: r') : Step t w o (r' ++ (g3 t w ++ (g4 t w ++ (g5 t w ++ (g6 t w ++ g7 t w))))) := by
  obtain ⟨x, hx, hp, rfl, hr⟩ := pick_del koPrefix kR ht.routes h
  simp only [Bool.and_eq_true, Bool.not_eq_true', beq_iff_eq] at hp
  obtain ⟨s1, s2, s3⟩ := step_R ht hw hx hp.1
  have e1 : g1 ⟨rm kR x.Dst t.R, t.N, t.F⟩ w = [] := by
    have : g1 ⟨rm kR x.Dst t.R, t.N, t.F⟩ w = g1 t w := pick_rm koPrefix kR (p := fun e => !stT t w e && (e.Local == true)) ht.routes hx (by simp [hp.2])
    rw [this, h1]
  have e2 : g2 ⟨rm kR x.Dst t.R, t.N, t.F⟩ w = r' := hr
  refine ⟨by rw [after_delR]; exact s1, ?_, .inl ?_, .inl ?_, .inl ?_, by rw [after_delR]; exact fun h _ => s3 h⟩
  · rw [after_delR]
    unfold dl
    rw [e1, e2, s2]
    rfl
  · rw [after_delR]; exact rm_len kR
  · rw [after_delR]; exact Nat.le_refl _
  · rw [after_delR]; exact Nat.le_refl _
theorem step3 (ht : OrdT t) (hw : OrdT w) (h1 : g1 t w = []) (h2 : g2 t w = []) (h : g3 t w = o :: r') : Step t w o (r' ++ (g4 t w ++ (g5 t w ++ (g6 t w ++ g7 t w)))) := by
  obtain ⟨x, hx, hp, rfl, hr⟩ := pick_del koAddr kN ht.neighs h
  simp only [Bool.not_eq_true', decide_eq_false_iff_not] at hp
  have ho : OrdT ⟨t.R, rm kN x.IP t.N, t.F⟩ := ⟨ht.valid, ht.routes, rm_srt kN ht.neighs, ht.fdbs⟩
  obtain ⟨s1, s2, s3, s4⟩ := step_NF (t' := ⟨t.R, rm kN x.IP t.N, t.F⟩) ht hw ho h1 h2 rfl (fun e he hc => by
    unfold wayC at hc ⊢
    rw [← hc]
    simp only [rm_lkp]
    by_cases hv : e.Via = x.IP
    · have hl := (mem_lkp koAddr kN ht.neighs).1 hx
      simp only [kN] at hl
      rw [hv] at hc
      rw [hl] at hc
      cases hl2 : lkp kN x.IP w.N with
      | none => rw [hl2] at hc; cases hc
      | some z =>
        rw [hl2] at hc
        simp only [Option.map_some, Option.some.injEq, Prod.mk.injEq] at hc
        have := List.mem_of_find?_eq_some hl2
        rw [← hc.1] at this
        exact absurd this hp
    · simp [hv])
  have e6 : g6 ⟨t.R, rm kN x.IP t.N, t.F⟩ w = g6 t w := by
    unfold g6
    refine pick_congr fun e he => ?_
    show (!decide (e ∈ rm kN x.IP t.N)) = _
    by_cases hm : e ∈ t.N
    · by_cases hk : kN e = x.IP
      · have : e = x := same_key koAddr kN ht.neighs hm hx hk
        exact absurd (this ▸ he) hp
      · have : e ∈ rm kN x.IP t.N := (rm_mem kN).2 ⟨hm, hk⟩
        simp [hm, this]
    · have : ¬ e ∈ rm kN x.IP t.N := fun h => hm ((rm_mem kN).1 h).1
      simp [hm, this]
  refine ⟨by rw [after_delN]; exact ho, ?_, .inl ?_, .inl ?_, .inl ?_, by rw [after_delN]; exact fun h _ => s4 h⟩
  · rw [after_delN]
    unfold dl
    rw [s1, s2, s3, e6]
    rw [show g3 ⟨t.R, rm kN x.IP t.N, t.F⟩ w = r' from hr]
    rfl
  · rw [after_delN]; exact Nat.le_refl _
  · rw [after_delN]; exact rm_len kN
  · rw [after_delN]; exact Nat.le_refl _
theorem step4 (ht : OrdT t) (hw : OrdT w) (h1 : g1 t w = []) (h2 : g2 t w = []) (h3 : g3 t w = []) (h : g4 t w = o :: r') : Step t w o (r' ++ (g5 t w ++ (g6 t w ++ g7 t w))) := by
  obtain ⟨x, hx, hp, rfl, hr⟩ := pick_del koMAC kF ht.fdbs h
  simp only [Bool.not_eq_true', decide_eq_false_iff_not] at hp
  have ho : OrdT ⟨t.R, t.N, rm kF x.MAC t.F⟩ := ⟨ht.valid, ht.routes, ht.neighs, rm_srt kF ht.fdbs⟩
  obtain ⟨s1, s2, s3, s4⟩ := step_NF (t' := ⟨t.R, t.N, rm kF x.MAC t.F⟩) ht hw ho h1 h2 rfl (fun e he hc => by
    unfold wayC at hc ⊢
    rw [← hc]
    cases hl : lkp kN e.Via t.N with
    | none => simp
    | some n =>
      simp only [Option.map_some, rm_lkp]
      by_cases hv : n.MAC = x.MAC
      · rw [hl] at hc
        cases hl2 : lkp kN e.Via w.N with
        | none => rw [hl2] at hc; cases hc
        | some z =>
          rw [hl2] at hc
          simp only [Option.map_some, Option.some.injEq, Prod.mk.injEq] at hc
          have hlx := (mem_lkp koMAC kF ht.fdbs).1 hx
          simp only [kF] at hlx
          obtain ⟨rfl, hc2⟩ := hc
          rw [hv, hlx] at hc2
          exact absurd (List.mem_of_find?_eq_some hc2.symm) hp
      · simp [hv])
  have e5 : g5 ⟨t.R, t.N, rm kF x.MAC t.F⟩ w = g5 t w := by
    unfold g5
    refine pick_congr fun e he => ?_
    show (!decide (e ∈ rm kF x.MAC t.F)) = _
    by_cases hm : e ∈ t.F
    · by_cases hk : kF e = x.MAC
      · have : e = x := same_key koMAC kF ht.fdbs hm hx hk
        exact absurd (this ▸ he) hp
      · have : e ∈ rm kF x.MAC t.F := (rm_mem kF).2 ⟨hm, hk⟩
        simp [hm, this]
    · have : ¬ e ∈ rm kF x.MAC t.F := fun h => hm ((rm_mem kF).1 h).1
      simp [hm, this]
  refine ⟨by rw [after_delF]; exact ho, ?_, .inl ?_, .inl ?_, .inl ?_, by rw [after_delF]; exact fun h _ => s4 h⟩
  · rw [after_delF]
    unfold dl
    rw [s1, s2, s3, e5]
    rw [show g3 ⟨t.R, t.N, rm kF x.MAC t.F⟩ w = [] from h3, show g4 ⟨t.R, t.N, rm kF x.MAC t.F⟩ w = r' from hr]
    rfl
  · rw [after_delF]; exact Nat.le_refl _
  · rw [after_delF]; exact Nat.le_refl _
  · rw [after_delF]; exact rm_len kF
theorem sub_of_nil {α : Type} [DecidableEq α] {l m : List α} {g : α → TOp} (h : pickM (fun e => !decide (e ∈ m)) g l = []) : ∀ e ∈ l, e ∈ m := by
  intro e he
  have := pick_nil.1 h e he
  simpa using this
theorem step5 (ht : OrdT t) (hw : OrdT w) (h1 : g1 t w = []) (h2 : g2 t w = []) (h3 : g3 t w = []) (h4 : g4 t w = []) (h : g5 t w = o :: r') : Step t w o (r' ++ (g6 t w ++ g7 t w)) := by
  obtain ⟨x, hx, hp, rfl, hr⟩ := pick_put (srt_nodup koMAC kF hw.fdbs) h
  simp only [Bool.not_eq_true', decide_eq_false_iff_not] at hp
  have hsub := sub_of_nil h4
  have hno : ∀ e ∈ t.F, kF e ≠ kF x := fun e he hk => by
    have := same_key koMAC kF hw.fdbs (hsub e he) hx hk
    exact hp (this ▸ he)
  have hmem : ∀ e, e ∈ put ltW kF x t.F ↔ e = x ∨ e ∈ t.F := fun e => by
    rw [put_mem_iff koMAC kF ht.fdbs]
    constructor
    · rintro (h | h)
      · exact .inl h
      · exact .inr h.1
    · rintro (h | h)
      · exact .inl h
      · exact .inr ⟨h, hno e h⟩
  have ho : OrdT ⟨t.R, t.N, put ltW kF x t.F⟩ := ⟨ht.valid, ht.routes, ht.neighs, put_srt koMAC kF ht.fdbs⟩
  have hlx := (mem_lkp koMAC kF hw.fdbs).1 hx
  have hl0 : lkp kF x.MAC t.F = none := by
    cases hq : lkp kF x.MAC t.F with
    | none => rfl
    | some z => exact absurd (lkp_key hq) (hno z (List.mem_of_find?_eq_some hq))
  obtain ⟨s1, s2, s3, s4⟩ := step_NF (t' := ⟨t.R, t.N, put ltW kF x t.F⟩) ht hw ho h1 h2 rfl (fun e he hc => by
    unfold wayC at hc ⊢
    rw [← hc]
    cases hl : lkp kN e.Via t.N with
    | none => simp
    | some n =>
      simp only [Option.map_some]
      rw [put_lkp koMAC kF ht.fdbs]
      by_cases hv : kF x = n.MAC
      · rw [hl] at hc
        cases hl2 : lkp kN e.Via w.N with
        | none => rw [hl2] at hc; cases hc
        | some z =>
          rw [hl2] at hc
          simp only [Option.map_some, Option.some.injEq, Prod.mk.injEq] at hc
          obtain ⟨rfl, hc2⟩ := hc
          simp only [kF] at hv hlx
          rw [← hv, hl0, hlx] at hc2
          cases hc2
      · simp [hv])
  have e4 : g4 ⟨t.R, t.N, put ltW kF x t.F⟩ w = [] := by
    unfold g4
    rw [pick_nil]
    intro e he
    rcases (hmem e).1 he with rfl | he
    · simp [hx]
    · simp [hsub e he]
  have e5 : g5 ⟨t.R, t.N, put ltW kF x t.F⟩ w = r' := hr _ fun e _ => by
    show (!decide (e ∈ put ltW kF x t.F)) = _
    by_cases hm : e ∈ t.F <;> by_cases hex : e = x <;> simp [hmem, hm, hex]
  refine ⟨by rw [after_putF ht]; exact ho, ?_, .inl ?_, .inl ?_, .inr ?_, by rw [after_putF ht]; exact fun h _ => s4 h⟩
  · rw [after_putF ht]
    unfold dl
    rw [s1, s2, s3, e4, e5]
    rw [show g3 ⟨t.R, t.N, put ltW kF x t.F⟩ w = [] from h3]
    rfl
  · rw [after_putF ht]; exact Nat.le_refl _
  · rw [after_putF ht]; exact Nat.le_refl _
  · rw [after_putF ht]
    refine srt_sub_len koMAC kF (put_srt koMAC kF ht.fdbs) hw.fdbs fun e he => ?_
    rcases (hmem e).1 he with rfl | he
    · exact hx
    · exact hsub e he
theorem step6 (ht : OrdT t) (hw : OrdT w) (h1 : g1 t w = []) (h2 : g2 t w = []) (h3 : g3 t w = []) (h4 : g4 t w = []) (h5 : g5 t w = []) (h : g6 t w = o :: r') : Step t w o (r' ++ g7 t w) := by
  obtain ⟨x, hx, hp, rfl, hr⟩ := pick_put (srt_nodup koAddr kN hw.neighs) h
  simp only [Bool.not_eq_true', decide_eq_false_iff_not] at hp
  have hsub := sub_of_nil h3
  have hno : ∀ e ∈ t.N, kN e ≠ kN x := fun e he hk => by
    have := same_key koAddr kN hw.neighs (hsub e he) hx hk
    exact hp (this ▸ he)
  have hmem : ∀ e, e ∈ put ltA kN x t.N ↔ e = x ∨ e ∈ t.N := fun e => by
    rw [put_mem_iff koAddr kN ht.neighs]
    constructor
    · rintro (h | h)
      · exact .inl h
      · exact .inr h.1
    · rintro (h | h)
      · exact .inl h
      · exact .inr ⟨h, hno e h⟩
  have ho : OrdT ⟨t.R, put ltA kN x t.N, t.F⟩ := ⟨ht.valid, ht.routes, put_srt koAddr kN ht.neighs, ht.fdbs⟩
  have hlx := (mem_lkp koAddr kN hw.neighs).1 hx
  have hl0 : lkp kN x.IP t.N = none := by
    cases hq : lkp kN x.IP t.N with
    | none => rfl
    | some z => exact absurd (lkp_key hq) (hno z (List.mem_of_find?_eq_some hq))
  obtain ⟨s1, s2, s3, s4⟩ := step_NF (t' := ⟨t.R, put ltA kN x t.N, t.F⟩) ht hw ho h1 h2 rfl (fun e he hc => by
    unfold wayC at hc ⊢
    rw [← hc]
    rw [put_lkp koAddr kN ht.neighs]
    by_cases hv : kN x = e.Via
    · simp only [kN] at hv hlx
      rw [← hv, hl0, hlx] at hc
      cases hc
    · simp [hv])
  have e3 : g3 ⟨t.R, put ltA kN x t.N, t.F⟩ w = [] := by
    unfold g3
    rw [pick_nil]
    intro e he
    rcases (hmem e).1 he with rfl | he
    · simp [hx]
    · simp [hsub e he]
  have e6 : g6 ⟨t.R, put ltA kN x t.N, t.F⟩ w = r' := hr _ fun e _ => by
    show (!decide (e ∈ put ltA kN x t.N)) = _
    by_cases hm : e ∈ t.N <;> by_cases hex : e = x <;> simp [hmem, hm, hex]
  refine ⟨by rw [after_putN ht]; exact ho, ?_, .inl ?_, .inr ?_, .inl ?_, by rw [after_putN ht]; exact fun h _ => s4 h⟩
  · rw [after_putN ht]
    unfold dl
    rw [s1, s2, s3, e3, e6]
    rw [show g4 ⟨t.R, put ltA kN x t.N, t.F⟩ w = [] from h4, show g5 ⟨t.R, put ltA kN x t.N, t.F⟩ w = [] from h5]
    rfl
  · rw [after_putN ht]; exact Nat.le_refl _
  · rw [after_putN ht]
    refine srt_sub_len koAddr kN (put_srt koAddr kN ht.neighs) hw.neighs fun e he => ?_
    rcases (hmem e).1 he with rfl | he
    · exact hx
    · exact hsub e he
  · rw [after_putN ht]; exact Nat.le_refl _
theorem step7 (ht : OrdT t) (hw : OrdT w) (h1 : g1 t w = []) (h2 : g2 t w = []) (h3 : g3 t w = []) (h4 : g4 t w = []) (h5 : g5 t w = []) (h6 : g6 t w = []) (h : g7 t w = o :: r') : Step t w o r' := by
  have hN : t.N = w.N := srt_eq koAddr kN ht.neighs hw.neighs (sub_of_nil h3) (sub_of_nil h6)
  have hF : t.F = w.F := srt_eq koMAC kF ht.fdbs hw.fdbs (sub_of_nil h4) (sub_of_nil h5)
  have hall := stays_all h1 h2
  have hsub : ∀ e ∈ t.R, e ∈ w.R := fun e he => ((stT_iff ht hw).1 (hall e he)).1
  have hstw : ∀ e ∈ w.R, stT t w e = true := fun e he => (stT_iff ht hw).2 ⟨he, .inr (by rw [hN, hF])⟩
  obtain ⟨x, hx, hp, rfl, hr⟩ := pick_put (srt_nodup koPrefix kR hw.routes) h
  rw [hstw x hx] at hp
  simp only [Bool.not_true, Bool.or_false, Bool.not_eq_true', decide_eq_false_iff_not] at hp
  have hno : ∀ e ∈ t.R, kR e ≠ kR x := fun e he hk => by
    have := same_key koPrefix kR hw.routes (hsub e he) hx hk
    exact hp (this ▸ he)
  have hmem : ∀ e, e ∈ put lowerM kR x t.R ↔ e = x ∨ e ∈ t.R := fun e => by
    rw [put_mem_iff koPrefix kR ht.routes]
    constructor
    · rintro (h | h)
      · exact .inl h
      · exact .inr h.1
    · rintro (h | h)
      · exact .inl h
      · exact .inr ⟨h, hno e h⟩
  have hsub' : ∀ e ∈ put lowerM kR x t.R, e ∈ w.R := fun e he => by
    rcases (hmem e).1 he with rfl | he
    · exact hx
    · exact hsub e he
  have ho : OrdT ⟨put lowerM kR x t.R, t.N, t.F⟩ := ⟨fun e he => hw.valid e (hsub' e he), put_srt koPrefix kR ht.routes, ht.neighs, ht.fdbs⟩
  have hst' : ∀ e ∈ w.R, stT ⟨put lowerM kR x t.R, t.N, t.F⟩ w e = true := hstw
  have e1 : g1 ⟨put lowerM kR x t.R, t.N, t.F⟩ w = [] := by
    unfold g1
    rw [pick_nil]
    intro e he
    rw [hst' e (hsub' e he)]; rfl
  have e2 : g2 ⟨put lowerM kR x t.R, t.N, t.F⟩ w = [] := by
    unfold g2
    rw [pick_nil]
    intro e he
    rw [hst' e (hsub' e he)]; rfl
  have e7 : g7 ⟨put lowerM kR x t.R, t.N, t.F⟩ w = r' := hr _ fun e he => by
    show (!decide (e ∈ put lowerM kR x t.R) || !stT ⟨put lowerM kR x t.R, t.N, t.F⟩ w e) = _
    rw [hst' e he, hstw e he]
    by_cases hm : e ∈ t.R <;> by_cases hex : e = x <;> simp [hmem, hm, hex]
  refine ⟨by rw [after_putR ht]; exact ho, ?_, .inr ?_, .inl ?_, .inl ?_, ?_⟩
  · rw [after_putR ht]
    unfold dl
    rw [e1, e2, e7]
    rw [show g3 ⟨put lowerM kR x t.R, t.N, t.F⟩ w = [] from h3, show g4 ⟨put lowerM kR x t.R, t.N, t.F⟩ w = [] from h4, show g5 ⟨put lowerM kR x t.R, t.N, t.F⟩ w = [] from h5, show g6 ⟨put lowerM kR x t.R, t.N, t.F⟩ w = [] from h6]
    rfl
  · rw [after_putR ht]
    exact srt_sub_len koPrefix kR (put_srt koPrefix kR ht.routes) hw.routes hsub'
  · rw [after_putR ht]; exact Nat.le_refl _
  · rw [after_putR ht]; exact Nat.le_refl _
  · rw [after_putR ht]
    intro _ hww e he
    show e.Local = true ∨ ∃ x y, wayC t.N t.F e = some (x, some y)
    rw [hN, hF]
    exact hww e (hsub' e he)
theorem app_cons {α : Type} {a b : List α} {o : α} {r : List α} (h : a ++ b = o :: r) : (a = [] ∧ b = o :: r) ∨ ∃ r', a = o :: r' ∧ r = r' ++ b := by
  cases a with
  | nil => exact .inl ⟨rfl, h⟩
  | cons x a =>
    simp only [List.cons_append, List.cons.injEq] at h
    exact .inr ⟨a, by rw [h.1], h.2.symm⟩
theorem step (ht : OrdT t) (hw : OrdT w) (h : dl t w = o :: rest) : Step t w o rest := by
  unfold dl at h
  rcases app_cons h with ⟨h1, h⟩ | ⟨r', hh, rfl⟩
  · rcases app_cons h with ⟨h2, h⟩ | ⟨r', hh, rfl⟩
    · rcases app_cons h with ⟨h3, h⟩ | ⟨r', hh, rfl⟩
      · rcases app_cons h with ⟨h4, h⟩ | ⟨r', hh, rfl⟩
        · rcases app_cons h with ⟨h5, h⟩ | ⟨r', hh, rfl⟩
          · rcases app_cons h with ⟨h6, h⟩ | ⟨r', hh, rfl⟩
            · exact step7 ht hw h1 h2 h3 h4 h5 h6 h
            · exact step6 ht hw h1 h2 h3 h4 h5 hh
          · exact step5 ht hw h1 h2 h3 h4 hh
        · exact step4 ht hw h1 h2 h3 hh
      · exact step3 ht hw h1 h2 hh
    · exact step2 ht hw h1 hh
  · exact step1 ht hw hh
theorem dl_nil (ht : OrdT t) (hw : OrdT w) (h : dl t w = []) : t = w := by
  unfold dl at h
  simp only [List.append_eq_nil_iff] at h
  obtain ⟨h1, h2, h3, h4, h5, h6, h7⟩ := h
  have hN : t.N = w.N := srt_eq koAddr kN ht.neighs hw.neighs (sub_of_nil h3) (sub_of_nil h6)
  have hF : t.F = w.F := srt_eq koMAC kF ht.fdbs hw.fdbs (sub_of_nil h4) (sub_of_nil h5)
  have hall := stays_all h1 h2
  have hR : t.R = w.R := by
    refine srt_eq koPrefix kR ht.routes hw.routes (fun e he => ((stT_iff ht hw).1 (hall e he)).1) (fun e he => ?_)
    have := pick_nil.1 h7 e he
    simp only [Bool.or_eq_false_iff, Bool.not_eq_false', decide_eq_true_eq] at this
    exact this.1
  cases t; cases w
  simp only at hN hF hR
  rw [hN, hF, hR]
end
/-! the whole way -/
@[irreducible] def stK (h : TB) (L : List TOp) (k : Nat) : TB := (L.take k).foldl afterT h
structure Way (h w : TB) (L : List TOp) (k : Nat) : Prop where
  ord : OrdT (stK h L k)
  rest : dl (stK h L k) w = L.drop k
  lR : (stK h L k).R.length ≤ h.R.length ∨ (stK h L k).R.length ≤ w.R.length
  lN : (stK h L k).N.length ≤ h.N.length ∨ (stK h L k).N.length ≤ w.N.length
  lF : (stK h L k).F.length ≤ h.F.length ∨ (stK h L k).F.length ≤ w.F.length
  wh : wholeT h → wholeT w → wholeT (stK h L k)
theorem stK_0 {h : TB} {L : List TOp} : stK h L 0 = h := by unfold stK; rfl
theorem stK_succ {h : TB} {L : List TOp} {k : Nat} {o : TOp} (ho : L[k]? = some o) : stK h L (k + 1) = afterT (stK h L k) o := by
  unfold stK
  rw [List.take_add_one, ho]
  simp
theorem way {h w : TB} (hh : OrdT h) (hw : OrdT w) : ∀ k, k ≤ (dl h w).length → Way h w (dl h w) k
  | 0, _ => by
    have e : stK h (dl h w) 0 = h := stK_0
    exact ⟨by rw [e]; exact hh, by rw [e]; rfl, by rw [e]; exact .inl (Nat.le_refl _), by rw [e]; exact .inl (Nat.le_refl _), by rw [e]; exact .inl (Nat.le_refl _), by rw [e]; exact fun h _ => h⟩
  | k + 1, hk => by
    have ih := way hh hw k (by omega)
    obtain ⟨o, ho⟩ : ∃ o, (dl h w)[k]? = some o := ⟨_, List.getElem?_eq_getElem (by omega)⟩
    have hd : (dl h w).drop k = o :: (dl h w).drop (k + 1) := by
      obtain ⟨h1, h2⟩ := List.getElem?_eq_some_iff.1 ho
      rw [List.drop_eq_getElem_cons h1, h2]
    have hs := step ih.ord hw (ih.rest.trans hd)
    have e := stK_succ (h := h) ho
    refine ⟨by rw [e]; exact hs.ord, by rw [e]; exact hs.next, ?_, ?_, ?_, by rw [e]; exact fun a b => hs.wh (ih.wh a b) b⟩
    · rw [e]; have := ih.lR; have := hs.lR; omega
    · rw [e]; have := ih.lN; have := hs.lN; omega
    · rw [e]; have := ih.lF; have := hs.lF; omega
def isRem (o : TOp) : Bool := o.Kind.v == 2 && !o.Route.Local
theorem local_first {t w : TB} {k : Nat} {o : TOp} (ho : (dl t w)[k]? = some o) (h2 : (o.Kind.v == 2 && o.Route.Local) = true) : ((dl t w).take k).any isRem = false := by
  have hk : k < (g1 t w).length := by
    rcases Nat.lt_or_ge k (g1 t w).length with h | h
    · exact h
    · exfalso
      unfold dl at ho
      rw [List.getElem?_append_right h] at ho
      have hm := List.mem_of_getElem? ho
      simp only [Bool.and_eq_true, beq_iff_eq] at h2
      simp only [List.mem_append] at hm
      rcases hm with hm | hm | hm | hm | hm | hm
      · obtain ⟨e, _, hp, rfl⟩ := pick_mem.1 hm
        have hl : e.Local = true := h2.2
        simp [hl] at hp
      · obtain ⟨e, _, _, rfl⟩ := pick_mem.1 hm
        exact absurd h2.1 (by simp [delN])
      · obtain ⟨e, _, _, rfl⟩ := pick_mem.1 hm
        exact absurd h2.1 (by simp [delF])
      · obtain ⟨e, _, _, rfl⟩ := pick_mem.1 hm
        exact absurd h2.1 (by simp [putF])
      · obtain ⟨e, _, _, rfl⟩ := pick_mem.1 hm
        exact absurd h2.1 (by simp [putNe])
      · obtain ⟨e, _, _, rfl⟩ := pick_mem.1 hm
        exact absurd h2.1 (by simp [putR])
  unfold dl
  rw [List.take_append_of_le_length (by omega), List.any_eq_false]
  intro e he
  obtain ⟨x, _, hp, rfl⟩ := pick_mem.1 (List.mem_of_mem_take he)
  simp only [Bool.and_eq_true, beq_iff_eq] at hp
  simp [isRem, delR, hp.2]
theorem diffM_len (r1 : List TRoute) (n1 : List TNeigh) (f1 : List TFdb) (r2 : List TRoute) (n2 : List TNeigh) (f2 : List TFdb) : (diffM r1 n1 f1 r2 n2 f2).length ≤ 2 * r1.length + n1.length + f1.length + f2.length + n2.length + r2.length := by
  unfold diffM
  split
  · simp
  · unfold diffL
    simp only [List.length_append]
    have a1 := pickM_len (p := fun e => (e.Local == true) && !staysM n1 f1 r2 n2 f2 e) (g := delR) (l := r1)
    have a2 := pickM_len (p := fun e => (e.Local == false) && !staysM n1 f1 r2 n2 f2 e) (g := delR) (l := r1)
    have a3 := pickM_len (p := fun e => lacksM cmpNeigh zNeigh n2 e) (g := delN) (l := n1)
    have a4 := pickM_len (p := fun e => lacksM cmpFdb zFdb f2 e) (g := delF) (l := f1)
    have a5 := pickM_len (p := fun e => lacksM cmpFdb zFdb f1 e) (g := putF) (l := f2)
    have a6 := pickM_len (p := fun e => lacksM cmpNeigh zNeigh n1 e) (g := putNe) (l := n2)
    have a7 := pickM_len (p := fun e => lacksM cmpRoute zRoute r1 e || !staysM n1 f1 r2 n2 f2 e) (g := putR) (l := r2)
    omega
structure LdAt (r1 : List TRoute) (n1 : List TNeigh) (f1 : List TFdb) (r2 : List TRoute) (n2 : List TNeigh) (f2 : List TFdb) (k : Nat) : Prop where
  E : diffE (stK ⟨r1, n1, f1⟩ (diffM r1 n1 f1 r2 n2 f2) k).R (stK ⟨r1, n1, f1⟩ (diffM r1 n1 f1 r2 n2 f2) k).N (stK ⟨r1, n1, f1⟩ (diffM r1 n1 f1 r2 n2 f2) k).F r2 n2 f2 = 0
  rest : diffM (stK ⟨r1, n1, f1⟩ (diffM r1 n1 f1 r2 n2 f2) k).R (stK ⟨r1, n1, f1⟩ (diffM r1 n1 f1 r2 n2 f2) k).N (stK ⟨r1, n1, f1⟩ (diffM r1 n1 f1 r2 n2 f2) k).F r2 n2 f2 = (diffM r1 n1 f1 r2 n2 f2).drop k
  lR : (stK ⟨r1, n1, f1⟩ (diffM r1 n1 f1 r2 n2 f2) k).R.length ≤ r1.length ∨ (stK ⟨r1, n1, f1⟩ (diffM r1 n1 f1 r2 n2 f2) k).R.length ≤ r2.length
  lN : (stK ⟨r1, n1, f1⟩ (diffM r1 n1 f1 r2 n2 f2) k).N.length ≤ n1.length ∨ (stK ⟨r1, n1, f1⟩ (diffM r1 n1 f1 r2 n2 f2) k).N.length ≤ n2.length
  lF : (stK ⟨r1, n1, f1⟩ (diffM r1 n1 f1 r2 n2 f2) k).F.length ≤ f1.length ∨ (stK ⟨r1, n1, f1⟩ (diffM r1 n1 f1 r2 n2 f2) k).F.length ≤ f2.length
  wh : (wholeM r1 n1 f1 && wholeM r2 n2 f2) = true → wholeM (stK ⟨r1, n1, f1⟩ (diffM r1 n1 f1 r2 n2 f2) k).R (stK ⟨r1, n1, f1⟩ (diffM r1 n1 f1 r2 n2 f2) k).N (stK ⟨r1, n1, f1⟩ (diffM r1 n1 f1 r2 n2 f2) k).F = true
  loc : ∀ o, (diffM r1 n1 f1 r2 n2 f2)[k]? = some o → ∀ b, b = ((diffM r1 n1 f1 r2 n2 f2).take k).any isRem → (((o.Kind.v == 2) && o.Route.Local) && b) = false
  fin : (diffM r1 n1 f1 r2 n2 f2).length ≤ k → (stK ⟨r1, n1, f1⟩ (diffM r1 n1 f1 r2 n2 f2) k).R = r2 ∧ (stK ⟨r1, n1, f1⟩ (diffM r1 n1 f1 r2 n2 f2) k).N = n2 ∧ (stK ⟨r1, n1, f1⟩ (diffM r1 n1 f1 r2 n2 f2) k).F = f2
section
variable {r1 r2 : List TRoute} {n1 n2 : List TNeigh} {f1 f2 : List TFdb} {k : Nat}
theorem ordOf (h : ((!orderedM r1 n1 f1) || (!orderedM r2 n2 f2)) = false) : OrdT ⟨r1, n1, f1⟩ ∧ OrdT ⟨r2, n2, f2⟩ := by
  simp only [Bool.or_eq_false_iff, Bool.not_eq_false'] at h
  exact ⟨ordered_ord.1 h.1, ordered_ord.1 h.2⟩
theorem leadsE (h : ((!orderedM r1 n1 f1) || (!orderedM r2 n2 f2)) = false) : diffE r1 n1 f1 r2 n2 f2 = 0 := dlE (ordOf h).1 (ordOf h).2
theorem leads_bad (h : ((!orderedM r1 n1 f1) || (!orderedM r2 n2 f2)) = true) : ((diffE r1 n1 f1 r2 n2 f2 == 161) && (((diffM r1 n1 f1 r2 n2 f2).length : Int) == 0)) = true := by
  rw [diffE_eq, diffM_eq, ← diffRE_bad h, ← diffRM_bad h]
  rfl
theorem leads (h : ((!orderedM r1 n1 f1) || (!orderedM r2 n2 f2)) = false) (hk : k ≤ (diffM r1 n1 f1 r2 n2 f2).length) : LdAt r1 n1 f1 r2 n2 f2 k := by
  obtain ⟨h1, h2⟩ := ordOf h
  have e0 : diffM r1 n1 f1 r2 n2 f2 = dl ⟨r1, n1, f1⟩ ⟨r2, n2, f2⟩ := dl_eq h1 h2
  rw [e0] at hk
  have hw := way h1 h2 k hk
  have e1 := dl_eq hw.ord h2
  refine ⟨?_, ?_, ?_, ?_, ?_, ?_, ?_, ?_⟩
  · rw [e0]; exact dlE hw.ord h2
  · rw [e0]; exact e1.trans hw.rest
  · rw [e0]; exact hw.lR
  · rw [e0]; exact hw.lN
  · rw [e0]; exact hw.lF
  · rw [e0]
    intro hb
    simp only [Bool.and_eq_true] at hb
    exact (wholeT_iff hw.ord).2 (hw.wh ((wholeT_iff h1).1 hb.1) ((wholeT_iff h2).1 hb.2))
  · rw [e0]
    intro o ho b hb
    cases hl : (o.Kind.v == 2) && o.Route.Local with
    | false => rfl
    | true => rw [hb, local_first ho hl]; rfl
  · rw [e0]
    intro hle
    have h3 := hw.rest
    rw [List.drop_eq_nil_of_le hle] at h3
    have := dl_nil hw.ord h2 h3
    rw [this]
    exact ⟨rfl, rfl, rfl⟩
structure LdN (r1 : List TRoute) (n1 : List TNeigh) (f1 : List TFdb) (r2 : List TRoute) (n2 : List TNeigh) (f2 : List TFdb) (k : Nat) (o : TOp) : Prop where
  lR : (afterT ⟨(stK ⟨r1, n1, f1⟩ (diffM r1 n1 f1 r2 n2 f2) k).R, (stK ⟨r1, n1, f1⟩ (diffM r1 n1 f1 r2 n2 f2) k).N, (stK ⟨r1, n1, f1⟩ (diffM r1 n1 f1 r2 n2 f2) k).F⟩ o).R.length ≤ r1.length ∨ (afterT ⟨(stK ⟨r1, n1, f1⟩ (diffM r1 n1 f1 r2 n2 f2) k).R, (stK ⟨r1, n1, f1⟩ (diffM r1 n1 f1 r2 n2 f2) k).N, (stK ⟨r1, n1, f1⟩ (diffM r1 n1 f1 r2 n2 f2) k).F⟩ o).R.length ≤ r2.length
  lN : (afterT ⟨(stK ⟨r1, n1, f1⟩ (diffM r1 n1 f1 r2 n2 f2) k).R, (stK ⟨r1, n1, f1⟩ (diffM r1 n1 f1 r2 n2 f2) k).N, (stK ⟨r1, n1, f1⟩ (diffM r1 n1 f1 r2 n2 f2) k).F⟩ o).N.length ≤ n1.length ∨ (afterT ⟨(stK ⟨r1, n1, f1⟩ (diffM r1 n1 f1 r2 n2 f2) k).R, (stK ⟨r1, n1, f1⟩ (diffM r1 n1 f1 r2 n2 f2) k).N, (stK ⟨r1, n1, f1⟩ (diffM r1 n1 f1 r2 n2 f2) k).F⟩ o).N.length ≤ n2.length
  lF : (afterT ⟨(stK ⟨r1, n1, f1⟩ (diffM r1 n1 f1 r2 n2 f2) k).R, (stK ⟨r1, n1, f1⟩ (diffM r1 n1 f1 r2 n2 f2) k).N, (stK ⟨r1, n1, f1⟩ (diffM r1 n1 f1 r2 n2 f2) k).F⟩ o).F.length ≤ f1.length ∨ (afterT ⟨(stK ⟨r1, n1, f1⟩ (diffM r1 n1 f1 r2 n2 f2) k).R, (stK ⟨r1, n1, f1⟩ (diffM r1 n1 f1 r2 n2 f2) k).N, (stK ⟨r1, n1, f1⟩ (diffM r1 n1 f1 r2 n2 f2) k).F⟩ o).F.length ≤ f2.length
  wh : (wholeM r1 n1 f1 && wholeM r2 n2 f2) = true → wholeM (afterT ⟨(stK ⟨r1, n1, f1⟩ (diffM r1 n1 f1 r2 n2 f2) k).R, (stK ⟨r1, n1, f1⟩ (diffM r1 n1 f1 r2 n2 f2) k).N, (stK ⟨r1, n1, f1⟩ (diffM r1 n1 f1 r2 n2 f2) k).F⟩ o).R (afterT ⟨(stK ⟨r1, n1, f1⟩ (diffM r1 n1 f1 r2 n2 f2) k).R, (stK ⟨r1, n1, f1⟩ (diffM r1 n1 f1 r2 n2 f2) k).N, (stK ⟨r1, n1, f1⟩ (diffM r1 n1 f1 r2 n2 f2) k).F⟩ o).N (afterT ⟨(stK ⟨r1, n1, f1⟩ (diffM r1 n1 f1 r2 n2 f2) k).R, (stK ⟨r1, n1, f1⟩ (diffM r1 n1 f1 r2 n2 f2) k).N, (stK ⟨r1, n1, f1⟩ (diffM r1 n1 f1 r2 n2 f2) k).F⟩ o).F = true
theorem leads_next {o : TOp} (h : ((!orderedM r1 n1 f1) || (!orderedM r2 n2 f2)) = false) (hk : k < (diffM r1 n1 f1 r2 n2 f2).length) (ho : (diffM r1 n1 f1 r2 n2 f2)[k]? = some o) : LdN r1 n1 f1 r2 n2 f2 k o := by
  have hw := leads (k := k + 1) h hk
  have e := stK_succ (h := ⟨r1, n1, f1⟩) ho
  refine ⟨?_, ?_, ?_, fun hb => ?_⟩
  · have := hw.lR; rw [e] at this; exact this
  · have := hw.lN; rw [e] at this; exact this
  · have := hw.lF; rw [e] at this; exact this
  · have := hw.wh hb; rw [e] at this; exact this
end
/-! the walks' words -/
def insS {α : Type} (lw eq : α → Bool) (x : α) (a : List α × Bool) (e : α) : List α × Bool := (a.1 ++ (if a.2 && lw e then [x] else []) ++ (if eq e then [] else [e]), a.2 && !lw e)
@[irreducible] def insA {α : Type} (lw eq : α → Bool) (x : α) (l : List α) (p : Bool) (k : Nat) : List α × Bool := (l.take k).foldl (insS lw eq x) ([], p)
section
variable {α : Type} {lw eq : α → Bool} {x e : α} {l : List α} {p : Bool} {k : Nat}
theorem insA_0 : insA lw eq x l p 0 = ([], p) := by unfold insA; rfl
theorem insA_succ (h : l[k]? = some e) : insA lw eq x l p (k + 1) = insS lw eq x (insA lw eq x l p k) e := by
  unfold insA
  rw [List.take_add_one, h]
  simp
theorem insA_all : ∀ (l acc : List α) (p : Bool), (l.foldl (insS lw eq x) (acc, p)).1 ++ (if (l.foldl (insS lw eq x) (acc, p)).2 then [x] else []) = acc ++ insB lw eq x l p
  | [], acc, p => by cases p <;> simp [insB]
  | e :: l, acc, p => by
    rw [List.foldl_cons]
    show ((l.foldl (insS lw eq x) (acc ++ (if p && lw e then [x] else []) ++ (if eq e then [] else [e]), p && !lw e)).1 ++ _) = _
    rw [show insS lw eq x (acc, p) e = (acc ++ (if p && lw e then [x] else []) ++ (if eq e then [] else [e]), p && !lw e) from rfl, insA_all l]
    simp [insB, List.append_assoc]
theorem insA_t (hk : l.length ≤ k) {b : Bool} (hb : b = (insA lw eq x l p k).2) (h : b = true) : (insA lw eq x l p k).1 ++ [x] = insB lw eq x l p := by
  have := insA_all (lw := lw) (eq := eq) (x := x) l [] p
  unfold insA at hb ⊢
  rw [List.take_of_length_le hk] at hb ⊢
  rw [← hb, h] at this
  simpa using this
theorem insA_f (hk : l.length ≤ k) {b : Bool} (hb : b = (insA lw eq x l p k).2) (h : b = false) : (insA lw eq x l p k).1 = insB lw eq x l p := by
  have := insA_all (lw := lw) (eq := eq) (x := x) l [] p
  unfold insA at hb ⊢
  rw [List.take_of_length_le hk] at hb ⊢
  rw [← hb, h] at this
  simpa using this
section
variable {q : Bool}
theorem insA_tt (h : l[k]? = some e) (hp : q = (insA lw eq x l p k).2) (hq : q = true) (hl : lw e = true) (he : (!eq e) = true) : (insA lw eq x l p k).1 ++ [x] ++ [e] = (insA lw eq x l p (k + 1)).1 := by
  rw [insA_succ h]
  simp only [Bool.not_eq_true'] at he
  simp [insS, ← hp, hq, hl, he]
theorem insA_tf (h : l[k]? = some e) (hp : q = (insA lw eq x l p k).2) (hq : q = true) (hl : lw e = true) (he : (!eq e) = false) : (insA lw eq x l p k).1 ++ [x] = (insA lw eq x l p (k + 1)).1 := by
  rw [insA_succ h]
  simp only [Bool.not_eq_false'] at he
  simp [insS, ← hp, hq, hl, he]
theorem insA_ft (h : l[k]? = some e) (hp : q = (insA lw eq x l p k).2) (hq : q = true) (hl : lw e = false) (he : (!eq e) = true) : (insA lw eq x l p k).1 ++ [e] = (insA lw eq x l p (k + 1)).1 := by
  rw [insA_succ h]
  simp only [Bool.not_eq_true'] at he
  simp [insS, ← hp, hq, hl, he]
theorem insA_ff (h : l[k]? = some e) (hp : q = (insA lw eq x l p k).2) (hq : q = true) (hl : lw e = false) (he : (!eq e) = false) : (insA lw eq x l p k).1 = (insA lw eq x l p (k + 1)).1 := by
  rw [insA_succ h]
  simp only [Bool.not_eq_false'] at he
  simp [insS, ← hp, hq, hl, he]
theorem insA_nt (h : l[k]? = some e) (hp : q = (insA lw eq x l p k).2) (hq : q = false) (he : (!eq e) = true) : (insA lw eq x l p k).1 ++ [e] = (insA lw eq x l p (k + 1)).1 := by
  rw [insA_succ h]
  simp only [Bool.not_eq_true'] at he
  simp [insS, ← hp, hq, he]
theorem insA_nf (h : l[k]? = some e) (hp : q = (insA lw eq x l p k).2) (hq : q = false) (he : (!eq e) = false) : (insA lw eq x l p k).1 = (insA lw eq x l p (k + 1)).1 := by
  rw [insA_succ h]
  simp only [Bool.not_eq_false'] at he
  simp [insS, ← hp, hq, he]
theorem insA_pt (h : l[k]? = some e) (hp : q = (insA lw eq x l p k).2) (hq : q = true) (hl : lw e = true) : false = (insA lw eq x l p (k + 1)).2 := by
  rw [insA_succ h]
  simp [insS, ← hp, hq, hl]
theorem insA_pf (h : l[k]? = some e) (hp : q = (insA lw eq x l p k).2) (hq : q = true) (hl : lw e = false) : q = (insA lw eq x l p (k + 1)).2 := by
  rw [insA_succ h]
  simp [insS, ← hp, hq, hl]
theorem insA_pn (h : l[k]? = some e) (hp : q = (insA lw eq x l p k).2) (hq : q = false) : q = (insA lw eq x l p (k + 1)).2 := by
  rw [insA_succ h]
  simp [insS, ← hp, hq]
end
theorem insA_len : (insA lw eq x l p k).1.length ≤ 2 * k := by
  induction k with
  | zero => rw [insA_0]; simp
  | succ k ih =>
    cases h : l[k]? with
    | none =>
      have e1 : insA lw eq x l p (k + 1) = insA lw eq x l p k := by
        unfold insA
        rw [List.take_add_one, h]
        simp
      rw [e1]; omega
    | some e =>
      rw [insA_succ h]
      unfold insS
      simp only [List.length_append]
      split <;> split <;> simp <;> omega
theorem afR1 {r : List TRoute} {n : List TNeigh} {f : List TFdb} {o : TOp} (h : o.Kind.v = 1 ∨ o.Kind.v = 2) : insB (fun e => lowerM o.Route.Dst e.Dst) (fun e => decide (e.Dst = o.Route.Dst)) o.Route r (o.Kind.v == 1) = (afterT ⟨r, n, f⟩ o).R := by
  unfold afterT
  rw [if_pos (by simpa using h)]
theorem afR2 {r : List TRoute} {n : List TNeigh} {f : List TFdb} {o : TOp} (h : o.Kind.v ≠ 1 ∧ o.Kind.v ≠ 2) : r = (afterT ⟨r, n, f⟩ o).R := by
  unfold afterT
  rw [if_neg (by simpa using h)]
  split
  · rfl
  · split <;> rfl
theorem afN1 {r : List TRoute} {n : List TNeigh} {f : List TFdb} {o : TOp} (h : o.Kind.v = 3 ∨ o.Kind.v = 4) : insB (fun e => decide (o.Neigh.IP.v < e.IP.v)) (fun e => e.IP.v == o.Neigh.IP.v) o.Neigh n (o.Kind.v == 3) = (afterT ⟨r, n, f⟩ o).N := by
  unfold afterT
  rw [if_neg (by simp; omega), if_pos (by simpa using h)]
theorem afN2 {r : List TRoute} {n : List TNeigh} {f : List TFdb} {o : TOp} (h : o.Kind.v ≠ 3 ∧ o.Kind.v ≠ 4) : n = (afterT ⟨r, n, f⟩ o).N := by
  unfold afterT
  split
  · rfl
  · rw [if_neg (by simpa using h)]
    split <;> rfl
theorem afF1 {r : List TRoute} {n : List TNeigh} {f : List TFdb} {o : TOp} (h : o.Kind.v = 5 ∨ o.Kind.v = 6) : insB (fun e => decide (weightM o.Fdb.MAC < weightM e.MAC)) (fun e => decide (e.MAC = o.Fdb.MAC)) o.Fdb f (o.Kind.v == 5) = (afterT ⟨r, n, f⟩ o).F := by
  unfold afterT
  rw [if_neg (by simp; omega), if_neg (by simp; omega), if_pos (by simpa using h)]
theorem afF2 {r : List TRoute} {n : List TNeigh} {f : List TFdb} {o : TOp} (h : o.Kind.v ≠ 5 ∧ o.Kind.v ≠ 6) : f = (afterT ⟨r, n, f⟩ o).F := by
  unfold afterT
  split
  · rfl
  · split
    · rfl
    · rw [if_neg (by simpa using h)]
end
end Go.Proofs.YtnbpodjbemfpbaaGreat.Fw
