/-
  Plain laws of AgentPlanWhole: a plan is in order and whole, a route for each valid subnet, the last lease of a key decides.
-/
import Derived.Test.YtnbpodjbemfpbaaGreatPl5
set_option linter.all false
namespace Go.Proofs.YtnbpodjbemfpbaaGreat.Fw
open Go
/-! tables made of lists -/
section
variable {α κ : Type} [DecidableEq κ] {lt : κ → κ → Bool} (O : KO κ lt) (key : α → κ)
def tab (lt : κ → κ → Bool) (key : α → κ) (l : List α) : List α := l.foldl (fun t y => put lt key y t) []
include O in
theorem tab_spec (l : List α) : Srt lt key (tab lt key l) ∧ ∀ q, lkp key q (tab lt key l) = lkp key q l.reverse := by
  have h1 : ∀ (l t : List α), Srt lt key t → Srt lt key (l.foldl (fun t y => put lt key y t) t) ∧ ∀ q, lkp key q (l.foldl (fun t y => put lt key y t) t) = (lkp key q l.reverse).or (lkp key q t) := by
    intro l
    induction l with
    | nil => intro t h; exact ⟨h, fun q => by simp [lkp]⟩
    | cons y l ih =>
      intro t h
      have := ih _ (put_srt O key (x := y) h)
      refine ⟨this.1, fun q => ?_⟩
      simp only [List.foldl_cons]
      rw [this.2 q, put_lkp O key h]
      simp only [lkp, List.reverse_cons, List.find?_append, List.find?_cons, List.find?_nil]
      by_cases hq : key y = q <;> simp [hq]
  have h := h1 l [] (by simp [Srt])
  exact ⟨h.1, fun q => by rw [tab, h.2 q]; simp [lkp]⟩
theorem tab_mem {e : α} : ∀ (l t : List α), e ∈ l.foldl (fun t y => put lt key y t) t → e ∈ t ∨ e ∈ l
  | [], t, h => .inl h
  | y :: l, t, h => by
    rcases tab_mem l _ h with h | h
    · rcases put_mem key h with rfl | h
      · exact .inr (by simp)
      · exact .inl h
    · exact .inr (by simp [h])
theorem put_len {x : α} : ∀ {l : List α}, (∀ e ∈ l, key e ≠ key x) → (put lt key x l).length = l.length + 1
  | [], _ => rfl
  | e :: l, h => by
    simp only [put]
    split
    · rfl
    · rw [if_neg (h e (by simp))]
      have ih := put_len (l := l) fun e he => h e (by simp [he])
      simp [ih]
def cntL (key : α → κ) : List α → Nat
  | [] => 0
  | x :: r => cntL key r + (if r.any fun e => decide (key e = key x) then 0 else 1)
include O in
theorem tab_len : ∀ l : List α, (tab lt key l).length = cntL key l := by
  intro l
  rw [tab, fold_put O key]
  induction l with
  | nil => rfl
  | cons x r ih =>
    rw [List.reverse_cons, List.foldl_append]
    simp only [List.foldl_cons, List.foldl_nil, cntL]
    rw [← ih]
    rw [← fold_put O key]
    have hs := tab_spec O key r
    unfold tab at hs
    unfold putN
    have e1 : ((r.foldl (fun t y => put lt key y t) []).any fun e => decide (key e = key x)) = r.any fun e => decide (key e = key x) := by
      have h2 := hs.2 (key x)
      have h3 : ∀ m : List α, (m.any fun e => decide (key e = key x)) = (lkp key (key x) m).isSome := by
        intro m
        unfold lkp
        induction m with
        | nil => rfl
        | cons a m ih =>
          simp only [List.any_cons, List.find?_cons]
          by_cases ha : key a = key x
          · simp [ha]
          · simpa [ha] using ih
      rw [h3, h2, ← h3, List.any_reverse]
    rw [e1]
    cases ha : r.any fun e => decide (key e = key x) with
    | true => simp
    | false =>
      simp only [Bool.false_eq_true, if_false]
      rw [put_len]
      intro e he hk
      have h3 : ((r.foldl (fun t y => put lt key y t) []).any fun e => decide (key e = key x)) = true := List.any_eq_true.2 ⟨e, he, by simpa using hk⟩
      rw [e1, ha] at h3
      cases h3
include O in
theorem tab_last {a r : List α} {x : α} (h : (r.any fun e => decide (key e = key x)) = false) : x ∈ tab lt key (a ++ x :: r) := by
  have hs := tab_spec O key (a ++ x :: r)
  have h1 := hs.2 (key x)
  have h2 : lkp key (key x) (a ++ x :: r).reverse = some x := by
    rw [List.reverse_append, List.reverse_cons]
    unfold lkp
    rw [List.find?_append, List.find?_append]
    have : List.find? (fun e => decide (key e = key x)) r.reverse = none := by
      rw [List.find?_eq_none]
      intro e he
      have := List.any_eq_false.1 h e (List.mem_reverse.1 he)
      simpa using this
    rw [this]
    simp
  rw [h2] at h1
  exact List.mem_of_find?_eq_some h1
include O in
theorem srt_nodup [DecidableEq α] {l : List α} (h : Srt lt key l) : l.Nodup := by
  refine List.Pairwise.imp (fun {a b} hab => ?_) h
  rintro rfl
  rw [O.irr] at hab
  cases hab
end
/-! the plan as tables -/
theorem fold_tab {α κ : Type} [DecidableEq κ] {lt : κ → κ → Bool} (O : KO κ lt) (key : α → κ) {c : α → α → Fx .i64} (hc1 : ∀ e x, (c e x).v < 0 ↔ lt (key e) (key x) = true) (hc0 : ∀ e x, (c e x).v = 0 ↔ key e = key x) (l : List α) : l.foldl (fun t y => setM c t y) [] = tab lt key l :=
  (fold_set O key hc1 hc0 l [] (by simp [Srt])).1
theorem planM_tab (l : List TLease) (host : Int) : planM l host = ⟨tab lowerM kR (l.filterMap (rOf host)), tab ltA kN (l.filterMap (nOf host)), tab ltW kF (l.filterMap (fOf host))⟩ := by
  unfold planM
  rw [foldA]
  simp only [TB.mk.injEq]
  exact ⟨fold_tab koPrefix kR cR1 cR0 _, fold_tab koAddr kN cN1 cN0 _, fold_tab koMAC kF cF1 cF0 _⟩
theorem planM_ord (l : List TLease) (host : Int) : Ord (planM l host).R (planM l host).N (planM l host).F := by
  rw [planM_tab]
  refine ⟨fun e he => ?_, (tab_spec koPrefix kR _).1, (tab_spec koAddr kN _).1, (tab_spec koMAC kF _).1⟩
  rcases tab_mem kR _ _ he with h | h
  · cases h
  · obtain ⟨x, hx, hr⟩ := List.mem_filterMap.1 h
    unfold rOf at hr
    cases hv : validM x.Subnet with
    | false => simp [hv] at hr
    | true =>
      cases hh : x.Host.v == host with
      | true => simp [hv, hh] at hr; rw [← hr]; exact hv
      | false => simp [hv, hh] at hr; rw [← hr]; exact hv
theorem planM_ordered (l : List TLease) (host : Int) : orderedM (planM l host).R (planM l host).N (planM l host).F = true := ordered_ord.2 (planM_ord l host)
def wholeN (f : List TFdb) (e : TRoute) (x : TNeigh) : Bool := (x.IP.v == e.Via.v) && f.any fun y => decide (y.MAC = x.MAC)
def wholeE (n : List TNeigh) (f : List TFdb) (e : TRoute) : Bool := e.Local || n.any (wholeN f e)
def wholeM (r : List TRoute) (n : List TNeigh) (f : List TFdb) : Bool := r.all (wholeE n f)
theorem lkp_some_of {α κ : Type} [DecidableEq κ] {key : α → κ} {l : List α} {x : α} {q : κ} (h : x ∈ l) (hk : key x = q) : ∃ y ∈ l, lkp key q l = some y ∧ key y = q := by
  cases hl : lkp key q l with
  | none =>
    have := List.find?_eq_none.1 hl x h
    simp [hk] at this
  | some y => exact ⟨y, List.mem_of_find?_eq_some hl, rfl, lkp_key hl⟩
theorem planM_whole (l : List TLease) (host : Int) : wholeM (planM l host).R (planM l host).N (planM l host).F = true := by
  rw [planM_tab]
  unfold wholeM
  rw [List.all_eq_true]
  intro e he
  unfold wholeE
  rcases tab_mem kR _ _ he with h | h
  · cases h
  obtain ⟨x, hx, hr⟩ := List.mem_filterMap.1 h
  unfold rOf at hr
  cases hv : validM x.Subnet with
  | false => simp [hv] at hr
  | true =>
    cases hh : x.Host.v == host with
    | true => simp [hv, hh] at hr; rw [← hr]; rfl
    | false =>
      simp [hv, hh] at hr
      have hn : nOf host x = some ⟨x.Subnet.Addr, x.MAC⟩ := by simp [nOf, hv, hh]
      have hm : (⟨x.Subnet.Addr, x.MAC⟩ : TNeigh) ∈ (l.filterMap (nOf host)).reverse := List.mem_reverse.2 (List.mem_filterMap.2 ⟨x, hx, hn⟩)
      obtain ⟨y, hy, hy1, hy2⟩ := lkp_some_of (key := kN) hm rfl
      have hyl := List.mem_of_find?_eq_some (((tab_spec koAddr kN (l.filterMap (nOf host))).2 x.Subnet.Addr).trans hy1)
      obtain ⟨z, hz, hzn⟩ := List.mem_filterMap.1 (List.mem_reverse.1 hy)
      have hzv : validM z.Subnet = true ∧ (z.Host.v == host) = false ∧ (⟨z.Subnet.Addr, z.MAC⟩ : TNeigh) = y := by
        unfold nOf at hzn
        cases hv : validM z.Subnet with
        | false => simp [hv] at hzn
        | true =>
          cases hh : z.Host.v == host with
          | true => simp [hv, hh] at hzn
          | false => simp [hv, hh] at hzn; exact ⟨rfl, rfl, hzn⟩
      have hf : fOf host z = some ⟨z.MAC, z.Pub⟩ := by simp [fOf, hzv.1, hzv.2.1]
      have hm2 : (⟨z.MAC, z.Pub⟩ : TFdb) ∈ (l.filterMap (fOf host)).reverse := List.mem_reverse.2 (List.mem_filterMap.2 ⟨z, hz, hf⟩)
      obtain ⟨u, hu, hu1, hu2⟩ := lkp_some_of (key := kF) hm2 rfl
      have hul := List.mem_of_find?_eq_some (((tab_spec koMAC kF (l.filterMap (fOf host))).2 z.MAC).trans hu1)
      rw [← hr]
      simp only [Bool.false_or]
      rw [List.any_eq_true]
      refine ⟨y, hyl, ?_⟩
      unfold wholeN
      have e1 : y.IP = x.Subnet.Addr := hy2
      have e2 : u.MAC = y.MAC := by
        rw [← hzv.2.2]
        exact hu2
      simp only [e1, beq_self_eq_true, Bool.true_and, List.any_eq_true]
      exact ⟨u, hul, by simp [e2]⟩
/-! the last lease of a key -/
def pR (x e : TLease) : Bool := !validR e.Subnet || !decide (e.Subnet = x.Subnet)
def pN (host : Int) (x e : TLease) : Bool := !validR e.Subnet || ((e.Host.v == host) || (e.Subnet.Addr.v != x.Subnet.Addr.v))
def pF (host : Int) (x e : TLease) : Bool := !validR e.Subnet || ((e.Host.v == host) || !decide (e.MAC = x.MAC))
def viaOf (host : Int) (x : TLease) : Fx .u32 := if x.Host.v == host then ⟨0, rfl⟩ else x.Subnet.Addr
def cntR : List TLease → Int
  | [] => 0
  | x :: r => cntR r + (bif validR x.Subnet && r.all (pR x) then 1 else 0)
def cntN (host : Int) (N : List TNeigh) : List TLease → Int
  | [] => 0
  | x :: r => cntN host N r + (bif validR x.Subnet && ((x.Host.v != host) && r.all (pN host x)) then (N.count ⟨x.Subnet.Addr, x.MAC⟩ : Int) else 0)
def cntF (host : Int) (F : List TFdb) : List TLease → Int
  | [] => 0
  | x :: r => cntF host F r + (bif validR x.Subnet && ((x.Host.v != host) && r.all (pF host x)) then (F.count ⟨x.MAC, x.Pub⟩ : Int) else 0)
theorem rOf_eq {host : Int} {x : TLease} : rOf host x = if validR x.Subnet then some ⟨x.Subnet, viaOf host x, x.Host.v == host⟩ else none := by
  unfold rOf viaOf
  rw [← valid_eq]
  cases validM x.Subnet <;> cases x.Host.v == host <;> rfl
theorem nOf_eq {host : Int} {x : TLease} : nOf host x = if validR x.Subnet && (x.Host.v != host) then some ⟨x.Subnet.Addr, x.MAC⟩ else none := by
  unfold nOf
  rw [← valid_eq]
  cases hv : validM x.Subnet with
  | false => simp
  | true =>
    cases hh : x.Host.v == host with
    | true => simp [bne, hh]
    | false => simp [bne, hh]
theorem fOf_eq {host : Int} {x : TLease} : fOf host x = if validR x.Subnet && (x.Host.v != host) then some ⟨x.MAC, x.Pub⟩ else none := by
  unfold fOf
  rw [← valid_eq]
  cases hv : validM x.Subnet with
  | false => simp
  | true =>
    cases hh : x.Host.v == host with
    | true => simp [bne, hh]
    | false => simp [bne, hh]
theorem anyR {host : Int} {x : TLease} {y : TRoute} (hy : y.Dst = x.Subnet) : ∀ r : List TLease, ((r.filterMap (rOf host)).any fun e => decide (kR e = kR y)) = !(r.all (pR x))
  | [] => rfl
  | z :: r => by
    rw [List.filterMap_cons, rOf_eq]
    cases hv : validR z.Subnet with
    | false => simp only [Bool.false_eq_true, if_false, List.all_cons, pR, hv]; rw [anyR hy r]; simp
    | true =>
      simp only [if_true, List.any_cons, List.all_cons, pR, hv, kR, hy, Bool.not_true, Bool.false_or]
      rw [show ((r.filterMap (rOf host)).any fun e => decide (e.Dst = x.Subnet)) = !(r.all (pR x)) from by have := anyR (host := host) hy r; simpa only [kR, hy] using this]
      simp
theorem anyN {host : Int} {x : TLease} {y : TNeigh} (hy : y.IP = x.Subnet.Addr) : ∀ r : List TLease, ((r.filterMap (nOf host)).any fun e => decide (kN e = kN y)) = !(r.all (pN host x))
  | [] => rfl
  | z :: r => by
    rw [List.filterMap_cons, nOf_eq]
    have ih := anyN hy (host := host) r
    simp only [kN, hy] at ih ⊢
    have hd : (z.Subnet.Addr.v != x.Subnet.Addr.v) = !decide (z.Subnet.Addr = x.Subnet.Addr) := by
      by_cases h : z.Subnet.Addr = x.Subnet.Addr
      · simp [h]
      · have : ¬ z.Subnet.Addr.v = x.Subnet.Addr.v := fun hv => h (Fx.ext hv)
        simp [h, this]
    cases hv : validR z.Subnet with
    | false => simp only [Bool.false_and, Bool.false_eq_true, if_false, List.all_cons, pN, hv]; rw [ih]; simp
    | true =>
      cases hh : z.Host.v == host with
      | true => simp only [bne, hh, Bool.not_true, Bool.and_false, Bool.false_eq_true, if_false, List.all_cons, pN, hv]; rw [ih]; simp
      | false =>
        simp only [bne, hh, Bool.not_false, Bool.and_true, if_true, List.any_cons, List.all_cons, pN, hv, Bool.not_true, Bool.false_or]
        rw [ih]
        simp only [bne] at hd
        rw [hd]
        simp
theorem anyF {host : Int} {x : TLease} {y : TFdb} (hy : y.MAC = x.MAC) : ∀ r : List TLease, ((r.filterMap (fOf host)).any fun e => decide (kF e = kF y)) = !(r.all (pF host x))
  | [] => rfl
  | z :: r => by
    rw [List.filterMap_cons, fOf_eq]
    have ih := anyF hy (host := host) r
    simp only [kF, hy] at ih ⊢
    cases hv : validR z.Subnet with
    | false => simp only [Bool.false_and, Bool.false_eq_true, if_false, List.all_cons, pF, hv]; rw [ih]; simp
    | true =>
      cases hh : z.Host.v == host with
      | true => simp only [bne, hh, Bool.not_true, Bool.and_false, Bool.false_eq_true, if_false, List.all_cons, pF, hv]; rw [ih]; simp
      | false =>
        simp only [bne, hh, Bool.not_false, Bool.and_true, if_true, List.any_cons, List.all_cons, pF, hv, Bool.not_true, Bool.false_or]
        rw [ih]
        simp
theorem cntR_tab (host : Int) : ∀ l : List TLease, cntR l = ((tab lowerM kR (l.filterMap (rOf host))).length : Int) := by
  intro l
  rw [tab_len koPrefix]
  induction l with
  | nil => rfl
  | cons x r ih =>
    rw [List.filterMap_cons, rOf_eq, cntR, ih]
    cases hv : validR x.Subnet with
    | false => simp
    | true =>
      simp only [if_true, cntL, Bool.true_and]
      have h := anyR (host := host) (x := x) (y := ⟨x.Subnet, viaOf host x, x.Host.v == host⟩) rfl r
      rw [h]
      cases r.all (pR x) <;> simp
theorem cntN_tab (host : Int) (l : List TLease) : cntN host (tab ltA kN (l.filterMap (nOf host))) l = ((tab ltA kN (l.filterMap (nOf host))).length : Int) := by
  have key : ∀ (s p : List TLease), p ++ s = l → cntN host (tab ltA kN (l.filterMap (nOf host))) s = (cntL kN (s.filterMap (nOf host)) : Int) := by
    intro s
    induction s with
    | nil => intro p _; rfl
    | cons x r ih =>
      intro p hp
      rw [List.filterMap_cons, nOf_eq, cntN, ih (p ++ [x]) (by simp [hp])]
      cases hv : validR x.Subnet && (x.Host.v != host) with
      | false =>
        simp only [Bool.false_eq_true, if_false]
        rw [← Bool.and_assoc, hv]
        simp
      | true =>
        rw [← Bool.and_assoc, hv]
        simp only [if_true, cntL, Bool.true_and]
        have h := anyN (host := host) (x := x) (y := ⟨x.Subnet.Addr, x.MAC⟩) rfl r
        rw [h]
        cases ha : r.all (pN host x) with
        | false => simp
        | true =>
          have hmem : (⟨x.Subnet.Addr, x.MAC⟩ : TNeigh) ∈ tab ltA kN (l.filterMap (nOf host)) := by
            rw [← hp, List.filterMap_append, List.filterMap_cons, nOf_eq, hv]
            simp only [if_true]
            exact tab_last koAddr kN (by rw [h, ha]; rfl)
          have h1 := (srt_nodup koAddr kN (tab_spec koAddr kN (l.filterMap (nOf host))).1).count (a := (⟨x.Subnet.Addr, x.MAC⟩ : TNeigh))
          rw [if_pos hmem] at h1
          simp [h1]
  rw [tab_len koAddr]
  rw [key l [] rfl]
theorem cntF_tab (host : Int) (l : List TLease) : cntF host (tab ltW kF (l.filterMap (fOf host))) l = ((tab ltW kF (l.filterMap (fOf host))).length : Int) := by
  have key : ∀ (s p : List TLease), p ++ s = l → cntF host (tab ltW kF (l.filterMap (fOf host))) s = (cntL kF (s.filterMap (fOf host)) : Int) := by
    intro s
    induction s with
    | nil => intro p _; rfl
    | cons x r ih =>
      intro p hp
      rw [List.filterMap_cons, fOf_eq, cntF, ih (p ++ [x]) (by simp [hp])]
      cases hv : validR x.Subnet && (x.Host.v != host) with
      | false =>
        simp only [Bool.false_eq_true, if_false]
        rw [← Bool.and_assoc, hv]
        simp
      | true =>
        rw [← Bool.and_assoc, hv]
        simp only [if_true, cntL, Bool.true_and]
        have h := anyF (host := host) (x := x) (y := ⟨x.MAC, x.Pub⟩) rfl r
        rw [h]
        cases ha : r.all (pF host x) with
        | false => simp
        | true =>
          have hmem : (⟨x.MAC, x.Pub⟩ : TFdb) ∈ tab ltW kF (l.filterMap (fOf host)) := by
            rw [← hp, List.filterMap_append, List.filterMap_cons, fOf_eq, hv]
            simp only [if_true]
            exact tab_last koMAC kF (by rw [h, ha]; rfl)
          have h1 := (srt_nodup koMAC kF (tab_spec koMAC kF (l.filterMap (fOf host))).1).count (a := (⟨x.MAC, x.Pub⟩ : TFdb))
          rw [if_pos hmem] at h1
          simp [h1]
  rw [tab_len koMAC]
  rw [key l [] rfl]
theorem cntR_plan (l : List TLease) (host : Int) : cntR l = ((planM l host).R.length : Int) := by rw [planM_tab]; exact cntR_tab host l
theorem cntN_plan (l : List TLease) (host : Int) : cntN host (planM l host).N l = ((planM l host).N.length : Int) := by rw [planM_tab]; exact cntN_tab host l
theorem cntF_plan (l : List TLease) (host : Int) : cntF host (planM l host).F l = ((planM l host).F.length : Int) := by rw [planM_tab]; exact cntF_tab host l
theorem planM_len (l : List TLease) (host : Int) : (planM l host).R.length ≤ l.length ∧ (planM l host).N.length ≤ l.length ∧ (planM l host).F.length ≤ l.length := by
  have h := planK_len l host l.length
  rw [planK_end (Nat.le_refl _)] at h
  exact h
/-! the walk's words -/
@[irreducible] def lastK (p : TLease → Bool) (l : List TLease) (i j : Nat) : Bool := ((l.take j).drop (i + 1)).all p
section
variable {l : List TLease} {host : Int} {x e : TLease} {p : TLease → Bool} {i j k k4 : Nat} {b b0 c : Bool} {N : List TNeigh} {F : List TFdb} {cr cn cn4 : Int}
theorem lastK_0 : true = lastK p l i (i + 1) := by
  unfold lastK
  rw [List.drop_eq_nil_of_le (by simp; omega)]
  rfl
theorem lastK_succ (h : l[j]? = some e) (hj : i + 1 ≤ j) : lastK p l i (j + 1) = (lastK p l i j && p e) := by
  unfold lastK
  have hlt : j < l.length := (List.getElem?_eq_some_iff.1 h).1
  rw [List.take_add_one, h, Option.toList_some, List.drop_append_of_le_length (by simp; omega)]
  simp
theorem lastK_end (hj : l.length ≤ j) : lastK p l i j = (l.drop (i + 1)).all p := by
  unfold lastK
  rw [List.take_of_length_le hj]
theorem lastK_step (h : l[j]? = some e) (hj : i + 1 ≤ j) (hp : p e = c) (hb : b = lastK p l i j) : (b && c) = lastK p l i (j + 1) := by rw [lastK_succ h hj, hb, hp]
theorem lastK_skip (h : l[j]? = some e) (hj : i + 1 ≤ j) (hp : p e = true) (hb : b = lastK p l i j) : b = lastK p l i (j + 1) := by rw [lastK_succ h hj, hb, hp, Bool.and_true]
theorem lastK2_0 : b0 = (b0 && lastK p l i (i + 1)) := by rw [← lastK_0, Bool.and_true]
theorem lastK2_step (h : l[j]? = some e) (hj : i + 1 ≤ j) (hp : p e = c) (hb : b = (b0 && lastK p l i j)) : (b && c) = (b0 && lastK p l i (j + 1)) := by rw [lastK_succ h hj, hb, hp, Bool.and_assoc]
theorem lastK2_skip (h : l[j]? = some e) (hj : i + 1 ≤ j) (hp : p e = true) (hb : b = (b0 && lastK p l i j)) : b = (b0 && lastK p l i (j + 1)) := by rw [lastK_succ h hj, hb, hp, Bool.and_true]
theorem pR_t (h : (!validR e.Subnet) = true) : pR x e = true := by simp [pR] at *; simp [h]
theorem pN_t (h : (!validR e.Subnet) = true) : pN host x e = true := by simp [pN] at *; simp [h]
theorem pF_t (h : (!validR e.Subnet) = true) : pF host x e = true := by simp [pF] at *; simp [h]
theorem pR_f (h : (!validR e.Subnet) = false) : pR x e = !decide (e.Subnet = x.Subnet) := by unfold pR; rw [h]; rfl
theorem pN_f (h : (!validR e.Subnet) = false) : pN host x e = ((e.Host.v == host) || (e.Subnet.Addr.v != x.Subnet.Addr.v)) := by unfold pN; rw [h]; rfl
theorem pF_f (h : (!validR e.Subnet) = false) : pF host x e = ((e.Host.v == host) || !decide (e.MAC = x.MAC)) := by unfold pF; rw [h]; rfl
theorem drop_cons (h : l[k]? = some e) : l.drop k = e :: l.drop (k + 1) := by
  obtain ⟨h1, h2⟩ := List.getElem?_eq_some_iff.1 h
  rw [List.drop_eq_getElem_cons h1, h2]
theorem cntR_skip (h : l[k]? = some e) (hv : (!validR e.Subnet) = true) : cntR (l.drop k) = cntR (l.drop (k + 1)) := by
  rw [drop_cons h, cntR]
  simp at hv
  simp [hv]
theorem cntR_last (h : l[k]? = some e) (hv : (!validR e.Subnet) = false) (hb : b = lastK (pR e) l k j) (hj : l.length ≤ j) (ht : b = true) : cntR (l.drop k) = cntR (l.drop (k + 1)) + 1 := by
  rw [drop_cons h, cntR]
  rw [lastK_end hj] at hb
  simp at hv
  rw [← hb, ht, hv]
  rfl
theorem cntR_not (h : l[k]? = some e) (hv : (!validR e.Subnet) = false) (hb : b = lastK (pR e) l k j) (hj : l.length ≤ j) (ht : b = false) : cntR (l.drop k) = cntR (l.drop (k + 1)) := by
  rw [drop_cons h, cntR]
  rw [lastK_end hj] at hb
  rw [← hb, ht]
  simp
theorem cntN_skip (h : l[k]? = some e) (hv : (!validR e.Subnet) = true) : cntN host N (l.drop k) = cntN host N (l.drop (k + 1)) := by
  rw [drop_cons h, cntN]
  simp at hv
  simp [hv]
theorem cntF_skip (h : l[k]? = some e) (hv : (!validR e.Subnet) = true) : cntF host F (l.drop k) = cntF host F (l.drop (k + 1)) := by
  rw [drop_cons h, cntF]
  simp at hv
  simp [hv]
theorem cntN_round (h : l[k]? = some e) (hv : (!validR e.Subnet) = false) (hb : b = ((e.Host.v != host) && lastK (pN host e) l k j)) (hj : l.length ≤ j) (hx : b = false ∨ (N.length : Int) ≤ (k4 : Int)) (hz : b = true ∨ k4 = 0)
    (hc : cn4 = cn + ((N.take k4).count ⟨e.Subnet.Addr, e.MAC⟩ : Int)) : cn4 + cntN host N (l.drop (k + 1)) = cn + cntN host N (l.drop k) := by
  rw [drop_cons h, cntN]
  rw [lastK_end hj] at hb
  simp at hv
  rw [hv, Bool.true_and, ← hb, hc]
  cases hbb : b with
  | false =>
    have : k4 = 0 := by rcases hz with hz | hz; rw [hbb] at hz; cases hz; exact hz
    subst this
    simp
  | true =>
    rcases hx with hx | hx
    · rw [hbb] at hx; cases hx
    rw [List.take_of_length_le (by omega)]
    simp only [cond_true]
    omega
theorem cntF_round (h : l[k]? = some e) (hv : (!validR e.Subnet) = false) (hb : b = ((e.Host.v != host) && lastK (pF host e) l k j)) (hj : l.length ≤ j) (hx : b = false ∨ (F.length : Int) ≤ (k4 : Int)) (hz : b = true ∨ k4 = 0)
    (hc : cn4 = cn + ((F.take k4).count ⟨e.MAC, e.Pub⟩ : Int)) : cn4 + cntF host F (l.drop (k + 1)) = cn + cntF host F (l.drop k) := by
  rw [drop_cons h, cntF]
  rw [lastK_end hj] at hb
  simp at hv
  rw [hv, Bool.true_and, ← hb, hc]
  cases hbb : b with
  | false =>
    have : k4 = 0 := by rcases hz with hz | hz; rw [hbb] at hz; cases hz; exact hz
    subst this
    simp
  | true =>
    rcases hx with hx | hx
    · rw [hbb] at hx; cases hx
    rw [List.take_of_length_le (by omega)]
    simp only [cond_true]
    omega
theorem plan_routed (h : l[k]? = some e) (hv : (!validR e.Subnet) = false) (hb : b = lastK (pR e) l k j) (hj : l.length ≤ j) (ht : b = true) {r : TRoute} (hr : r = ⟨e.Subnet, viaOf host e, e.Host.v == host⟩) : decide (r ∈ (planM l host).R) = true := by
  rw [lastK_end hj, ht] at hb
  rw [planM_tab]
  simp only [decide_eq_true_eq]
  simp at hv
  have h2 := anyR (host := host) (x := e) (y := ⟨e.Subnet, viaOf host e, e.Host.v == host⟩) rfl (l.drop (k + 1))
  rw [← hb] at h2
  have hm := tab_last koPrefix kR (a := (l.take k).filterMap (rOf host)) h2
  have e1 : l.filterMap (rOf host) = (l.take k).filterMap (rOf host) ++ ⟨e.Subnet, viaOf host e, e.Host.v == host⟩ :: (l.drop (k + 1)).filterMap (rOf host) := by
    conv => lhs; rw [← List.take_append_drop k l, drop_cons h, List.filterMap_append, List.filterMap_cons, rOf_eq, hv]
    rfl
  rw [e1, hr]
  exact hm
theorem cntR_nn : ∀ l : List TLease, 0 ≤ cntR l
  | [] => Int.le_refl _
  | x :: r => by
    have := cntR_nn r
    rw [cntR]
    cases validR x.Subnet && r.all (pR x) <;> simp <;> omega
theorem cntN_nn (host : Int) (N : List TNeigh) : ∀ l : List TLease, 0 ≤ cntN host N l
  | [] => Int.le_refl _
  | x :: r => by
    have := cntN_nn host N r
    rw [cntN]
    cases validR x.Subnet && ((x.Host.v != host) && r.all (pN host x)) <;> simp <;> omega
theorem cntF_nn (host : Int) (F : List TFdb) : ∀ l : List TLease, 0 ≤ cntF host F l
  | [] => Int.le_refl _
  | x :: r => by
    have := cntF_nn host F r
    rw [cntF]
    cases validR x.Subnet && ((x.Host.v != host) && r.all (pF host x)) <;> simp <;> omega
theorem cnt_bounds {cf : Int} (hr : cr + cntR (l.drop k) = cntR l) (hn : cn + cntN host (planM l host).N (l.drop k) = cntN host (planM l host).N l) (hf : cf + cntF host (planM l host).F (l.drop k) = cntF host (planM l host).F l)
    (hpl : (planM l host).R.length ≤ l.length ∧ (planM l host).N.length ≤ l.length ∧ (planM l host).F.length ≤ l.length) : cr ≤ (l.length : Int) ∧ cn ≤ (l.length : Int) ∧ cf ≤ (l.length : Int) := by
  have h1 := cntR_nn (l.drop k)
  have h2 := cntN_nn host (planM l host).N (l.drop k)
  have h3 := cntF_nn host (planM l host).F (l.drop k)
  rw [cntR_plan l host] at hr
  rw [cntN_plan] at hn
  rw [cntF_plan] at hf
  omega
theorem via_t (h : e.Host.v ≠ host) : viaOf host e = e.Subnet.Addr := by simp [viaOf, h]
theorem via_f (h : e.Host.v = host) : viaOf host e = ⟨0, rfl⟩ := by simp [viaOf, h]
end
section
variable {α : Type} {l : List α} {p : α → Bool} {k : Nat} {e : α}
theorem any_take_succ (h : l[k]? = some e) : (l.take (k + 1)).any p = ((l.take k).any p || p e) := by
  rw [List.take_add_one, h]
  simp
theorem all_take_succ (h : l[k]? = some e) : (l.take (k + 1)).all p = ((l.take k).all p && p e) := by
  rw [List.take_add_one, h]
  simp
theorem any_take_end (hk : l.length ≤ k) : (l.take k).any p = l.any p := by rw [List.take_of_length_le hk]
theorem all_take_end (hk : l.length ≤ k) : (l.take k).all p = l.all p := by rw [List.take_of_length_le hk]
theorem count_take_succ [DecidableEq α] {q : α} (h : l[k]? = some e) : ((l.take (k + 1)).count q : Int) = ((l.take k).count q : Int) + (bif decide (e = q) then 1 else 0) := by
  rw [List.take_add_one, h, Option.toList_some, List.count_append]
  by_cases hq : e = q
  · subst hq; simp
  · simp [hq]
theorem count_take_le [DecidableEq α] {q : α} : ((l.take k).count q : Int) ≤ (k : Int) ∧ (0 : Int) ≤ ((l.take k).count q : Int) := by
  have h1 := List.count_le_length (a := q) (l := l.take k)
  simp only [List.length_take] at h1
  omega
theorem all_false (h : l[k]? = some e) (hp : p e = false) : l.all p = false := by
  rw [List.all_eq_false]
  exact ⟨e, List.mem_of_getElem? h, by simp [hp]⟩
end
theorem shl_pow {n : Int} (h0 : 0 ≤ n) (h1 : n ≤ 32) : IntKind.i64.wrap (1 * 2 ^ (min n.toNat 64)) = (2 ^ n.toNat : Int) := by
  rw [show min n.toNat 64 = n.toNat by omega, Int.one_mul]
  have h2 : (2 : Int) ^ n.toNat ≤ 2 ^ 32 := by
    have := Nat.pow_le_pow_right (n := 2) (by omega) (show n.toNat ≤ 32 by omega)
    exact_mod_cast this
  have h3 : (0 : Int) < (2 : Int) ^ n.toNat := Int.pow_pos (by omega)
  exact wrap_i64 (by omega) (by omega)
theorem tm_eq (a : Int) : (a == 0) = ((if a ≠ 0 then (12 : Int) else 0) == 0) := by
  by_cases h : a = 0 <;> simp [h]
theorem planWhole_end {l : List TLease} {host : Int} {k : Nat} {ok : Bool} {cr cn cf : Int} (hk : l.length ≤ k) (ho : ok = true) (hr : cr + cntR (l.drop k) = cntR l) (hn : cn + cntN host (planM l host).N (l.drop k) = cntN host (planM l host).N l) (hf : cf + cntF host (planM l host).F (l.drop k) = cntF host (planM l host).F l) :
    (((ok && (cr == ((planM l host).R.length : Int))) && (cn == ((planM l host).N.length : Int))) && (cf == ((planM l host).F.length : Int))) = true := by
  rw [List.drop_eq_nil_of_le hk] at hr hn hf
  rw [cntR_plan l host, cntR, Int.add_zero] at hr
  rw [cntN_plan, cntN, Int.add_zero] at hn
  rw [cntF_plan, cntF, Int.add_zero] at hf
  simp [ho, hr, hn, hf]
end Go.Proofs.YtnbpodjbemfpbaaGreat.Fw
