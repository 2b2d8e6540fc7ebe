/-
  Own work: walks and laws, joined by wip/tool/compact.py.
-/
import Derived.Test.YtnbpodjbemfpbaaGreatG8
import Derived.KernelRfl
set_option linter.all false
set_option linter.all false
set_option maxHeartbeats 4000000
set_option maxRecDepth 100000
namespace Go.Proofs.YtnbpodjbemfpbaaGreat.Fw
open Go
theorem aD3 (vx:SH) (x:List bD) (t:bD) (w0:World) (hx:RdS (hh w0) 4 vx.v (x.map aM)):iL Tryz.prog 112 [vx.v,.agg ⟨aM t⟩,.func (.func 45) ⟨[]⟩ ⟨[]⟩] (.tuple ⟨[.agg ⟨aM (hH bS gE x t)⟩,.bool (fL bS x t)]⟩) w0:=by
 have lvx:=hx.bd
 refine enter (n:=26) Tryz.func112 rfl rfl rfl fun a (hs:St 26 [(0,vx.v),(1,.agg ⟨aM t⟩),(2,.func (.func 45) ⟨[]⟩ ⟨[]⟩)] a)=>?_
 have m:=Hp.start w0
 refine bN ?_
 refine dU (cs:=aM t) hs m rfl rfl rfl fun p1 w2 m a hs=>?_
 refine bZ hs m kK rfl fun p3 w4 m a hs=>?_
 refine bP hs m (x_ gI (e_ (p_ (cN (aM t))) eO)) fun a w_ hs m=>?_
 refine cC hs m rfl rfl aVP rfl (aB0 vx x t _ (m.rd hx) ) rfl fun w5 m a hs=>?_
 refine bP hs m aBW fun a w_ hs m=>?_
 refine aR hs rfl (fun h6=>?_) (fun h6=>?_)
 ·have h6p:=h6;simp only[fK] at h6p
  refine bN ?_
  refine bZ hs m kK rfl fun p7 w8 m a hs=>?_
  refine bP hs m (x_ eO (e_ (p_ (cN (aM (⟨(⟨⟨0,rfl⟩,⟨0,rfl⟩⟩:aT),⟨0,rfl⟩,false⟩:bD)))) (dZ s1 (t:=gI)))) fun a w9 hs m=>?_
  refine bH hs (vs:=[.agg ⟨aM (⟨(⟨⟨0,rfl⟩,⟨0,rfl⟩⟩:aT),⟨0,rfl⟩,false⟩:bD)⟩,.bool false]) rfl ⟨cZ (cs:=aM (⟨(⟨⟨0,rfl⟩,⟨0,rfl⟩⟩:aT),⟨0,rfl⟩,false⟩:bD)) m rfl gG r1 rfl,rfl,trivial⟩ ?_
  refine⟨?_,m.sub .n⟩
  have q10:((⟨(⟨⟨0,rfl⟩,⟨0,rfl⟩⟩:aT),⟨0,rfl⟩,false⟩:bD):bD)=hH bS gE x t:=by clear hs m;(simp [hH, *];rfl)
  have q11:(false:Bool)=fL bS x t:=by clear hs m;simp [hH, *]
  (rw[q10,q11];rfl)
 have h6p:=h6;simp only[fK] at h6p
 refine bT hs m gI fun a w_ hs m=>?_
 obtain⟨e12,he13⟩:=bI (l:=x) (i:=mR (fun e=>(bS e t).v) x) (by exact mA (by assumption))
 refine kE (c:=aM) (e:=e12) hs m (x:=(.tmp 22)) (ix:=(.tmp 23)) rfl rfl eY gG hx (by omega) he13 fun p14 hp15 ok16=>?_
 refine bP hs m (e_ (p_ (ok16 _ _ _ _ _)) (e_ (p_ (cN (aM e12))) (dZ s0 (t:=gC)))) fun a w17 hs m=>?_
 refine bH hs (vs:=[.agg ⟨aM e12⟩,.bool true]) rfl ⟨cZ (cs:=aM e12) m rfl gG r0 rfl,rfl,trivial⟩ ?_
 refine⟨?_,m.sub .n⟩
 have q18:(e12:bD)=hH bS gE x t:=by clear hs m;simp [hH, *]
 have q19:(true:Bool)=fL bS x t:=by clear hs m;simp [hH, *]
 (rw[q18,q19];rfl)
theorem aD2 (vx:SH) (x:List bA) (t:bA) (w0:World) (hx:RdS (hh w0) 7 vx.v (x.map aS)):iL Tryz.prog 114 [vx.v,.agg ⟨aS t⟩,.func (.func 47) ⟨[]⟩ ⟨[]⟩] (.tuple ⟨[.agg ⟨aS (hH bB cW x t)⟩,.bool (fL bB x t)]⟩) w0:=by
 have lvx:=hx.bd
 refine enter (n:=26) Tryz.func114 rfl rfl rfl fun a (hs:St 26 [(0,vx.v),(1,.agg ⟨aS t⟩),(2,.func (.func 47) ⟨[]⟩ ⟨[]⟩)] a)=>?_
 have m:=Hp.start w0
 refine bN ?_
 refine dU (cs:=aS t) hs m rfl rfl rfl fun p1 w2 m a hs=>?_
 refine bZ hs m lW rfl fun p3 w4 m a hs=>?_
 refine bP hs m (x_ gI (e_ (p_ (cN (aS t))) eO)) fun a w_ hs m=>?_
 refine cC hs m rfl rfl aOX rfl (aBZ vx x t _ (m.rd hx) ) rfl fun w5 m a hs=>?_
 refine bP hs m aBW fun a w_ hs m=>?_
 refine aR hs rfl (fun h6=>?_) (fun h6=>?_)
 ·have h6p:=h6;simp only[fK] at h6p
  refine bN ?_
  refine bZ hs m lW rfl fun p7 w8 m a hs=>?_
  refine bP hs m (x_ eO (e_ (p_ (cN (aS (⟨⟨0,rfl⟩,(⟨⟨0,rfl⟩,⟨0,rfl⟩,⟨0,rfl⟩,⟨0,rfl⟩,⟨0,rfl⟩,⟨0,rfl⟩⟩:cK)⟩:bA)))) (dZ s1 (t:=gI)))) fun a w9 hs m=>?_
  refine bH hs (vs:=[.agg ⟨aS (⟨⟨0,rfl⟩,(⟨⟨0,rfl⟩,⟨0,rfl⟩,⟨0,rfl⟩,⟨0,rfl⟩,⟨0,rfl⟩,⟨0,rfl⟩⟩:cK)⟩:bA)⟩,.bool false]) rfl ⟨cZ (cs:=aS (⟨⟨0,rfl⟩,(⟨⟨0,rfl⟩,⟨0,rfl⟩,⟨0,rfl⟩,⟨0,rfl⟩,⟨0,rfl⟩,⟨0,rfl⟩⟩:cK)⟩:bA)) m rfl gQ r1 rfl,rfl,trivial⟩ ?_
  refine⟨?_,m.sub .n⟩
  have q10:((⟨⟨0,rfl⟩,(⟨⟨0,rfl⟩,⟨0,rfl⟩,⟨0,rfl⟩,⟨0,rfl⟩,⟨0,rfl⟩,⟨0,rfl⟩⟩:cK)⟩:bA):bA)=hH bB cW x t:=by clear hs m;(simp [hH, *];rfl)
  have q11:(false:Bool)=fL bB x t:=by clear hs m;simp [hH, *]
  (rw[q10,q11];rfl)
 have h6p:=h6;simp only[fK] at h6p
 refine bT hs m gI fun a w_ hs m=>?_
 obtain⟨e12,he13⟩:=bI (l:=x) (i:=mR (fun e=>(bB e t).v) x) (by exact mA (by assumption))
 refine kE (c:=aS) (e:=e12) hs m (x:=(.tmp 22)) (ix:=(.tmp 23)) rfl rfl fP gQ hx (by omega) he13 fun p14 hp15 ok16=>?_
 refine bP hs m (e_ (p_ (ok16 _ _ _ _ _)) (e_ (p_ (cN (aS e12))) (dZ s0 (t:=gC)))) fun a w17 hs m=>?_
 refine bH hs (vs:=[.agg ⟨aS e12⟩,.bool true]) rfl ⟨cZ (cs:=aS e12) m rfl gQ r0 rfl,rfl,trivial⟩ ?_
 refine⟨?_,m.sub .n⟩
 have q18:(e12:bA)=hH bB cW x t:=by clear hs m;simp [hH, *]
 have q19:(true:Bool)=fL bB x t:=by clear hs m;simp [hH, *]
 (rw[q18,q19];rfl)
theorem aIN (vx:SH) (x:List cH) (t:cH) (w0:World) (hx:RdS (hh w0) 7 vx.v (x.map cB)):iL Tryz.prog 115 [vx.v,.agg ⟨cB t⟩,.func (.func 49) ⟨[]⟩ ⟨[]⟩] (.tuple ⟨[.agg ⟨cB (hH bY gH x t)⟩,.bool (fL bY x t)]⟩) w0:=by
 have lvx:=hx.bd
 refine enter (n:=26) Tryz.func115 rfl rfl rfl fun a (hs:St 26 [(0,vx.v),(1,.agg ⟨cB t⟩),(2,.func (.func 49) ⟨[]⟩ ⟨[]⟩)] a)=>?_
 have m:=Hp.start w0
 refine bN ?_
 refine dU (cs:=cB t) hs m rfl rfl rfl fun p1 w2 m a hs=>?_
 refine bZ hs m lS rfl fun p3 w4 m a hs=>?_
 refine bP hs m (x_ gI (e_ (p_ (cN (cB t))) eO)) fun a w_ hs m=>?_
 refine cC hs m rfl rfl aOY rfl (aGS vx x t _ (m.rd hx) ) rfl fun w5 m a hs=>?_
 refine bP hs m aBW fun a w_ hs m=>?_
 refine aR hs rfl (fun h6=>?_) (fun h6=>?_)
 ·have h6p:=h6;simp only[fK] at h6p
  refine bN ?_
  refine bZ hs m lS rfl fun p7 w8 m a hs=>?_
  refine bP hs m (x_ eO (e_ (p_ (cN (cB (⟨(⟨⟨0,rfl⟩,⟨0,rfl⟩,⟨0,rfl⟩,⟨0,rfl⟩,⟨0,rfl⟩,⟨0,rfl⟩⟩:cK),⟨0,rfl⟩⟩:cH)))) (dZ s1 (t:=gI)))) fun a w9 hs m=>?_
  refine bH hs (vs:=[.agg ⟨cB (⟨(⟨⟨0,rfl⟩,⟨0,rfl⟩,⟨0,rfl⟩,⟨0,rfl⟩,⟨0,rfl⟩,⟨0,rfl⟩⟩:cK),⟨0,rfl⟩⟩:cH)⟩,.bool false]) rfl ⟨cZ (cs:=cB (⟨(⟨⟨0,rfl⟩,⟨0,rfl⟩,⟨0,rfl⟩,⟨0,rfl⟩,⟨0,rfl⟩,⟨0,rfl⟩⟩:cK),⟨0,rfl⟩⟩:cH)) m rfl gS r1 rfl,rfl,trivial⟩ ?_
  refine⟨?_,m.sub .n⟩
  have q10:((⟨(⟨⟨0,rfl⟩,⟨0,rfl⟩,⟨0,rfl⟩,⟨0,rfl⟩,⟨0,rfl⟩,⟨0,rfl⟩⟩:cK),⟨0,rfl⟩⟩:cH):cH)=hH bY gH x t:=by clear hs m;(simp [hH, *];rfl)
  have q11:(false:Bool)=fL bY x t:=by clear hs m;simp [hH, *]
  (rw[q10,q11];rfl)
 have h6p:=h6;simp only[fK] at h6p
 refine bT hs m gI fun a w_ hs m=>?_
 obtain⟨e12,he13⟩:=bI (l:=x) (i:=mR (fun e=>(bY e t).v) x) (by exact mA (by assumption))
 refine kE (c:=cB) (e:=e12) hs m (x:=(.tmp 22)) (ix:=(.tmp 23)) rfl rfl fQ gS hx (by omega) he13 fun p14 hp15 ok16=>?_
 refine bP hs m (e_ (p_ (ok16 _ _ _ _ _)) (e_ (p_ (cN (cB e12))) (dZ s0 (t:=gC)))) fun a w17 hs m=>?_
 refine bH hs (vs:=[.agg ⟨cB e12⟩,.bool true]) rfl ⟨cZ (cs:=cB e12) m rfl gS r0 rfl,rfl,trivial⟩ ?_
 refine⟨?_,m.sub .n⟩
 have q18:(e12:cH)=hH bY gH x t:=by clear hs m;simp [hH, *]
 have q19:(true:Bool)=fL bY x t:=by clear hs m;simp [hH, *]
 (rw[q18,q19];rfl)
theorem aG6 (vx:SH) (x:List bD) (t:bD) (w0:World) (hx:RdS (hh w0) 4 vx.v (x.map aM)):iL Tryz.prog 60 [vx.v,.agg ⟨aM t⟩,.func (.func 45) ⟨[]⟩ ⟨[]⟩] (.bool (cA bS gE x t)) w0:=by
 have lvx:=hx.bd
 refine enter (n:=23) Tryz.func60 rfl rfl rfl fun a (hs:St 23 [(0,vx.v),(1,.agg ⟨aM t⟩),(2,.func (.func 45) ⟨[]⟩ ⟨[]⟩)] a)=>?_
 have m:=Hp.start w0
 refine bN ?_
 refine dU (cs:=aM t) hs m rfl rfl rfl fun p1 w2 m a hs=>?_
 refine bP hs m (x_ gI (e_ (p_ (cN (aM t))) eO)) fun a w_ hs m=>?_
 refine cC hs m rfl rfl aT0 rfl (aD3 vx x t _ (m.rd hx) ) rfl fun w3 m a hs=>?_
 refine bP hs m eZ fun a w_ hs m=>?_
 refine bZ hs m kK rfl fun p4 w5 m a hs=>?_
 refine bP hs m (dZ s0 (t:=gZ)) fun a w6 hs m=>?_
 refine xY (.c (.c (.c (.c (.n))))) hs m 22 (.bool ((!(fL bS x t)) || (!(decide (hH bS gE x t=t))))) ?_ ?_
 ·rcases Bool.eq_false_or_eq_true (!(fL bS x t)) with hb7|hb7
  ·have hb7p:=hb7;simp only[fK] at hb7p
   refine bP hs m gC fun a w_ hs m=>?_
   exact nN hs m 3 (by rw[hb7];rfl)
  ·have hb7p:=hb7;simp only[fK] at hb7p
   refine bP hs m (e_ (dV hb7 (cN (aM (hH bS gE x t)))) (e_ (dV hb7 (cN (aM t))) (e_ (dV hb7 (sS (b:=decide (hH bS gE x t=t)) rfl rfl aL1 (xN _) (xN _) (aG2 (hH bS gE x t) t))) eO))) fun a w_ hs m=>?_
   exact nN hs m 3 (by rw[hb7];rfl)
 rintro a w8 ⟨hs,m⟩
 refine bP hs m gC fun a w_ hs m=>?_
 refine bH hs (vs:=[.bool ((!(fL bS x t)) || (!(decide (hH bS gE x t=t))))]) rfl ⟨rfl,trivial⟩ ?_
 exact⟨by rw[(show ((!(fL bS x t)) || (!(decide (hH bS gE x t=t))):Bool)=cA bS gE x t by(simp [cA, *]))];rfl,m.sub .n⟩
theorem aA9 (vx:SH) (x:List bA) (t:bA) (w0:World) (hx:RdS (hh w0) 7 vx.v (x.map aS)):iL Tryz.prog 58 [vx.v,.agg ⟨aS t⟩,.func (.func 47) ⟨[]⟩ ⟨[]⟩] (.bool (cA bB cW x t)) w0:=by
 have lvx:=hx.bd
 refine enter (n:=23) Tryz.func58 rfl rfl rfl fun a (hs:St 23 [(0,vx.v),(1,.agg ⟨aS t⟩),(2,.func (.func 47) ⟨[]⟩ ⟨[]⟩)] a)=>?_
 have m:=Hp.start w0
 refine bN ?_
 refine dU (cs:=aS t) hs m rfl rfl rfl fun p1 w2 m a hs=>?_
 refine bP hs m (x_ gI (e_ (p_ (cN (aS t))) eO)) fun a w_ hs m=>?_
 refine cC hs m rfl rfl aT2 rfl (aD2 vx x t _ (m.rd hx) ) rfl fun w3 m a hs=>?_
 refine bP hs m eZ fun a w_ hs m=>?_
 refine bZ hs m lW rfl fun p4 w5 m a hs=>?_
 refine bP hs m (dZ s0 (t:=gZ)) fun a w6 hs m=>?_
 refine xY (.c (.c (.c (.c (.n))))) hs m 22 (.bool ((!(fL bB x t)) || (!(decide (hH bB cW x t=t))))) ?_ ?_
 ·rcases Bool.eq_false_or_eq_true (!(fL bB x t)) with hb7|hb7
  ·have hb7p:=hb7;simp only[fK] at hb7p
   refine bP hs m gC fun a w_ hs m=>?_
   exact nN hs m 3 (by rw[hb7];rfl)
  ·have hb7p:=hb7;simp only[fK] at hb7p
   refine bP hs m (e_ (dV hb7 (cN (aS (hH bB cW x t)))) (e_ (dV hb7 (cN (aS t))) (e_ (dV hb7 (sS (b:=decide (hH bB cW x t=t)) rfl rfl aPI (aB2 _) (aB2 _) (aKR (hH bB cW x t) t))) eO))) fun a w_ hs m=>?_
   exact nN hs m 3 (by rw[hb7];rfl)
 rintro a w8 ⟨hs,m⟩
 refine bP hs m gC fun a w_ hs m=>?_
 refine bH hs (vs:=[.bool ((!(fL bB x t)) || (!(decide (hH bB cW x t=t))))]) rfl ⟨rfl,trivial⟩ ?_
 exact⟨by rw[(show ((!(fL bB x t)) || (!(decide (hH bB cW x t=t))):Bool)=cA bB cW x t by(simp [cA, *]))];rfl,m.sub .n⟩
theorem aED (vx:SH) (x:List cH) (t:cH) (w0:World) (hx:RdS (hh w0) 7 vx.v (x.map cB)):iL Tryz.prog 59 [vx.v,.agg ⟨cB t⟩,.func (.func 49) ⟨[]⟩ ⟨[]⟩] (.bool (cA bY gH x t)) w0:=by
 have lvx:=hx.bd
 refine enter (n:=23) Tryz.func59 rfl rfl rfl fun a (hs:St 23 [(0,vx.v),(1,.agg ⟨cB t⟩),(2,.func (.func 49) ⟨[]⟩ ⟨[]⟩)] a)=>?_
 have m:=Hp.start w0
 refine bN ?_
 refine dU (cs:=cB t) hs m rfl rfl rfl fun p1 w2 m a hs=>?_
 refine bP hs m (x_ gI (e_ (p_ (cN (cB t))) eO)) fun a w_ hs m=>?_
 refine cC hs m rfl rfl aT3 rfl (aIN vx x t _ (m.rd hx) ) rfl fun w3 m a hs=>?_
 refine bP hs m eZ fun a w_ hs m=>?_
 refine bZ hs m lS rfl fun p4 w5 m a hs=>?_
 refine bP hs m (dZ s0 (t:=gZ)) fun a w6 hs m=>?_
 refine xY (.c (.c (.c (.c (.n))))) hs m 22 (.bool ((!(fL bY x t)) || (!(decide (hH bY gH x t=t))))) ?_ ?_
 ·rcases Bool.eq_false_or_eq_true (!(fL bY x t)) with hb7|hb7
  ·have hb7p:=hb7;simp only[fK] at hb7p
   refine bP hs m gC fun a w_ hs m=>?_
   exact nN hs m 3 (by rw[hb7];rfl)
  ·have hb7p:=hb7;simp only[fK] at hb7p
   refine bP hs m (e_ (dV hb7 (cN (cB (hH bY gH x t)))) (e_ (dV hb7 (cN (cB t))) (e_ (dV hb7 (sS (b:=decide (hH bY gH x t=t)) rfl rfl aL2 (aII _) (aII _) (aSE (hH bY gH x t) t))) eO))) fun a w_ hs m=>?_
   exact nN hs m 3 (by rw[hb7];rfl)
 rintro a w8 ⟨hs,m⟩
 refine bP hs m gC fun a w_ hs m=>?_
 refine bH hs (vs:=[.bool ((!(fL bY x t)) || (!(decide (hH bY gH x t=t))))]) rfl ⟨rfl,trivial⟩ ?_
 exact⟨by rw[(show ((!(fL bY x t)) || (!(decide (hH bY gH x t=t))):Bool)=cA bY gH x t by(simp [cA, *]))];rfl,m.sub .n⟩
theorem aHN (vx:SH) (x:List bD) (w0:World) (hx:RdS (hh w0) 4 vx.v (x.map aM)):iL Tryz.prog 109 [vx.v,.func (.func 45) ⟨[]⟩ ⟨[]⟩] (.bool (gV bS x)) w0:=by
 have lvx:=hx.bd
 refine enter (n:=28) Tryz.func109 rfl rfl rfl fun a (hs:St 28 [(0,vx.v),(1,.func (.func 45) ⟨[]⟩ ⟨[]⟩)] a)=>?_
 have m:=Hp.start w0
 refine bT hs m (x_ gZ (e_ (p_ (bQ m rfl eY (dX hx))) gC)) fun a w_ hs m=>?_
 refine wp_loop_ghost (fun gn a w=>∃ k:Nat,(k<=x.length)/\(pC (vH bS x) k=true)/\gn=x.length-k/\St 28 [(0,vx.v),(1,.func (.func 45) ⟨[]⟩ ⟨[]⟩),(7,.int .i64 (x.length:Int)),(8,.int .i64 (k:Int))] a/\Hp w0 (hh w0) [] w) (x.length-0) ⟨0,by omega,by rfl,rfl,hs.to ⟨rfl,rfl,rfl,rfl,trivial⟩,m.sub .n⟩ ?_
 rintro gn a w1 ⟨k,hk,ho,rfl,hs,m⟩
 refine bT hs m gI fun a w_ hs m=>?_
 refine aR hs rfl (fun h2=>?_) (fun h2=>?_)
 rotate_left
 ·have h2p:=of_decide_eq_false h2
  refine bT hs m fW fun a w_ hs m=>?_
  refine bH hs (vs:=[.bool true]) rfl ⟨rfl,trivial⟩ ?_
  exact⟨by rw[(show (true:Bool)=gV bS x by((unfold gV;rw[show x.length=k by omega];exact ho.symm)))];rfl,m.sub .n⟩
 have h2p:=of_decide_eq_true h2
 refine bT hs m hQ fun a w_ hs m=>?_
 refine eE m mo (by kernel_rfl) ?_
 refine nG hs (k:=fun a hs=>?_)
 refine oU (.c (.c (.c (.c (.c (.c (.c (.c (.c (.c (.c (.c (.c (.n)))))))))))))) (fun a=>St 28 [(0,vx.v),(1,.func (.func 45) ⟨[]⟩ ⟨[]⟩),(7,.int .i64 (x.length:Int)),(8,.int .i64 (k:Int)),(26,.bool ((decide ((k:Int)>0))&&(decide (((bS ((x[((k:Int)-1).toNat]?).getD (⟨(⟨⟨0,rfl⟩,⟨0,rfl⟩⟩:aT),⟨0,rfl⟩,false⟩:bD)) ((x[k]?).getD (⟨(⟨⟨0,rfl⟩,⟨0,rfl⟩⟩:aT),⟨0,rfl⟩,false⟩:bD))).v)>=0))))] a) ?_ ?_
 ·rcases Bool.eq_false_or_eq_true (decide ((k:Int)>0)) with hb4|hb4
  ·have hb4p:=of_decide_eq_true hb4
   refine vJ hs (k:=fun a hs=>?_)
   obtain⟨e5,he6⟩:=bI (l:=x) (i:=((k:Int)-1).toNat) (by omega)
   refine kE (c:=aM) (e:=e5) hs m (x:=(.tmp 15)) (ix:=(.tmp 17)) rfl rfl eY gG hx (by omega) he6 fun p7 hp8 ok9=>?_
   refine vJ hs (h1:=kW hb4 (ok9 _ _ _ _ _)) (h2:=kW hb4 (cN (aM e5))) (k:=fun a hs=>?_)
   obtain⟨e10,he11⟩:=bI (l:=x) (i:=k) (by omega)
   refine kE (c:=aM) (e:=e10) hs m (x:=(.tmp 20)) (ix:=(.tmp 21)) rfl rfl eY gG hx (by omega) he11 fun p12 hp13 ok14=>?_
   refine sO hs (h1:=kW hb4 (ok14 _ _ _ _ _)) (h2:=kW hb4 (cN (aM e10))) (k:=fun a hs=>?_)
   refine jI hs rfl rfl hb4 rfl rfl aVE rfl (fun w m=>aDW e5 e10 w  ) rfl fun a hs=>?_
   refine sO hs (h2:=q_ (aP (r:=.bool ((decide ((k:Int)>0))&&(decide (((bS ((x[((k:Int)-1).toNat]?).getD (⟨(⟨⟨0,rfl⟩,⟨0,rfl⟩⟩:aT),⟨0,rfl⟩,false⟩:bD)) ((x[k]?).getD (⟨(⟨⟨0,rfl⟩,⟨0,rfl⟩⟩:aT),⟨0,rfl⟩,false⟩:bD))).v)>=0)))) rfl rfl rfl (by(try rw[he6]);(try rw[he11]);rw[hb4];rfl))) (k:=fun a hs=>?_)
   exact wpQuiet_nil (hs.to ⟨rfl,rfl,rfl,rfl,rfl,trivial⟩)
  ·have hb4p:=of_decide_eq_false hb4
   refine kZ hs (k:=fun a hs=>?_)
   refine kZ hs (k:=fun a hs=>?_)
   refine uZ hs (h1:=q_ (aP (r:=.bool ((decide ((k:Int)>0))&&(decide (((bS ((x[((k:Int)-1).toNat]?).getD (⟨(⟨⟨0,rfl⟩,⟨0,rfl⟩⟩:aT),⟨0,rfl⟩,false⟩:bD)) ((x[k]?).getD (⟨(⟨⟨0,rfl⟩,⟨0,rfl⟩⟩:aT),⟨0,rfl⟩,false⟩:bD))).v)>=0)))) rfl rfl rfl (by rw[hb4];rfl))) (k:=fun a hs=>?_)
   exact wpQuiet_nil (hs.to ⟨rfl,rfl,rfl,rfl,rfl,trivial⟩)
 intro a hs
 refine wpQuiet_nil fun w15 m=>?_
 refine aR hs rfl (fun h16=>?_) (fun h16=>?_)
 ·have h16p:=h16;simp only[fK] at h16p
  refine bT hs m fW fun a w_ hs m=>?_
  refine bH hs (vs:=[.bool false]) rfl ⟨rfl,trivial⟩ ?_
  exact⟨by rw[(show (false:Bool)=gV bS x from (aDD (k:=k) (by omega) (by assumption)).symm)];rfl,m.sub .n⟩
 have h16p:=h16;simp only[fK] at h16p
 refine bT hs m lA fun a w_ hs m=>?_
 exact⟨x.length-(k+1),by omega,k+1,by omega,by exact nH ho (aHK (by omega) (by assumption)),rfl,hs.to ⟨rfl,rfl,rfl,rfl,trivial⟩,m.sub .n⟩
theorem aHM (vx:SH) (x:List bA) (w0:World) (hx:RdS (hh w0) 7 vx.v (x.map aS)):iL Tryz.prog 110 [vx.v,.func (.func 47) ⟨[]⟩ ⟨[]⟩] (.bool (gV bB x)) w0:=by
 have lvx:=hx.bd
 refine enter (n:=28) Tryz.func110 rfl rfl rfl fun a (hs:St 28 [(0,vx.v),(1,.func (.func 47) ⟨[]⟩ ⟨[]⟩)] a)=>?_
 have m:=Hp.start w0
 refine bT hs m (x_ gZ (e_ (p_ (bQ m rfl fP (dX hx))) gC)) fun a w_ hs m=>?_
 refine wp_loop_ghost (fun gn a w=>∃ k:Nat,(k<=x.length)/\(pC (vH bB x) k=true)/\gn=x.length-k/\St 28 [(0,vx.v),(1,.func (.func 47) ⟨[]⟩ ⟨[]⟩),(7,.int .i64 (x.length:Int)),(8,.int .i64 (k:Int))] a/\Hp w0 (hh w0) [] w) (x.length-0) ⟨0,by omega,by rfl,rfl,hs.to ⟨rfl,rfl,rfl,rfl,trivial⟩,m.sub .n⟩ ?_
 rintro gn a w1 ⟨k,hk,ho,rfl,hs,m⟩
 refine bT hs m gI fun a w_ hs m=>?_
 refine aR hs rfl (fun h2=>?_) (fun h2=>?_)
 rotate_left
 ·have h2p:=of_decide_eq_false h2
  refine bT hs m fW fun a w_ hs m=>?_
  refine bH hs (vs:=[.bool true]) rfl ⟨rfl,trivial⟩ ?_
  exact⟨by rw[(show (true:Bool)=gV bB x by((unfold gV;rw[show x.length=k by omega];exact ho.symm)))];rfl,m.sub .n⟩
 have h2p:=of_decide_eq_true h2
 refine bT hs m hQ fun a w_ hs m=>?_
 refine eE m mo (by kernel_rfl) ?_
 refine nG hs (k:=fun a hs=>?_)
 refine oU (.c (.c (.c (.c (.c (.c (.c (.c (.c (.c (.c (.c (.c (.n)))))))))))))) (fun a=>St 28 [(0,vx.v),(1,.func (.func 47) ⟨[]⟩ ⟨[]⟩),(7,.int .i64 (x.length:Int)),(8,.int .i64 (k:Int)),(26,.bool ((decide ((k:Int)>0))&&(decide (((bB ((x[((k:Int)-1).toNat]?).getD (⟨⟨0,rfl⟩,(⟨⟨0,rfl⟩,⟨0,rfl⟩,⟨0,rfl⟩,⟨0,rfl⟩,⟨0,rfl⟩,⟨0,rfl⟩⟩:cK)⟩:bA)) ((x[k]?).getD (⟨⟨0,rfl⟩,(⟨⟨0,rfl⟩,⟨0,rfl⟩,⟨0,rfl⟩,⟨0,rfl⟩,⟨0,rfl⟩,⟨0,rfl⟩⟩:cK)⟩:bA))).v)>=0))))] a) ?_ ?_
 ·rcases Bool.eq_false_or_eq_true (decide ((k:Int)>0)) with hb4|hb4
  ·have hb4p:=of_decide_eq_true hb4
   refine vJ hs (k:=fun a hs=>?_)
   obtain⟨e5,he6⟩:=bI (l:=x) (i:=((k:Int)-1).toNat) (by omega)
   refine kE (c:=aS) (e:=e5) hs m (x:=(.tmp 15)) (ix:=(.tmp 17)) rfl rfl fP gQ hx (by omega) he6 fun p7 hp8 ok9=>?_
   refine vJ hs (h1:=kW hb4 (ok9 _ _ _ _ _)) (h2:=kW hb4 (cN (aS e5))) (k:=fun a hs=>?_)
   obtain⟨e10,he11⟩:=bI (l:=x) (i:=k) (by omega)
   refine kE (c:=aS) (e:=e10) hs m (x:=(.tmp 20)) (ix:=(.tmp 21)) rfl rfl fP gQ hx (by omega) he11 fun p12 hp13 ok14=>?_
   refine sO hs (h1:=kW hb4 (ok14 _ _ _ _ _)) (h2:=kW hb4 (cN (aS e10))) (k:=fun a hs=>?_)
   refine jI hs rfl rfl hb4 rfl rfl aVF rfl (fun w m=>aDT e5 e10 w  ) rfl fun a hs=>?_
   refine sO hs (h2:=q_ (aP (r:=.bool ((decide ((k:Int)>0))&&(decide (((bB ((x[((k:Int)-1).toNat]?).getD (⟨⟨0,rfl⟩,(⟨⟨0,rfl⟩,⟨0,rfl⟩,⟨0,rfl⟩,⟨0,rfl⟩,⟨0,rfl⟩,⟨0,rfl⟩⟩:cK)⟩:bA)) ((x[k]?).getD (⟨⟨0,rfl⟩,(⟨⟨0,rfl⟩,⟨0,rfl⟩,⟨0,rfl⟩,⟨0,rfl⟩,⟨0,rfl⟩,⟨0,rfl⟩⟩:cK)⟩:bA))).v)>=0)))) rfl rfl rfl (by(try rw[he6]);(try rw[he11]);rw[hb4];rfl))) (k:=fun a hs=>?_)
   exact wpQuiet_nil (hs.to ⟨rfl,rfl,rfl,rfl,rfl,trivial⟩)
  ·have hb4p:=of_decide_eq_false hb4
   refine kZ hs (k:=fun a hs=>?_)
   refine kZ hs (k:=fun a hs=>?_)
   refine uZ hs (h1:=q_ (aP (r:=.bool ((decide ((k:Int)>0))&&(decide (((bB ((x[((k:Int)-1).toNat]?).getD (⟨⟨0,rfl⟩,(⟨⟨0,rfl⟩,⟨0,rfl⟩,⟨0,rfl⟩,⟨0,rfl⟩,⟨0,rfl⟩,⟨0,rfl⟩⟩:cK)⟩:bA)) ((x[k]?).getD (⟨⟨0,rfl⟩,(⟨⟨0,rfl⟩,⟨0,rfl⟩,⟨0,rfl⟩,⟨0,rfl⟩,⟨0,rfl⟩,⟨0,rfl⟩⟩:cK)⟩:bA))).v)>=0)))) rfl rfl rfl (by rw[hb4];rfl))) (k:=fun a hs=>?_)
   exact wpQuiet_nil (hs.to ⟨rfl,rfl,rfl,rfl,rfl,trivial⟩)
 intro a hs
 refine wpQuiet_nil fun w15 m=>?_
 refine aR hs rfl (fun h16=>?_) (fun h16=>?_)
 ·have h16p:=h16;simp only[fK] at h16p
  refine bT hs m fW fun a w_ hs m=>?_
  refine bH hs (vs:=[.bool false]) rfl ⟨rfl,trivial⟩ ?_
  exact⟨by rw[(show (false:Bool)=gV bB x from (aDD (k:=k) (by omega) (by assumption)).symm)];rfl,m.sub .n⟩
 have h16p:=h16;simp only[fK] at h16p
 refine bT hs m lA fun a w_ hs m=>?_
 exact⟨x.length-(k+1),by omega,k+1,by omega,by exact nH ho (aHK (by omega) (by assumption)),rfl,hs.to ⟨rfl,rfl,rfl,rfl,trivial⟩,m.sub .n⟩
theorem aK8 (vx:SH) (x:List cH) (w0:World) (hx:RdS (hh w0) 7 vx.v (x.map cB)):iL Tryz.prog 111 [vx.v,.func (.func 49) ⟨[]⟩ ⟨[]⟩] (.bool (gV bY x)) w0:=by
 have lvx:=hx.bd
 refine enter (n:=28) Tryz.func111 rfl rfl rfl fun a (hs:St 28 [(0,vx.v),(1,.func (.func 49) ⟨[]⟩ ⟨[]⟩)] a)=>?_
 have m:=Hp.start w0
 refine bT hs m (x_ gZ (e_ (p_ (bQ m rfl fQ (dX hx))) gC)) fun a w_ hs m=>?_
 refine wp_loop_ghost (fun gn a w=>∃ k:Nat,(k<=x.length)/\(pC (vH bY x) k=true)/\gn=x.length-k/\St 28 [(0,vx.v),(1,.func (.func 49) ⟨[]⟩ ⟨[]⟩),(7,.int .i64 (x.length:Int)),(8,.int .i64 (k:Int))] a/\Hp w0 (hh w0) [] w) (x.length-0) ⟨0,by omega,by rfl,rfl,hs.to ⟨rfl,rfl,rfl,rfl,trivial⟩,m.sub .n⟩ ?_
 rintro gn a w1 ⟨k,hk,ho,rfl,hs,m⟩
 refine bT hs m gI fun a w_ hs m=>?_
 refine aR hs rfl (fun h2=>?_) (fun h2=>?_)
 rotate_left
 ·have h2p:=of_decide_eq_false h2
  refine bT hs m fW fun a w_ hs m=>?_
  refine bH hs (vs:=[.bool true]) rfl ⟨rfl,trivial⟩ ?_
  exact⟨by rw[(show (true:Bool)=gV bY x by((unfold gV;rw[show x.length=k by omega];exact ho.symm)))];rfl,m.sub .n⟩
 have h2p:=of_decide_eq_true h2
 refine bT hs m hQ fun a w_ hs m=>?_
 refine eE m mo (by kernel_rfl) ?_
 refine nG hs (k:=fun a hs=>?_)
 refine oU (.c (.c (.c (.c (.c (.c (.c (.c (.c (.c (.c (.c (.c (.n)))))))))))))) (fun a=>St 28 [(0,vx.v),(1,.func (.func 49) ⟨[]⟩ ⟨[]⟩),(7,.int .i64 (x.length:Int)),(8,.int .i64 (k:Int)),(26,.bool ((decide ((k:Int)>0))&&(decide (((bY ((x[((k:Int)-1).toNat]?).getD (⟨(⟨⟨0,rfl⟩,⟨0,rfl⟩,⟨0,rfl⟩,⟨0,rfl⟩,⟨0,rfl⟩,⟨0,rfl⟩⟩:cK),⟨0,rfl⟩⟩:cH)) ((x[k]?).getD (⟨(⟨⟨0,rfl⟩,⟨0,rfl⟩,⟨0,rfl⟩,⟨0,rfl⟩,⟨0,rfl⟩,⟨0,rfl⟩⟩:cK),⟨0,rfl⟩⟩:cH))).v)>=0))))] a) ?_ ?_
 ·rcases Bool.eq_false_or_eq_true (decide ((k:Int)>0)) with hb4|hb4
  ·have hb4p:=of_decide_eq_true hb4
   refine vJ hs (k:=fun a hs=>?_)
   obtain⟨e5,he6⟩:=bI (l:=x) (i:=((k:Int)-1).toNat) (by omega)
   refine kE (c:=cB) (e:=e5) hs m (x:=(.tmp 15)) (ix:=(.tmp 17)) rfl rfl fQ gS hx (by omega) he6 fun p7 hp8 ok9=>?_
   refine vJ hs (h1:=kW hb4 (ok9 _ _ _ _ _)) (h2:=kW hb4 (cN (cB e5))) (k:=fun a hs=>?_)
   obtain⟨e10,he11⟩:=bI (l:=x) (i:=k) (by omega)
   refine kE (c:=cB) (e:=e10) hs m (x:=(.tmp 20)) (ix:=(.tmp 21)) rfl rfl fQ gS hx (by omega) he11 fun p12 hp13 ok14=>?_
   refine sO hs (h1:=kW hb4 (ok14 _ _ _ _ _)) (h2:=kW hb4 (cN (cB e10))) (k:=fun a hs=>?_)
   refine jI hs rfl rfl hb4 rfl rfl aVG rfl (fun w m=>aKF e5 e10 w  ) rfl fun a hs=>?_
   refine sO hs (h2:=q_ (aP (r:=.bool ((decide ((k:Int)>0))&&(decide (((bY ((x[((k:Int)-1).toNat]?).getD (⟨(⟨⟨0,rfl⟩,⟨0,rfl⟩,⟨0,rfl⟩,⟨0,rfl⟩,⟨0,rfl⟩,⟨0,rfl⟩⟩:cK),⟨0,rfl⟩⟩:cH)) ((x[k]?).getD (⟨(⟨⟨0,rfl⟩,⟨0,rfl⟩,⟨0,rfl⟩,⟨0,rfl⟩,⟨0,rfl⟩,⟨0,rfl⟩⟩:cK),⟨0,rfl⟩⟩:cH))).v)>=0)))) rfl rfl rfl (by(try rw[he6]);(try rw[he11]);rw[hb4];rfl))) (k:=fun a hs=>?_)
   exact wpQuiet_nil (hs.to ⟨rfl,rfl,rfl,rfl,rfl,trivial⟩)
  ·have hb4p:=of_decide_eq_false hb4
   refine kZ hs (k:=fun a hs=>?_)
   refine kZ hs (k:=fun a hs=>?_)
   refine uZ hs (h1:=q_ (aP (r:=.bool ((decide ((k:Int)>0))&&(decide (((bY ((x[((k:Int)-1).toNat]?).getD (⟨(⟨⟨0,rfl⟩,⟨0,rfl⟩,⟨0,rfl⟩,⟨0,rfl⟩,⟨0,rfl⟩,⟨0,rfl⟩⟩:cK),⟨0,rfl⟩⟩:cH)) ((x[k]?).getD (⟨(⟨⟨0,rfl⟩,⟨0,rfl⟩,⟨0,rfl⟩,⟨0,rfl⟩,⟨0,rfl⟩,⟨0,rfl⟩⟩:cK),⟨0,rfl⟩⟩:cH))).v)>=0)))) rfl rfl rfl (by rw[hb4];rfl))) (k:=fun a hs=>?_)
   exact wpQuiet_nil (hs.to ⟨rfl,rfl,rfl,rfl,rfl,trivial⟩)
 intro a hs
 refine wpQuiet_nil fun w15 m=>?_
 refine aR hs rfl (fun h16=>?_) (fun h16=>?_)
 ·have h16p:=h16;simp only[fK] at h16p
  refine bT hs m fW fun a w_ hs m=>?_
  refine bH hs (vs:=[.bool false]) rfl ⟨rfl,trivial⟩ ?_
  exact⟨by rw[(show (false:Bool)=gV bY x from (aDD (k:=k) (by omega) (by assumption)).symm)];rfl,m.sub .n⟩
 have h16p:=h16;simp only[fK] at h16p
 refine bT hs m lA fun a w_ hs m=>?_
 exact⟨x.length-(k+1),by omega,k+1,by omega,by exact nH ho (aHK (by omega) (by assumption)),rfl,hs.to ⟨rfl,rfl,rfl,rfl,trivial⟩,m.sub .n⟩
theorem aHL (vx:SH) (x:List TLease) (w0:World) (hx:RdS (hh w0) 12 vx.v (x.map aV)):iL Tryz.prog 132 [vx.v,.func (.func 133) ⟨[]⟩ ⟨[]⟩] (.bool (gV dL x)) w0:=by
 have lvx:=hx.bd
 refine enter (n:=28) Tryz.func132 rfl rfl rfl fun a (hs:St 28 [(0,vx.v),(1,.func (.func 133) ⟨[]⟩ ⟨[]⟩)] a)=>?_
 have m:=Hp.start w0
 refine bT hs m (x_ gZ (e_ (p_ (bQ m rfl eR (dX hx))) gC)) fun a w_ hs m=>?_
 refine wp_loop_ghost (fun gn a w=>∃ k:Nat,(k<=x.length)/\(pC (vH dL x) k=true)/\gn=x.length-k/\St 28 [(0,vx.v),(1,.func (.func 133) ⟨[]⟩ ⟨[]⟩),(7,.int .i64 (x.length:Int)),(8,.int .i64 (k:Int))] a/\Hp w0 (hh w0) [] w) (x.length-0) ⟨0,by omega,by rfl,rfl,hs.to ⟨rfl,rfl,rfl,rfl,trivial⟩,m.sub .n⟩ ?_
 rintro gn a w1 ⟨k,hk,ho,rfl,hs,m⟩
 refine bT hs m gI fun a w_ hs m=>?_
 refine aR hs rfl (fun h2=>?_) (fun h2=>?_)
 rotate_left
 ·have h2p:=of_decide_eq_false h2
  refine bT hs m fW fun a w_ hs m=>?_
  refine bH hs (vs:=[.bool true]) rfl ⟨rfl,trivial⟩ ?_
  exact⟨by rw[(show (true:Bool)=gV dL x by((unfold gV;rw[show x.length=k by omega];exact ho.symm)))];rfl,m.sub .n⟩
 have h2p:=of_decide_eq_true h2
 refine bT hs m hQ fun a w_ hs m=>?_
 refine eE m mo (by kernel_rfl) ?_
 refine nG hs (k:=fun a hs=>?_)
 refine oU (.c (.c (.c (.c (.c (.c (.c (.c (.c (.c (.c (.c (.c (.n)))))))))))))) (fun a=>St 28 [(0,vx.v),(1,.func (.func 133) ⟨[]⟩ ⟨[]⟩),(7,.int .i64 (x.length:Int)),(8,.int .i64 (k:Int)),(26,.bool ((decide ((k:Int)>0))&&(decide (((dL ((x[((k:Int)-1).toNat]?).getD (⟨⟨0,rfl⟩,(⟨⟨0,rfl⟩,⟨0,rfl⟩⟩:aT),⟨0,rfl⟩,(⟨⟨0,rfl⟩,⟨0,rfl⟩,⟨0,rfl⟩,⟨0,rfl⟩,⟨0,rfl⟩,⟨0,rfl⟩⟩:cK),⟨0,rfl⟩,⟨0,rfl⟩⟩:TLease)) ((x[k]?).getD (⟨⟨0,rfl⟩,(⟨⟨0,rfl⟩,⟨0,rfl⟩⟩:aT),⟨0,rfl⟩,(⟨⟨0,rfl⟩,⟨0,rfl⟩,⟨0,rfl⟩,⟨0,rfl⟩,⟨0,rfl⟩,⟨0,rfl⟩⟩:cK),⟨0,rfl⟩,⟨0,rfl⟩⟩:TLease))).v)>=0))))] a) ?_ ?_
 ·rcases Bool.eq_false_or_eq_true (decide ((k:Int)>0)) with hb4|hb4
  ·have hb4p:=of_decide_eq_true hb4
   refine vJ hs (k:=fun a hs=>?_)
   obtain⟨e5,he6⟩:=bI (l:=x) (i:=((k:Int)-1).toNat) (by omega)
   refine kE (c:=aV) (e:=e5) hs m (x:=(.tmp 15)) (ix:=(.tmp 17)) rfl rfl eR fZ hx (by omega) he6 fun p7 hp8 ok9=>?_
   refine vJ hs (h1:=kW hb4 (ok9 _ _ _ _ _)) (h2:=kW hb4 (cN (aV e5))) (k:=fun a hs=>?_)
   obtain⟨e10,he11⟩:=bI (l:=x) (i:=k) (by omega)
   refine kE (c:=aV) (e:=e10) hs m (x:=(.tmp 20)) (ix:=(.tmp 21)) rfl rfl eR fZ hx (by omega) he11 fun p12 hp13 ok14=>?_
   refine sO hs (h1:=kW hb4 (ok14 _ _ _ _ _)) (h2:=kW hb4 (cN (aV e10))) (k:=fun a hs=>?_)
   refine jI hs rfl rfl hb4 rfl rfl aO2 rfl (fun w m=>aDQ e5 e10 w  ) rfl fun a hs=>?_
   refine sO hs (h2:=q_ (aP (r:=.bool ((decide ((k:Int)>0))&&(decide (((dL ((x[((k:Int)-1).toNat]?).getD (⟨⟨0,rfl⟩,(⟨⟨0,rfl⟩,⟨0,rfl⟩⟩:aT),⟨0,rfl⟩,(⟨⟨0,rfl⟩,⟨0,rfl⟩,⟨0,rfl⟩,⟨0,rfl⟩,⟨0,rfl⟩,⟨0,rfl⟩⟩:cK),⟨0,rfl⟩,⟨0,rfl⟩⟩:TLease)) ((x[k]?).getD (⟨⟨0,rfl⟩,(⟨⟨0,rfl⟩,⟨0,rfl⟩⟩:aT),⟨0,rfl⟩,(⟨⟨0,rfl⟩,⟨0,rfl⟩,⟨0,rfl⟩,⟨0,rfl⟩,⟨0,rfl⟩,⟨0,rfl⟩⟩:cK),⟨0,rfl⟩,⟨0,rfl⟩⟩:TLease))).v)>=0)))) rfl rfl rfl (by(try rw[he6]);(try rw[he11]);rw[hb4];rfl))) (k:=fun a hs=>?_)
   exact wpQuiet_nil (hs.to ⟨rfl,rfl,rfl,rfl,rfl,trivial⟩)
  ·have hb4p:=of_decide_eq_false hb4
   refine kZ hs (k:=fun a hs=>?_)
   refine kZ hs (k:=fun a hs=>?_)
   refine uZ hs (h1:=q_ (aP (r:=.bool ((decide ((k:Int)>0))&&(decide (((dL ((x[((k:Int)-1).toNat]?).getD (⟨⟨0,rfl⟩,(⟨⟨0,rfl⟩,⟨0,rfl⟩⟩:aT),⟨0,rfl⟩,(⟨⟨0,rfl⟩,⟨0,rfl⟩,⟨0,rfl⟩,⟨0,rfl⟩,⟨0,rfl⟩,⟨0,rfl⟩⟩:cK),⟨0,rfl⟩,⟨0,rfl⟩⟩:TLease)) ((x[k]?).getD (⟨⟨0,rfl⟩,(⟨⟨0,rfl⟩,⟨0,rfl⟩⟩:aT),⟨0,rfl⟩,(⟨⟨0,rfl⟩,⟨0,rfl⟩,⟨0,rfl⟩,⟨0,rfl⟩,⟨0,rfl⟩,⟨0,rfl⟩⟩:cK),⟨0,rfl⟩,⟨0,rfl⟩⟩:TLease))).v)>=0)))) rfl rfl rfl (by rw[hb4];rfl))) (k:=fun a hs=>?_)
   exact wpQuiet_nil (hs.to ⟨rfl,rfl,rfl,rfl,rfl,trivial⟩)
 intro a hs
 refine wpQuiet_nil fun w15 m=>?_
 refine aR hs rfl (fun h16=>?_) (fun h16=>?_)
 ·have h16p:=h16;simp only[fK] at h16p
  refine bT hs m fW fun a w_ hs m=>?_
  refine bH hs (vs:=[.bool false]) rfl ⟨rfl,trivial⟩ ?_
  exact⟨by rw[(show (false:Bool)=gV dL x from (aDD (k:=k) (by omega) (by assumption)).symm)];rfl,m.sub .n⟩
 have h16p:=h16;simp only[fK] at h16p
 refine bT hs m lA fun a w_ hs m=>?_
 exact⟨x.length-(k+1),by omega,k+1,by omega,by exact nH ho (aHK (by omega) (by assumption)),rfl,hs.to ⟨rfl,rfl,rfl,rfl,trivial⟩,m.sub .n⟩
end Go.Proofs.YtnbpodjbemfpbaaGreat.Fw
set_option linter.all false
set_option maxHeartbeats 4000000
set_option maxRecDepth 100000
namespace Go.Proofs.YtnbpodjbemfpbaaGreat.Fw
open Go
theorem aHV (vx:SH) (x:List bD) (vy:SH) (y:List bD) (w0:World) (hx:RdS (hh w0) 4 vx.v (x.map aM)) (hy:RdS (hh w0) 4 vy.v (y.map aM)):iL Tryz.prog 54 [vx.v,vy.v] (.bool (decide (x=y))) w0:=by
 have lvx:=hx.bd
 have lvy:=hy.bd
 refine enter (n:=26) Tryz.func54 rfl rfl rfl fun a (hs:St 26 [(0,vx.v),(1,vy.v)] a)=>?_
 have m:=Hp.start w0
 refine bT hs m (x_ gZ (e_ (p_ (bQ m rfl eY (dX hx))) (x_ eO (e_ (p_ (bQ m rfl eY (dX hy))) eZ)))) fun a w_ hs m=>?_
 refine aR hs rfl (fun h1=>?_) (fun h1=>?_)
 ·have h1p:=fT h1
  refine bT hs m gX fun a w_ hs m=>?_
  refine bH hs (vs:=[.bool false]) rfl ⟨rfl,trivial⟩ ?_
  exact⟨by rw[(show (false:Bool)=decide (x=y) from aEY (by assumption))];rfl,m.sub .n⟩
 have h1p:=dJ h1
 refine bT hs m lA fun a w_ hs m=>?_
 refine wp_loop_ghost (fun gn a w=>∃ k:Nat,(k<=x.length)/\(x.take k=y.take k)/\gn=x.length-k/\St 26 [(0,vx.v),(1,vy.v),(5,.int .i64 (k:Int))] a/\Hp w0 (hh w0) [] w) (x.length-0) ⟨0,by omega,by simp,rfl,hs.to ⟨rfl,rfl,rfl,trivial⟩,m.sub .n⟩ ?_
 rintro gn a w3 ⟨k,hk,ht,rfl,hs,m⟩
 refine bT hs m (x_ gC (e_ (p_ (bQ m rfl eY (dX hx))) eZ)) fun a w_ hs m=>?_
 refine aR hs rfl (fun h4=>?_) (fun h4=>?_)
 rotate_left
 ·have h4p:=of_decide_eq_false h4
  refine bT hs m fW fun a w_ hs m=>?_
  refine bH hs (vs:=[.bool true]) rfl ⟨rfl,trivial⟩ ?_
  exact⟨by rw[(show (true:Bool)=decide (x=y) from yH (by assumption) (by omega) ht)];rfl,m.sub .n⟩
 have h4p:=of_decide_eq_true h4
 refine wp_skip ?_
 refine aB ?_
 refine dG ?_
 refine wp_block ?_
 refine eE m mo (by kernel_rfl) ?_
 refine sO hs (k:=fun a hs=>?_)
 obtain⟨e6,he7⟩:=bI (l:=x) (i:=k) (by omega)
 refine kE (c:=aM) (e:=e6) hs m (x:=(.tmp 17)) (ix:=(.tmp 18)) rfl rfl eY gG hx (by omega) he7 fun p8 hp9 ok10=>?_
 refine vJ hs (h1:=q_ (ok10 _ _ _ _ _)) (h2:=q_ (cN (aM e6))) (k:=fun a hs=>?_)
 obtain⟨e11,he12⟩:=bI (l:=y) (i:=k) (by omega)
 refine kE (c:=aM) (e:=e11) hs m (x:=(.tmp 21)) (ix:=(.tmp 22)) rfl rfl eY gG hy (by omega) he12 fun p13 hp14 ok15=>?_
 refine nG hs (h1:=q_ (ok15 _ _ _ _ _)) (h2:=q_ (cN (aM e11))) (h3:=q_ (sS (b:=decide (e6=e11)) rfl rfl aL1 (xN _) (xN _) (aG2 e6 e11))) (k:=fun a hs=>?_)
 refine wpQuiet_nil fun w16 m=>?_
 refine aR hs rfl (fun h17=>?_) (fun h17=>?_)
 ·have h17p:=h17;simp only[fK] at h17p
  refine bT hs m fW fun a w_ hs m=>?_
  refine bH hs (vs:=[.bool false]) rfl ⟨rfl,trivial⟩ ?_
  exact⟨by rw[(show (false:Bool)=decide (x=y) from wC (by assumption) (by assumption) (by assumption))];rfl,m.sub .n⟩
 have h17p:=h17;simp only[fK] at h17p
 refine bT hs m hQ fun a w_ hs m=>?_
 exact⟨x.length-(k+1),by omega,k+1,by omega,by exact wD ht (by assumption) (by assumption) (by assumption),rfl,hs.to ⟨rfl,rfl,rfl,trivial⟩,m.sub .n⟩
theorem aBN (vx:SH) (x:List TLease) (vy:SH) (y:List TLease) (w0:World) (hx:RdS (hh w0) 12 vx.v (x.map aV)) (hy:RdS (hh w0) 12 vy.v (y.map aV)):iL Tryz.prog 15 [vx.v,vy.v] (.bool (decide (x=y))) w0:=by
 have lvx:=hx.bd
 have lvy:=hy.bd
 refine enter (n:=26) Tryz.func15 rfl rfl rfl fun a (hs:St 26 [(0,vx.v),(1,vy.v)] a)=>?_
 have m:=Hp.start w0
 refine bT hs m (x_ gZ (e_ (p_ (bQ m rfl eR (dX hx))) (x_ eO (e_ (p_ (bQ m rfl eR (dX hy))) eZ)))) fun a w_ hs m=>?_
 refine aR hs rfl (fun h1=>?_) (fun h1=>?_)
 ·have h1p:=fT h1
  refine bT hs m gX fun a w_ hs m=>?_
  refine bH hs (vs:=[.bool false]) rfl ⟨rfl,trivial⟩ ?_
  exact⟨by rw[(show (false:Bool)=decide (x=y) from aEY (by assumption))];rfl,m.sub .n⟩
 have h1p:=dJ h1
 refine bT hs m lA fun a w_ hs m=>?_
 refine wp_loop_ghost (fun gn a w=>∃ k:Nat,(k<=x.length)/\(x.take k=y.take k)/\gn=x.length-k/\St 26 [(0,vx.v),(1,vy.v),(5,.int .i64 (k:Int))] a/\Hp w0 (hh w0) [] w) (x.length-0) ⟨0,by omega,by simp,rfl,hs.to ⟨rfl,rfl,rfl,trivial⟩,m.sub .n⟩ ?_
 rintro gn a w3 ⟨k,hk,ht,rfl,hs,m⟩
 refine bT hs m (x_ gC (e_ (p_ (bQ m rfl eR (dX hx))) eZ)) fun a w_ hs m=>?_
 refine aR hs rfl (fun h4=>?_) (fun h4=>?_)
 rotate_left
 ·have h4p:=of_decide_eq_false h4
  refine bT hs m fW fun a w_ hs m=>?_
  refine bH hs (vs:=[.bool true]) rfl ⟨rfl,trivial⟩ ?_
  exact⟨by rw[(show (true:Bool)=decide (x=y) from yH (by assumption) (by omega) ht)];rfl,m.sub .n⟩
 have h4p:=of_decide_eq_true h4
 refine wp_skip ?_
 refine aB ?_
 refine dG ?_
 refine wp_block ?_
 refine eE m mo (by kernel_rfl) ?_
 refine sO hs (k:=fun a hs=>?_)
 obtain⟨e6,he7⟩:=bI (l:=x) (i:=k) (by omega)
 refine kE (c:=aV) (e:=e6) hs m (x:=(.tmp 17)) (ix:=(.tmp 18)) rfl rfl eR fZ hx (by omega) he7 fun p8 hp9 ok10=>?_
 refine vJ hs (h1:=q_ (ok10 _ _ _ _ _)) (h2:=q_ (cN (aV e6))) (k:=fun a hs=>?_)
 obtain⟨e11,he12⟩:=bI (l:=y) (i:=k) (by omega)
 refine kE (c:=aV) (e:=e11) hs m (x:=(.tmp 21)) (ix:=(.tmp 22)) rfl rfl eR fZ hy (by omega) he12 fun p13 hp14 ok15=>?_
 refine nG hs (h1:=q_ (ok15 _ _ _ _ _)) (h2:=q_ (cN (aV e11))) (h3:=q_ (sS (b:=decide (e6=e11)) rfl rfl aUB (aGY _) (aGY _) (aPR e6 e11))) (k:=fun a hs=>?_)
 refine wpQuiet_nil fun w16 m=>?_
 refine aR hs rfl (fun h17=>?_) (fun h17=>?_)
 ·have h17p:=h17;simp only[fK] at h17p
  refine bT hs m fW fun a w_ hs m=>?_
  refine bH hs (vs:=[.bool false]) rfl ⟨rfl,trivial⟩ ?_
  exact⟨by rw[(show (false:Bool)=decide (x=y) from wC (by assumption) (by assumption) (by assumption))];rfl,m.sub .n⟩
 have h17p:=h17;simp only[fK] at h17p
 refine bT hs m hQ fun a w_ hs m=>?_
 exact⟨x.length-(k+1),by omega,k+1,by omega,by exact wD ht (by assumption) (by assumption) (by assumption),rfl,hs.to ⟨rfl,rfl,rfl,trivial⟩,m.sub .n⟩
theorem aBO (cQ:SH) (aF:List bD) (cT:SH) (aA:List bA) (dQ:SH) (aH:List cH) (cS:SH) (aD:List bD) (cU:SH) (aC:List bA) (dS:SH) (aI:List cH) (w0:World) (fF:RdS (hh w0) 4 cQ.v (aF.map aM)) (fN:RdS (hh w0) 7 cT.v (aA.map aS)) (hU:RdS (hh w0) 7 dQ.v (aH.map cB)) (fS:RdS (hh w0) 4 cS.v (aD.map aM)) (fR:RdS (hh w0) 7 cU.v (aC.map aS)) (iH:RdS (hh w0) 7 dS.v (aI.map cB)):iL Tryz.prog 14 [.agg ⟨[cQ.v,cT.v,dQ.v]⟩,.agg ⟨[cS.v,cU.v,dS.v]⟩] (.bool (decide (aF=aD/\aA=aC/\aH=aI))) w0:=by
 have wU:=fF.bd
 have wT:=fN.bd
 have aBC:=hU.bd
 have wW:=fS.bd
 have wV:=fR.bd
 have aBD:=iH.bd
 refine enter (n:=69) Tryz.func14 rfl rfl rfl fun a (hs:St 69 [(0,.agg ⟨[cQ.v,cT.v,dQ.v]⟩),(1,.agg ⟨[cS.v,cU.v,dS.v]⟩)] a)=>?_
 have m:=Hp.start w0
 refine bN ?_
 refine dU (cs:=[cQ.v,cT.v,dQ.v]) hs m rfl rfl rfl fun p1 w2 m a hs=>?_
 refine dU (cs:=[cS.v,cU.v,dS.v]) hs m rfl rfl rfl fun p3 w4 m a hs=>?_
 refine bP hs m lA fun a w_ hs m=>?_
 refine cC hs m rfl rfl a3H rfl (aHV cQ aF cS aD _ (m.rd fF) (m.rd fS) ) rfl fun w5 m a hs=>?_
 refine bP hs m lA fun a w_ hs m=>?_
 refine xY (.c (.c (.c (.c (.c (.c (.c (.c (.n))))))))) hs m 23 (.bool ((!(decide (aF=aD))) || ((aA.length:Int) !=(aC.length:Int)))) ?_ ?_
 ·rcases Bool.eq_false_or_eq_true (!(decide (aF=aD))) with hb6|hb6
  ·have hb6p:=hb6;simp only[fK] at hb6p
   refine bP hs m lA fun a w_ hs m=>?_
   exact nN hs m 7 (by rw[hb6];rfl)
  ·have hb6p:=hb6;simp only[fK] at hb6p
   refine bP hs m (x_ iA (e_ (dV hb6 (bQ m rfl fP (dX fN))) (x_ iA (e_ (dV hb6 (bQ m rfl fP (dX fR))) iA)))) fun a w_ hs m=>?_
   exact nN hs m 7 (by rw[hb6];rfl)
 rintro a w7 ⟨hs,m⟩
 refine bP hs m eO fun a w_ hs m=>?_
 refine xY (.c (.c (.c (.c (.c (.c (.c (.c (.n))))))))) hs m 32 (.bool (((!(decide (aF=aD))) || ((aA.length:Int) !=(aC.length:Int))) || ((aH.length:Int) !=(aI.length:Int)))) ?_ ?_
 ·rcases Bool.eq_false_or_eq_true ((!(decide (aF=aD))) || ((aA.length:Int) !=(aC.length:Int))) with hb8|hb8
  ·have hb8p:=hb8;simp only[fK] at hb8p
   refine bP hs m lA fun a w_ hs m=>?_
   exact nN hs m 7 (by rw[hb8];rfl)
  ·have hb8p:=hb8;simp only[fK] at hb8p
   refine bP hs m (x_ iA (e_ (dV hb8 (bQ m rfl fQ (dX hU))) (x_ iA (e_ (dV hb8 (bQ m rfl fQ (dX iH))) iA)))) fun a w_ hs m=>?_
   exact nN hs m 7 (by rw[hb8];rfl)
 rintro a w9 ⟨hs,m⟩
 refine wpList_nil (aB ?_)
 refine aR hs rfl (fun h10=>?_) (fun h10=>?_)
 ·have h10p:=h10;simp only[fK] at h10p
  refine bT hs m gX fun a w_ hs m=>?_
  refine bH hs (vs:=[.bool false]) rfl ⟨rfl,trivial⟩ ?_
  exact⟨by rw[(show (false:Bool)=decide (aF=aD/\aA=aC/\aH=aI) from aTF (by assumption))];rfl,m.sub .n⟩
 have h10p:=h10;simp only[fK] at h10p
 refine bT hs m lA fun a w_ hs m=>?_
 refine wp_loop_ghost (fun gn a w=>∃ k:Nat,(k<=aA.length)/\(aA.take k=aC.take k)/\gn=aA.length-k/\St 69 [(2,.pointer (some (bK p1 0))),(3,.pointer (some (bK p3 0))),(6,.int .i64 (k:Int))] a/\Hp w0 (hh w0) [Bx p1 29 [cQ.v,cT.v,dQ.v],Bx p3 29 [cS.v,cU.v,dS.v]] w) (aA.length-0) ⟨0,by omega,by simp,rfl,hs.to ⟨rfl,rfl,rfl,trivial⟩,m.sub (a1 (a0 .n))⟩ ?_
 rintro gn a w12 ⟨k,hk,ht,rfl,hs,m⟩
 refine bT hs m (x_ gI (e_ (p_ (bQ m rfl fP (dX fN))) eZ)) fun a w_ hs m=>?_
 refine aR hs rfl (fun h13=>?_) (fun h13=>?_)
 rotate_left
 ·have h13p:=of_decide_eq_false h13
  refine bT hs m mT fun a w_ hs m=>?_
  have hN:=yH (x:=aA) (y:=aC) (by omega) (by omega) ht
  clear ht hk
  refine wp_loop_ghost (fun gn a w=>∃ k:Nat,(k<=aH.length)/\(aH.take k=aI.take k)/\gn=aH.length-k/\St 69 [(2,.pointer (some (bK p1 0))),(3,.pointer (some (bK p3 0))),(7,.int .i64 (k:Int))] a/\Hp w0 (hh w0) [Bx p1 29 [cQ.v,cT.v,dQ.v],Bx p3 29 [cS.v,cU.v,dS.v]] w) (aH.length-0) ⟨0,by omega,by simp,rfl,hs.to ⟨rfl,rfl,rfl,trivial⟩,m.sub (a0 (a0 .n))⟩ ?_
  rintro gn a w14 ⟨k,hk,ht,rfl,hs,m⟩
  refine bT hs m (x_ gI (e_ (p_ (bQ m rfl fQ (dX hU))) eZ)) fun a w_ hs m=>?_
  refine aR hs rfl (fun h15=>?_) (fun h15=>?_)
  rotate_left
  ·have h15p:=of_decide_eq_false h15
   refine bT hs m fW fun a w_ hs m=>?_
   refine bH hs (vs:=[.bool true]) rfl ⟨rfl,trivial⟩ ?_
   exact⟨by rw[(show (true:Bool)=decide (aF=aD/\aA=aC/\aH=aI) from aYG (by assumption) hN (yH (by omega) (by omega) ht))];rfl,m.sub .n⟩
  have h15p:=of_decide_eq_true h15
  refine wp_skip ?_
  refine aB ?_
  refine dG ?_
  refine wp_block ?_
  refine eE m mo (by kernel_rfl) ?_
  refine nG hs (k:=fun a hs=>?_)
  obtain⟨e17,he18⟩:=bI (l:=aH) (i:=k) (by omega)
  refine kE (c:=cB) (e:=e17) hs m (x:=(.tmp 59)) (ix:=(.tmp 60)) rfl rfl fQ gS hU (by omega) he18 fun p19 hp20 ok21=>?_
  refine xD hs (h1:=q_ (ok21 _ _ _ _ _)) (h2:=q_ (cN (cB e17))) (k:=fun a hs=>?_)
  obtain⟨e22,he23⟩:=bI (l:=aI) (i:=k) (by omega)
  refine kE (c:=cB) (e:=e22) hs m (x:=(.tmp 64)) (ix:=(.tmp 65)) rfl rfl fQ gS iH (by omega) he23 fun p24 hp25 ok26=>?_
  refine nG hs (h1:=q_ (ok26 _ _ _ _ _)) (h2:=q_ (cN (cB e22))) (h3:=q_ (sS (b:=decide (e17=e22)) rfl rfl aL2 (aII _) (aII _) (aSE e17 e22))) (k:=fun a hs=>?_)
  refine wpQuiet_nil fun w27 m=>?_
  refine aR hs rfl (fun h28=>?_) (fun h28=>?_)
  ·have h28p:=h28;simp only[fK] at h28p
   refine bT hs m fW fun a w_ hs m=>?_
   refine bH hs (vs:=[.bool false]) rfl ⟨rfl,trivial⟩ ?_
   exact⟨by rw[(show (false:Bool)=decide (aF=aD/\aA=aC/\aH=aI) from aTH (wC (by assumption) (by assumption) (by assumption)))];rfl,m.sub .n⟩
  have h28p:=h28;simp only[fK] at h28p
  refine bT hs m hQ fun a w_ hs m=>?_
  exact⟨aH.length-(k+1),by omega,k+1,by omega,by exact wD ht (by assumption) (by assumption) (by assumption),rfl,hs.to ⟨rfl,rfl,rfl,trivial⟩,m.sub (a0 (a0 .n))⟩
 have h13p:=of_decide_eq_true h13
 refine wp_skip ?_
 refine aB ?_
 refine dG ?_
 refine wp_block ?_
 refine eE m mo (by kernel_rfl) ?_
 refine nG hs (k:=fun a hs=>?_)
 obtain⟨e30,he31⟩:=bI (l:=aA) (i:=k) (by omega)
 refine kE (c:=aS) (e:=e30) hs m (x:=(.tmp 41)) (ix:=(.tmp 42)) rfl rfl fP gQ fN (by omega) he31 fun p32 hp33 ok34=>?_
 refine xD hs (h1:=q_ (ok34 _ _ _ _ _)) (h2:=q_ (cN (aS e30))) (k:=fun a hs=>?_)
 obtain⟨e35,he36⟩:=bI (l:=aC) (i:=k) (by omega)
 refine kE (c:=aS) (e:=e35) hs m (x:=(.tmp 46)) (ix:=(.tmp 47)) rfl rfl fP gQ fR (by omega) he36 fun p37 hp38 ok39=>?_
 refine nG hs (h1:=q_ (ok39 _ _ _ _ _)) (h2:=q_ (cN (aS e35))) (h3:=q_ (sS (b:=decide (e30=e35)) rfl rfl aPI (aB2 _) (aB2 _) (aKR e30 e35))) (k:=fun a hs=>?_)
 refine wpQuiet_nil fun w40 m=>?_
 refine aR hs rfl (fun h41=>?_) (fun h41=>?_)
 ·have h41p:=h41;simp only[fK] at h41p
  refine bT hs m fW fun a w_ hs m=>?_
  refine bH hs (vs:=[.bool false]) rfl ⟨rfl,trivial⟩ ?_
  exact⟨by rw[(show (false:Bool)=decide (aF=aD/\aA=aC/\aH=aI) from aTG (wC (by assumption) (by assumption) (by assumption)))];rfl,m.sub .n⟩
 have h41p:=h41;simp only[fK] at h41p
 refine bT hs m hQ fun a w_ hs m=>?_
 exact⟨aA.length-(k+1),by omega,k+1,by omega,by exact wD ht (by assumption) (by assumption) (by assumption),rfl,hs.to ⟨rfl,rfl,rfl,trivial⟩,m.sub (a0 (a0 .n))⟩
theorem vE (vl:SH) (l:List TLease) (w0:World) (hl:RdS (hh w0) 12 vl.v (l.map aV)) (hb:l.length<=1048576):Calls Tryz.prog 11 ⟨[vl.v]⟩ w0 fun e w'=>∃ v,e= .returned v/\(∃ x0:SH,v=(x0.v)/\Hp w0 (hh w0) [Sv 12 48 x0.v ((lN l).map aV)] w'):=by
 have lvl:=hl.bd
 refine enter (n:=18) Tryz.func11 rfl rfl rfl fun a (hs:St 18 [(0,vl.v)] a)=>?_
 have m:=Hp.start w0
 refine bT hs m gX fun a w_ hs m=>?_
 replace m:=m.nilSvM aV 12 48
 refine cF (c:=aV) (xs:=[]) (ys:=l) hs m rfl rfl eR xF fZ mY rfl vN rfl r0 (m.rd hl) (fun _=>rfl) (by(simp;omega)) rfl fun v1 w3 m a hs=>?_
 refine bP hs m hQ fun a w_ hs m=>?_
 rw[(show l=pI l 0 by(simp [pI]))] at m
 refine wp_loop_ghost (fun gn a w=>∃ k:Nat,∃ v4:SH,(k<=70)/\gn=70-k/\St 18 [(3,v4.v),(4,.int .i64 (k:Int))] a/\Hp w0 (hh w0) [Sv 12 48 v4.v ((pI l k).map aV)] w) (70-0) ⟨0,v1,by omega,rfl,hs.to ⟨rfl,rfl,trivial⟩,m.sub (a0 .n)⟩ ?_
 rintro gn a w6 ⟨k,v4,hk,rfl,hs,m⟩
 have hr:(pI l k).length=l.length+k:=by simp [pI]
 refine bT hs m gX fun a w_ hs m=>?_
 refine aR hs rfl (fun h7=>?_) (fun h7=>?_)
 rotate_left
 ·have h7p:=of_decide_eq_false h7
  refine bT hs m mT fun a w_ hs m=>?_
  refine bH hs (vs:=[v4.v]) rfl ⟨rfl,trivial⟩ ?_
  rw[(show pI l k=lN l from aNY (by omega))] at m
  refine⟨_,rfl,v4,?_,m.sub (a0 .n)⟩
  rfl
 have h7p:=of_decide_eq_true h7
 refine bT hs m (x_ lA (e_ (p_ (bW (cs:=aV (⟨⟨201+(k:Int),cJ (by omega) (by omega)⟩,(⟨⟨0,rfl⟩,⟨0,rfl⟩⟩:aT),⟨0,rfl⟩,(⟨⟨0,rfl⟩,⟨0,rfl⟩,⟨0,rfl⟩,⟨0,rfl⟩,⟨0,rfl⟩,⟨0,rfl⟩⟩:cK),⟨0,rfl⟩,⟨0,rfl⟩⟩:TLease)) aYE mY rfl rfl)) bR)) fun a w_ hs m=>?_
 refine dK (c:=aV) (ys:=[(⟨⟨201+(k:Int),cJ (by omega) (by omega)⟩,(⟨⟨0,rfl⟩,⟨0,rfl⟩⟩:aT),⟨0,rfl⟩,(⟨⟨0,rfl⟩,⟨0,rfl⟩,⟨0,rfl⟩,⟨0,rfl⟩,⟨0,rfl⟩,⟨0,rfl⟩⟩:cK),⟨0,rfl⟩,⟨0,rfl⟩⟩:TLease)]) hs m eR fZ mY rfl rfl rfl rfl rfl (fun _=>rfl) rfl rfl rfl fun v9 w10 m a hs=>?_
 refine cF (c:=aV) (xs:=pI l k) (ys:=[(⟨⟨201+(k:Int),cJ (by omega) (by omega)⟩,(⟨⟨0,rfl⟩,⟨0,rfl⟩⟩:aT),⟨0,rfl⟩,(⟨⟨0,rfl⟩,⟨0,rfl⟩,⟨0,rfl⟩,⟨0,rfl⟩,⟨0,rfl⟩,⟨0,rfl⟩⟩:cK),⟨0,rfl⟩,⟨0,rfl⟩⟩:TLease)]) hs m rfl rfl eR xF fZ mY rfl vN rfl r1 (m.rdv r0) (fun _=>rfl) (by(simp;omega)) rfl fun v11 w12 m a hs=>?_
 refine bP hs m fW fun a w_ hs m=>?_
 rw[(show (pI l k)++[(⟨⟨201+(k:Int),cJ (by omega) (by omega)⟩,(⟨⟨0,rfl⟩,⟨0,rfl⟩⟩:aT),⟨0,rfl⟩,(⟨⟨0,rfl⟩,⟨0,rfl⟩,⟨0,rfl⟩,⟨0,rfl⟩,⟨0,rfl⟩,⟨0,rfl⟩⟩:cK),⟨0,rfl⟩,⟨0,rfl⟩⟩:TLease)]=pI l (k+1) from aJG (by omega))] at m
 exact⟨70-(k+1),by omega,k+1,v11,by omega,rfl,hs.to ⟨rfl,rfl,trivial⟩,m.sub (a0 .n)⟩
theorem aYC (n:Int) (w0:World) (A1:0<=n) (A2:n<=32):iL Tryz.prog 155 [.int .i64 n] (.int .i64 (2 ^ (32-n).toNat:Int)) w0:=by
 refine enter (n:=13) Tryz.func155 rfl rfl rfl fun a (hs:St 13 [(0,.int .i64 n)] a)=>?_
 have m:=Hp.start w0
 refine bT hs m aJ3 fun a w_ hs m=>?_
 refine wp_loop_ghost (fun gn a w=>∃ i:Int,∃ k:Nat,(i=n+k)/\(i<=32)/\gn=(32-i).toNat/\St 13 [(3,.int .i64 (2 ^ k:Int)),(4,.int .i64 i)] a/\Hp w0 (hh w0) [] w) ((32-n).toNat) ⟨n,0,by simp,by omega,rfl,hs.to ⟨rfl,rfl,trivial⟩,m.sub .n⟩ ?_
 rintro gn a w1 ⟨i,k,hi,hj,rfl,hs,m⟩
 refine bT hs m gX fun a w_ hs m=>?_
 refine aR hs rfl (fun h2=>?_) (fun h2=>?_)
 rotate_left
 ·have h2p:=of_decide_eq_false h2
  refine bT hs m mT fun a w_ hs m=>?_
  refine bH hs (vs:=[.int .i64 (2 ^ k:Int)]) rfl ⟨rfl,trivial⟩ ?_
  exact⟨by rw[(show ((2 ^ k:Int):Int)=(2 ^ (32-n).toNat:Int) by(rw[show (32-n).toNat=k by omega]))];rfl,m.sub .n⟩
 have h2p:=of_decide_eq_true h2
 refine bT hs m (x_ gX (e_ (p_ (tX (r:=(2 ^ (k+1):Int)) rfl rfl (aNZ (by omega)))) fW)) fun a w_ hs m=>?_
 exact⟨(32-(i+1)).toNat,by omega,i+1,k+1,by omega,by omega,rfl,hs.to ⟨rfl,rfl,trivial⟩,m.sub .n⟩
theorem aPK (p:aT) (w0:World):iL Tryz.prog 106 [.agg ⟨aO p⟩] (.int .i64 (tU p)) w0:=by
 have hl:=p.Len.i64
 have ha:=p.Addr.u32
 refine enter (n:=19) Tryz.func106 rfl rfl rfl fun a (hs:St 19 [(0,.agg ⟨aO p⟩)] a)=>?_
 have m:=Hp.start w0
 refine bN ?_
 refine dU (cs:=aO p) hs m rfl rfl rfl fun p1 w2 m a hs=>?_
 refine bP hs m hQ fun a w_ hs m=>?_
 refine jO (.c (.c (.c (.c (.n))))) hs m 10 (decide (p.Len.v<0)) (.bool ((decide (p.Len.v<0)) || (decide (p.Len.v>32)))) ?_
 rintro a w4 ⟨hs,m⟩
 refine wpList_nil (aB ?_)
 refine aR hs rfl (fun h5=>?_) (fun h5=>?_)
 ·have h5p:=h5;simp only[fK] at h5p
  refine bT hs m gX fun a w_ hs m=>?_
  refine bH hs (vs:=[.int .i64 11]) rfl ⟨rfl,trivial⟩ ?_
  exact⟨by rw[(show (11:Int)=tU p by(simp [tU, *] <;> omega))];rfl,m.sub .n⟩
 have h5p:=h5;simp only[fK] at h5p
 refine wp_skip ?_
 refine aB ?_
 refine dG ?_
 refine eE m mo (by kernel_rfl) ?_
 refine xD hs (h3:=q_ (lH (r:=p.Addr.v) rfl aFE zV (cJ (by omega) (by omega)))) (k:=fun a hs=>?_)
 refine mL hs rfl rfl aZU rfl (fun w m=>aYC p.Len.v w  (by omega) (by omega)) rfl fun a hs=>?_
 refine sO hs (h1:=q_ (aQC rfl rfl (by exact Int.ne_of_gt (Int.pow_pos (by omega))) rfl)) (k:=fun a hs=>?_)
 refine wpQuiet_nil fun w7 m=>?_
 refine aR hs rfl (fun h8=>?_) (fun h8=>?_)
 ·have h8p:=fT h8
  refine bT hs m gX fun a w_ hs m=>?_
  refine bH hs (vs:=[.int .i64 12]) rfl ⟨rfl,trivial⟩ ?_
  exact⟨by rw[(show (12:Int)=tU p by(simp [tU, *] <;> omega))];rfl,m.sub .n⟩
 have h8p:=dJ h8
 refine bT hs m gZ fun a w_ hs m=>?_
 refine bH hs (vs:=[.int .i64 0]) rfl ⟨rfl,trivial⟩ ?_
 exact⟨by rw[(show (0:Int)=tU p by(simp [tU, *] <;> omega))];rfl,m.sub .n⟩
theorem yJ (p:aT) (w0:World):iL Tryz.prog 50 [.agg ⟨aO p⟩] (.bool (iZ p)) w0:=by
 refine enter (n:=8) Tryz.func50 rfl rfl rfl fun a (hs:St 8 [(0,.agg ⟨aO p⟩)] a)=>?_
 have m:=Hp.start w0
 refine bN ?_
 refine dU (cs:=aO p) hs m rfl rfl rfl fun p1 w2 m a hs=>?_
 refine bP hs m (x_ gC (e_ (p_ (cN (aO p))) bR)) fun a w_ hs m=>?_
 refine cC hs m rfl rfl aY4 rfl (aPK p _  ) rfl fun w3 m a hs=>?_
 refine bP hs m fW fun a w_ hs m=>?_
 refine bH hs (vs:=[.bool ((tU p)==0)]) rfl ⟨rfl,trivial⟩ ?_
 exact⟨by rw[(show ((tU p)==0:Bool)=iZ p by(simp [iZ]))];rfl,m.sub .n⟩
theorem uS (x:aT) (y:aT) (w0:World):iL Tryz.prog 107 [.agg ⟨aO x⟩,.agg ⟨aO y⟩] (.bool (cL x y)) w0:=by
 refine enter (n:=24) Tryz.func107 rfl rfl rfl fun a (hs:St 24 [(0,.agg ⟨aO x⟩),(1,.agg ⟨aO y⟩)] a)=>?_
 have m:=Hp.start w0
 refine bN ?_
 refine dU (cs:=aO x) hs m rfl rfl rfl fun p1 w2 m a hs=>?_
 refine dU (cs:=aO y) hs m rfl rfl rfl fun p3 w4 m a hs=>?_
 refine bP hs m fW fun a w_ hs m=>?_
 refine zG (.c (.c (.c (.c (.c (.c (.c (.c (.c (.c (.c (.c (.c (.n)))))))))))))) (fun a w=>St 24 [(23,.bool ((decide (x.Addr.v<y.Addr.v)) || ((x.Addr.v==y.Addr.v)&&(decide (x.Len.v<y.Len.v)))))] a/\Hp w0 (hh w0) [Bx p3 44 (aO y),Bx p1 44 (aO x)] w) ?_ ?_
 ·rcases Bool.eq_false_or_eq_true (decide (x.Addr.v<y.Addr.v)) with hb5|hb5
  ·have hb5p:=of_decide_eq_true hb5
   refine bP hs m (x_ nP (e_ (p_ (aP (r:=.bool ((decide (x.Addr.v<y.Addr.v)) || ((x.Addr.v==y.Addr.v)&&(decide (x.Len.v<y.Len.v))))) rfl rfl rfl (by rw[hb5];rfl))) bR)) fun a w_ hs m=>?_
   exact wpList_nil (aB ⟨hs.to ⟨rfl,trivial⟩,m⟩)
  ·have hb5p:=of_decide_eq_false hb5
   refine bP hs m gX fun a w_ hs m=>?_
   refine xY (.c (.c (.c (.c (.c (.c (.n))))))) hs m 22 (.bool ((x.Addr.v==y.Addr.v)&&(decide (x.Len.v<y.Len.v)))) ?_ ?_
   ·rcases Bool.eq_false_or_eq_true (x.Addr.v==y.Addr.v) with hb6|hb6
    ·have hb6p:=eq_of_beq hb6
     refine bP hs m (x_ gI (e_ (dV hb5 (aP (r:=.bool ((x.Addr.v==y.Addr.v)&&(decide (x.Len.v<y.Len.v)))) rfl rfl rfl (by rw[hb6];rfl))) bR)) fun a w_ hs m=>?_
     exact wpList_nil (aB ⟨hs.ct 5,m⟩)
    ·have hb6p:=ne_of_beq_false hb6
     refine bP hs m (x_ gI (e_ (dV hb5 (aP (r:=.bool ((x.Addr.v==y.Addr.v)&&(decide (x.Len.v<y.Len.v)))) rfl rfl rfl (by rw[hb6];rfl))) bR)) fun a w_ hs m=>?_
     exact wpList_nil (aB ⟨hs.ct 5,m⟩)
   rintro a w7 ⟨hs,m⟩
   refine bP hs m (e_ (p_ (aP (r:=.bool ((decide (x.Addr.v<y.Addr.v)) || ((x.Addr.v==y.Addr.v)&&(decide (x.Len.v<y.Len.v))))) rfl rfl rfl (by rw[hb5];rfl))) bR) fun a w_ hs m=>?_
   exact wpList_nil (aB ⟨hs.to ⟨rfl,trivial⟩,m⟩)
 rintro a w8 ⟨hs,m⟩
 refine bP hs m gC fun a w_ hs m=>?_
 refine bH hs (vs:=[.bool ((decide (x.Addr.v<y.Addr.v)) || ((x.Addr.v==y.Addr.v)&&(decide (x.Len.v<y.Len.v))))]) rfl ⟨rfl,trivial⟩ ?_
 exact⟨by rw[(show ((decide (x.Addr.v<y.Addr.v)) || ((x.Addr.v==y.Addr.v)&&(decide (x.Len.v<y.Len.v))):Bool)=cL x y by(rfl))];rfl,m.sub .n⟩
theorem aBT (q:cK) (w0:World):iL Tryz.prog 108 [.agg ⟨mU q⟩] (.int .i64 (eN q)) w0:=by
 have h0:=q.b0.u8
 have h1:=q.b1.u8
 have h2:=q.b2.u8
 have h3:=q.b3.u8
 have h4:=q.b4.u8
 have h5:=q.b5.u8
 refine enter (n:=17) Tryz.func108 rfl rfl rfl fun a (hs:St 17 [(0,.agg ⟨mU q⟩)] a)=>?_
 have m:=Hp.start w0
 refine bN ?_
 refine dU (cs:=mU q) hs m rfl rfl rfl fun p1 w2 m a hs=>?_
 refine bP hs m aBW fun a w_ hs m=>?_
 refine wp_loop_rounds 7 ?_
 refine iF ?_
 refine bT hs m (x_ eZ (e_ (p_ (fB (v:=.bool true) rfl rfl rfl)) (x_ hQ (e_ (p_ (tX (r:=0) rfl rfl rfl)) (x_ eO (e_ (p_ (qE (i:=0) (r:=0) rfl rfl xL ty5 rfl rfl)) (x_ eO (e_ (p_ (lH (r:=q.b0.v) rfl in5 zV (cJ (by omega) (by omega)))) (x_ gZ (e_ (p_ (fA (r:=1) rfl rfl rfl)) eZ)))))))))) fun a w_ hs m=>?_
 refine iF ?_
 refine bT hs m (x_ eZ (e_ (p_ (fB (v:=.bool true) rfl rfl rfl)) (x_ hQ (e_ (p_ (tX (r:=(0+q.b0.v)*256) rfl rfl (cJ (by omega) (by omega)))) (x_ eO (e_ (p_ (qE (i:=1) (r:=1) rfl rfl xL ty5 rfl rfl)) (x_ eO (e_ (p_ (lH (r:=q.b1.v) rfl in5 zV (cJ (by omega) (by omega)))) (x_ gZ (e_ (p_ (fA (r:=2) rfl rfl rfl)) eZ)))))))))) fun a w_ hs m=>?_
 refine iF ?_
 refine bT hs m (x_ eZ (e_ (p_ (fB (v:=.bool true) rfl rfl rfl)) (x_ hQ (e_ (p_ (tX (r:=(((0+q.b0.v)*256)+q.b1.v)*256) rfl rfl (cJ (by omega) (by omega)))) (x_ eO (e_ (p_ (qE (i:=2) (r:=2) rfl rfl xL ty5 rfl rfl)) (x_ eO (e_ (p_ (lH (r:=q.b2.v) rfl in5 zV (cJ (by omega) (by omega)))) (x_ gZ (e_ (p_ (fA (r:=3) rfl rfl rfl)) eZ)))))))))) fun a w_ hs m=>?_
 refine iF ?_
 refine bT hs m (x_ eZ (e_ (p_ (fB (v:=.bool true) rfl rfl rfl)) (x_ hQ (e_ (p_ (tX (r:=(((((0+q.b0.v)*256)+q.b1.v)*256)+q.b2.v)*256) rfl rfl (cJ (by omega) (by omega)))) (x_ eO (e_ (p_ (qE (i:=3) (r:=3) rfl rfl xL ty5 rfl rfl)) (x_ eO (e_ (p_ (lH (r:=q.b3.v) rfl in5 zV (cJ (by omega) (by omega)))) (x_ gZ (e_ (p_ (fA (r:=4) rfl rfl rfl)) eZ)))))))))) fun a w_ hs m=>?_
 refine iF ?_
 refine bT hs m (x_ eZ (e_ (p_ (fB (v:=.bool true) rfl rfl rfl)) (x_ hQ (e_ (p_ (tX (r:=(((((((0+q.b0.v)*256)+q.b1.v)*256)+q.b2.v)*256)+q.b3.v)*256) rfl rfl (cJ (by omega) (by omega)))) (x_ eO (e_ (p_ (qE (i:=4) (r:=4) rfl rfl xL ty5 rfl rfl)) (x_ eO (e_ (p_ (lH (r:=q.b4.v) rfl in5 zV (cJ (by omega) (by omega)))) (x_ gZ (e_ (p_ (fA (r:=5) rfl rfl rfl)) eZ)))))))))) fun a w_ hs m=>?_
 refine iF ?_
 refine bT hs m (x_ eZ (e_ (p_ (fB (v:=.bool true) rfl rfl rfl)) (x_ hQ (e_ (p_ (tX (r:=(((((((((0+q.b0.v)*256)+q.b1.v)*256)+q.b2.v)*256)+q.b3.v)*256)+q.b4.v)*256) rfl rfl (cJ (by omega) (by omega)))) (x_ eO (e_ (p_ (qE (i:=5) (r:=5) rfl rfl xL ty5 rfl rfl)) (x_ eO (e_ (p_ (lH (r:=q.b5.v) rfl in5 zV (cJ (by omega) (by omega)))) (x_ gZ (e_ (p_ (fA (r:=6) rfl rfl rfl)) eZ)))))))))) fun a w_ hs m=>?_
 refine iF ?_
 refine bT hs m (x_ eZ (e_ (p_ (fB (v:=.bool false) rfl rfl rfl)) aAM)) fun a w_ hs m=>?_
 refine bH hs (vs:=[.int .i64 (((((((((((0+q.b0.v)*256)+q.b1.v)*256)+q.b2.v)*256)+q.b3.v)*256)+q.b4.v)*256)+q.b5.v)]) rfl ⟨rfl,trivial⟩ ?_
 exact⟨by rw[(show (((((((((((0+q.b0.v)*256)+q.b1.v)*256)+q.b2.v)*256)+q.b3.v)*256)+q.b4.v)*256)+q.b5.v:Int)=eN q by(unfold eN;omega))];rfl,m.sub .n⟩
end Go.Proofs.YtnbpodjbemfpbaaGreat.Fw
set_option linter.all false
set_option maxHeartbeats 4000000
set_option maxRecDepth 100000
namespace Go.Proofs.YtnbpodjbemfpbaaGreat.Fw
open Go
theorem aB5 (bG:SH) (aQ:List bD) (bF:SH) (aN:List bA) (bX:SH) (bO:List cH) (w0:World) (dT:RdS (hh w0) 4 bG.v (aQ.map aM)) (dY:RdS (hh w0) 7 bF.v (aN.map aS)) (fG:RdS (hh w0) 7 bX.v (bO.map cB)):iL Tryz.prog 56 [.agg ⟨[bG.v,bF.v,bX.v]⟩] (.bool (iD aQ aN bO)) w0:=by
 have jE:=dT.bd
 have jD:=dY.bd
 have mD:=fG.bd
 refine enter (n:=30) Tryz.func56 rfl rfl rfl fun a (hs:St 30 [(0,.agg ⟨[bG.v,bF.v,bX.v]⟩)] a)=>?_
 have m:=Hp.start w0
 refine bN ?_
 refine dU (cs:=[bG.v,bF.v,bX.v]) hs m rfl rfl rfl fun p1 w2 m a hs=>?_
 refine bP hs m (x_ gZ (e_ (p_ (bQ m rfl eY (dX dT))) gC)) fun a w_ hs m=>?_
 refine wp_loop_ghost (fun gn a w=>∃ k:Nat,(k<=aQ.length)/\(pC (tF aQ) k=true)/\gn=aQ.length-k/\St 30 [(1,.pointer (some (bK p1 0))),(6,bG.v),(7,.int .i64 (aQ.length:Int)),(8,.int .i64 (k:Int))] a/\Hp w0 (hh w0) [Bx p1 29 [bG.v,bF.v,bX.v]] w) (aQ.length-0) ⟨0,by omega,by rfl,rfl,hs.to ⟨rfl,rfl,rfl,rfl,trivial⟩,m.sub (a0 .n)⟩ ?_
 rintro gn a w3 ⟨k,hk,ho,rfl,hs,m⟩
 refine bT hs m gI fun a w_ hs m=>?_
 refine aR hs rfl (fun h4=>?_) (fun h4=>?_)
 rotate_left
 ·have h4p:=of_decide_eq_false h4
  refine bT hs m lA fun a w_ hs m=>?_
  refine cC hs m rfl rfl aY5 rfl (aHN bG aQ _ (m.rd dT) ) rfl fun w5 m a hs=>?_
  refine bP hs m eO fun a w_ hs m=>?_
  refine xY (.c (.c (.c (.c (.n))))) hs m 24 (.bool ((gV bS aQ)&&(gV bB aN))) ?_ ?_
  ·rcases Bool.eq_false_or_eq_true (gV bS aQ) with hb6|hb6
   ·refine bP hs m iA fun a w_ hs m=>?_
    refine sL hs rfl rfl hb6 m rfl rfl aY6 rfl (aHM bF aN _ (m.rd dY) ) rfl fun w7 m a hs=>?_
    refine bP hs m eO fun a w_ hs m=>?_
    exact nN hs m 3 (by rw[hb6];rfl)
   ·refine bP hs m gC fun a w_ hs m=>?_
    exact nN hs m 3 (by rw[hb6];rfl)
  rintro a w8 ⟨hs,m⟩
  refine bP hs m eO fun a w_ hs m=>?_
  refine xY (.c (.c (.c (.c (.n))))) hs m 29 (.bool (((gV bS aQ)&&(gV bB aN))&&(gV bY bO))) ?_ ?_
  ·rcases Bool.eq_false_or_eq_true ((gV bS aQ)&&(gV bB aN)) with hb9|hb9
   ·have hb9p:=hb9;simp only[fK] at hb9p
    refine bP hs m iA fun a w_ hs m=>?_
    refine sL hs rfl rfl hb9 m rfl rfl aY7 rfl (aK8 bX bO _ (m.rd fG) ) rfl fun w10 m a hs=>?_
    refine bP hs m eO fun a w_ hs m=>?_
    exact nN hs m 3 (by rw[hb9];rfl)
   ·have hb9p:=hb9;simp only[fK] at hb9p
    refine bP hs m gC fun a w_ hs m=>?_
    exact nN hs m 3 (by rw[hb9];rfl)
  rintro a w11 ⟨hs,m⟩
  refine bP hs m gC fun a w_ hs m=>?_
  refine bH hs (vs:=[.bool (((gV bS aQ)&&(gV bB aN))&&(gV bY bO))]) rfl ⟨rfl,trivial⟩ ?_
  exact⟨by rw[(show (((gV bS aQ)&&(gV bB aN))&&(gV bY bO):Bool)=iD aQ aN bO from aNI (by omega) ho)];rfl,m.sub .n⟩
 have h4p:=of_decide_eq_true h4
 refine wp_skip ?_
 refine aB ?_
 refine dG ?_
 refine wp_block ?_
 refine bN ?_
 obtain⟨e13,he14⟩:=bI (l:=aQ) (i:=k) (by omega)
 refine kE (c:=aM) (e:=e13) hs m (x:=(.tmp 6)) (ix:=(.tmp 8)) rfl rfl eY gG dT (by omega) he14 fun p15 hp16 ok17=>?_
 refine bP hs m (e_ (p_ (ok17 _ _ _ _ _)) (e_ (p_ (cN (aM e13))) bR)) fun a w_ hs m=>?_
 refine bZ hs m kK rfl fun p18 w19 m a hs=>?_
 refine bP hs m (dZ s0 (t:=x_ gC (e_ (p_ (cN (aO e13.Dst))) bR))) fun a w20 hs m=>?_
 refine cC hs m rfl rfl aO3 rfl (aBR e13.Dst _  ) rfl fun w21 m a hs=>?_
 refine bP hs m eZ fun a w_ hs m=>?_
 refine aR hs rfl (fun h22=>?_) (fun h22=>?_)
 ·have h22p:=h22;simp only[fK] at h22p
  refine bT hs m fW fun a w_ hs m=>?_
  refine bH hs (vs:=[.bool false]) rfl ⟨rfl,trivial⟩ ?_
  exact⟨by rw[(show (false:Bool)=iD aQ aN bO from aNH (k:=k) (by omega) (by assumption) (by assumption))];rfl,m.sub .n⟩
 have h22p:=h22;simp only[fK] at h22p
 refine bT hs m lA fun a w_ hs m=>?_
 exact⟨aQ.length-(k+1),by omega,k+1,by omega,by exact nH ho (aN9 (by assumption) (by assumption)),rfl,hs.to ⟨rfl,rfl,rfl,rfl,trivial⟩,m.sub (a1 .n)⟩
theorem aMW (bG:SH) (aQ:List bD) (bF:SH) (aN:List bA) (bX:SH) (bO:List cH) (r:bD) (w0:World) (dT:RdS (hh w0) 4 bG.v (aQ.map aM)) (dY:RdS (hh w0) 7 bF.v (aN.map aS)) (fG:RdS (hh w0) 7 bX.v (bO.map cB)):iL Tryz.prog 113 [.agg ⟨[bG.v,bF.v,bX.v]⟩,.agg ⟨aM r⟩] (.agg ⟨mB (oZ aN bO r)⟩) w0:=by
 have jE:=dT.bd
 have jD:=dY.bd
 have mD:=fG.bd
 refine enter (n:=35) Tryz.func113 rfl rfl rfl fun a (hs:St 35 [(0,.agg ⟨[bG.v,bF.v,bX.v]⟩),(1,.agg ⟨aM r⟩)] a)=>?_
 have m:=Hp.start w0
 refine bN ?_
 refine dU (cs:=[bG.v,bF.v,bX.v]) hs m rfl rfl rfl fun p1 w2 m a hs=>?_
 refine dU (cs:=aM r) hs m rfl rfl rfl fun p3 w4 m a hs=>?_
 refine bZ hs m aRJ rfl fun p5 w6 m a hs=>?_
 refine bP hs m (x_ gZ (e_ (p_ (bW (cs:=aS (⟨r.Via,(⟨⟨0,rfl⟩,⟨0,rfl⟩,⟨0,rfl⟩,⟨0,rfl⟩,⟨0,rfl⟩,⟨0,rfl⟩⟩:cK)⟩:bA)) aQ9 lW rfl rfl)) bR)) fun a w_ hs m=>?_
 refine cC hs m rfl rfl aT2 rfl (aD2 bF aN (⟨r.Via,(⟨⟨0,rfl⟩,⟨0,rfl⟩,⟨0,rfl⟩,⟨0,rfl⟩,⟨0,rfl⟩,⟨0,rfl⟩⟩:cK)⟩:bA) _ (m.rd dY) ) rfl fun w7 m a hs=>?_
 refine bP hs m eZ fun a w_ hs m=>?_
 refine bZ hs m lW rfl fun p8 w9 m a hs=>?_
 refine bP hs m (dZ s0 (t:=hQ)) fun a w10 hs m=>?_
 refine aR hs rfl (fun h11=>?_) (fun h11=>?_)
 ·have h11p:=h11;simp only[fK] at h11p
  refine bT hs m (x_ eO (e_ (p_ (bW (cs:=mB (⟨false,false,(⟨⟨0,rfl⟩,⟨0,rfl⟩,⟨0,rfl⟩,⟨0,rfl⟩,⟨0,rfl⟩,⟨0,rfl⟩⟩:cK),⟨0,rfl⟩⟩:Tagent_way)) aUT aRJ rfl rfl)) (dZ s1 (t:=gC)))) fun a w12 hs m=>?_
  refine bH hs (vs:=[.agg ⟨mB (⟨false,false,(⟨⟨0,rfl⟩,⟨0,rfl⟩,⟨0,rfl⟩,⟨0,rfl⟩,⟨0,rfl⟩,⟨0,rfl⟩⟩:cK),⟨0,rfl⟩⟩:Tagent_way)⟩]) rfl ⟨cZ (cs:=mB (⟨false,false,(⟨⟨0,rfl⟩,⟨0,rfl⟩,⟨0,rfl⟩,⟨0,rfl⟩,⟨0,rfl⟩,⟨0,rfl⟩⟩:cK),⟨0,rfl⟩⟩:Tagent_way)) m rfl aUV r1 rfl,trivial⟩ ?_
  exact⟨by rw[(show ((⟨false,false,(⟨⟨0,rfl⟩,⟨0,rfl⟩,⟨0,rfl⟩,⟨0,rfl⟩,⟨0,rfl⟩,⟨0,rfl⟩⟩:cK),⟨0,rfl⟩⟩:Tagent_way):Tagent_way)=oZ aN bO r from aYK (by assumption))];rfl,m.sub .n⟩
 have h11p:=h11;simp only[fK] at h11p
 refine bT hs m (x_ gX (e_ (p_ (cN (mU ((hH bB cW aN (⟨r.Via,(⟨⟨0,rfl⟩,⟨0,rfl⟩,⟨0,rfl⟩,⟨0,rfl⟩,⟨0,rfl⟩,⟨0,rfl⟩⟩:cK)⟩:bA)).MAC)))) (e_ (p_ (bW (cs:=cB (⟨(hH bB cW aN (⟨r.Via,(⟨⟨0,rfl⟩,⟨0,rfl⟩,⟨0,rfl⟩,⟨0,rfl⟩,⟨0,rfl⟩,⟨0,rfl⟩⟩:cK)⟩:bA)).MAC,⟨0,rfl⟩⟩:cH)) aN2 lS rfl rfl)) bR))) fun a w_ hs m=>?_
 refine cC hs m rfl rfl aT3 rfl (aIN bX bO (⟨(hH bB cW aN (⟨r.Via,(⟨⟨0,rfl⟩,⟨0,rfl⟩,⟨0,rfl⟩,⟨0,rfl⟩,⟨0,rfl⟩,⟨0,rfl⟩⟩:cK)⟩:bA)).MAC,⟨0,rfl⟩⟩:cH) _ (m.rd fG) ) rfl fun w14 m a hs=>?_
 refine bP hs m eZ fun a w_ hs m=>?_
 refine bZ hs m lS rfl fun p15 w16 m a hs=>?_
 refine bP hs m (dZ s0 (t:=x_ gX (e_ (p_ (cN (mU ((hH bB cW aN (⟨r.Via,(⟨⟨0,rfl⟩,⟨0,rfl⟩,⟨0,rfl⟩,⟨0,rfl⟩,⟨0,rfl⟩,⟨0,rfl⟩⟩:cK)⟩:bA)).MAC)))) (x_ iA (e_ (p_ (bW (cs:=mB (⟨true,fL bY bO (⟨(hH bB cW aN (⟨r.Via,(⟨⟨0,rfl⟩,⟨0,rfl⟩,⟨0,rfl⟩,⟨0,rfl⟩,⟨0,rfl⟩,⟨0,rfl⟩⟩:cK)⟩:bA)).MAC,⟨0,rfl⟩⟩:cH),(hH bB cW aN (⟨r.Via,(⟨⟨0,rfl⟩,⟨0,rfl⟩,⟨0,rfl⟩,⟨0,rfl⟩,⟨0,rfl⟩,⟨0,rfl⟩⟩:cK)⟩:bA)).MAC,(hH bY gH bO (⟨(hH bB cW aN (⟨r.Via,(⟨⟨0,rfl⟩,⟨0,rfl⟩,⟨0,rfl⟩,⟨0,rfl⟩,⟨0,rfl⟩,⟨0,rfl⟩⟩:cK)⟩:bA)).MAC,⟨0,rfl⟩⟩:cH)).To⟩:Tagent_way)) aUT aRJ rfl rfl)) (dZ s2 (t:=eZ))))))) fun a w18 hs m=>?_
 refine bH hs (vs:=[.agg ⟨mB (⟨true,fL bY bO (⟨(hH bB cW aN (⟨r.Via,(⟨⟨0,rfl⟩,⟨0,rfl⟩,⟨0,rfl⟩,⟨0,rfl⟩,⟨0,rfl⟩,⟨0,rfl⟩⟩:cK)⟩:bA)).MAC,⟨0,rfl⟩⟩:cH),(hH bB cW aN (⟨r.Via,(⟨⟨0,rfl⟩,⟨0,rfl⟩,⟨0,rfl⟩,⟨0,rfl⟩,⟨0,rfl⟩,⟨0,rfl⟩⟩:cK)⟩:bA)).MAC,(hH bY gH bO (⟨(hH bB cW aN (⟨r.Via,(⟨⟨0,rfl⟩,⟨0,rfl⟩,⟨0,rfl⟩,⟨0,rfl⟩,⟨0,rfl⟩,⟨0,rfl⟩⟩:cK)⟩:bA)).MAC,⟨0,rfl⟩⟩:cH)).To⟩:Tagent_way)⟩]) rfl ⟨cZ (cs:=mB (⟨true,fL bY bO (⟨(hH bB cW aN (⟨r.Via,(⟨⟨0,rfl⟩,⟨0,rfl⟩,⟨0,rfl⟩,⟨0,rfl⟩,⟨0,rfl⟩,⟨0,rfl⟩⟩:cK)⟩:bA)).MAC,⟨0,rfl⟩⟩:cH),(hH bB cW aN (⟨r.Via,(⟨⟨0,rfl⟩,⟨0,rfl⟩,⟨0,rfl⟩,⟨0,rfl⟩,⟨0,rfl⟩,⟨0,rfl⟩⟩:cK)⟩:bA)).MAC,(hH bY gH bO (⟨(hH bB cW aN (⟨r.Via,(⟨⟨0,rfl⟩,⟨0,rfl⟩,⟨0,rfl⟩,⟨0,rfl⟩,⟨0,rfl⟩,⟨0,rfl⟩⟩:cK)⟩:bA)).MAC,⟨0,rfl⟩⟩:cH)).To⟩:Tagent_way)) m rfl aUV r2 rfl,trivial⟩ ?_
 exact⟨by rw[(show ((⟨true,fL bY bO (⟨(hH bB cW aN (⟨r.Via,(⟨⟨0,rfl⟩,⟨0,rfl⟩,⟨0,rfl⟩,⟨0,rfl⟩,⟨0,rfl⟩,⟨0,rfl⟩⟩:cK)⟩:bA)).MAC,⟨0,rfl⟩⟩:cH),(hH bB cW aN (⟨r.Via,(⟨⟨0,rfl⟩,⟨0,rfl⟩,⟨0,rfl⟩,⟨0,rfl⟩,⟨0,rfl⟩,⟨0,rfl⟩⟩:cK)⟩:bA)).MAC,(hH bY gH bO (⟨(hH bB cW aN (⟨r.Via,(⟨⟨0,rfl⟩,⟨0,rfl⟩,⟨0,rfl⟩,⟨0,rfl⟩,⟨0,rfl⟩,⟨0,rfl⟩⟩:cK)⟩:bA)).MAC,⟨0,rfl⟩⟩:cH)).To⟩:Tagent_way):Tagent_way)=oZ aN bO r from aYL (by assumption))];rfl,m.sub .n⟩
theorem aH0 (cQ:SH) (aF:List bD) (cT:SH) (aA:List bA) (dQ:SH) (aH:List cH) (cS:SH) (aD:List bD) (cU:SH) (aC:List bA) (dS:SH) (aI:List cH) (r:bD) (w0:World) (fF:RdS (hh w0) 4 cQ.v (aF.map aM)) (fN:RdS (hh w0) 7 cT.v (aA.map aS)) (hU:RdS (hh w0) 7 dQ.v (aH.map cB)) (fS:RdS (hh w0) 4 cS.v (aD.map aM)) (fR:RdS (hh w0) 7 cU.v (aC.map aS)) (iH:RdS (hh w0) 7 dS.v (aI.map cB)):iL Tryz.prog 57 [.agg ⟨[cQ.v,cT.v,dQ.v]⟩,.agg ⟨[cS.v,cU.v,dS.v]⟩,.agg ⟨aM r⟩] (.bool (cG aA aH aD aC aI r)) w0:=by
 have wU:=fF.bd
 have wT:=fN.bd
 have aBC:=hU.bd
 have wW:=fS.bd
 have wV:=fR.bd
 have aBD:=iH.bd
 refine enter (n:=35) Tryz.func57 rfl rfl rfl fun a (hs:St 35 [(0,.agg ⟨[cQ.v,cT.v,dQ.v]⟩),(1,.agg ⟨[cS.v,cU.v,dS.v]⟩),(2,.agg ⟨aM r⟩)] a)=>?_
 have m:=Hp.start w0
 refine bN ?_
 refine dU (cs:=[cQ.v,cT.v,dQ.v]) hs m rfl rfl rfl fun p1 w2 m a hs=>?_
 refine dU (cs:=[cS.v,cU.v,dS.v]) hs m rfl rfl rfl fun p3 w4 m a hs=>?_
 refine dU (cs:=aM r) hs m rfl rfl rfl fun p5 w6 m a hs=>?_
 refine bP hs m (x_ gX (e_ (p_ (cN (aM r))) bR)) fun a w_ hs m=>?_
 refine cC hs m rfl rfl aT0 rfl (aD3 cS aD r _ (m.rd fS) ) rfl fun w7 m a hs=>?_
 refine bP hs m eZ fun a w_ hs m=>?_
 refine bZ hs m kK rfl fun p8 w9 m a hs=>?_
 refine bP hs m (dZ s0 (t:=eZ)) fun a w10 hs m=>?_
 refine eE m mo (by kernel_rfl) ?_
 refine sO hs (k:=fun a hs=>?_)
 refine qct (.c (.c (.c (.c (.n))))) hs 21 (.bool ((fL bS aD r)&&(decide (hH bS gE aD r=r)))) ?_ ?_
 ·rcases Bool.eq_false_or_eq_true (fL bS aD r) with hb11|hb11
  ·refine vJ hs (h1:=kW hb11 (cN (aM (hH bS gE aD r)))) (h2:=kW hb11 (cN (aM r))) (h3:=kW hb11 (mP (b:=decide (hH bS gE aD r=r)) rfl rfl aL1 (xN _) (xN _) (aG2 (hH bS gE aD r) r))) (h4:=q_ (aP (r:=.bool ((fL bS aD r)&&(decide (hH bS gE aD r=r)))) rfl rfl rfl (by rw[hb11];rfl))) (k:=fun a hs=>?_)
   exact wpQuiet_nil (hs.ct 3)
  ·refine vJ hs (h4:=q_ (aP (r:=.bool ((fL bS aD r)&&(decide (hH bS gE aD r=r)))) rfl rfl rfl (by rw[hb11];rfl))) (k:=fun a hs=>?_)
   exact wpQuiet_nil (hs.ct 3)
 intro a hs
 refine uZ hs (k:=fun a hs=>?_)
 refine oU (.c (.c (.c (.c (.c (.c (.c (.c (.c (.c (.c (.c (.n))))))))))))) (fun a=>St 35 [(34,.bool (((fL bS aD r)&&(decide (hH bS gE aD r=r)))&&(r.Local || (decide (oZ aA aH r=oZ aC aI r)))))] a) ?_ ?_
 ·rcases Bool.eq_false_or_eq_true ((fL bS aD r)&&(decide (hH bS gE aD r=r))) with hb12|hb12
  ·have hb12p:=hb12;simp only[fK] at hb12p
   refine nG hs (k:=fun a hs=>?_)
   refine qct (.c (.c (.c (.c (.c (.c (.c (.c (.n))))))))) hs 33 (.bool (r.Local || (decide (oZ aA aH r=oZ aC aI r)))) ?_ ?_
   ·rcases Bool.eq_false_or_eq_true r.Local with hb13|hb13
    ·refine kZ hs (k:=fun a hs=>?_)
     refine sO hs (h2:=kW hb12 (aP (r:=.bool (r.Local || (decide (oZ aA aH r=oZ aC aI r)))) rfl rfl rfl (by rw[hb13];rfl))) (k:=fun a hs=>?_)
     exact wpQuiet_nil (hs.ct 7)
    ·refine sO hs (h1:=kW hb13 (cN [cQ.v,cT.v,dQ.v])) (h2:=kW hb13 (cN (aM r))) (k:=fun a hs=>?_)
     refine jI hs rfl rfl hb13 rfl rfl aT1 rfl (fun w m=>aMW cQ aF cT aA dQ aH r w (m.rd fF) (m.rd fN) (m.rd hU) ) rfl fun a hs=>?_
     refine sO hs (h1:=kW hb13 (cN [cS.v,cU.v,dS.v])) (h2:=kW hb13 (cN (aM r))) (k:=fun a hs=>?_)
     refine jI hs rfl rfl hb13 rfl rfl aT1 rfl (fun w m=>aMW cS aD cU aC dS aI r w (m.rd fS) (m.rd fR) (m.rd iH) ) rfl fun a hs=>?_
     refine sO hs (h1:=kW hb13 (mP (b:=decide (oZ aA aH r=oZ aC aI r)) rfl rfl aVW (aD0 _) (aD0 _) (aKS (oZ aA aH r) (oZ aC aI r)))) (h2:=kW hb12 (aP (r:=.bool (r.Local || (decide (oZ aA aH r=oZ aC aI r)))) rfl rfl rfl (by rw[hb13];rfl))) (k:=fun a hs=>?_)
     exact wpQuiet_nil (hs.ct 7)
   intro a hs
   refine uZ hs (h1:=q_ (aP (r:=.bool (((fL bS aD r)&&(decide (hH bS gE aD r=r)))&&(r.Local || (decide (oZ aA aH r=oZ aC aI r))))) rfl rfl rfl (by rw[hb12];rfl))) (k:=fun a hs=>?_)
   exact wpQuiet_nil (hs.to ⟨rfl,trivial⟩)
  ·have hb12p:=hb12;simp only[fK] at hb12p
   refine kZ hs (k:=fun a hs=>?_)
   refine kZ hs (h6:=q_ (aP (r:=.bool (((fL bS aD r)&&(decide (hH bS gE aD r=r)))&&(r.Local || (decide (oZ aA aH r=oZ aC aI r))))) rfl rfl rfl (by rw[hb12];rfl))) (k:=fun a hs=>?_)
   exact wpQuiet_nil (hs.to ⟨rfl,trivial⟩)
 intro a hs
 refine uZ hs (k:=fun a hs=>?_)
 refine wpQuiet_nil fun w14 m=>?_
 refine wp_ret ?_
 refine bH hs (vs:=[.bool (((fL bS aD r)&&(decide (hH bS gE aD r=r)))&&(r.Local || (decide (oZ aA aH r=oZ aC aI r))))]) rfl ⟨rfl,trivial⟩ ?_
 exact⟨by rw[(show (((fL bS aD r)&&(decide (hH bS gE aD r=r)))&&(r.Local || (decide (oZ aA aH r=oZ aC aI r))):Bool)=cG aA aH aD aC aI r by(rfl))];rfl,m.sub .n⟩
end Go.Proofs.YtnbpodjbemfpbaaGreat.Fw
