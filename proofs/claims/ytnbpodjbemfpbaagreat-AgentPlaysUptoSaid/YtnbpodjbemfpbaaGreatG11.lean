/-
  Own work: walks and laws, joined by wip/tool/compact.py.
-/
import Derived.Test.YtnbpodjbemfpbaaGreatG10
import Derived.KernelRfl
set_option linter.all false
set_option linter.all false
set_option maxHeartbeats 4000000
set_option maxRecDepth 100000
namespace Go.Proofs.YtnbpodjbemfpbaaGreat.Fw
open Go
theorem aR7 (cQ:SH) (aF:List bD) (cT:SH) (aA:List bA) (dQ:SH) (aH:List cH) (cS:SH) (aD:List bD) (cU:SH) (aC:List bA) (dS:SH) (aI:List cH) (w0:World) (fF:RdS (hh w0) 4 cQ.v (aF.map aM)) (fN:RdS (hh w0) 7 cT.v (aA.map aS)) (hU:RdS (hh w0) 7 dQ.v (aH.map cB)) (fS:RdS (hh w0) 4 cS.v (aD.map aM)) (fR:RdS (hh w0) 7 cU.v (aC.map aS)) (iH:RdS (hh w0) 7 dS.v (aI.map cB)) (A0:aF.length<=16777216) (A1:aA.length<=16777216) (A2:aH.length<=16777216) (A3:aD.length<=16777216) (A4:aC.length<=16777216) (A5:aI.length<=16777216):Calls Tryz.prog 19 ⟨[.agg ⟨[cQ.v,cT.v,dQ.v]⟩,.agg ⟨[cS.v,cU.v,dS.v]⟩]⟩ w0 fun e w'=>∃ v,e= .returned v/\(∃ x0:SH,v=(.tuple ⟨[x0.v,.int .i64 (zS aF aA aH aD aC aI)]⟩)/\Hp w0 (hh w0) [Sv 19 58 x0.v ((sQ aF aA aH aD aC aI).map mO)] w'):=by
 have wU:=fF.bd
 have wT:=fN.bd
 have aBC:=hU.bd
 have wW:=fS.bd
 have wV:=fR.bd
 have aBD:=iH.bd
 refine enter (n:=206) Tryz.func19 rfl rfl rfl fun a (hs:St 206 [(0,.agg ⟨[cQ.v,cT.v,dQ.v]⟩),(1,.agg ⟨[cS.v,cU.v,dS.v]⟩)] a)=>?_
 have m:=Hp.start w0
 refine bN ?_
 refine dU (cs:=[cQ.v,cT.v,dQ.v]) hs m rfl rfl rfl fun p1 w2 m a hs=>?_
 refine dU (cs:=[cS.v,cU.v,dS.v]) hs m rfl rfl rfl fun p3 w4 m a hs=>?_
 refine bP hs m (x_ gI (e_ (p_ (cN [cQ.v,cT.v,dQ.v])) bR)) fun a w_ hs m=>?_
 refine cC hs m rfl rfl aVK rfl (aB9 cQ aF cT aA dQ aH _ (m.rd fF) (m.rd fN) (m.rd hU) ) rfl fun w5 m a hs=>?_
 refine bP hs m (x_ gC (e_ (p_ (cN [cS.v,cU.v,dS.v])) bR)) fun a w_ hs m=>?_
 refine cC hs m rfl rfl aVK rfl (aB9 cS aD cU aC dS aI _ (m.rd fS) (m.rd fR) (m.rd iH) ) rfl fun w6 m a hs=>?_
 refine bP hs m lA fun a w_ hs m=>?_
 refine jO (.c (.c (.c (.n)))) hs m 33 (!(fU aF aA aH)) (.bool ((!(fU aF aA aH)) || (!(fU aD aC aI)))) ?_
 rintro a w8 ⟨hs,m⟩
 refine wpList_nil (aB ?_)
 refine aR hs rfl (fun h9=>?_) (fun h9=>?_)
 ·have h9p:=h9;simp only[fK] at h9p
  refine bT hs m gZ fun a w_ hs m=>?_
  refine bH hs (vs:=[nilH.v,.int .i64 161]) rfl ⟨rfl,rfl,trivial⟩ ?_
  replace m:=m.nilSvM mO 19 58
  rw[(show ([]:List eV)=sQ aF aA aH aD aC aI from aKN (by assumption))] at m
  exact⟨_,rfl,nilH,by rw[(show (161:Int)=zS aF aA aH aD aC aI from aKM (by assumption))];rfl,m.sub (a0 .n)⟩
 have h9p:=h9;simp only[fK] at h9p
 refine bT hs m nP fun a w_ hs m=>?_
 refine wp_loop_rounds 3 ?_
 refine iF ?_
 refine bT hs m (x_ eZ (e_ (p_ (fB (v:=.bool true) rfl rfl rfl)) nP)) fun a w_ hs m=>?_
 replace m:=m.nilSvM mO 19 58
 rw[(show ([]:List eV)=([]:List eV)++aL (fun e=>(!cD aA aH aD aC aI e)&&(e.Local==true)) cR (aF.take 0) from pickM_0.symm)] at m
 refine wp_loop_ghost (fun gn a w=>∃ k2t:Nat,∃ v14:SH,(k2t<=aF.length)/\((([]:List eV)++aL (fun e=>(!cD aA aH aD aC aI e)&&(e.Local==true)) cR (aF.take k2t)).length<=0+k2t)/\gn=aF.length-k2t/\St 206 [(2,.pointer (some (bK p1 0))),(3,.pointer (some (bK p3 0))),(8,v14.v),(9,.int .i64 0),(10,.int .i64 (k2t:Int))] a/\Hp w0 (hh w0) [Bx p1 29 [cQ.v,cT.v,dQ.v],Bx p3 29 [cS.v,cU.v,dS.v],Sv 19 58 v14.v ((([]:List eV)++aL (fun e=>(!cD aA aH aD aC aI e)&&(e.Local==true)) cR (aF.take k2t)).map mO)] w) (aF.length-0) ⟨0,nilH,by omega,by(rw[pickM_0];simp),rfl,hs.to ⟨rfl,rfl,rfl,rfl,rfl,trivial⟩,m.sub (a2 (a1 (a0 .n)))⟩ ?_
 rintro gn a w17 ⟨k2t,v14,hk,hl,rfl,hs,m⟩
 refine bT hs m (x_ gI (e_ (p_ (bQ m rfl eY (dX fF))) eZ)) fun a w_ hs m=>?_
 refine aR hs rfl (fun h18=>?_) (fun h18=>?_)
 rotate_left
 ·have h18p:=of_decide_eq_false h18
  refine bT hs m (x_ lA (e_ (p_ (fA (r:=1) rfl rfl rfl)) eZ)) fun a w_ hs m=>?_
  refine iF ?_
  refine bT hs m (x_ eZ (e_ (p_ (fB (v:=.bool true) rfl rfl rfl)) nP)) fun a w_ hs m=>?_
  rw[show aF.take k2t=aF from List.take_of_length_le (by omega)] at m hl
  rw[(show ([]:List eV)++aL (fun e=>(!cD aA aH aD aC aI e)&&(e.Local==true)) cR aF=(([]:List eV)++aL (fun e=>(!cD aA aH aD aC aI e)&&(e.Local==true)) cR aF)++aL (fun e=>(!cD aA aH aD aC aI e)&&(e.Local==false)) cR (aF.take 0) from pickM_0.symm)] at m
  refine wp_loop_ghost (fun gn a w=>∃ k2f:Nat,∃ v20:SH,(k2f<=aF.length)/\(((([]:List eV)++aL (fun e=>(!cD aA aH aD aC aI e)&&(e.Local==true)) cR aF)++aL (fun e=>(!cD aA aH aD aC aI e)&&(e.Local==false)) cR (aF.take k2f)).length<=16777216+k2f)/\gn=aF.length-k2f/\St 206 [(2,.pointer (some (bK p1 0))),(3,.pointer (some (bK p3 0))),(8,v20.v),(9,.int .i64 1),(10,.int .i64 (k2f:Int))] a/\Hp w0 (hh w0) [Bx p1 29 [cQ.v,cT.v,dQ.v],Bx p3 29 [cS.v,cU.v,dS.v],Sv 19 58 v20.v (((([]:List eV)++aL (fun e=>(!cD aA aH aD aC aI e)&&(e.Local==true)) cR aF)++aL (fun e=>(!cD aA aH aD aC aI e)&&(e.Local==false)) cR (aF.take k2f)).map mO)] w) (aF.length-0) ⟨0,v14,by omega,by(rw[pickM_0];omega),rfl,hs.to ⟨rfl,rfl,rfl,rfl,rfl,trivial⟩,m.sub (a0 (a0 (a0 .n)))⟩ ?_
  rintro gn a w22 ⟨k2f,v20,hk,hl,rfl,hs,m⟩
  refine bT hs m (x_ gI (e_ (p_ (bQ m rfl eY (dX fF))) eZ)) fun a w_ hs m=>?_
  refine aR hs rfl (fun h23=>?_) (fun h23=>?_)
  rotate_left
  ·have h23p:=of_decide_eq_false h23
   refine bT hs m (x_ lA (e_ (p_ (fA (r:=2) rfl rfl rfl)) eZ)) fun a w_ hs m=>?_
   refine iF ?_
   refine bT hs m (x_ eZ (e_ (p_ (fB (v:=.bool false) rfl rfl rfl)) aAM)) fun a w_ hs m=>?_
   rw[show aF.take k2f=aF from List.take_of_length_le (by omega)] at m hl
   rw[(show (([]:List eV)++aL (fun e=>(!cD aA aH aD aC aI e)&&(e.Local==true)) cR aF)++aL (fun e=>(!cD aA aH aD aC aI e)&&(e.Local==false)) cR aF=((([]:List eV)++aL (fun e=>(!cD aA aH aD aC aI e)&&(e.Local==true)) cR aF)++aL (fun e=>(!cD aA aH aD aC aI e)&&(e.Local==false)) cR aF)++aL (fun e => !decide (e ∈ aC)) gJ (aA.take 0) from pickM_0.symm)] at m
   refine wp_loop_ghost (fun gn a w=>∃ k4:Nat,∃ v25:SH,(k4<=aA.length)/\((((([]:List eV)++aL (fun e=>(!cD aA aH aD aC aI e)&&(e.Local==true)) cR aF)++aL (fun e=>(!cD aA aH aD aC aI e)&&(e.Local==false)) cR aF)++aL (fun e => !decide (e ∈ aC)) gJ (aA.take k4)).length<=33554432+k4)/\gn=aA.length-k4/\St 206 [(2,.pointer (some (bK p1 0))),(3,.pointer (some (bK p3 0))),(8,v25.v),(13,.int .i64 (k4:Int))] a/\Hp w0 (hh w0) [Bx p1 29 [cQ.v,cT.v,dQ.v],Bx p3 29 [cS.v,cU.v,dS.v],Sv 19 58 v25.v ((((([]:List eV)++aL (fun e=>(!cD aA aH aD aC aI e)&&(e.Local==true)) cR aF)++aL (fun e=>(!cD aA aH aD aC aI e)&&(e.Local==false)) cR aF)++aL (fun e => !decide (e ∈ aC)) gJ (aA.take k4)).map mO)] w) (aA.length-0) ⟨0,v20,by omega,by(rw[pickM_0];omega),rfl,hs.to ⟨rfl,rfl,rfl,rfl,trivial⟩,m.sub (a0 (a0 (a0 .n)))⟩ ?_
   rintro gn a w27 ⟨k4,v25,hk,hl,rfl,hs,m⟩
   refine bT hs m (x_ gI (e_ (p_ (bQ m rfl fP (dX fN))) eZ)) fun a w_ hs m=>?_
   refine aR hs rfl (fun h28=>?_) (fun h28=>?_)
   rotate_left
   ·have h28p:=of_decide_eq_false h28
    refine bT hs m mT fun a w_ hs m=>?_
    rw[show aA.take k4=aA from List.take_of_length_le (by omega)] at m hl
    rw[(show ((([]:List eV)++aL (fun e=>(!cD aA aH aD aC aI e)&&(e.Local==true)) cR aF)++aL (fun e=>(!cD aA aH aD aC aI e)&&(e.Local==false)) cR aF)++aL (fun e => !decide (e ∈ aC)) gJ aA=(((([]:List eV)++aL (fun e=>(!cD aA aH aD aC aI e)&&(e.Local==true)) cR aF)++aL (fun e=>(!cD aA aH aD aC aI e)&&(e.Local==false)) cR aF)++aL (fun e => !decide (e ∈ aC)) gJ aA)++aL (fun e => !decide (e ∈ aI)) iC (aH.take 0) from pickM_0.symm)] at m
    refine wp_loop_ghost (fun gn a w=>∃ k6:Nat,∃ v29:SH,(k6<=aH.length)/\(((((([]:List eV)++aL (fun e=>(!cD aA aH aD aC aI e)&&(e.Local==true)) cR aF)++aL (fun e=>(!cD aA aH aD aC aI e)&&(e.Local==false)) cR aF)++aL (fun e => !decide (e ∈ aC)) gJ aA)++aL (fun e => !decide (e ∈ aI)) iC (aH.take k6)).length<=50331648+k6)/\gn=aH.length-k6/\St 206 [(2,.pointer (some (bK p1 0))),(3,.pointer (some (bK p3 0))),(8,v29.v),(15,.int .i64 (k6:Int))] a/\Hp w0 (hh w0) [Bx p1 29 [cQ.v,cT.v,dQ.v],Bx p3 29 [cS.v,cU.v,dS.v],Sv 19 58 v29.v (((((([]:List eV)++aL (fun e=>(!cD aA aH aD aC aI e)&&(e.Local==true)) cR aF)++aL (fun e=>(!cD aA aH aD aC aI e)&&(e.Local==false)) cR aF)++aL (fun e => !decide (e ∈ aC)) gJ aA)++aL (fun e => !decide (e ∈ aI)) iC (aH.take k6)).map mO)] w) (aH.length-0) ⟨0,v25,by omega,by(rw[pickM_0];omega),rfl,hs.to ⟨rfl,rfl,rfl,rfl,trivial⟩,m.sub (a0 (a0 (a0 .n)))⟩ ?_
    rintro gn a w31 ⟨k6,v29,hk,hl,rfl,hs,m⟩
    refine bT hs m (x_ gI (e_ (p_ (bQ m rfl fQ (dX hU))) eZ)) fun a w_ hs m=>?_
    refine aR hs rfl (fun h32=>?_) (fun h32=>?_)
    rotate_left
    ·have h32p:=of_decide_eq_false h32
     refine bT hs m mT fun a w_ hs m=>?_
     rw[show aH.take k6=aH from List.take_of_length_le (by omega)] at m hl
     rw[(show (((([]:List eV)++aL (fun e=>(!cD aA aH aD aC aI e)&&(e.Local==true)) cR aF)++aL (fun e=>(!cD aA aH aD aC aI e)&&(e.Local==false)) cR aF)++aL (fun e => !decide (e ∈ aC)) gJ aA)++aL (fun e => !decide (e ∈ aI)) iC aH=((((([]:List eV)++aL (fun e=>(!cD aA aH aD aC aI e)&&(e.Local==true)) cR aF)++aL (fun e=>(!cD aA aH aD aC aI e)&&(e.Local==false)) cR aF)++aL (fun e => !decide (e ∈ aC)) gJ aA)++aL (fun e => !decide (e ∈ aI)) iC aH)++aL (fun e => !decide (e ∈ aH)) jX (aI.take 0) from pickM_0.symm)] at m
     refine wp_loop_ghost (fun gn a w=>∃ k8:Nat,∃ v33:SH,(k8<=aI.length)/\((((((([]:List eV)++aL (fun e=>(!cD aA aH aD aC aI e)&&(e.Local==true)) cR aF)++aL (fun e=>(!cD aA aH aD aC aI e)&&(e.Local==false)) cR aF)++aL (fun e => !decide (e ∈ aC)) gJ aA)++aL (fun e => !decide (e ∈ aI)) iC aH)++aL (fun e => !decide (e ∈ aH)) jX (aI.take k8)).length<=67108864+k8)/\gn=aI.length-k8/\St 206 [(2,.pointer (some (bK p1 0))),(3,.pointer (some (bK p3 0))),(8,v33.v),(17,.int .i64 (k8:Int))] a/\Hp w0 (hh w0) [Bx p1 29 [cQ.v,cT.v,dQ.v],Bx p3 29 [cS.v,cU.v,dS.v],Sv 19 58 v33.v ((((((([]:List eV)++aL (fun e=>(!cD aA aH aD aC aI e)&&(e.Local==true)) cR aF)++aL (fun e=>(!cD aA aH aD aC aI e)&&(e.Local==false)) cR aF)++aL (fun e => !decide (e ∈ aC)) gJ aA)++aL (fun e => !decide (e ∈ aI)) iC aH)++aL (fun e => !decide (e ∈ aH)) jX (aI.take k8)).map mO)] w) (aI.length-0) ⟨0,v29,by omega,by(rw[pickM_0];omega),rfl,hs.to ⟨rfl,rfl,rfl,rfl,trivial⟩,m.sub (a0 (a0 (a0 .n)))⟩ ?_
     rintro gn a w35 ⟨k8,v33,hk,hl,rfl,hs,m⟩
     refine bT hs m (x_ gI (e_ (p_ (bQ m rfl fQ (dX iH))) eZ)) fun a w_ hs m=>?_
     refine aR hs rfl (fun h36=>?_) (fun h36=>?_)
     rotate_left
     ·have h36p:=of_decide_eq_false h36
      refine bT hs m mT fun a w_ hs m=>?_
      rw[show aI.take k8=aI from List.take_of_length_le (by omega)] at m hl
      rw[(show ((((([]:List eV)++aL (fun e=>(!cD aA aH aD aC aI e)&&(e.Local==true)) cR aF)++aL (fun e=>(!cD aA aH aD aC aI e)&&(e.Local==false)) cR aF)++aL (fun e => !decide (e ∈ aC)) gJ aA)++aL (fun e => !decide (e ∈ aI)) iC aH)++aL (fun e => !decide (e ∈ aH)) jX aI=(((((([]:List eV)++aL (fun e=>(!cD aA aH aD aC aI e)&&(e.Local==true)) cR aF)++aL (fun e=>(!cD aA aH aD aC aI e)&&(e.Local==false)) cR aF)++aL (fun e => !decide (e ∈ aC)) gJ aA)++aL (fun e => !decide (e ∈ aI)) iC aH)++aL (fun e => !decide (e ∈ aH)) jX aI)++aL (fun e => !decide (e ∈ aA)) jH (aC.take 0) from pickM_0.symm)] at m
      refine wp_loop_ghost (fun gn a w=>∃ k10:Nat,∃ v37:SH,(k10<=aC.length)/\(((((((([]:List eV)++aL (fun e=>(!cD aA aH aD aC aI e)&&(e.Local==true)) cR aF)++aL (fun e=>(!cD aA aH aD aC aI e)&&(e.Local==false)) cR aF)++aL (fun e => !decide (e ∈ aC)) gJ aA)++aL (fun e => !decide (e ∈ aI)) iC aH)++aL (fun e => !decide (e ∈ aH)) jX aI)++aL (fun e => !decide (e ∈ aA)) jH (aC.take k10)).length<=83886080+k10)/\gn=aC.length-k10/\St 206 [(2,.pointer (some (bK p1 0))),(3,.pointer (some (bK p3 0))),(8,v37.v),(19,.int .i64 (k10:Int))] a/\Hp w0 (hh w0) [Bx p1 29 [cQ.v,cT.v,dQ.v],Bx p3 29 [cS.v,cU.v,dS.v],Sv 19 58 v37.v (((((((([]:List eV)++aL (fun e=>(!cD aA aH aD aC aI e)&&(e.Local==true)) cR aF)++aL (fun e=>(!cD aA aH aD aC aI e)&&(e.Local==false)) cR aF)++aL (fun e => !decide (e ∈ aC)) gJ aA)++aL (fun e => !decide (e ∈ aI)) iC aH)++aL (fun e => !decide (e ∈ aH)) jX aI)++aL (fun e => !decide (e ∈ aA)) jH (aC.take k10)).map mO)] w) (aC.length-0) ⟨0,v33,by omega,by(rw[pickM_0];omega),rfl,hs.to ⟨rfl,rfl,rfl,rfl,trivial⟩,m.sub (a0 (a0 (a0 .n)))⟩ ?_
      rintro gn a w39 ⟨k10,v37,hk,hl,rfl,hs,m⟩
      refine bT hs m (x_ gI (e_ (p_ (bQ m rfl fP (dX fR))) eZ)) fun a w_ hs m=>?_
      refine aR hs rfl (fun h40=>?_) (fun h40=>?_)
      rotate_left
      ·have h40p:=of_decide_eq_false h40
       refine bT hs m mT fun a w_ hs m=>?_
       rw[show aC.take k10=aC from List.take_of_length_le (by omega)] at m hl
       rw[(show (((((([]:List eV)++aL (fun e=>(!cD aA aH aD aC aI e)&&(e.Local==true)) cR aF)++aL (fun e=>(!cD aA aH aD aC aI e)&&(e.Local==false)) cR aF)++aL (fun e => !decide (e ∈ aC)) gJ aA)++aL (fun e => !decide (e ∈ aI)) iC aH)++aL (fun e => !decide (e ∈ aH)) jX aI)++aL (fun e => !decide (e ∈ aA)) jH aC=((((((([]:List eV)++aL (fun e=>(!cD aA aH aD aC aI e)&&(e.Local==true)) cR aF)++aL (fun e=>(!cD aA aH aD aC aI e)&&(e.Local==false)) cR aF)++aL (fun e => !decide (e ∈ aC)) gJ aA)++aL (fun e => !decide (e ∈ aI)) iC aH)++aL (fun e => !decide (e ∈ aH)) jX aI)++aL (fun e => !decide (e ∈ aA)) jH aC)++aL (fun e=>(!decide (e ∈ aF)) || !cD aA aH aD aC aI e) uA (aD.take 0) from pickM_0.symm)] at m
       refine wp_loop_ghost (fun gn a w=>∃ k12:Nat,∃ v41:SH,(k12<=aD.length)/\((((((((([]:List eV)++aL (fun e=>(!cD aA aH aD aC aI e)&&(e.Local==true)) cR aF)++aL (fun e=>(!cD aA aH aD aC aI e)&&(e.Local==false)) cR aF)++aL (fun e => !decide (e ∈ aC)) gJ aA)++aL (fun e => !decide (e ∈ aI)) iC aH)++aL (fun e => !decide (e ∈ aH)) jX aI)++aL (fun e => !decide (e ∈ aA)) jH aC)++aL (fun e=>(!decide (e ∈ aF)) || !cD aA aH aD aC aI e) uA (aD.take k12)).length<=100663296+k12)/\gn=aD.length-k12/\St 206 [(2,.pointer (some (bK p1 0))),(3,.pointer (some (bK p3 0))),(8,v41.v),(21,.int .i64 (k12:Int))] a/\Hp w0 (hh w0) [Bx p1 29 [cQ.v,cT.v,dQ.v],Bx p3 29 [cS.v,cU.v,dS.v],Sv 19 58 v41.v ((((((((([]:List eV)++aL (fun e=>(!cD aA aH aD aC aI e)&&(e.Local==true)) cR aF)++aL (fun e=>(!cD aA aH aD aC aI e)&&(e.Local==false)) cR aF)++aL (fun e => !decide (e ∈ aC)) gJ aA)++aL (fun e => !decide (e ∈ aI)) iC aH)++aL (fun e => !decide (e ∈ aH)) jX aI)++aL (fun e => !decide (e ∈ aA)) jH aC)++aL (fun e=>(!decide (e ∈ aF)) || !cD aA aH aD aC aI e) uA (aD.take k12)).map mO)] w) (aD.length-0) ⟨0,v37,by omega,by(rw[pickM_0];omega),rfl,hs.to ⟨rfl,rfl,rfl,rfl,trivial⟩,m.sub (a0 (a0 (a0 .n)))⟩ ?_
       rintro gn a w43 ⟨k12,v41,hk,hl,rfl,hs,m⟩
       refine bT hs m (x_ gI (e_ (p_ (bQ m rfl eY (dX fS))) eZ)) fun a w_ hs m=>?_
       refine aR hs rfl (fun h44=>?_) (fun h44=>?_)
       rotate_left
       ·have h44p:=of_decide_eq_false h44
        refine bT hs m nP fun a w_ hs m=>?_
        refine bH hs (vs:=[v41.v,.int .i64 0]) rfl ⟨rfl,rfl,trivial⟩ ?_
        rw[(show ((((((([]:List eV)++aL (fun e=>(!cD aA aH aD aC aI e)&&(e.Local==true)) cR aF)++aL (fun e=>(!cD aA aH aD aC aI e)&&(e.Local==false)) cR aF)++aL (fun e => !decide (e ∈ aC)) gJ aA)++aL (fun e => !decide (e ∈ aI)) iC aH)++aL (fun e => !decide (e ∈ aH)) jX aI)++aL (fun e => !decide (e ∈ aA)) jH aC)++aL (fun e=>(!decide (e ∈ aF)) || !cD aA aH aD aC aI e) uA (aD.take k12)=sQ aF aA aH aD aC aI from aNC (by assumption) (by omega))] at m
        exact⟨_,rfl,v41,by rw[(show (0:Int)=zS aF aA aH aD aC aI from aNB (by assumption))];rfl,m.sub (a2 .n)⟩
       have h44p:=of_decide_eq_true h44
       refine wp_skip ?_
       refine aB ?_
       refine dG ?_
       refine wp_block ?_
       refine eE m mo (by kernel_rfl) ?_
       refine vJ hs (h1:=q_ (cN [cQ.v,cT.v,dQ.v])) (k:=fun a hs=>?_)
       obtain⟨e47,he48⟩:=bI (l:=aD) (i:=k12) (by omega)
       refine kE (c:=aM) (e:=e47) hs m (x:=(.tmp 177)) (ix:=(.tmp 178)) rfl rfl eY gG fS (by omega) he48 fun p49 hp50 ok51=>?_
       refine sO hs (h1:=q_ (ok51 _ _ _ _ _)) (h2:=q_ (cN (aM e47))) (k:=fun a hs=>?_)
       refine mL hs rfl rfl a0M rfl (fun w m=>aD5 cQ aF cT aA dQ aH e47 w (m.rd fF) (m.rd fN) (m.rd hU) ) rfl fun a hs=>?_
       refine uZ hs (k:=fun a hs=>?_)
       refine wpQuiet_nil fun w52 m=>?_
       refine eE m mo (by kernel_rfl) ?_
       refine xD hs (h1:=q_ (cN [cQ.v,cT.v,dQ.v])) (h2:=q_ (cN [cS.v,cU.v,dS.v])) (k:=fun a hs=>?_)
       refine kE (c:=aM) (e:=e47) hs m (x:=(.tmp 185)) (ix:=(.tmp 186)) rfl rfl eY gG fS (by omega) he48 fun p53 hp54 ok55=>?_
       refine sO hs (h1:=q_ (ok55 _ _ _ _ _)) (h2:=q_ (cN (aM e47))) (k:=fun a hs=>?_)
       refine mL hs rfl rfl aVL rfl (fun w m=>aE1 cQ aF cT aA dQ aH cS aD cU aC dS aI e47 w (m.rd fF) (m.rd fN) (m.rd hU) (m.rd fS) (m.rd fR) (m.rd iH) ) rfl fun a hs=>?_
       refine uZ hs (k:=fun a hs=>?_)
       refine wpQuiet_nil fun w56 m=>?_
       refine bT hs m gC fun a w_ hs m=>?_
       refine jO (.c (.c (.c (.n)))) hs m 195 (!(decide (e47 ∈ aF))) (.bool ((!(decide (e47 ∈ aF))) || (!(cD aA aH aD aC aI e47)))) ?_
       rintro a w58 ⟨hs,m⟩
       refine wpList_nil (aB ?_)
       refine aR hs rfl (fun h59=>?_) (fun h59=>?_)
       ·have h59p:=h59;simp only[fK] at h59p
        refine bT hs m gI fun a w_ hs m=>?_
        refine kE (c:=aM) (e:=e47) hs m (x:=(.tmp 198)) (ix:=(.tmp 199)) rfl rfl eY gG fS (by omega) he48 fun p60 hp61 ok62=>?_
        refine bP hs m (e_ (p_ (ok62 _ _ _ _ _)) (e_ (p_ (cN (aM e47))) (e_ (p_ (bW (cs:=mO (⟨⟨1,rfl⟩,e47,(⟨⟨0,rfl⟩,(⟨⟨0,rfl⟩,⟨0,rfl⟩,⟨0,rfl⟩,⟨0,rfl⟩,⟨0,rfl⟩,⟨0,rfl⟩⟩:cK)⟩:bA),(⟨(⟨⟨0,rfl⟩,⟨0,rfl⟩,⟨0,rfl⟩,⟨0,rfl⟩,⟨0,rfl⟩,⟨0,rfl⟩⟩:cK),⟨0,rfl⟩⟩:cH)⟩:eV)) aBP mZ rfl rfl)) bR))) fun a w_ hs m=>?_
        refine dK (c:=mO) (ys:=[(⟨⟨1,rfl⟩,e47,(⟨⟨0,rfl⟩,(⟨⟨0,rfl⟩,⟨0,rfl⟩,⟨0,rfl⟩,⟨0,rfl⟩,⟨0,rfl⟩,⟨0,rfl⟩⟩:cK)⟩:bA),(⟨(⟨⟨0,rfl⟩,⟨0,rfl⟩,⟨0,rfl⟩,⟨0,rfl⟩,⟨0,rfl⟩,⟨0,rfl⟩⟩:cK),⟨0,rfl⟩⟩:cH)⟩:eV)]) hs m oO qL mZ rfl rfl rfl rfl rfl (fun _=>rfl) rfl rfl rfl fun v63 w64 m a hs=>?_
        refine cF (c:=mO) (xs:=((((((([]:List eV)++aL (fun e=>(!cD aA aH aD aC aI e)&&(e.Local==true)) cR aF)++aL (fun e=>(!cD aA aH aD aC aI e)&&(e.Local==false)) cR aF)++aL (fun e => !decide (e ∈ aC)) gJ aA)++aL (fun e => !decide (e ∈ aI)) iC aH)++aL (fun e => !decide (e ∈ aH)) jX aI)++aL (fun e => !decide (e ∈ aA)) jH aC)++aL (fun e=>(!decide (e ∈ aF)) || !cD aA aH aD aC aI e) uA (aD.take k12)) (ys:=[(⟨⟨1,rfl⟩,e47,(⟨⟨0,rfl⟩,(⟨⟨0,rfl⟩,⟨0,rfl⟩,⟨0,rfl⟩,⟨0,rfl⟩,⟨0,rfl⟩,⟨0,rfl⟩⟩:cK)⟩:bA),(⟨(⟨⟨0,rfl⟩,⟨0,rfl⟩,⟨0,rfl⟩,⟨0,rfl⟩,⟨0,rfl⟩,⟨0,rfl⟩⟩:cK),⟨0,rfl⟩⟩:cH)⟩:eV)]) hs m rfl rfl oO aBG qL mZ rfl aAU rfl r3 (m.rdv r0) (fun _=>rfl) (by(simp only[List.length_cons,List.length_nil];omega)) rfl fun v65 w66 m a hs=>?_
        refine bP hs m fW fun a w_ hs m=>?_
        rw[(show ((((((([]:List eV)++aL (fun e=>(!cD aA aH aD aC aI e)&&(e.Local==true)) cR aF)++aL (fun e=>(!cD aA aH aD aC aI e)&&(e.Local==false)) cR aF)++aL (fun e => !decide (e ∈ aC)) gJ aA)++aL (fun e => !decide (e ∈ aI)) iC aH)++aL (fun e => !decide (e ∈ aH)) jX aI)++aL (fun e => !decide (e ∈ aA)) jH aC)++aL (fun e=>(!decide (e ∈ aF)) || !cD aA aH aD aC aI e) uA (aD.take k12)++[(⟨⟨1,rfl⟩,e47,(⟨⟨0,rfl⟩,(⟨⟨0,rfl⟩,⟨0,rfl⟩,⟨0,rfl⟩,⟨0,rfl⟩,⟨0,rfl⟩,⟨0,rfl⟩⟩:cK)⟩:bA),(⟨(⟨⟨0,rfl⟩,⟨0,rfl⟩,⟨0,rfl⟩,⟨0,rfl⟩,⟨0,rfl⟩,⟨0,rfl⟩⟩:cK),⟨0,rfl⟩⟩:cH)⟩:eV)]=((((((([]:List eV)++aL (fun e=>(!cD aA aH aD aC aI e)&&(e.Local==true)) cR aF)++aL (fun e=>(!cD aA aH aD aC aI e)&&(e.Local==false)) cR aF)++aL (fun e => !decide (e ∈ aC)) gJ aA)++aL (fun e => !decide (e ∈ aI)) iC aH)++aL (fun e => !decide (e ∈ aH)) jX aI)++aL (fun e => !decide (e ∈ aA)) jH aC)++aL (fun e=>(!decide (e ∈ aF)) || !cD aA aH aD aC aI e) uA (aD.take (k12+1)) from nS (by assumption) (by assumption))] at m
        exact⟨aD.length-(k12+1),by omega,k12+1,v65,by omega,by exact Nat.le_trans gA (by omega),rfl,hs.to ⟨rfl,rfl,rfl,rfl,trivial⟩,m.sub (a2 (a2 (a0 .n)))⟩
       have h59p:=h59;simp only[fK] at h59p
       refine bT hs m hQ fun a w_ hs m=>?_
       rw[(show ((((((([]:List eV)++aL (fun e=>(!cD aA aH aD aC aI e)&&(e.Local==true)) cR aF)++aL (fun e=>(!cD aA aH aD aC aI e)&&(e.Local==false)) cR aF)++aL (fun e => !decide (e ∈ aC)) gJ aA)++aL (fun e => !decide (e ∈ aI)) iC aH)++aL (fun e => !decide (e ∈ aH)) jX aI)++aL (fun e => !decide (e ∈ aA)) jH aC)++aL (fun e=>(!decide (e ∈ aF)) || !cD aA aH aD aC aI e) uA (aD.take k12)=((((((([]:List eV)++aL (fun e=>(!cD aA aH aD aC aI e)&&(e.Local==true)) cR aF)++aL (fun e=>(!cD aA aH aD aC aI e)&&(e.Local==false)) cR aF)++aL (fun e => !decide (e ∈ aC)) gJ aA)++aL (fun e => !decide (e ∈ aI)) iC aH)++aL (fun e => !decide (e ∈ aH)) jX aI)++aL (fun e => !decide (e ∈ aA)) jH aC)++aL (fun e=>(!decide (e ∈ aF)) || !cD aA aH aD aC aI e) uA (aD.take (k12+1)) from nR (by assumption) (by assumption))] at m
       exact⟨aD.length-(k12+1),by omega,k12+1,v41,by omega,by exact Nat.le_trans gA (by omega),rfl,hs.to ⟨rfl,rfl,rfl,rfl,trivial⟩,m.sub (a0 (a0 (a0 .n)))⟩
      have h40p:=of_decide_eq_true h40
      refine wp_skip ?_
      refine aB ?_
      refine dG ?_
      refine wp_block ?_
      refine eE m mo (by kernel_rfl) ?_
      refine vJ hs (h1:=q_ (cN [cQ.v,cT.v,dQ.v])) (k:=fun a hs=>?_)
      obtain⟨e69,he70⟩:=bI (l:=aC) (i:=k10) (by omega)
      refine kE (c:=aS) (e:=e69) hs m (x:=(.tmp 152)) (ix:=(.tmp 153)) rfl rfl fP gQ fR (by omega) he70 fun p71 hp72 ok73=>?_
      refine sO hs (h1:=q_ (ok73 _ _ _ _ _)) (h2:=q_ (cN (aS e69))) (k:=fun a hs=>?_)
      refine mL hs rfl rfl a0K rfl (fun w m=>aD4 cQ aF cT aA dQ aH e69 w (m.rd fF) (m.rd fN) (m.rd hU) ) rfl fun a hs=>?_
      refine uZ hs (k:=fun a hs=>?_)
      refine wpQuiet_nil fun w74 m=>?_
      refine bT hs m gI fun a w_ hs m=>?_
      refine aR hs rfl (fun h75=>?_) (fun h75=>?_)
      ·have h75p:=h75;simp only[fK] at h75p
       refine bT hs m gI fun a w_ hs m=>?_
       refine kE (c:=aS) (e:=e69) hs m (x:=(.tmp 161)) (ix:=(.tmp 162)) rfl rfl fP gQ fR (by omega) he70 fun p76 hp77 ok78=>?_
       refine bP hs m (e_ (p_ (ok78 _ _ _ _ _)) (e_ (p_ (cN (aS e69))) (e_ (p_ (bW (cs:=mO (⟨⟨3,rfl⟩,(⟨(⟨⟨0,rfl⟩,⟨0,rfl⟩⟩:aT),⟨0,rfl⟩,false⟩:bD),e69,(⟨(⟨⟨0,rfl⟩,⟨0,rfl⟩,⟨0,rfl⟩,⟨0,rfl⟩,⟨0,rfl⟩,⟨0,rfl⟩⟩:cK),⟨0,rfl⟩⟩:cH)⟩:eV)) aBP mZ rfl rfl)) bR))) fun a w_ hs m=>?_
       refine dK (c:=mO) (ys:=[(⟨⟨3,rfl⟩,(⟨(⟨⟨0,rfl⟩,⟨0,rfl⟩⟩:aT),⟨0,rfl⟩,false⟩:bD),e69,(⟨(⟨⟨0,rfl⟩,⟨0,rfl⟩,⟨0,rfl⟩,⟨0,rfl⟩,⟨0,rfl⟩,⟨0,rfl⟩⟩:cK),⟨0,rfl⟩⟩:cH)⟩:eV)]) hs m oO qL mZ rfl rfl rfl rfl rfl (fun _=>rfl) rfl rfl rfl fun v79 w80 m a hs=>?_
       refine cF (c:=mO) (xs:=(((((([]:List eV)++aL (fun e=>(!cD aA aH aD aC aI e)&&(e.Local==true)) cR aF)++aL (fun e=>(!cD aA aH aD aC aI e)&&(e.Local==false)) cR aF)++aL (fun e => !decide (e ∈ aC)) gJ aA)++aL (fun e => !decide (e ∈ aI)) iC aH)++aL (fun e => !decide (e ∈ aH)) jX aI)++aL (fun e => !decide (e ∈ aA)) jH (aC.take k10)) (ys:=[(⟨⟨3,rfl⟩,(⟨(⟨⟨0,rfl⟩,⟨0,rfl⟩⟩:aT),⟨0,rfl⟩,false⟩:bD),e69,(⟨(⟨⟨0,rfl⟩,⟨0,rfl⟩,⟨0,rfl⟩,⟨0,rfl⟩,⟨0,rfl⟩,⟨0,rfl⟩⟩:cK),⟨0,rfl⟩⟩:cH)⟩:eV)]) hs m rfl rfl oO aBG qL mZ rfl aAU rfl r3 (m.rdv r0) (fun _=>rfl) (by(simp only[List.length_cons,List.length_nil];omega)) rfl fun v81 w82 m a hs=>?_
       refine bP hs m fW fun a w_ hs m=>?_
       rw[(show (((((([]:List eV)++aL (fun e=>(!cD aA aH aD aC aI e)&&(e.Local==true)) cR aF)++aL (fun e=>(!cD aA aH aD aC aI e)&&(e.Local==false)) cR aF)++aL (fun e => !decide (e ∈ aC)) gJ aA)++aL (fun e => !decide (e ∈ aI)) iC aH)++aL (fun e => !decide (e ∈ aH)) jX aI)++aL (fun e => !decide (e ∈ aA)) jH (aC.take k10)++[(⟨⟨3,rfl⟩,(⟨(⟨⟨0,rfl⟩,⟨0,rfl⟩⟩:aT),⟨0,rfl⟩,false⟩:bD),e69,(⟨(⟨⟨0,rfl⟩,⟨0,rfl⟩,⟨0,rfl⟩,⟨0,rfl⟩,⟨0,rfl⟩,⟨0,rfl⟩⟩:cK),⟨0,rfl⟩⟩:cH)⟩:eV)]=(((((([]:List eV)++aL (fun e=>(!cD aA aH aD aC aI e)&&(e.Local==true)) cR aF)++aL (fun e=>(!cD aA aH aD aC aI e)&&(e.Local==false)) cR aF)++aL (fun e => !decide (e ∈ aC)) gJ aA)++aL (fun e => !decide (e ∈ aI)) iC aH)++aL (fun e => !decide (e ∈ aH)) jX aI)++aL (fun e => !decide (e ∈ aA)) jH (aC.take (k10+1)) from nS (by assumption) (by assumption))] at m
       exact⟨aC.length-(k10+1),by omega,k10+1,v81,by omega,by exact Nat.le_trans gA (by omega),rfl,hs.to ⟨rfl,rfl,rfl,rfl,trivial⟩,m.sub (a2 (a2 (a0 .n)))⟩
      have h75p:=h75;simp only[fK] at h75p
      refine bT hs m hQ fun a w_ hs m=>?_
      rw[(show (((((([]:List eV)++aL (fun e=>(!cD aA aH aD aC aI e)&&(e.Local==true)) cR aF)++aL (fun e=>(!cD aA aH aD aC aI e)&&(e.Local==false)) cR aF)++aL (fun e => !decide (e ∈ aC)) gJ aA)++aL (fun e => !decide (e ∈ aI)) iC aH)++aL (fun e => !decide (e ∈ aH)) jX aI)++aL (fun e => !decide (e ∈ aA)) jH (aC.take k10)=(((((([]:List eV)++aL (fun e=>(!cD aA aH aD aC aI e)&&(e.Local==true)) cR aF)++aL (fun e=>(!cD aA aH aD aC aI e)&&(e.Local==false)) cR aF)++aL (fun e => !decide (e ∈ aC)) gJ aA)++aL (fun e => !decide (e ∈ aI)) iC aH)++aL (fun e => !decide (e ∈ aH)) jX aI)++aL (fun e => !decide (e ∈ aA)) jH (aC.take (k10+1)) from nR (by assumption) (by assumption))] at m
      exact⟨aC.length-(k10+1),by omega,k10+1,v37,by omega,by exact Nat.le_trans gA (by omega),rfl,hs.to ⟨rfl,rfl,rfl,rfl,trivial⟩,m.sub (a0 (a0 (a0 .n)))⟩
     have h36p:=of_decide_eq_true h36
     refine wp_skip ?_
     refine aB ?_
     refine dG ?_
     refine wp_block ?_
     refine eE m mo (by kernel_rfl) ?_
     refine vJ hs (h1:=q_ (cN [cQ.v,cT.v,dQ.v])) (k:=fun a hs=>?_)
     obtain⟨e85,he86⟩:=bI (l:=aI) (i:=k8) (by omega)
     refine kE (c:=cB) (e:=e85) hs m (x:=(.tmp 127)) (ix:=(.tmp 128)) rfl rfl fQ gS iH (by omega) he86 fun p87 hp88 ok89=>?_
     refine sO hs (h1:=q_ (ok89 _ _ _ _ _)) (h2:=q_ (cN (cB e85))) (k:=fun a hs=>?_)
     refine mL hs rfl rfl a0L rfl (fun w m=>aIO cQ aF cT aA dQ aH e85 w (m.rd fF) (m.rd fN) (m.rd hU) ) rfl fun a hs=>?_
     refine uZ hs (k:=fun a hs=>?_)
     refine wpQuiet_nil fun w90 m=>?_
     refine bT hs m gI fun a w_ hs m=>?_
     refine aR hs rfl (fun h91=>?_) (fun h91=>?_)
     ·have h91p:=h91;simp only[fK] at h91p
      refine bT hs m gI fun a w_ hs m=>?_
      refine kE (c:=cB) (e:=e85) hs m (x:=(.tmp 136)) (ix:=(.tmp 137)) rfl rfl fQ gS iH (by omega) he86 fun p92 hp93 ok94=>?_
      refine bP hs m (e_ (p_ (ok94 _ _ _ _ _)) (e_ (p_ (cN (cB e85))) (e_ (p_ (bW (cs:=mO (⟨⟨5,rfl⟩,(⟨(⟨⟨0,rfl⟩,⟨0,rfl⟩⟩:aT),⟨0,rfl⟩,false⟩:bD),(⟨⟨0,rfl⟩,(⟨⟨0,rfl⟩,⟨0,rfl⟩,⟨0,rfl⟩,⟨0,rfl⟩,⟨0,rfl⟩,⟨0,rfl⟩⟩:cK)⟩:bA),e85⟩:eV)) aBP mZ rfl rfl)) bR))) fun a w_ hs m=>?_
      refine dK (c:=mO) (ys:=[(⟨⟨5,rfl⟩,(⟨(⟨⟨0,rfl⟩,⟨0,rfl⟩⟩:aT),⟨0,rfl⟩,false⟩:bD),(⟨⟨0,rfl⟩,(⟨⟨0,rfl⟩,⟨0,rfl⟩,⟨0,rfl⟩,⟨0,rfl⟩,⟨0,rfl⟩,⟨0,rfl⟩⟩:cK)⟩:bA),e85⟩:eV)]) hs m oO qL mZ rfl rfl rfl rfl rfl (fun _=>rfl) rfl rfl rfl fun v95 w96 m a hs=>?_
      refine cF (c:=mO) (xs:=((((([]:List eV)++aL (fun e=>(!cD aA aH aD aC aI e)&&(e.Local==true)) cR aF)++aL (fun e=>(!cD aA aH aD aC aI e)&&(e.Local==false)) cR aF)++aL (fun e => !decide (e ∈ aC)) gJ aA)++aL (fun e => !decide (e ∈ aI)) iC aH)++aL (fun e => !decide (e ∈ aH)) jX (aI.take k8)) (ys:=[(⟨⟨5,rfl⟩,(⟨(⟨⟨0,rfl⟩,⟨0,rfl⟩⟩:aT),⟨0,rfl⟩,false⟩:bD),(⟨⟨0,rfl⟩,(⟨⟨0,rfl⟩,⟨0,rfl⟩,⟨0,rfl⟩,⟨0,rfl⟩,⟨0,rfl⟩,⟨0,rfl⟩⟩:cK)⟩:bA),e85⟩:eV)]) hs m rfl rfl oO aBG qL mZ rfl aAU rfl r3 (m.rdv r0) (fun _=>rfl) (by(simp only[List.length_cons,List.length_nil];omega)) rfl fun v97 w98 m a hs=>?_
      refine bP hs m fW fun a w_ hs m=>?_
      rw[(show ((((([]:List eV)++aL (fun e=>(!cD aA aH aD aC aI e)&&(e.Local==true)) cR aF)++aL (fun e=>(!cD aA aH aD aC aI e)&&(e.Local==false)) cR aF)++aL (fun e => !decide (e ∈ aC)) gJ aA)++aL (fun e => !decide (e ∈ aI)) iC aH)++aL (fun e => !decide (e ∈ aH)) jX (aI.take k8)++[(⟨⟨5,rfl⟩,(⟨(⟨⟨0,rfl⟩,⟨0,rfl⟩⟩:aT),⟨0,rfl⟩,false⟩:bD),(⟨⟨0,rfl⟩,(⟨⟨0,rfl⟩,⟨0,rfl⟩,⟨0,rfl⟩,⟨0,rfl⟩,⟨0,rfl⟩,⟨0,rfl⟩⟩:cK)⟩:bA),e85⟩:eV)]=((((([]:List eV)++aL (fun e=>(!cD aA aH aD aC aI e)&&(e.Local==true)) cR aF)++aL (fun e=>(!cD aA aH aD aC aI e)&&(e.Local==false)) cR aF)++aL (fun e => !decide (e ∈ aC)) gJ aA)++aL (fun e => !decide (e ∈ aI)) iC aH)++aL (fun e => !decide (e ∈ aH)) jX (aI.take (k8+1)) from nS (by assumption) (by assumption))] at m
      exact⟨aI.length-(k8+1),by omega,k8+1,v97,by omega,by exact Nat.le_trans gA (by omega),rfl,hs.to ⟨rfl,rfl,rfl,rfl,trivial⟩,m.sub (a2 (a2 (a0 .n)))⟩
     have h91p:=h91;simp only[fK] at h91p
     refine bT hs m hQ fun a w_ hs m=>?_
     rw[(show ((((([]:List eV)++aL (fun e=>(!cD aA aH aD aC aI e)&&(e.Local==true)) cR aF)++aL (fun e=>(!cD aA aH aD aC aI e)&&(e.Local==false)) cR aF)++aL (fun e => !decide (e ∈ aC)) gJ aA)++aL (fun e => !decide (e ∈ aI)) iC aH)++aL (fun e => !decide (e ∈ aH)) jX (aI.take k8)=((((([]:List eV)++aL (fun e=>(!cD aA aH aD aC aI e)&&(e.Local==true)) cR aF)++aL (fun e=>(!cD aA aH aD aC aI e)&&(e.Local==false)) cR aF)++aL (fun e => !decide (e ∈ aC)) gJ aA)++aL (fun e => !decide (e ∈ aI)) iC aH)++aL (fun e => !decide (e ∈ aH)) jX (aI.take (k8+1)) from nR (by assumption) (by assumption))] at m
     exact⟨aI.length-(k8+1),by omega,k8+1,v33,by omega,by exact Nat.le_trans gA (by omega),rfl,hs.to ⟨rfl,rfl,rfl,rfl,trivial⟩,m.sub (a0 (a0 (a0 .n)))⟩
    have h32p:=of_decide_eq_true h32
    refine wp_skip ?_
    refine aB ?_
    refine dG ?_
    refine wp_block ?_
    refine eE m mo (by kernel_rfl) ?_
    refine vJ hs (h1:=q_ (cN [cS.v,cU.v,dS.v])) (k:=fun a hs=>?_)
    obtain⟨e101,he102⟩:=bI (l:=aH) (i:=k6) (by omega)
    refine kE (c:=cB) (e:=e101) hs m (x:=(.tmp 102)) (ix:=(.tmp 103)) rfl rfl fQ gS hU (by omega) he102 fun p103 hp104 ok105=>?_
    refine sO hs (h1:=q_ (ok105 _ _ _ _ _)) (h2:=q_ (cN (cB e101))) (k:=fun a hs=>?_)
    refine mL hs rfl rfl a0L rfl (fun w m=>aIO cS aD cU aC dS aI e101 w (m.rd fS) (m.rd fR) (m.rd iH) ) rfl fun a hs=>?_
    refine uZ hs (k:=fun a hs=>?_)
    refine wpQuiet_nil fun w106 m=>?_
    refine bT hs m gI fun a w_ hs m=>?_
    refine aR hs rfl (fun h107=>?_) (fun h107=>?_)
    ·have h107p:=h107;simp only[fK] at h107p
     refine bT hs m gI fun a w_ hs m=>?_
     refine kE (c:=cB) (e:=e101) hs m (x:=(.tmp 111)) (ix:=(.tmp 112)) rfl rfl fQ gS hU (by omega) he102 fun p108 hp109 ok110=>?_
     refine bP hs m (e_ (p_ (ok110 _ _ _ _ _)) (e_ (p_ (cN (cB e101))) (e_ (p_ (bW (cs:=mO (⟨⟨6,rfl⟩,(⟨(⟨⟨0,rfl⟩,⟨0,rfl⟩⟩:aT),⟨0,rfl⟩,false⟩:bD),(⟨⟨0,rfl⟩,(⟨⟨0,rfl⟩,⟨0,rfl⟩,⟨0,rfl⟩,⟨0,rfl⟩,⟨0,rfl⟩,⟨0,rfl⟩⟩:cK)⟩:bA),e101⟩:eV)) aBP mZ rfl rfl)) bR))) fun a w_ hs m=>?_
     refine dK (c:=mO) (ys:=[(⟨⟨6,rfl⟩,(⟨(⟨⟨0,rfl⟩,⟨0,rfl⟩⟩:aT),⟨0,rfl⟩,false⟩:bD),(⟨⟨0,rfl⟩,(⟨⟨0,rfl⟩,⟨0,rfl⟩,⟨0,rfl⟩,⟨0,rfl⟩,⟨0,rfl⟩,⟨0,rfl⟩⟩:cK)⟩:bA),e101⟩:eV)]) hs m oO qL mZ rfl rfl rfl rfl rfl (fun _=>rfl) rfl rfl rfl fun v111 w112 m a hs=>?_
     refine cF (c:=mO) (xs:=(((([]:List eV)++aL (fun e=>(!cD aA aH aD aC aI e)&&(e.Local==true)) cR aF)++aL (fun e=>(!cD aA aH aD aC aI e)&&(e.Local==false)) cR aF)++aL (fun e => !decide (e ∈ aC)) gJ aA)++aL (fun e => !decide (e ∈ aI)) iC (aH.take k6)) (ys:=[(⟨⟨6,rfl⟩,(⟨(⟨⟨0,rfl⟩,⟨0,rfl⟩⟩:aT),⟨0,rfl⟩,false⟩:bD),(⟨⟨0,rfl⟩,(⟨⟨0,rfl⟩,⟨0,rfl⟩,⟨0,rfl⟩,⟨0,rfl⟩,⟨0,rfl⟩,⟨0,rfl⟩⟩:cK)⟩:bA),e101⟩:eV)]) hs m rfl rfl oO aBG qL mZ rfl aAU rfl r3 (m.rdv r0) (fun _=>rfl) (by(simp only[List.length_cons,List.length_nil];omega)) rfl fun v113 w114 m a hs=>?_
     refine bP hs m fW fun a w_ hs m=>?_
     rw[(show (((([]:List eV)++aL (fun e=>(!cD aA aH aD aC aI e)&&(e.Local==true)) cR aF)++aL (fun e=>(!cD aA aH aD aC aI e)&&(e.Local==false)) cR aF)++aL (fun e => !decide (e ∈ aC)) gJ aA)++aL (fun e => !decide (e ∈ aI)) iC (aH.take k6)++[(⟨⟨6,rfl⟩,(⟨(⟨⟨0,rfl⟩,⟨0,rfl⟩⟩:aT),⟨0,rfl⟩,false⟩:bD),(⟨⟨0,rfl⟩,(⟨⟨0,rfl⟩,⟨0,rfl⟩,⟨0,rfl⟩,⟨0,rfl⟩,⟨0,rfl⟩,⟨0,rfl⟩⟩:cK)⟩:bA),e101⟩:eV)]=(((([]:List eV)++aL (fun e=>(!cD aA aH aD aC aI e)&&(e.Local==true)) cR aF)++aL (fun e=>(!cD aA aH aD aC aI e)&&(e.Local==false)) cR aF)++aL (fun e => !decide (e ∈ aC)) gJ aA)++aL (fun e => !decide (e ∈ aI)) iC (aH.take (k6+1)) from nS (by assumption) (by assumption))] at m
     exact⟨aH.length-(k6+1),by omega,k6+1,v113,by omega,by exact Nat.le_trans gA (by omega),rfl,hs.to ⟨rfl,rfl,rfl,rfl,trivial⟩,m.sub (a2 (a2 (a0 .n)))⟩
    have h107p:=h107;simp only[fK] at h107p
    refine bT hs m hQ fun a w_ hs m=>?_
    rw[(show (((([]:List eV)++aL (fun e=>(!cD aA aH aD aC aI e)&&(e.Local==true)) cR aF)++aL (fun e=>(!cD aA aH aD aC aI e)&&(e.Local==false)) cR aF)++aL (fun e => !decide (e ∈ aC)) gJ aA)++aL (fun e => !decide (e ∈ aI)) iC (aH.take k6)=(((([]:List eV)++aL (fun e=>(!cD aA aH aD aC aI e)&&(e.Local==true)) cR aF)++aL (fun e=>(!cD aA aH aD aC aI e)&&(e.Local==false)) cR aF)++aL (fun e => !decide (e ∈ aC)) gJ aA)++aL (fun e => !decide (e ∈ aI)) iC (aH.take (k6+1)) from nR (by assumption) (by assumption))] at m
    exact⟨aH.length-(k6+1),by omega,k6+1,v29,by omega,by exact Nat.le_trans gA (by omega),rfl,hs.to ⟨rfl,rfl,rfl,rfl,trivial⟩,m.sub (a0 (a0 (a0 .n)))⟩
   have h28p:=of_decide_eq_true h28
   refine wp_skip ?_
   refine aB ?_
   refine dG ?_
   refine wp_block ?_
   refine eE m mo (by kernel_rfl) ?_
   refine vJ hs (h1:=q_ (cN [cS.v,cU.v,dS.v])) (k:=fun a hs=>?_)
   obtain⟨e117,he118⟩:=bI (l:=aA) (i:=k4) (by omega)
   refine kE (c:=aS) (e:=e117) hs m (x:=(.tmp 77)) (ix:=(.tmp 78)) rfl rfl fP gQ fN (by omega) he118 fun p119 hp120 ok121=>?_
   refine sO hs (h1:=q_ (ok121 _ _ _ _ _)) (h2:=q_ (cN (aS e117))) (k:=fun a hs=>?_)
   refine mL hs rfl rfl a0K rfl (fun w m=>aD4 cS aD cU aC dS aI e117 w (m.rd fS) (m.rd fR) (m.rd iH) ) rfl fun a hs=>?_
   refine uZ hs (k:=fun a hs=>?_)
   refine wpQuiet_nil fun w122 m=>?_
   refine bT hs m gI fun a w_ hs m=>?_
   refine aR hs rfl (fun h123=>?_) (fun h123=>?_)
   ·have h123p:=h123;simp only[fK] at h123p
    refine bT hs m gI fun a w_ hs m=>?_
    refine kE (c:=aS) (e:=e117) hs m (x:=(.tmp 86)) (ix:=(.tmp 87)) rfl rfl fP gQ fN (by omega) he118 fun p124 hp125 ok126=>?_
    refine bP hs m (e_ (p_ (ok126 _ _ _ _ _)) (e_ (p_ (cN (aS e117))) (e_ (p_ (bW (cs:=mO (⟨⟨4,rfl⟩,(⟨(⟨⟨0,rfl⟩,⟨0,rfl⟩⟩:aT),⟨0,rfl⟩,false⟩:bD),e117,(⟨(⟨⟨0,rfl⟩,⟨0,rfl⟩,⟨0,rfl⟩,⟨0,rfl⟩,⟨0,rfl⟩,⟨0,rfl⟩⟩:cK),⟨0,rfl⟩⟩:cH)⟩:eV)) aBP mZ rfl rfl)) bR))) fun a w_ hs m=>?_
    refine dK (c:=mO) (ys:=[(⟨⟨4,rfl⟩,(⟨(⟨⟨0,rfl⟩,⟨0,rfl⟩⟩:aT),⟨0,rfl⟩,false⟩:bD),e117,(⟨(⟨⟨0,rfl⟩,⟨0,rfl⟩,⟨0,rfl⟩,⟨0,rfl⟩,⟨0,rfl⟩,⟨0,rfl⟩⟩:cK),⟨0,rfl⟩⟩:cH)⟩:eV)]) hs m oO qL mZ rfl rfl rfl rfl rfl (fun _=>rfl) rfl rfl rfl fun v127 w128 m a hs=>?_
    refine cF (c:=mO) (xs:=((([]:List eV)++aL (fun e=>(!cD aA aH aD aC aI e)&&(e.Local==true)) cR aF)++aL (fun e=>(!cD aA aH aD aC aI e)&&(e.Local==false)) cR aF)++aL (fun e => !decide (e ∈ aC)) gJ (aA.take k4)) (ys:=[(⟨⟨4,rfl⟩,(⟨(⟨⟨0,rfl⟩,⟨0,rfl⟩⟩:aT),⟨0,rfl⟩,false⟩:bD),e117,(⟨(⟨⟨0,rfl⟩,⟨0,rfl⟩,⟨0,rfl⟩,⟨0,rfl⟩,⟨0,rfl⟩,⟨0,rfl⟩⟩:cK),⟨0,rfl⟩⟩:cH)⟩:eV)]) hs m rfl rfl oO aBG qL mZ rfl aAU rfl r3 (m.rdv r0) (fun _=>rfl) (by(simp only[List.length_cons,List.length_nil];omega)) rfl fun v129 w130 m a hs=>?_
    refine bP hs m fW fun a w_ hs m=>?_
    rw[(show ((([]:List eV)++aL (fun e=>(!cD aA aH aD aC aI e)&&(e.Local==true)) cR aF)++aL (fun e=>(!cD aA aH aD aC aI e)&&(e.Local==false)) cR aF)++aL (fun e => !decide (e ∈ aC)) gJ (aA.take k4)++[(⟨⟨4,rfl⟩,(⟨(⟨⟨0,rfl⟩,⟨0,rfl⟩⟩:aT),⟨0,rfl⟩,false⟩:bD),e117,(⟨(⟨⟨0,rfl⟩,⟨0,rfl⟩,⟨0,rfl⟩,⟨0,rfl⟩,⟨0,rfl⟩,⟨0,rfl⟩⟩:cK),⟨0,rfl⟩⟩:cH)⟩:eV)]=((([]:List eV)++aL (fun e=>(!cD aA aH aD aC aI e)&&(e.Local==true)) cR aF)++aL (fun e=>(!cD aA aH aD aC aI e)&&(e.Local==false)) cR aF)++aL (fun e => !decide (e ∈ aC)) gJ (aA.take (k4+1)) from nS (by assumption) (by assumption))] at m
    exact⟨aA.length-(k4+1),by omega,k4+1,v129,by omega,by exact Nat.le_trans gA (by omega),rfl,hs.to ⟨rfl,rfl,rfl,rfl,trivial⟩,m.sub (a2 (a2 (a0 .n)))⟩
   have h123p:=h123;simp only[fK] at h123p
   refine bT hs m hQ fun a w_ hs m=>?_
   rw[(show ((([]:List eV)++aL (fun e=>(!cD aA aH aD aC aI e)&&(e.Local==true)) cR aF)++aL (fun e=>(!cD aA aH aD aC aI e)&&(e.Local==false)) cR aF)++aL (fun e => !decide (e ∈ aC)) gJ (aA.take k4)=((([]:List eV)++aL (fun e=>(!cD aA aH aD aC aI e)&&(e.Local==true)) cR aF)++aL (fun e=>(!cD aA aH aD aC aI e)&&(e.Local==false)) cR aF)++aL (fun e => !decide (e ∈ aC)) gJ (aA.take (k4+1)) from nR (by assumption) (by assumption))] at m
   exact⟨aA.length-(k4+1),by omega,k4+1,v25,by omega,by exact Nat.le_trans gA (by omega),rfl,hs.to ⟨rfl,rfl,rfl,rfl,trivial⟩,m.sub (a0 (a0 (a0 .n)))⟩
  have h23p:=of_decide_eq_true h23
  refine bT hs m lA fun a w_ hs m=>?_
  obtain⟨e133,he134⟩:=bI (l:=aF) (i:=k2f) (by omega)
  refine kE (c:=aM) (e:=e133) hs m (x:=(.tmp 46)) (ix:=(.tmp 47)) rfl rfl eY gG fF (by omega) he134 fun p135 hp136 ok137=>?_
  refine bP hs m (e_ (p_ (ok137 _ _ _ _ _)) (e_ (p_ (cN (aM e133))) bR)) fun a w_ hs m=>?_
  refine bZ hs m kK rfl fun p138 w139 m a hs=>?_
  refine bP hs m (dZ s0 (t:=x_ eZ (e_ (p_ (cN [cQ.v,cT.v,dQ.v])) (e_ (p_ (cN [cS.v,cU.v,dS.v])) (e_ (p_ (cN (aM e133))) bR))))) fun a w140 hs m=>?_
  refine cC hs m rfl rfl aVL rfl (aE1 cQ aF cT aA dQ aH cS aD cU aC dS aI e133 _ (m.rd fF) (m.rd fN) (m.rd hU) (m.rd fS) (m.rd fR) (m.rd iH) ) rfl fun w141 m a hs=>?_
  refine bP hs m gZ fun a w_ hs m=>?_
  refine xY (.c (.c (.c (.c (.c (.c (.n))))))) hs m 62 (.bool ((!(cD aA aH aD aC aI e133))&&(e133.Local==false))) ?_ ?_
  ·rcases Bool.eq_false_or_eq_true (!(cD aA aH aD aC aI e133)) with hb142|hb142
   ·have hb142p:=hb142;simp only[fK] at hb142p
    refine bP hs m (x_ eZ (e_ (dV hb142 (fB (v:=.bool false) rfl rfl rfl)) (e_ (dV hb142 (oJ rfl rfl zM)) eO))) fun a w_ hs m=>?_
    exact nN hs m 5 (by rw[hb142];rfl)
   ·have hb142p:=hb142;simp only[fK] at hb142p
    refine bP hs m gX fun a w_ hs m=>?_
    exact nN hs m 5 (by rw[hb142];rfl)
  rintro a w143 ⟨hs,m⟩
  refine wpList_nil (aB ?_)
  refine aR hs rfl (fun h144=>?_) (fun h144=>?_)
  ·have h144p:=h144;simp only[fK] at h144p
   refine bT hs m (x_ iA (e_ (p_ (cN (aM e133))) (e_ (p_ (bW (cs:=mO (⟨⟨2,rfl⟩,e133,(⟨⟨0,rfl⟩,(⟨⟨0,rfl⟩,⟨0,rfl⟩,⟨0,rfl⟩,⟨0,rfl⟩,⟨0,rfl⟩,⟨0,rfl⟩⟩:cK)⟩:bA),(⟨(⟨⟨0,rfl⟩,⟨0,rfl⟩,⟨0,rfl⟩,⟨0,rfl⟩,⟨0,rfl⟩,⟨0,rfl⟩⟩:cK),⟨0,rfl⟩⟩:cH)⟩:eV)) aBP mZ rfl rfl)) bR))) fun a w_ hs m=>?_
   refine dK (c:=mO) (ys:=[(⟨⟨2,rfl⟩,e133,(⟨⟨0,rfl⟩,(⟨⟨0,rfl⟩,⟨0,rfl⟩,⟨0,rfl⟩,⟨0,rfl⟩,⟨0,rfl⟩,⟨0,rfl⟩⟩:cK)⟩:bA),(⟨(⟨⟨0,rfl⟩,⟨0,rfl⟩,⟨0,rfl⟩,⟨0,rfl⟩,⟨0,rfl⟩,⟨0,rfl⟩⟩:cK),⟨0,rfl⟩⟩:cH)⟩:eV)]) hs m oO qL mZ rfl rfl rfl rfl rfl (fun _=>rfl) rfl rfl rfl fun v145 w146 m a hs=>?_
   refine cF (c:=mO) (xs:=(([]:List eV)++aL (fun e=>(!cD aA aH aD aC aI e)&&(e.Local==true)) cR aF)++aL (fun e=>(!cD aA aH aD aC aI e)&&(e.Local==false)) cR (aF.take k2f)) (ys:=[(⟨⟨2,rfl⟩,e133,(⟨⟨0,rfl⟩,(⟨⟨0,rfl⟩,⟨0,rfl⟩,⟨0,rfl⟩,⟨0,rfl⟩,⟨0,rfl⟩,⟨0,rfl⟩⟩:cK)⟩:bA),(⟨(⟨⟨0,rfl⟩,⟨0,rfl⟩,⟨0,rfl⟩,⟨0,rfl⟩,⟨0,rfl⟩,⟨0,rfl⟩⟩:cK),⟨0,rfl⟩⟩:cH)⟩:eV)]) hs m rfl rfl oO aBG qL mZ rfl aAU rfl r4 (m.rdv r0) (fun _=>rfl) (by(simp only[List.length_cons,List.length_nil];omega)) rfl fun v147 w148 m a hs=>?_
   refine bP hs m fW fun a w_ hs m=>?_
   rw[(show (([]:List eV)++aL (fun e=>(!cD aA aH aD aC aI e)&&(e.Local==true)) cR aF)++aL (fun e=>(!cD aA aH aD aC aI e)&&(e.Local==false)) cR (aF.take k2f)++[(⟨⟨2,rfl⟩,e133,(⟨⟨0,rfl⟩,(⟨⟨0,rfl⟩,⟨0,rfl⟩,⟨0,rfl⟩,⟨0,rfl⟩,⟨0,rfl⟩,⟨0,rfl⟩⟩:cK)⟩:bA),(⟨(⟨⟨0,rfl⟩,⟨0,rfl⟩,⟨0,rfl⟩,⟨0,rfl⟩,⟨0,rfl⟩,⟨0,rfl⟩⟩:cK),⟨0,rfl⟩⟩:cH)⟩:eV)]=(([]:List eV)++aL (fun e=>(!cD aA aH aD aC aI e)&&(e.Local==true)) cR aF)++aL (fun e=>(!cD aA aH aD aC aI e)&&(e.Local==false)) cR (aF.take (k2f+1)) from nS (by assumption) (by assumption))] at m
   exact⟨aF.length-(k2f+1),by omega,k2f+1,v147,by omega,by exact Nat.le_trans gA (by omega),rfl,hs.to ⟨rfl,rfl,rfl,rfl,rfl,trivial⟩,m.sub (a3 (a3 (a0 .n)))⟩
  have h144p:=h144;simp only[fK] at h144p
  refine bT hs m hQ fun a w_ hs m=>?_
  rw[(show (([]:List eV)++aL (fun e=>(!cD aA aH aD aC aI e)&&(e.Local==true)) cR aF)++aL (fun e=>(!cD aA aH aD aC aI e)&&(e.Local==false)) cR (aF.take k2f)=(([]:List eV)++aL (fun e=>(!cD aA aH aD aC aI e)&&(e.Local==true)) cR aF)++aL (fun e=>(!cD aA aH aD aC aI e)&&(e.Local==false)) cR (aF.take (k2f+1)) from nR (by assumption) (by assumption))] at m
  exact⟨aF.length-(k2f+1),by omega,k2f+1,v20,by omega,by exact Nat.le_trans gA (by omega),rfl,hs.to ⟨rfl,rfl,rfl,rfl,rfl,trivial⟩,m.sub (a1 (a1 (a1 .n)))⟩
 have h18p:=of_decide_eq_true h18
 refine bT hs m lA fun a w_ hs m=>?_
 obtain⟨e151,he152⟩:=bI (l:=aF) (i:=k2t) (by omega)
 refine kE (c:=aM) (e:=e151) hs m (x:=(.tmp 46)) (ix:=(.tmp 47)) rfl rfl eY gG fF (by omega) he152 fun p153 hp154 ok155=>?_
 refine bP hs m (e_ (p_ (ok155 _ _ _ _ _)) (e_ (p_ (cN (aM e151))) bR)) fun a w_ hs m=>?_
 refine bZ hs m kK rfl fun p156 w157 m a hs=>?_
 refine bP hs m (dZ s0 (t:=x_ eZ (e_ (p_ (cN [cQ.v,cT.v,dQ.v])) (e_ (p_ (cN [cS.v,cU.v,dS.v])) (e_ (p_ (cN (aM e151))) bR))))) fun a w158 hs m=>?_
 refine cC hs m rfl rfl aVL rfl (aE1 cQ aF cT aA dQ aH cS aD cU aC dS aI e151 _ (m.rd fF) (m.rd fN) (m.rd hU) (m.rd fS) (m.rd fR) (m.rd iH) ) rfl fun w159 m a hs=>?_
 refine bP hs m gZ fun a w_ hs m=>?_
 refine xY (.c (.c (.c (.c (.c (.c (.n))))))) hs m 62 (.bool ((!(cD aA aH aD aC aI e151))&&(e151.Local==true))) ?_ ?_
 ·rcases Bool.eq_false_or_eq_true (!(cD aA aH aD aC aI e151)) with hb160|hb160
  ·have hb160p:=hb160;simp only[fK] at hb160p
   refine bP hs m (x_ eZ (e_ (dV hb160 (fB (v:=.bool true) rfl rfl rfl)) (e_ (dV hb160 (oJ rfl rfl zM)) eO))) fun a w_ hs m=>?_
   exact nN hs m 5 (by rw[hb160];rfl)
  ·have hb160p:=hb160;simp only[fK] at hb160p
   refine bP hs m gX fun a w_ hs m=>?_
   exact nN hs m 5 (by rw[hb160];rfl)
 rintro a w161 ⟨hs,m⟩
 refine wpList_nil (aB ?_)
 refine aR hs rfl (fun h162=>?_) (fun h162=>?_)
 ·have h162p:=h162;simp only[fK] at h162p
  refine bT hs m (x_ iA (e_ (p_ (cN (aM e151))) (e_ (p_ (bW (cs:=mO (⟨⟨2,rfl⟩,e151,(⟨⟨0,rfl⟩,(⟨⟨0,rfl⟩,⟨0,rfl⟩,⟨0,rfl⟩,⟨0,rfl⟩,⟨0,rfl⟩,⟨0,rfl⟩⟩:cK)⟩:bA),(⟨(⟨⟨0,rfl⟩,⟨0,rfl⟩,⟨0,rfl⟩,⟨0,rfl⟩,⟨0,rfl⟩,⟨0,rfl⟩⟩:cK),⟨0,rfl⟩⟩:cH)⟩:eV)) aBP mZ rfl rfl)) bR))) fun a w_ hs m=>?_
  refine dK (c:=mO) (ys:=[(⟨⟨2,rfl⟩,e151,(⟨⟨0,rfl⟩,(⟨⟨0,rfl⟩,⟨0,rfl⟩,⟨0,rfl⟩,⟨0,rfl⟩,⟨0,rfl⟩,⟨0,rfl⟩⟩:cK)⟩:bA),(⟨(⟨⟨0,rfl⟩,⟨0,rfl⟩,⟨0,rfl⟩,⟨0,rfl⟩,⟨0,rfl⟩,⟨0,rfl⟩⟩:cK),⟨0,rfl⟩⟩:cH)⟩:eV)]) hs m oO qL mZ rfl rfl rfl rfl rfl (fun _=>rfl) rfl rfl rfl fun v163 w164 m a hs=>?_
  refine cF (c:=mO) (xs:=([]:List eV)++aL (fun e=>(!cD aA aH aD aC aI e)&&(e.Local==true)) cR (aF.take k2t)) (ys:=[(⟨⟨2,rfl⟩,e151,(⟨⟨0,rfl⟩,(⟨⟨0,rfl⟩,⟨0,rfl⟩,⟨0,rfl⟩,⟨0,rfl⟩,⟨0,rfl⟩,⟨0,rfl⟩⟩:cK)⟩:bA),(⟨(⟨⟨0,rfl⟩,⟨0,rfl⟩,⟨0,rfl⟩,⟨0,rfl⟩,⟨0,rfl⟩,⟨0,rfl⟩⟩:cK),⟨0,rfl⟩⟩:cH)⟩:eV)]) hs m rfl rfl oO aBG qL mZ rfl aAU rfl r4 (m.rdv r0) (fun _=>rfl) (by(simp only[List.length_cons,List.length_nil];omega)) rfl fun v165 w166 m a hs=>?_
  refine bP hs m fW fun a w_ hs m=>?_
  rw[(show ([]:List eV)++aL (fun e=>(!cD aA aH aD aC aI e)&&(e.Local==true)) cR (aF.take k2t)++[(⟨⟨2,rfl⟩,e151,(⟨⟨0,rfl⟩,(⟨⟨0,rfl⟩,⟨0,rfl⟩,⟨0,rfl⟩,⟨0,rfl⟩,⟨0,rfl⟩,⟨0,rfl⟩⟩:cK)⟩:bA),(⟨(⟨⟨0,rfl⟩,⟨0,rfl⟩,⟨0,rfl⟩,⟨0,rfl⟩,⟨0,rfl⟩,⟨0,rfl⟩⟩:cK),⟨0,rfl⟩⟩:cH)⟩:eV)]=([]:List eV)++aL (fun e=>(!cD aA aH aD aC aI e)&&(e.Local==true)) cR (aF.take (k2t+1)) from nS (by assumption) (by assumption))] at m
  exact⟨aF.length-(k2t+1),by omega,k2t+1,v165,by omega,by exact Nat.le_trans gA (by omega),rfl,hs.to ⟨rfl,rfl,rfl,rfl,rfl,trivial⟩,m.sub (a3 (a3 (a0 .n)))⟩
 have h162p:=h162;simp only[fK] at h162p
 refine bT hs m hQ fun a w_ hs m=>?_
 rw[(show ([]:List eV)++aL (fun e=>(!cD aA aH aD aC aI e)&&(e.Local==true)) cR (aF.take k2t)=([]:List eV)++aL (fun e=>(!cD aA aH aD aC aI e)&&(e.Local==true)) cR (aF.take (k2t+1)) from nR (by assumption) (by assumption))] at m
 exact⟨aF.length-(k2t+1),by omega,k2t+1,v14,by omega,by exact Nat.le_trans gA (by omega),rfl,hs.to ⟨rfl,rfl,rfl,rfl,rfl,trivial⟩,m.sub (a1 (a1 (a1 .n)))⟩
end Go.Proofs.YtnbpodjbemfpbaaGreat.Fw
set_option linter.all false
set_option maxHeartbeats 4000000
set_option maxRecDepth 100000
namespace Go.Proofs.YtnbpodjbemfpbaaGreat.Fw
open Go
theorem yK (bG:SH) (aQ:List bD) (bF:SH) (aN:List bA) (bX:SH) (bO:List cH) (r:bD) (w0:World) (R:Hh) (A1:aQ.length<=2600000000000) (m:Hp w0 R [Sv 4 51 bG.v (aQ.map aM),Sv 7 54 bF.v (aN.map aS),Sv 7 56 bX.v (bO.map cB)] w0):Calls Tryz.prog 51 ⟨[.agg ⟨[bG.v,bF.v,bX.v]⟩,.agg ⟨aM r⟩]⟩ w0 fun e w'=>∃ v,e= .returned v/\(∃ x0:SH,∃ x1:SH,∃ x2:SH,v=(.agg ⟨[x0.v,x1.v,x2.v]⟩)/\Hp w0 R [Sv 4 51 x0.v ((nW r aQ).map aM),Sv 7 54 x1.v (aN.map aS),Sv 7 56 x2.v (bO.map cB)] w'):=by
 have jE:=(m.rdv r0).bd
 have jD:=(m.rdv r1).bd
 have mD:=(m.rdv r2).bd
 refine enter (n:=59) Tryz.func51 rfl rfl rfl fun a (hs:St 59 [(0,.agg ⟨[bG.v,bF.v,bX.v]⟩),(1,.agg ⟨aM r⟩)] a)=>?_
 refine bN ?_
 refine dU (cs:=[bG.v,bF.v,bX.v]) hs m rfl rfl rfl fun p1 w2 m a hs=>?_
 refine dU (cs:=aM r) hs m rfl rfl rfl fun p3 w4 m a hs=>?_
 refine bZ hs m jL rfl fun p5 w6 m a hs=>?_
 refine bP hs m aMZ fun a w_ hs m=>?_
 replace m:=m.nilSvM aM 4 51
 rw[(show ([]:List bD)=(fX (fun e=>cL r.Dst e.Dst) r (aQ.take 0)).1 by(rw[xJ]))] at m
 refine wp_loop_ghost (fun gn a w=>∃ k:Nat,∃ inn:Bool,∃ v7:SH,(k<=aQ.length)/\((aQ.take k).any (fun e=>decide (e.Dst=r.Dst))=false)/\((fX (fun e=>cL r.Dst e.Dst) r (aQ.take k)).2=inn)/\gn=aQ.length-k/\St 59 [(2,.pointer (some (bK p1 0))),(3,.pointer (some (bK p3 0))),(4,.pointer (some (bK p5 0))),(5,v7.v),(6,.bool inn),(7,.int .i64 (k:Int))] a/\Hp w0 R [Bx p1 29 [bG.v,bF.v,bX.v],Bx p3 51 (aM r),Bx p5 29 [nilH.v,nilH.v,nilH.v],Sv 4 51 bG.v (aQ.map aM),Sv 7 54 bF.v (aN.map aS),Sv 7 56 bX.v (bO.map cB),Sv 4 51 v7.v (((fX (fun e=>cL r.Dst e.Dst) r (aQ.take k)).1).map aM)] w) (aQ.length-0) ⟨0,false,nilH,by omega,by rfl,by rw[xJ],rfl,hs.to ⟨rfl,rfl,rfl,rfl,rfl,rfl,trivial⟩,m.sub (a3 (a2 (a1 (a1 (a1 (a1 (a0 .n)))))))⟩ ?_
 rintro gn a w10 ⟨k,inn,v7,hk,hno,hin,rfl,hs,m⟩
 have hal:=aAP (lw:=fun e=>cL r.Dst e.Dst) (x:=r) (l:=aQ) (k:=k)
 refine bT hs m (x_ gI (e_ (p_ (bQ m rfl eY (fV r3))) eZ)) fun a w_ hs m=>?_
 refine aR hs rfl (fun h11=>?_) (fun h11=>?_)
 rotate_left
 ·have h11p:=of_decide_eq_false h11
  refine bT hs m mT fun a w_ hs m=>?_
  refine aR hs rfl (fun h12=>?_) (fun h12=>?_)
  ·have h12p:=h12;simp only[fK] at h12p
   refine bT hs m (x_ iA (e_ (p_ (cN (aM r))) bR)) fun a w_ hs m=>?_
   refine dK (c:=aM) (ys:=[r]) hs m eY gG kK rfl rfl rfl rfl rfl (fun _=>rfl) rfl rfl rfl fun v13 w14 m a hs=>?_
   refine cF (c:=aM) (xs:=(fX (fun e=>cL r.Dst e.Dst) r (aQ.take k)).1) (ys:=[r]) hs m rfl rfl eY aB6 gG kK rfl qN rfl r7 (m.rdv r0) (fun _=>rfl) (by(simp;omega)) rfl fun v15 w16 m a hs=>?_
   refine bP hs m (x_ gX (dZ s2 (t:=x_ eZ (e_ (p_ (cN [v15.v,bF.v,bX.v])) (dZ s4 (t:=eZ)))))) fun a w18 hs m=>?_
   refine bH hs (vs:=[.agg ⟨[v15.v,bF.v,bX.v]⟩]) rfl ⟨cZ (cs:=[v15.v,bF.v,bX.v]) m rfl xH r4 rfl,trivial⟩ ?_
   rw[(show ((fX (fun e=>cL r.Dst e.Dst) r (aQ.take k)).1)++[r]=nW r aQ by(first|exact(pH (by assumption) (by assumption)).symm|exact tH (by omega) hno hin (by simpa using (by assumption))|exact tG (by omega) hno hin (by simpa using (by assumption))))] at m
   refine⟨_,rfl,v15,bF,bX,?_,m.sub (a0 (a5 (a5 .n)))⟩
   rfl
  have h12p:=h12;simp only[fK] at h12p
  refine bT hs m (x_ gI (dZ s0 (t:=x_ eZ (e_ (p_ (cN [v7.v,bF.v,bX.v])) (dZ s2 (t:=eZ)))))) fun a w21 hs m=>?_
  refine bH hs (vs:=[.agg ⟨[v7.v,bF.v,bX.v]⟩]) rfl ⟨cZ (cs:=[v7.v,bF.v,bX.v]) m rfl xH r2 rfl,trivial⟩ ?_
  rw[(show (fX (fun e=>cL r.Dst e.Dst) r (aQ.take k)).1=nW r aQ by(first|exact(pH (by assumption) (by assumption)).symm|exact tH (by omega) hno hin (by simpa using (by assumption))|exact tG (by omega) hno hin (by simpa using (by assumption))))] at m
  refine⟨_,rfl,v7,bF,bX,?_,m.sub (a6 (a4 (a4 .n)))⟩
  rfl
 have h11p:=of_decide_eq_true h11
 refine wp_skip ?_
 refine aB ?_
 refine dG ?_
 refine wp_block ?_
 refine dG ?_
 refine eE m mo (by kernel_rfl) ?_
 refine nG hs (k:=fun a hs=>?_)
 obtain⟨e23,he24⟩:=bI (l:=aQ) (i:=k) (by omega)
 refine rY (c:=aM) (e:=e23) hs m (x:=(.tmp 16)) (ix:=(.tmp 17)) rfl rfl eY gG r3 (by omega) he24 fun p25 hp26 ok27=>?_
 refine kZ hs (h1:=q_ (ok27 _ _ _ _ _)) (h3:=q_ (cN (aO e23.Dst))) (h5:=q_ (cN (aO r.Dst))) (h6:=q_ (mP (b:=decide (e23.Dst=r.Dst)) rfl rfl zE (lB _) (lB _) (sA e23.Dst r.Dst))) (k:=fun a hs=>?_)
 refine wpQuiet_nil fun w28 m=>?_
 refine aR hs rfl (fun h29=>?_) (fun h29=>?_)
 ·have h29p:=of_decide_eq_true h29
  refine bT hs m (x_ eO (e_ (p_ (cN [bG.v,bF.v,bX.v])) (dZ s2 (t:=hQ)))) fun a w30 hs m=>?_
  refine bH hs (vs:=[.agg ⟨[bG.v,bF.v,bX.v]⟩]) rfl ⟨cZ (cs:=[bG.v,bF.v,bX.v]) m rfl xH r2 rfl,trivial⟩ ?_
  rw[(show aQ=nW r aQ by(first|exact(pH (by assumption) (by assumption)).symm|exact tH (by omega) hno hin (by simpa using (by assumption))|exact tG (by omega) hno hin (by simpa using (by assumption))))] at m
  refine⟨_,rfl,bG,bF,bX,?_,m.sub (a3 (a3 (a3 .n)))⟩
  rfl
 have h29p:=of_decide_eq_false h29
 refine wp_skip ?_
 refine aB ?_
 refine dG ?_
 refine eE m mo (by kernel_rfl) ?_
 refine nG hs (k:=fun a hs=>?_)
 refine oU (.c (.c (.c (.c (.c (.c (.c (.c (.c (.c (.n))))))))))) (fun a=>St 59 [(2,.pointer (some (bK p1 0))),(3,.pointer (some (bK p3 0))),(4,.pointer (some (bK p5 0))),(5,v7.v),(6,.bool inn),(7,.int .i64 (k:Int)),(37,.bool (!inn&&(cL r.Dst e23.Dst)))] a) ?_ ?_
 ·rcases Bool.eq_false_or_eq_true !inn with hb32|hb32
  ·have hb32p:=hb32;simp only[fK] at hb32p
   refine xD hs (h2:=kW hb32 (cN (aO r.Dst))) (k:=fun a hs=>?_)
   refine rY (c:=aM) (e:=e23) hs m (x:=(.tmp 31)) (ix:=(.tmp 32)) rfl rfl eY gG r3 (by omega) he24 fun p33 hp34 ok35=>?_
   refine nG hs (h1:=kW hb32 (ok35 _ _ _ _ _)) (h3:=kW hb32 (cN (aO e23.Dst))) (k:=fun a hs=>?_)
   refine jI hs rfl rfl hb32 rfl rfl aCO rfl (fun w m=>uS r.Dst e23.Dst w  ) rfl fun a hs=>?_
   refine uZ hs (h1:=q_ (aP (r:=.bool (!inn&&(cL r.Dst e23.Dst))) rfl rfl rfl (by rw[hb32];rfl))) (k:=fun a hs=>?_)
   exact wpQuiet_nil (hs.to ⟨rfl,rfl,rfl,rfl,rfl,rfl,rfl,trivial⟩)
  ·have hb32p:=hb32;simp only[fK] at hb32p
   refine kZ hs (k:=fun a hs=>?_)
   refine vJ hs (h4:=q_ (aP (r:=.bool (!inn&&(cL r.Dst e23.Dst))) rfl rfl rfl (by rw[hb32];rfl))) (k:=fun a hs=>?_)
   exact wpQuiet_nil (hs.to ⟨rfl,rfl,rfl,rfl,rfl,rfl,rfl,trivial⟩)
 intro a hs
 refine wpQuiet_nil fun w36 m=>?_
 refine aR hs rfl (fun h37=>?_) (fun h37=>?_)
 ·have h37p:=h37;simp only[fK] at h37p
  refine bT hs m (x_ iA (e_ (p_ (cN (aM r))) bR)) fun a w_ hs m=>?_
  refine dK (c:=aM) (ys:=[r]) hs m eY gG kK rfl rfl rfl rfl rfl (fun _=>rfl) rfl rfl rfl fun v38 w39 m a hs=>?_
  refine cF (c:=aM) (xs:=(fX (fun e=>cL r.Dst e.Dst) r (aQ.take k)).1) (ys:=[r]) hs m rfl rfl eY aB6 gG kK rfl qN rfl r7 (m.rdv r0) (fun _=>rfl) (by(simp;omega)) rfl fun v40 w41 m a hs=>?_
  refine bP hs m nP fun a w_ hs m=>?_
  refine rY (c:=aM) (e:=e23) hs m (x:=(.tmp 44)) (ix:=(.tmp 45)) rfl rfl eY gG r5 (by omega) he24 fun p42 hp43 ok44=>?_
  refine bP hs m (e_ (p_ (ok44 _ _ _ _ _)) (e_ (p_ (cN (aM e23))) bR)) fun a w_ hs m=>?_
  refine dK (c:=aM) (ys:=[e23]) hs m eY gG kK rfl rfl rfl rfl rfl (fun _=>rfl) rfl rfl rfl fun v45 w46 m a hs=>?_
  refine cF (c:=aM) (xs:=((fX (fun e=>cL r.Dst e.Dst) r (aQ.take k)).1)++[r]) (ys:=[e23]) hs m rfl rfl eY aB6 gG kK rfl qN rfl r1 (m.rdv r0) (fun _=>rfl) (by(simp;omega)) rfl fun v47 w48 m a hs=>?_
  refine bP hs m fW fun a w_ hs m=>?_
  rw[(show ((fX (fun e=>cL r.Dst e.Dst) r (aQ.take k)).1)++[r]++[e23]=(fX (fun e=>cL r.Dst e.Dst) r (aQ.take (k+1))).1 from yP (by assumption) hin (by assumption))] at m
  exact⟨aQ.length-(k+1),by omega,k+1,true,v47,by omega,by exact vL hno (by assumption) (by assumption),by exact yR (by assumption) hin (by assumption),rfl,hs.to ⟨rfl,rfl,rfl,rfl,rfl,rfl,trivial⟩,m.sub (a3 (a3 (a3 (a3 (a3 (a3 (a0 .n)))))))⟩
 have h37p:=h37;simp only[fK] at h37p
 refine bT hs m gZ fun a w_ hs m=>?_
 refine rY (c:=aM) (e:=e23) hs m (x:=(.tmp 44)) (ix:=(.tmp 45)) rfl rfl eY gG r3 (by omega) he24 fun p50 hp51 ok52=>?_
 refine bP hs m (e_ (p_ (ok52 _ _ _ _ _)) (e_ (p_ (cN (aM e23))) bR)) fun a w_ hs m=>?_
 refine dK (c:=aM) (ys:=[e23]) hs m eY gG kK rfl rfl rfl rfl rfl (fun _=>rfl) rfl rfl rfl fun v53 w54 m a hs=>?_
 refine cF (c:=aM) (xs:=(fX (fun e=>cL r.Dst e.Dst) r (aQ.take k)).1) (ys:=[e23]) hs m rfl rfl eY aB6 gG kK rfl qN rfl r7 (m.rdv r0) (fun _=>rfl) (by(simp;omega)) rfl fun v55 w56 m a hs=>?_
 refine bP hs m fW fun a w_ hs m=>?_
 rw[(show ((fX (fun e=>cL r.Dst e.Dst) r (aQ.take k)).1)++[e23]=(fX (fun e=>cL r.Dst e.Dst) r (aQ.take (k+1))).1 from yO (by assumption) hin (by assumption))] at m
 exact⟨aQ.length-(k+1),by omega,k+1,inn,v55,by omega,by exact vL hno (by assumption) (by assumption),by exact yQ (by assumption) hin (by assumption),rfl,hs.to ⟨rfl,rfl,rfl,rfl,rfl,rfl,trivial⟩,m.sub (a2 (a2 (a2 (a2 (a2 (a2 (a0 .n)))))))⟩
theorem aC0 (bG:SH) (aQ:List bD) (bF:SH) (aN:List bA) (bX:SH) (bO:List cH) (q:bA) (w0:World) (R:Hh) (A1:aN.length<=2600000000000) (m:Hp w0 R [Sv 4 51 bG.v (aQ.map aM),Sv 7 54 bF.v (aN.map aS),Sv 7 56 bX.v (bO.map cB)] w0):Calls Tryz.prog 52 ⟨[.agg ⟨[bG.v,bF.v,bX.v]⟩,.agg ⟨aS q⟩]⟩ w0 fun e w'=>∃ v,e= .returned v/\(∃ x0:SH,∃ x1:SH,∃ x2:SH,v=(.agg ⟨[x0.v,x1.v,x2.v]⟩)/\Hp w0 R [Sv 4 51 x0.v (aQ.map aM),Sv 7 54 x1.v ((pY q aN).map aS),Sv 7 56 x2.v (bO.map cB)] w'):=by
 have jE:=(m.rdv r0).bd
 have jD:=(m.rdv r1).bd
 have mD:=(m.rdv r2).bd
 refine enter (n:=59) Tryz.func52 rfl rfl rfl fun a (hs:St 59 [(0,.agg ⟨[bG.v,bF.v,bX.v]⟩),(1,.agg ⟨aS q⟩)] a)=>?_
 refine bN ?_
 refine dU (cs:=[bG.v,bF.v,bX.v]) hs m rfl rfl rfl fun p1 w2 m a hs=>?_
 refine dU (cs:=aS q) hs m rfl rfl rfl fun p3 w4 m a hs=>?_
 refine bZ hs m jL rfl fun p5 w6 m a hs=>?_
 refine bP hs m aMZ fun a w_ hs m=>?_
 replace m:=m.nilSvM aS 7 54
 rw[(show ([]:List bA)=(fX (fun e=>decide (q.IP.v<e.IP.v)) q (aN.take 0)).1 by(rw[xJ]))] at m
 refine wp_loop_ghost (fun gn a w=>∃ k:Nat,∃ inn:Bool,∃ v7:SH,(k<=aN.length)/\((aN.take k).any (fun e=>e.IP.v==q.IP.v)=false)/\((fX (fun e=>decide (q.IP.v<e.IP.v)) q (aN.take k)).2=inn)/\gn=aN.length-k/\St 59 [(2,.pointer (some (bK p1 0))),(3,.pointer (some (bK p3 0))),(4,.pointer (some (bK p5 0))),(5,v7.v),(6,.bool inn),(7,.int .i64 (k:Int))] a/\Hp w0 R [Bx p1 29 [bG.v,bF.v,bX.v],Bx p3 54 (aS q),Bx p5 29 [nilH.v,nilH.v,nilH.v],Sv 4 51 bG.v (aQ.map aM),Sv 7 54 bF.v (aN.map aS),Sv 7 56 bX.v (bO.map cB),Sv 7 54 v7.v (((fX (fun e=>decide (q.IP.v<e.IP.v)) q (aN.take k)).1).map aS)] w) (aN.length-0) ⟨0,false,nilH,by omega,by rfl,by rw[xJ],rfl,hs.to ⟨rfl,rfl,rfl,rfl,rfl,rfl,trivial⟩,m.sub (a3 (a2 (a1 (a1 (a1 (a1 (a0 .n)))))))⟩ ?_
 rintro gn a w10 ⟨k,inn,v7,hk,hno,hin,rfl,hs,m⟩
 have hal:=aAP (lw:=fun e=>decide (q.IP.v<e.IP.v)) (x:=q) (l:=aN) (k:=k)
 refine bT hs m (x_ gI (e_ (p_ (bQ m rfl fP (fV r4))) eZ)) fun a w_ hs m=>?_
 refine aR hs rfl (fun h11=>?_) (fun h11=>?_)
 rotate_left
 ·have h11p:=of_decide_eq_false h11
  refine bT hs m mT fun a w_ hs m=>?_
  refine aR hs rfl (fun h12=>?_) (fun h12=>?_)
  ·have h12p:=h12;simp only[fK] at h12p
   refine bT hs m (x_ iA (e_ (p_ (cN (aS q))) bR)) fun a w_ hs m=>?_
   refine dK (c:=aS) (ys:=[q]) hs m fP gQ lW rfl rfl rfl rfl rfl (fun _=>rfl) rfl rfl rfl fun v13 w14 m a hs=>?_
   refine cF (c:=aS) (xs:=(fX (fun e=>decide (q.IP.v<e.IP.v)) q (aN.take k)).1) (ys:=[q]) hs m rfl rfl fP aB7 gQ lW rfl qO rfl r7 (m.rdv r0) (fun _=>rfl) (by(simp;omega)) rfl fun v15 w16 m a hs=>?_
   refine bP hs m (x_ gX (dZ s2 (t:=x_ eZ (e_ (p_ (cN [bG.v,v15.v,bX.v])) (dZ s4 (t:=eZ)))))) fun a w18 hs m=>?_
   refine bH hs (vs:=[.agg ⟨[bG.v,v15.v,bX.v]⟩]) rfl ⟨cZ (cs:=[bG.v,v15.v,bX.v]) m rfl xH r4 rfl,trivial⟩ ?_
   rw[(show ((fX (fun e=>decide (q.IP.v<e.IP.v)) q (aN.take k)).1)++[q]=pY q aN by(first|exact(pH (by assumption) (by assumption)).symm|exact tH (by omega) hno hin (by simpa using (by assumption))|exact tG (by omega) hno hin (by simpa using (by assumption))))] at m
   refine⟨_,rfl,bG,v15,bX,?_,m.sub (a5 (a0 (a5 .n)))⟩
   rfl
  have h12p:=h12;simp only[fK] at h12p
  refine bT hs m (x_ gI (dZ s0 (t:=x_ eZ (e_ (p_ (cN [bG.v,v7.v,bX.v])) (dZ s2 (t:=eZ)))))) fun a w21 hs m=>?_
  refine bH hs (vs:=[.agg ⟨[bG.v,v7.v,bX.v]⟩]) rfl ⟨cZ (cs:=[bG.v,v7.v,bX.v]) m rfl xH r2 rfl,trivial⟩ ?_
  rw[(show (fX (fun e=>decide (q.IP.v<e.IP.v)) q (aN.take k)).1=pY q aN by(first|exact(pH (by assumption) (by assumption)).symm|exact tH (by omega) hno hin (by simpa using (by assumption))|exact tG (by omega) hno hin (by simpa using (by assumption))))] at m
  refine⟨_,rfl,bG,v7,bX,?_,m.sub (a3 (a5 (a4 .n)))⟩
  rfl
 have h11p:=of_decide_eq_true h11
 refine wp_skip ?_
 refine aB ?_
 refine dG ?_
 refine wp_block ?_
 refine dG ?_
 refine eE m mo (by kernel_rfl) ?_
 refine nG hs (k:=fun a hs=>?_)
 obtain⟨e23,he24⟩:=bI (l:=aN) (i:=k) (by omega)
 refine rY (c:=aS) (e:=e23) hs m (x:=(.tmp 16)) (ix:=(.tmp 17)) rfl rfl fP gQ r4 (by omega) he24 fun p25 hp26 ok27=>?_
 refine kZ hs (h1:=q_ (ok27 _ _ _ _ _)) (k:=fun a hs=>?_)
 refine wpQuiet_nil fun w28 m=>?_
 refine aR hs rfl (fun h29=>?_) (fun h29=>?_)
 ·have h29p:=eq_of_beq h29
  refine bT hs m (x_ eO (e_ (p_ (cN [bG.v,bF.v,bX.v])) (dZ s2 (t:=hQ)))) fun a w30 hs m=>?_
  refine bH hs (vs:=[.agg ⟨[bG.v,bF.v,bX.v]⟩]) rfl ⟨cZ (cs:=[bG.v,bF.v,bX.v]) m rfl xH r2 rfl,trivial⟩ ?_
  rw[(show aN=pY q aN by(first|exact(pH (by assumption) (by assumption)).symm|exact tH (by omega) hno hin (by simpa using (by assumption))|exact tG (by omega) hno hin (by simpa using (by assumption))))] at m
  refine⟨_,rfl,bG,bF,bX,?_,m.sub (a3 (a3 (a3 .n)))⟩
  rfl
 have h29p:=ne_of_beq_false h29
 refine wp_skip ?_
 refine aB ?_
 refine dG ?_
 refine eE m mo (by kernel_rfl) ?_
 refine nG hs (k:=fun a hs=>?_)
 refine oU (.c (.c (.c (.c (.c (.c (.c (.c (.c (.c (.n))))))))))) (fun a=>St 59 [(2,.pointer (some (bK p1 0))),(3,.pointer (some (bK p3 0))),(4,.pointer (some (bK p5 0))),(5,v7.v),(6,.bool inn),(7,.int .i64 (k:Int)),(37,.bool (!inn&&(decide (q.IP.v<e23.IP.v))))] a) ?_ ?_
 ·rcases Bool.eq_false_or_eq_true !inn with hb32|hb32
  ·have hb32p:=hb32;simp only[fK] at hb32p
   refine xD hs (k:=fun a hs=>?_)
   refine rY (c:=aS) (e:=e23) hs m (x:=(.tmp 31)) (ix:=(.tmp 32)) rfl rfl fP gQ r4 (by omega) he24 fun p33 hp34 ok35=>?_
   refine xD hs (h1:=kW hb32 (ok35 _ _ _ _ _)) (h5:=q_ (aP (r:=.bool (!inn&&(decide (q.IP.v<e23.IP.v)))) rfl rfl rfl (by rw[hb32];rfl))) (k:=fun a hs=>?_)
   exact wpQuiet_nil (hs.to ⟨rfl,rfl,rfl,rfl,rfl,rfl,rfl,trivial⟩)
  ·have hb32p:=hb32;simp only[fK] at hb32p
   refine kZ hs (k:=fun a hs=>?_)
   refine vJ hs (h4:=q_ (aP (r:=.bool (!inn&&(decide (q.IP.v<e23.IP.v)))) rfl rfl rfl (by rw[hb32];rfl))) (k:=fun a hs=>?_)
   exact wpQuiet_nil (hs.to ⟨rfl,rfl,rfl,rfl,rfl,rfl,rfl,trivial⟩)
 intro a hs
 refine wpQuiet_nil fun w36 m=>?_
 refine aR hs rfl (fun h37=>?_) (fun h37=>?_)
 ·have h37p:=h37;simp only[fK] at h37p
  refine bT hs m (x_ iA (e_ (p_ (cN (aS q))) bR)) fun a w_ hs m=>?_
  refine dK (c:=aS) (ys:=[q]) hs m fP gQ lW rfl rfl rfl rfl rfl (fun _=>rfl) rfl rfl rfl fun v38 w39 m a hs=>?_
  refine cF (c:=aS) (xs:=(fX (fun e=>decide (q.IP.v<e.IP.v)) q (aN.take k)).1) (ys:=[q]) hs m rfl rfl fP aB7 gQ lW rfl qO rfl r7 (m.rdv r0) (fun _=>rfl) (by(simp;omega)) rfl fun v40 w41 m a hs=>?_
  refine bP hs m nP fun a w_ hs m=>?_
  refine rY (c:=aS) (e:=e23) hs m (x:=(.tmp 44)) (ix:=(.tmp 45)) rfl rfl fP gQ r6 (by omega) he24 fun p42 hp43 ok44=>?_
  refine bP hs m (e_ (p_ (ok44 _ _ _ _ _)) (e_ (p_ (cN (aS e23))) bR)) fun a w_ hs m=>?_
  refine dK (c:=aS) (ys:=[e23]) hs m fP gQ lW rfl rfl rfl rfl rfl (fun _=>rfl) rfl rfl rfl fun v45 w46 m a hs=>?_
  refine cF (c:=aS) (xs:=((fX (fun e=>decide (q.IP.v<e.IP.v)) q (aN.take k)).1)++[q]) (ys:=[e23]) hs m rfl rfl fP aB7 gQ lW rfl qO rfl r1 (m.rdv r0) (fun _=>rfl) (by(simp;omega)) rfl fun v47 w48 m a hs=>?_
  refine bP hs m fW fun a w_ hs m=>?_
  rw[(show ((fX (fun e=>decide (q.IP.v<e.IP.v)) q (aN.take k)).1)++[q]++[e23]=(fX (fun e=>decide (q.IP.v<e.IP.v)) q (aN.take (k+1))).1 from yP (by assumption) hin (by assumption))] at m
  exact⟨aN.length-(k+1),by omega,k+1,true,v47,by omega,by exact vL hno (by assumption) (by assumption),by exact yR (by assumption) hin (by assumption),rfl,hs.to ⟨rfl,rfl,rfl,rfl,rfl,rfl,trivial⟩,m.sub (a3 (a3 (a3 (a3 (a3 (a3 (a0 .n)))))))⟩
 have h37p:=h37;simp only[fK] at h37p
 refine bT hs m gZ fun a w_ hs m=>?_
 refine rY (c:=aS) (e:=e23) hs m (x:=(.tmp 44)) (ix:=(.tmp 45)) rfl rfl fP gQ r4 (by omega) he24 fun p50 hp51 ok52=>?_
 refine bP hs m (e_ (p_ (ok52 _ _ _ _ _)) (e_ (p_ (cN (aS e23))) bR)) fun a w_ hs m=>?_
 refine dK (c:=aS) (ys:=[e23]) hs m fP gQ lW rfl rfl rfl rfl rfl (fun _=>rfl) rfl rfl rfl fun v53 w54 m a hs=>?_
 refine cF (c:=aS) (xs:=(fX (fun e=>decide (q.IP.v<e.IP.v)) q (aN.take k)).1) (ys:=[e23]) hs m rfl rfl fP aB7 gQ lW rfl qO rfl r7 (m.rdv r0) (fun _=>rfl) (by(simp;omega)) rfl fun v55 w56 m a hs=>?_
 refine bP hs m fW fun a w_ hs m=>?_
 rw[(show ((fX (fun e=>decide (q.IP.v<e.IP.v)) q (aN.take k)).1)++[e23]=(fX (fun e=>decide (q.IP.v<e.IP.v)) q (aN.take (k+1))).1 from yO (by assumption) hin (by assumption))] at m
 exact⟨aN.length-(k+1),by omega,k+1,inn,v55,by omega,by exact vL hno (by assumption) (by assumption),by exact yQ (by assumption) hin (by assumption),rfl,hs.to ⟨rfl,rfl,rfl,rfl,rfl,rfl,trivial⟩,m.sub (a2 (a2 (a2 (a2 (a2 (a2 (a0 .n)))))))⟩
theorem aGL (bG:SH) (aQ:List bD) (bF:SH) (aN:List bA) (bX:SH) (bO:List cH) (f:cH) (w0:World) (R:Hh) (A1:bO.length<=2600000000000) (m:Hp w0 R [Sv 4 51 bG.v (aQ.map aM),Sv 7 54 bF.v (aN.map aS),Sv 7 56 bX.v (bO.map cB)] w0):Calls Tryz.prog 53 ⟨[.agg ⟨[bG.v,bF.v,bX.v]⟩,.agg ⟨cB f⟩]⟩ w0 fun e w'=>∃ v,e= .returned v/\(∃ x0:SH,∃ x1:SH,∃ x2:SH,v=(.agg ⟨[x0.v,x1.v,x2.v]⟩)/\Hp w0 R [Sv 4 51 x0.v (aQ.map aM),Sv 7 54 x1.v (aN.map aS),Sv 7 56 x2.v ((aBS f bO).map cB)] w'):=by
 have jE:=(m.rdv r0).bd
 have jD:=(m.rdv r1).bd
 have mD:=(m.rdv r2).bd
 refine enter (n:=65) Tryz.func53 rfl rfl rfl fun a (hs:St 65 [(0,.agg ⟨[bG.v,bF.v,bX.v]⟩),(1,.agg ⟨cB f⟩)] a)=>?_
 refine bN ?_
 refine dU (cs:=[bG.v,bF.v,bX.v]) hs m rfl rfl rfl fun p1 w2 m a hs=>?_
 refine dU (cs:=cB f) hs m rfl rfl rfl fun p3 w4 m a hs=>?_
 refine bZ hs m jL rfl fun p5 w6 m a hs=>?_
 refine bP hs m aMZ fun a w_ hs m=>?_
 replace m:=m.nilSvM cB 7 56
 rw[(show ([]:List cH)=(fX (fun e=>decide (eN f.MAC<eN e.MAC)) f (bO.take 0)).1 by(rw[xJ]))] at m
 refine wp_loop_ghost (fun gn a w=>∃ k:Nat,∃ inn:Bool,∃ v7:SH,(k<=bO.length)/\((bO.take k).any (fun e=>decide (e.MAC=f.MAC))=false)/\((fX (fun e=>decide (eN f.MAC<eN e.MAC)) f (bO.take k)).2=inn)/\gn=bO.length-k/\St 65 [(2,.pointer (some (bK p1 0))),(3,.pointer (some (bK p3 0))),(4,.pointer (some (bK p5 0))),(5,v7.v),(6,.bool inn),(7,.int .i64 (k:Int))] a/\Hp w0 R [Bx p1 29 [bG.v,bF.v,bX.v],Bx p3 56 (cB f),Bx p5 29 [nilH.v,nilH.v,nilH.v],Sv 4 51 bG.v (aQ.map aM),Sv 7 54 bF.v (aN.map aS),Sv 7 56 bX.v (bO.map cB),Sv 7 56 v7.v (((fX (fun e=>decide (eN f.MAC<eN e.MAC)) f (bO.take k)).1).map cB)] w) (bO.length-0) ⟨0,false,nilH,by omega,by rfl,by rw[xJ],rfl,hs.to ⟨rfl,rfl,rfl,rfl,rfl,rfl,trivial⟩,m.sub (a3 (a2 (a1 (a1 (a1 (a1 (a0 .n)))))))⟩ ?_
 rintro gn a w10 ⟨k,inn,v7,hk,hno,hin,rfl,hs,m⟩
 have hal:=aAP (lw:=fun e=>decide (eN f.MAC<eN e.MAC)) (x:=f) (l:=bO) (k:=k)
 refine bT hs m (x_ gI (e_ (p_ (bQ m rfl fQ (fV r5))) eZ)) fun a w_ hs m=>?_
 refine aR hs rfl (fun h11=>?_) (fun h11=>?_)
 rotate_left
 ·have h11p:=of_decide_eq_false h11
  refine bT hs m mT fun a w_ hs m=>?_
  refine aR hs rfl (fun h12=>?_) (fun h12=>?_)
  ·have h12p:=h12;simp only[fK] at h12p
   refine bT hs m (x_ iA (e_ (p_ (cN (cB f))) bR)) fun a w_ hs m=>?_
   refine dK (c:=cB) (ys:=[f]) hs m fQ gS lS rfl rfl rfl rfl rfl (fun _=>rfl) rfl rfl rfl fun v13 w14 m a hs=>?_
   refine cF (c:=cB) (xs:=(fX (fun e=>decide (eN f.MAC<eN e.MAC)) f (bO.take k)).1) (ys:=[f]) hs m rfl rfl fQ aB8 gS lS rfl qP rfl r7 (m.rdv r0) (fun _=>rfl) (by(simp;omega)) rfl fun v15 w16 m a hs=>?_
   refine bP hs m (x_ gX (dZ s2 (t:=x_ eZ (e_ (p_ (cN [bG.v,bF.v,v15.v])) (dZ s4 (t:=eZ)))))) fun a w18 hs m=>?_
   refine bH hs (vs:=[.agg ⟨[bG.v,bF.v,v15.v]⟩]) rfl ⟨cZ (cs:=[bG.v,bF.v,v15.v]) m rfl xH r4 rfl,trivial⟩ ?_
   rw[(show ((fX (fun e=>decide (eN f.MAC<eN e.MAC)) f (bO.take k)).1)++[f]=aBS f bO by(first|exact(pH (by assumption) (by assumption)).symm|exact tH (by omega) hno hin (by simpa using (by assumption))|exact tG (by omega) hno hin (by simpa using (by assumption))))] at m
   refine⟨_,rfl,bG,bF,v15,?_,m.sub (a5 (a5 (a0 .n)))⟩
   rfl
  have h12p:=h12;simp only[fK] at h12p
  refine bT hs m (x_ gI (dZ s0 (t:=x_ eZ (e_ (p_ (cN [bG.v,bF.v,v7.v])) (dZ s2 (t:=eZ)))))) fun a w21 hs m=>?_
  refine bH hs (vs:=[.agg ⟨[bG.v,bF.v,v7.v]⟩]) rfl ⟨cZ (cs:=[bG.v,bF.v,v7.v]) m rfl xH r2 rfl,trivial⟩ ?_
  rw[(show (fX (fun e=>decide (eN f.MAC<eN e.MAC)) f (bO.take k)).1=aBS f bO by(first|exact(pH (by assumption) (by assumption)).symm|exact tH (by omega) hno hin (by simpa using (by assumption))|exact tG (by omega) hno hin (by simpa using (by assumption))))] at m
  refine⟨_,rfl,bG,bF,v7,?_,m.sub (a3 (a3 (a4 .n)))⟩
  rfl
 have h11p:=of_decide_eq_true h11
 refine wp_skip ?_
 refine aB ?_
 refine dG ?_
 refine wp_block ?_
 refine dG ?_
 refine eE m mo (by kernel_rfl) ?_
 refine nG hs (k:=fun a hs=>?_)
 obtain⟨e23,he24⟩:=bI (l:=bO) (i:=k) (by omega)
 refine rY (c:=cB) (e:=e23) hs m (x:=(.tmp 18)) (ix:=(.tmp 19)) rfl rfl fQ gS r5 (by omega) he24 fun p25 hp26 ok27=>?_
 refine kZ hs (h1:=q_ (ok27 _ _ _ _ _)) (h3:=q_ (cN (mU e23.MAC))) (h5:=q_ (cN (mU f.MAC))) (h6:=q_ (mP (b:=decide (e23.MAC=f.MAC)) rfl rfl aDZ (aAX _) (aAX _) (aKQ e23.MAC f.MAC))) (k:=fun a hs=>?_)
 refine wpQuiet_nil fun w28 m=>?_
 refine aR hs rfl (fun h29=>?_) (fun h29=>?_)
 ·have h29p:=of_decide_eq_true h29
  refine bT hs m (x_ eO (e_ (p_ (cN [bG.v,bF.v,bX.v])) (dZ s2 (t:=hQ)))) fun a w30 hs m=>?_
  refine bH hs (vs:=[.agg ⟨[bG.v,bF.v,bX.v]⟩]) rfl ⟨cZ (cs:=[bG.v,bF.v,bX.v]) m rfl xH r2 rfl,trivial⟩ ?_
  rw[(show bO=aBS f bO by(first|exact(pH (by assumption) (by assumption)).symm|exact tH (by omega) hno hin (by simpa using (by assumption))|exact tG (by omega) hno hin (by simpa using (by assumption))))] at m
  refine⟨_,rfl,bG,bF,bX,?_,m.sub (a3 (a3 (a3 .n)))⟩
  rfl
 have h29p:=of_decide_eq_false h29
 refine bT hs m (x_ gC (e_ (p_ (cN (mU f.MAC))) bR)) fun a w_ hs m=>?_
 refine cC hs m rfl rfl aLV rfl (aBT f.MAC _  ) rfl fun w32 m a hs=>?_
 refine bP hs m gZ fun a w_ hs m=>?_
 refine rY (c:=cB) (e:=e23) hs m (x:=(.tmp 31)) (ix:=(.tmp 32)) rfl rfl fQ gS r5 (by omega) he24 fun p33 hp34 ok35=>?_
 refine bP hs m (e_ (p_ (ok35 _ _ _ _ _)) (x_ eO (e_ (p_ (cN (mU e23.MAC))) bR))) fun a w_ hs m=>?_
 refine cC hs m rfl rfl aLV rfl (aBT e23.MAC _  ) rfl fun w36 m a hs=>?_
 refine bP hs m lA fun a w_ hs m=>?_
 refine jO (.c (.c (.c (.c (.n))))) hs m 43 (!inn) (.bool (!inn&&(decide ((eN f.MAC)<(eN e23.MAC))))) ?_
 rintro a w38 ⟨hs,m⟩
 refine wpList_nil (aB ?_)
 refine aR hs rfl (fun h39=>?_) (fun h39=>?_)
 ·have h39p:=h39;simp only[fK] at h39p
  refine bT hs m (x_ iA (e_ (p_ (cN (cB f))) bR)) fun a w_ hs m=>?_
  refine dK (c:=cB) (ys:=[f]) hs m fQ gS lS rfl rfl rfl rfl rfl (fun _=>rfl) rfl rfl rfl fun v40 w41 m a hs=>?_
  refine cF (c:=cB) (xs:=(fX (fun e=>decide (eN f.MAC<eN e.MAC)) f (bO.take k)).1) (ys:=[f]) hs m rfl rfl fQ aB8 gS lS rfl qP rfl r7 (m.rdv r0) (fun _=>rfl) (by(simp;omega)) rfl fun v42 w43 m a hs=>?_
  refine bP hs m nP fun a w_ hs m=>?_
  refine rY (c:=cB) (e:=e23) hs m (x:=(.tmp 50)) (ix:=(.tmp 51)) rfl rfl fQ gS r7 (by omega) he24 fun p44 hp45 ok46=>?_
  refine bP hs m (e_ (p_ (ok46 _ _ _ _ _)) (e_ (p_ (cN (cB e23))) bR)) fun a w_ hs m=>?_
  refine dK (c:=cB) (ys:=[e23]) hs m fQ gS lS rfl rfl rfl rfl rfl (fun _=>rfl) rfl rfl rfl fun v47 w48 m a hs=>?_
  refine cF (c:=cB) (xs:=((fX (fun e=>decide (eN f.MAC<eN e.MAC)) f (bO.take k)).1)++[f]) (ys:=[e23]) hs m rfl rfl fQ aB8 gS lS rfl qP rfl r1 (m.rdv r0) (fun _=>rfl) (by(simp;omega)) rfl fun v49 w50 m a hs=>?_
  refine bP hs m fW fun a w_ hs m=>?_
  rw[(show ((fX (fun e=>decide (eN f.MAC<eN e.MAC)) f (bO.take k)).1)++[f]++[e23]=(fX (fun e=>decide (eN f.MAC<eN e.MAC)) f (bO.take (k+1))).1 from yP (by assumption) hin (by assumption))] at m
  exact⟨bO.length-(k+1),by omega,k+1,true,v49,by omega,by exact vL hno (by assumption) (by assumption),by exact yR (by assumption) hin (by assumption),rfl,hs.to ⟨rfl,rfl,rfl,rfl,rfl,rfl,trivial⟩,m.sub (a3 (a3 (a3 (a3 (a3 (a3 (a0 .n)))))))⟩
 have h39p:=h39;simp only[fK] at h39p
 refine bT hs m gZ fun a w_ hs m=>?_
 refine rY (c:=cB) (e:=e23) hs m (x:=(.tmp 50)) (ix:=(.tmp 51)) rfl rfl fQ gS r5 (by omega) he24 fun p52 hp53 ok54=>?_
 refine bP hs m (e_ (p_ (ok54 _ _ _ _ _)) (e_ (p_ (cN (cB e23))) bR)) fun a w_ hs m=>?_
 refine dK (c:=cB) (ys:=[e23]) hs m fQ gS lS rfl rfl rfl rfl rfl (fun _=>rfl) rfl rfl rfl fun v55 w56 m a hs=>?_
 refine cF (c:=cB) (xs:=(fX (fun e=>decide (eN f.MAC<eN e.MAC)) f (bO.take k)).1) (ys:=[e23]) hs m rfl rfl fQ aB8 gS lS rfl qP rfl r7 (m.rdv r0) (fun _=>rfl) (by(simp;omega)) rfl fun v57 w58 m a hs=>?_
 refine bP hs m fW fun a w_ hs m=>?_
 rw[(show ((fX (fun e=>decide (eN f.MAC<eN e.MAC)) f (bO.take k)).1)++[e23]=(fX (fun e=>decide (eN f.MAC<eN e.MAC)) f (bO.take (k+1))).1 from yO (by assumption) hin (by assumption))] at m
 exact⟨bO.length-(k+1),by omega,k+1,inn,v57,by omega,by exact vL hno (by assumption) (by assumption),by exact yQ (by assumption) hin (by assumption),rfl,hs.to ⟨rfl,rfl,rfl,rfl,rfl,rfl,trivial⟩,m.sub (a2 (a2 (a2 (a2 (a2 (a2 (a0 .n)))))))⟩
end Go.Proofs.YtnbpodjbemfpbaaGreat.Fw
set_option linter.all false
set_option maxHeartbeats 4000000
set_option maxRecDepth 100000
namespace Go.Proofs.YtnbpodjbemfpbaaGreat.Fw
open Go
theorem aXT (vleases:SH) (leases:List TLease) (host:Int) (w0:World) (hleases:RdS (hh w0) 12 vleases.v (leases.map aV)) (A1:leases.length<=2599999999990):Calls Tryz.prog 12 ⟨[vleases.v,.int .i64 host]⟩ w0 fun e w'=>∃ v,e= .returned v/\(∃ x0:SH,∃ x1:SH,∃ x2:SH,v=(.agg ⟨[x0.v,x1.v,x2.v]⟩)/\Hp w0 (hh w0) [Sv 4 51 x0.v (((nD leases host).R).map aM),Sv 7 54 x1.v (((nD leases host).N).map aS),Sv 7 56 x2.v (((nD leases host).F).map cB)] w'):=by
 have lvleases:=hleases.bd
 refine enter (n:=60) Tryz.func12 rfl rfl rfl fun a (hs:St 60 [(0,vleases.v),(1,.int .i64 host)] a)=>?_
 have m:=Hp.start w0
 refine bN ?_
 refine bZ hs m jL rfl fun p1 w2 m a hs=>?_
 refine wpList_nil (aB ?_)
 refine bN ?_
 refine bZ hs m jL rfl fun p3 w4 m a hs=>?_
 refine bP hs m (x_ gI (e_ (p_ (bQ m rfl eR (dX hleases))) gC)) fun a w_ hs m=>?_
 replace m:=m.nilSvM aM 4 51
 rw[(show ([]:List bD)=(hZ leases host 0).R by(rw[aHF]))] at m
 replace m:=m.nilSvM aS 7 54
 rw[(show ([]:List bA)=(hZ leases host 0).N by(rw[aHF]))] at m
 replace m:=m.nilSvM cB 7 56
 rw[(show ([]:List cH)=(hZ leases host 0).F by(rw[aHF]))] at m
 refine wp_loop_ghost (fun gn a w=>∃ k:Nat,∃ v5:SH,∃ v6:SH,∃ v7:SH,(k<=leases.length)/\gn=leases.length-k/\St 60 [(1,.int .i64 host),(4,.pointer (some (bK p1 0))),(5,.pointer (some (bK p3 0))),(8,vleases.v),(9,.int .i64 (leases.length:Int)),(10,.int .i64 (k:Int))] a/\Hp w0 (hh w0) [Bx p1 29 [nilH.v,nilH.v,nilH.v],Bx p3 29 [v5.v,v6.v,v7.v],Sv 4 51 v5.v (((hZ leases host k).R).map aM),Sv 7 54 v6.v (((hZ leases host k).N).map aS),Sv 7 56 v7.v (((hZ leases host k).F).map cB)] w) (leases.length-0) ⟨0,nilH,nilH,nilH,by omega,rfl,hs.to ⟨rfl,rfl,rfl,rfl,rfl,rfl,trivial⟩,m.sub (a4 (a3 (a2 (a1 (a0 .n)))))⟩ ?_
 rintro gn a w14 ⟨k,v5,v6,v7,hk,rfl,hs,m⟩
 have hal:=aF0 leases host k
 refine bT hs m gI fun a w_ hs m=>?_
 refine aR hs rfl (fun h15=>?_) (fun h15=>?_)
 rotate_left
 ·have h15p:=of_decide_eq_false h15
  refine bT hs m (x_ gX (e_ (p_ (cN [v5.v,v6.v,v7.v])) (dZ s0 (t:=eZ)))) fun a w16 hs m=>?_
  refine bH hs (vs:=[.agg ⟨[v5.v,v6.v,v7.v]⟩]) rfl ⟨cZ (cs:=[v5.v,v6.v,v7.v]) m rfl xH r0 rfl,trivial⟩ ?_
  rw[(show (hZ leases host k).R=(nD leases host).R by(rw[yW (by omega)]))] at m
  rw[(show (hZ leases host k).N=(nD leases host).N by(rw[yW (by omega)]))] at m
  rw[(show (hZ leases host k).F=(nD leases host).F by(rw[yW (by omega)]))] at m
  refine⟨_,rfl,v5,v6,v7,?_,m.sub (a2 (a2 (a2 .n)))⟩
  rfl
 have h15p:=of_decide_eq_true h15
 refine wp_skip ?_
 refine aB ?_
 refine dG ?_
 refine wp_block ?_
 refine bN ?_
 obtain⟨e20,he21⟩:=bI (l:=leases) (i:=k) (by omega)
 refine kE (c:=aV) (e:=e20) hs m (x:=(.tmp 8)) (ix:=(.tmp 10)) rfl rfl eR fZ hleases (by omega) he21 fun p22 hp23 ok24=>?_
 refine bP hs m (e_ (p_ (ok24 _ _ _ _ _)) (e_ (p_ (cN (aV e20))) bR)) fun a w_ hs m=>?_
 refine bZ hs m mY rfl fun p25 w26 m a hs=>?_
 refine bP hs m (dZ s0 (t:=x_ gI (e_ (p_ (cN (aO e20.Subnet))) bR))) fun a w27 hs m=>?_
 refine cC hs m rfl rfl aO3 rfl (aBR e20.Subnet _  ) rfl fun w28 m a hs=>?_
 refine bP hs m eZ fun a w_ hs m=>?_
 refine aR hs rfl (fun h29=>?_) (fun h29=>?_)
 ·have h29p:=h29;simp only[fK] at h29p
  refine bT hs m hQ fun a w_ hs m=>?_
  rw[(show (hZ leases host k).R=(hZ leases host (k+1)).R by(rw[aCB (by assumption) (by assumption)]))] at m
  rw[(show (hZ leases host k).N=(hZ leases host (k+1)).N by(rw[aCB (by assumption) (by assumption)]))] at m
  rw[(show (hZ leases host k).F=(hZ leases host (k+1)).F by(rw[aCB (by assumption) (by assumption)]))] at m
  exact⟨leases.length-(k+1),by omega,k+1,v5,v6,v7,by omega,rfl,hs.to ⟨rfl,rfl,rfl,rfl,rfl,rfl,trivial⟩,m.sub (a1 (a1 (a1 (a1 (a1 .n)))))⟩
 have h29p:=h29;simp only[fK] at h29p
 refine bT hs m fW fun a w_ hs m=>?_
 refine aR hs rfl (fun h33=>?_) (fun h33=>?_)
 ·have h33p:=eq_of_beq h33
  refine bT hs m (x_ gC (e_ (p_ (cN (aO e20.Subnet))) (e_ (p_ (bW (cs:=aM (⟨e20.Subnet,⟨0,rfl⟩,true⟩:bD)) aN1 kK rfl rfl)) bR))) fun a w_ hs m=>?_
  refine jM 1 (m.sub (a3 (a0 (a0 (a0 (a0 (a0 .n))))))) hs aVD (fun R1 hR ⟨y1,sy,ly⟩ mc=>aAH v5 ((hZ leases host k).R) (⟨e20.Subnet,⟨0,rfl⟩,true⟩:bD) _ R1  (by omega) mc) fun v34 w35 m a hs=>?_
  simp only[iG] at m
  refine bP hs m (x_ eO (dZ s3 (t:=mT))) fun a w36 hs m=>?_
  rw[(show iB bS ((hZ leases host k).R) (⟨e20.Subnet,⟨0,rfl⟩,true⟩:bD)=(hZ leases host (k+1)).R by(rw[aCC (by assumption) (by assumption) (by assumption)]))] at m
  rw[(show (hZ leases host k).N=(hZ leases host (k+1)).N by(rw[aCC (by assumption) (by assumption) (by assumption)]))] at m
  rw[(show (hZ leases host k).F=(hZ leases host (k+1)).F by(rw[aCC (by assumption) (by assumption) (by assumption)]))] at m
  exact⟨leases.length-(k+1),by omega,k+1,v34,v6,v7,by omega,rfl,hs.to ⟨rfl,rfl,rfl,rfl,rfl,rfl,trivial⟩,m.sub (a2 (a2 (a0 (a1 (a1 .n)))))⟩
 have h33p:=ne_of_beq_false h33
 refine bT hs m (x_ gX (e_ (p_ (cN (aO e20.Subnet))) (x_ eZ (e_ (p_ (bW (cs:=aM (⟨e20.Subnet,e20.Subnet.Addr,false⟩:bD)) aN1 kK rfl rfl)) bR)))) fun a w_ hs m=>?_
 refine jM 1 (m.sub (a3 (a0 (a0 (a0 (a0 (a0 .n))))))) hs aVD (fun R1 hR ⟨y1,sy,ly⟩ mc=>aAH v5 ((hZ leases host k).R) (⟨e20.Subnet,e20.Subnet.Addr,false⟩:bD) _ R1  (by omega) mc) fun v40 w41 m a hs=>?_
 simp only[iG] at m
 refine bP hs m (x_ eO (dZ s3 (t:=x_ hQ (e_ (p_ (cN (mU e20.MAC))) (e_ (p_ (bW (cs:=aS (⟨e20.Subnet.Addr,e20.MAC⟩:bA)) aQ9 lW rfl rfl)) bR))))) fun a w42 hs m=>?_
 refine jM 1 (m.sub (a4 (a0 (a0 (a0 (a0 (a0 .n))))))) hs a0E (fun R1 hR ⟨y1,sy,ly⟩ mc=>aEZ v6 ((hZ leases host k).N) (⟨e20.Subnet.Addr,e20.MAC⟩:bA) _ R1  (by omega) mc) fun v43 w44 m a hs=>?_
 simp only[iG] at m
 refine bP hs m (x_ eO (dZ s4 (t:=x_ gX (e_ (p_ (cN (mU e20.MAC))) (x_ iA (e_ (p_ (bW (cs:=cB (⟨e20.MAC,e20.Pub⟩:cH)) aN2 lS rfl rfl)) bR)))))) fun a w45 hs m=>?_
 refine jM 1 (m.sub (a5 (a0 (a0 (a0 (a0 (a0 .n))))))) hs a0F (fun R1 hR ⟨y1,sy,ly⟩ mc=>aJM v7 ((hZ leases host k).F) (⟨e20.MAC,e20.Pub⟩:cH) _ R1  (by omega) mc) fun v46 w47 m a hs=>?_
 simp only[iG] at m
 refine bP hs m (x_ eO (dZ s5 (t:=lA))) fun a w48 hs m=>?_
 rw[(show iB bS ((hZ leases host k).R) (⟨e20.Subnet,e20.Subnet.Addr,false⟩:bD)=(hZ leases host (k+1)).R by(rw[aCA (by assumption) (by assumption) (by assumption)]))] at m
 rw[(show iB bB ((hZ leases host k).N) (⟨e20.Subnet.Addr,e20.MAC⟩:bA)=(hZ leases host (k+1)).N by(rw[aCA (by assumption) (by assumption) (by assumption)]))] at m
 rw[(show iB bY ((hZ leases host k).F) (⟨e20.MAC,e20.Pub⟩:cH)=(hZ leases host (k+1)).F by(rw[aCA (by assumption) (by assumption) (by assumption)]))] at m
 exact⟨leases.length-(k+1),by omega,k+1,v40,v43,v46,by omega,rfl,hs.to ⟨rfl,rfl,rfl,rfl,rfl,rfl,trivial⟩,m.sub (a4 (a4 (a2 (a1 (a0 .n)))))⟩
theorem aSZ (vleases:SH) (leases:List TLease) (host:Int) (w0:World) (hleases:RdS (hh w0) 12 vleases.v (leases.map aV)) (A1:leases.length<=2599999999990):Calls Tryz.prog 13 ⟨[vleases.v,.int .i64 host]⟩ w0 fun e w'=>∃ v,e= .returned v/\(∃ x0:SH,∃ x1:SH,∃ x2:SH,v=(.agg ⟨[x0.v,x1.v,x2.v]⟩)/\Hp w0 (hh w0) [Sv 4 51 x0.v (((mF leases host).R).map aM),Sv 7 54 x1.v (((mF leases host).N).map aS),Sv 7 56 x2.v (((mF leases host).F).map cB)] w'):=by
 have lvleases:=hleases.bd
 refine enter (n:=58) Tryz.func13 rfl rfl rfl fun a (hs:St 58 [(0,vleases.v),(1,.int .i64 host)] a)=>?_
 have m:=Hp.start w0
 refine bN ?_
 refine bZ hs m jL rfl fun p1 w2 m a hs=>?_
 refine wpList_nil (aB ?_)
 refine bN ?_
 refine bZ hs m jL rfl fun p3 w4 m a hs=>?_
 refine bP hs m (x_ gI (e_ (p_ (bQ m rfl eR (dX hleases))) gI)) fun a w_ hs m=>?_
 replace m:=m.nilSvM aM 4 51
 rw[(show ([]:List bD)=(eT leases host leases.length).R by(rw[aEO]))] at m
 replace m:=m.nilSvM aS 7 54
 rw[(show ([]:List bA)=(eT leases host leases.length).N by(rw[aEO]))] at m
 replace m:=m.nilSvM cB 7 56
 rw[(show ([]:List cH)=(eT leases host leases.length).F by(rw[aEO]))] at m
 refine wp_loop_ghost (fun gn a w=>∃ k:Nat,∃ v5:SH,∃ v6:SH,∃ v7:SH,(k<=leases.length)/\gn=k+1/\St 58 [(0,vleases.v),(1,.int .i64 host),(4,.pointer (some (bK p1 0))),(5,.pointer (some (bK p3 0))),(6,.int .i64 ((k:Int)-1))] a/\Hp w0 (hh w0) [Bx p1 29 [nilH.v,nilH.v,nilH.v],Bx p3 29 [v5.v,v6.v,v7.v],Sv 4 51 v5.v (((eT leases host k).R).map aM),Sv 7 54 v6.v (((eT leases host k).N).map aS),Sv 7 56 v7.v (((eT leases host k).F).map cB)] w) (leases.length+1) ⟨leases.length,nilH,nilH,nilH,by omega,rfl,hs.to ⟨rfl,rfl,rfl,rfl,rfl,trivial⟩,m.sub (a4 (a3 (a2 (a1 (a0 .n)))))⟩ ?_
 rintro gn a w14 ⟨k,v5,v6,v7,hk,rfl,hs,m⟩
 have hal:=aK3 leases host k
 refine bT hs m gX fun a w_ hs m=>?_
 refine aR hs rfl (fun h15=>?_) (fun h15=>?_)
 rotate_left
 ·have h15p:=of_decide_eq_false h15
  refine bT hs m (x_ gX (e_ (p_ (cN [v5.v,v6.v,v7.v])) (dZ s0 (t:=eZ)))) fun a w16 hs m=>?_
  refine bH hs (vs:=[.agg ⟨[v5.v,v6.v,v7.v]⟩]) rfl ⟨cZ (cs:=[v5.v,v6.v,v7.v]) m rfl xH r0 rfl,trivial⟩ ?_
  rw[(show (eT leases host k).R=(mF leases host).R by(rw[show k=0 by omega];rfl))] at m
  rw[(show (eT leases host k).N=(mF leases host).N by(rw[show k=0 by omega];rfl))] at m
  rw[(show (eT leases host k).F=(mF leases host).F by(rw[show k=0 by omega];rfl))] at m
  refine⟨_,rfl,v5,v6,v7,?_,m.sub (a2 (a2 (a2 .n)))⟩
  rfl
 have h15p:=of_decide_eq_true h15
 refine bT hs m gZ fun a w_ hs m=>?_
 obtain⟨e20,he21⟩:=bI (l:=leases) (i:=((k:Int)-1).toNat) (by omega)
 refine kE (c:=aV) (e:=e20) hs m (x:=(.tmp 16)) (ix:=(.tmp 17)) rfl rfl eR fZ hleases (by omega) he21 fun p22 hp23 ok24=>?_
 refine bP hs m (e_ (p_ (ok24 _ _ _ _ _)) (e_ (p_ (cN (aV e20))) bR)) fun a w_ hs m=>?_
 refine bZ hs m mY rfl fun p25 w26 m a hs=>?_
 refine bP hs m (dZ s0 (t:=x_ gC (e_ (p_ (cN (aO e20.Subnet))) bR))) fun a w27 hs m=>?_
 refine cC hs m rfl rfl aO4 rfl (yJ e20.Subnet _  ) rfl fun w28 m a hs=>?_
 refine bP hs m hQ fun a w_ hs m=>?_
 refine aR hs rfl (fun h29=>?_) (fun h29=>?_)
 ·have h29p:=h29;simp only[fK] at h29p
  refine bT hs m (x_ gX (e_ (p_ (qX (r:=((k-1:Nat):Int)-1) rfl rfl (by rw[cJ (by omega) (by omega)];omega))) eZ)) fun a w_ hs m=>?_
  rw[(show (eT leases host k).R=(eT leases host (k-1)).R by(rw[aAC (by assumption) (by omega) (by assumption)]))] at m
  rw[(show (eT leases host k).N=(eT leases host (k-1)).N by(rw[aAC (by assumption) (by omega) (by assumption)]))] at m
  rw[(show (eT leases host k).F=(eT leases host (k-1)).F by(rw[aAC (by assumption) (by omega) (by assumption)]))] at m
  exact⟨(k-1)+1,by omega,k-1,v5,v6,v7,by omega,rfl,hs.to ⟨rfl,rfl,rfl,rfl,rfl,trivial⟩,m.sub (a1 (a1 (a1 (a1 (a1 .n)))))⟩
 have h29p:=h29;simp only[fK] at h29p
 refine bT hs m fW fun a w_ hs m=>?_
 refine aR hs rfl (fun h33=>?_) (fun h33=>?_)
 ·have h33p:=eq_of_beq h33
  refine bT hs m (x_ eO (e_ (p_ (cN [v5.v,v6.v,v7.v])) (x_ eO (e_ (p_ (cN (aO e20.Subnet))) (e_ (p_ (bW (cs:=aM (⟨e20.Subnet,⟨0,rfl⟩,true⟩:bD)) aN1 kK rfl rfl)) bR))))) fun a w_ hs m=>?_
  refine wL 3 (m.sub (a3 (a3 (a3 (a0 (a0 (a0 .n))))))) hs aVH (fun R1 hR ⟨y1,sy,ly⟩ mc=>yK v5 ((eT leases host k).R) v6 ((eT leases host k).N) v7 ((eT leases host k).F) (⟨e20.Subnet,⟨0,rfl⟩,true⟩:bD) _ R1  (by omega) mc) fun v34 v35 v36 w37 m a hs=>?_
  simp only[iG] at m
  refine bP hs m (dZ s5 (t:=x_ lA (e_ (p_ (qX (r:=((k-1:Nat):Int)-1) rfl rfl (by rw[cJ (by omega) (by omega)];omega))) eZ))) fun a w38 hs m=>?_
  rw[(show nW (⟨e20.Subnet,⟨0,rfl⟩,true⟩:bD) ((eT leases host k).R)=(eT leases host (k-1)).R by(rw[aAD (by assumption) (by omega) (by assumption) (by assumption)]))] at m
  rw[(show (eT leases host k).N=(eT leases host (k-1)).N by(rw[aAD (by assumption) (by omega) (by assumption) (by assumption)]))] at m
  rw[(show (eT leases host k).F=(eT leases host (k-1)).F by(rw[aAD (by assumption) (by omega) (by assumption) (by assumption)]))] at m
  exact⟨(k-1)+1,by omega,k-1,v34,v35,v36,by omega,rfl,hs.to ⟨rfl,rfl,rfl,rfl,rfl,trivial⟩,m.sub (a4 (a4 (a0 (a0 (a0 .n)))))⟩
 have h33p:=ne_of_beq_false h33
 refine bT hs m (x_ eZ (e_ (p_ (cN [v5.v,v6.v,v7.v])) (x_ eO (e_ (p_ (cN (aO e20.Subnet))) (x_ eZ (e_ (p_ (bW (cs:=aM (⟨e20.Subnet,e20.Subnet.Addr,false⟩:bD)) aN1 kK rfl rfl)) bR)))))) fun a w_ hs m=>?_
 refine wL 3 (m.sub (a3 (a3 (a3 (a0 (a0 (a0 .n))))))) hs aVH (fun R1 hR ⟨y1,sy,ly⟩ mc=>yK v5 ((eT leases host k).R) v6 ((eT leases host k).N) v7 ((eT leases host k).F) (⟨e20.Subnet,e20.Subnet.Addr,false⟩:bD) _ R1  (by omega) mc) fun v42 v43 v44 w45 m a hs=>?_
 simp only[iG] at m
 refine bP hs m (dZ s5 (t:=x_ eZ (e_ (p_ (cN [v42.v,v43.v,v44.v])) (x_ gC (e_ (p_ (cN (mU e20.MAC))) (e_ (p_ (bW (cs:=aS (⟨e20.Subnet.Addr,e20.MAC⟩:bA)) aQ9 lW rfl rfl)) bR)))))) fun a w46 hs m=>?_
 refine wL 3 (m.sub (a0 (a0 (a0 (a0 (a0 (a0 .n))))))) hs a0G (fun R1 hR ⟨y1,sy,ly⟩ mc=>aC0 v42 (nW (⟨e20.Subnet,e20.Subnet.Addr,false⟩:bD) ((eT leases host k).R)) v43 ((eT leases host k).N) v44 ((eT leases host k).F) (⟨e20.Subnet.Addr,e20.MAC⟩:bA) _ R1  (by omega) mc) fun v47 v48 v49 w50 m a hs=>?_
 simp only[iG] at m
 refine bP hs m (dZ s5 (t:=x_ eZ (e_ (p_ (cN [v47.v,v48.v,v49.v])) (x_ eO (e_ (p_ (cN (mU e20.MAC))) (x_ iA (e_ (p_ (bW (cs:=cB (⟨e20.MAC,e20.Pub⟩:cH)) aN2 lS rfl rfl)) bR))))))) fun a w51 hs m=>?_
 refine wL 3 (m.sub (a0 (a0 (a0 (a0 (a0 (a0 .n))))))) hs a0H (fun R1 hR ⟨y1,sy,ly⟩ mc=>aGL v47 (nW (⟨e20.Subnet,e20.Subnet.Addr,false⟩:bD) ((eT leases host k).R)) v48 (pY (⟨e20.Subnet.Addr,e20.MAC⟩:bA) ((eT leases host k).N)) v49 ((eT leases host k).F) (⟨e20.MAC,e20.Pub⟩:cH) _ R1  (by omega) mc) fun v52 v53 v54 w55 m a hs=>?_
 simp only[iG] at m
 refine bP hs m (dZ s5 (t:=x_ gI (e_ (p_ (qX (r:=((k-1:Nat):Int)-1) rfl rfl (by rw[cJ (by omega) (by omega)];omega))) eZ))) fun a w56 hs m=>?_
 rw[(show nW (⟨e20.Subnet,e20.Subnet.Addr,false⟩:bD) ((eT leases host k).R)=(eT leases host (k-1)).R by(rw[aAB (by assumption) (by omega) (by assumption) (by assumption)]))] at m
 rw[(show pY (⟨e20.Subnet.Addr,e20.MAC⟩:bA) ((eT leases host k).N)=(eT leases host (k-1)).N by(rw[aAB (by assumption) (by omega) (by assumption) (by assumption)]))] at m
 rw[(show aBS (⟨e20.MAC,e20.Pub⟩:cH) ((eT leases host k).F)=(eT leases host (k-1)).F by(rw[aAB (by assumption) (by omega) (by assumption) (by assumption)]))] at m
 exact⟨(k-1)+1,by omega,k-1,v52,v53,v54,by omega,rfl,hs.to ⟨rfl,rfl,rfl,rfl,rfl,trivial⟩,m.sub (a4 (a4 (a0 (a0 (a0 .n)))))⟩
end Go.Proofs.YtnbpodjbemfpbaaGreat.Fw
