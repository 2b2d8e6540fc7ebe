/-
  Own work: walks and laws, joined by wip/tool/compact.py.
-/
import Derived.Test.YtnbpodjbemfpbaaGreatG14
import Derived.KernelRfl
set_option linter.all false
set_option linter.all false
set_option maxHeartbeats 4000000
set_option maxRecDepth 100000
namespace Go.Proofs.YtnbpodjbemfpbaaGreat.Fw
open Go
theorem aNW (pag:Addr) (ag:gU) (bG:SH) (aQ:List bD) (bF:SH) (aN:List bA) (bX:SH) (bO:List cH) (w0:World) (R:Hh) (dT:RdS R 4 bG.v (aQ.map aM)) (dY:RdS R 7 bF.v (aN.map aS)) (fG:RdS R 7 bX.v (bO.map cB)) (B0:aQ.length<=2000000000) (B1:aN.length<=2000000000) (B2:bO.length<=2000000000) (m:Hp w0 R [sX pag ag] w0):Calls Tryz.prog 157 ⟨[.pointer (some (bK pag 0)),.agg ⟨[bG.v,bF.v,bX.v]⟩]⟩ w0 fun e w'=>∃ v,e= .returned v/\(v=(.int .i64 (vF aQ aN bO))/\Hp w0 R [sX pag (rU ag aQ aN bO)] w'):=by
 have jE:=dT.bd
 have jD:=dY.bd
 have mD:=fG.bd
 refine enter (n:=42) Tryz.func157 rfl rfl rfl fun a (hs:St 42 [(0,.pointer (some (bK pag 0))),(1,.agg ⟨[bG.v,bF.v,bX.v]⟩)] a)=>?_
 have mo:=m.openRa r0
 obtain⟨x1,x2,x3,x4,x5,m⟩:=mo
 refine bN ?_
 refine dU (cs:=[bG.v,bF.v,bX.v]) hs m rfl rfl rfl fun p6 w7 m a hs=>?_
 refine bP hs m (x_ gC (e_ (p_ (cN [bG.v,bF.v,bX.v])) bR)) fun a w_ hs m=>?_
 refine cC hs m rfl rfl aVK rfl (aB9 bG aQ bF aN bX bO _ (m.rd dT) (m.rd dY) (m.rd fG) ) rfl fun w8 m a hs=>?_
 refine bP hs m hQ fun a w_ hs m=>?_
 refine aR hs rfl (fun h9=>?_) (fun h9=>?_)
 ·have h9p:=h9;simp only[fK] at h9p
  refine bT hs m gX fun a w_ hs m=>?_
  refine bH hs (vs:=[.int .i64 161]) rfl ⟨rfl,trivial⟩ ?_
  exact⟨_,rfl,nX ((aQN (a:=ag) (by assumption)).1),jF ((aQN (a:=ag) (by assumption)).2) (m.sub (a1 (a1 (a1 (a1 (a1 (a1 (a0 .n))))))))⟩
 have h9p:=h9;simp only[fK] at h9p
 refine bT hs m (x_ gC (e_ (p_ (cN [bG.v,bF.v,bX.v])) bR)) fun a w_ hs m=>?_
 refine oL m hs aLW (aAW bG aQ bF aN bX bO _ (m.rd dT) (m.rd dY) (m.rd fG) (by omega) (by omega) (by omega)) fun v12 v13 v14 w15 m a hs=>?_
 simp only[iG] at m
 refine bP hs m (x_ iA (dZ s4 (t:=x_ gX (dZ s4 (t:=gX))))) fun a w17 hs m=>?_
 refine bP hs m (e_ (p_ (bQ m rfl eY (dX dT))) gI) fun a w_ hs m=>?_
 replace m:=(m.sub (a4 (a0 (a0 (a0 (a4 (a4 (a0 (a0 (a0 (a0 .n))))))))))).closeRa (p:=pag) (A:=({ ag with read:=true,Routes:=aQ,Neighs:=aN,Fdbs:=bO }:gU))
 have q18:({ ag with read:=true,Routes:=aQ,Neighs:=aN,Fdbs:=bO }:gU)=({ ag with Routes:=aQ,Neighs:=aN,Fdbs:=bO,read:=true,wish:=gT ag.wish (aQ.drop aQ.length) }:gU):=by clear hs m;rw[<-a4W]
 replace m:=m.swp (q:=sX pag ({ ag with Routes:=aQ,Neighs:=aN,Fdbs:=bO,read:=true,wish:=gT ag.wish (aQ.drop aQ.length) }:gU)) s0 (fun _ e=>by rw[<-q18];exact e)
 refine wp_loop_ghost (fun gn a w=>∃ k:Nat,(k<=aQ.length)/\gn=k+1/\St 42 [(0,.pointer (some (bK pag 0))),(3,.pointer (some (bK p6 0))),(6,.int .i64 ((k:Int)-1))] a/\Hp w0 R [sX pag ({ ag with Routes:=aQ,Neighs:=aN,Fdbs:=bO,read:=true,wish:=gT ag.wish (aQ.drop k) }:gU),Bx p6 29 [bG.v,bF.v,bX.v]] w) (aQ.length+1) ⟨aQ.length,by omega,rfl,hs.to ⟨rfl,rfl,rfl,trivial⟩,m.sub (a0 (a0 .n))⟩ ?_
 rintro gn a w19 ⟨k,hk,rfl,hs,m⟩
 have mo:=m.openRa r0
 obtain⟨x20,x21,x22,x23,x24,m⟩:=mo
 refine bT hs m gX fun a w_ hs m=>?_
 refine aR hs rfl (fun h25=>?_) (fun h25=>?_)
 rotate_left
 ·have h25p:=of_decide_eq_false h25
  refine bT hs m fW fun a w_ hs m=>?_
  refine bH hs (vs:=[.int .i64 0]) rfl ⟨rfl,trivial⟩ ?_
  exact⟨_,rfl,nX ((aUN (a:=ag) (k:=k) (by assumption) (by omega)).1),jF ((aUN (a:=ag) (k:=k) (by assumption) (by omega)).2) (m.sub (a0 (a0 (a0 (a0 (a0 (a0 (a0 .n))))))))⟩
 have h25p:=of_decide_eq_true h25
 refine bT hs m lA fun a w_ hs m=>?_
 obtain⟨e28,he29⟩:=bI (l:=aQ) (i:=((k:Int)-1).toNat) (by omega)
 refine kE (c:=aM) (e:=e28) hs m (x:=(.tmp 28)) (ix:=(.tmp 29)) rfl rfl eY gG dT (by omega) he29 fun p30 hp31 ok32=>?_
 refine bP hs m (e_ (p_ (ok32 _ _ _ _ _)) gC) fun a w_ hs m=>?_
 refine aR hs rfl (fun h33=>?_) (fun h33=>?_)
 ·refine bT hs m gI fun a w_ hs m=>?_
  refine kE (c:=aM) (e:=e28) hs m (x:=(.tmp 35)) (ix:=(.tmp 36)) rfl rfl eY gG dT (by omega) he29 fun p34 hp35 ok36=>?_
  refine bP hs m (e_ (p_ (ok36 _ _ _ _ _)) (x_ eO (e_ (p_ (cN (aO e28.Dst))) (x_ iA (dZ s0 (t:=x_ gI (e_ (p_ (qX (r:=((k-1:Nat):Int)-1) rfl rfl (by rw[cJ (by omega) (by omega)];omega))) eZ))))))) fun a w37 hs m=>?_
  replace m:=(m.sub (a0 (a0 (a0 (a0 (a0 (a0 (a0 .n)))))))).closeRa (p:=pag) (A:=({ ({ ag with Routes:=aQ,Neighs:=aN,Fdbs:=bO,read:=true,wish:=gT ag.wish (aQ.drop k) }:gU) with Routes:=(({ ag with Routes:=aQ,Neighs:=aN,Fdbs:=bO,read:=true,wish:=gT ag.wish (aQ.drop k) }:gU).Routes),Neighs:=(({ ag with Routes:=aQ,Neighs:=aN,Fdbs:=bO,read:=true,wish:=gT ag.wish (aQ.drop k) }:gU).Neighs),Fdbs:=(({ ag with Routes:=aQ,Neighs:=aN,Fdbs:=bO,read:=true,wish:=gT ag.wish (aQ.drop k) }:gU).Fdbs),view:=(({ ag with Routes:=aQ,Neighs:=aN,Fdbs:=bO,read:=true,wish:=gT ag.wish (aQ.drop k) }:gU).view),skipped:=(({ ag with Routes:=aQ,Neighs:=aN,Fdbs:=bO,read:=true,wish:=gT ag.wish (aQ.drop k) }:gU).skipped),wish:=e28.Dst }:gU))
  have q38:({ ({ ag with Routes:=aQ,Neighs:=aN,Fdbs:=bO,read:=true,wish:=gT ag.wish (aQ.drop k) }:gU) with Routes:=(({ ag with Routes:=aQ,Neighs:=aN,Fdbs:=bO,read:=true,wish:=gT ag.wish (aQ.drop k) }:gU).Routes),Neighs:=(({ ag with Routes:=aQ,Neighs:=aN,Fdbs:=bO,read:=true,wish:=gT ag.wish (aQ.drop k) }:gU).Neighs),Fdbs:=(({ ag with Routes:=aQ,Neighs:=aN,Fdbs:=bO,read:=true,wish:=gT ag.wish (aQ.drop k) }:gU).Fdbs),view:=(({ ag with Routes:=aQ,Neighs:=aN,Fdbs:=bO,read:=true,wish:=gT ag.wish (aQ.drop k) }:gU).view),skipped:=(({ ag with Routes:=aQ,Neighs:=aN,Fdbs:=bO,read:=true,wish:=gT ag.wish (aQ.drop k) }:gU).skipped),wish:=e28.Dst }:gU)=({ ag with Routes:=aQ,Neighs:=aN,Fdbs:=bO,read:=true,wish:=gT ag.wish (aQ.drop (k-1)) }:gU):=by clear hs m;rw[<-a4Y (by assumption) (by omega) (by assumption)]
  replace m:=m.swp (q:=sX pag ({ ag with Routes:=aQ,Neighs:=aN,Fdbs:=bO,read:=true,wish:=gT ag.wish (aQ.drop (k-1)) }:gU)) s0 (fun _ e=>by rw[<-q38];exact e)
  exact⟨(k-1)+1,by omega,k-1,by omega,rfl,hs.to ⟨rfl,rfl,rfl,trivial⟩,m.sub (a0 (a0 .n))⟩
 refine bT hs m (x_ gI (e_ (p_ (qX (r:=((k-1:Nat):Int)-1) rfl rfl (by rw[cJ (by omega) (by omega)];omega))) eZ)) fun a w_ hs m=>?_
 replace m:=(m.sub (a0 (a0 (a0 (a0 (a0 (a0 (a0 .n)))))))).closeRa (p:=pag) (A:=({ ({ ag with Routes:=aQ,Neighs:=aN,Fdbs:=bO,read:=true,wish:=gT ag.wish (aQ.drop k) }:gU) with Routes:=(({ ag with Routes:=aQ,Neighs:=aN,Fdbs:=bO,read:=true,wish:=gT ag.wish (aQ.drop k) }:gU).Routes),Neighs:=(({ ag with Routes:=aQ,Neighs:=aN,Fdbs:=bO,read:=true,wish:=gT ag.wish (aQ.drop k) }:gU).Neighs),Fdbs:=(({ ag with Routes:=aQ,Neighs:=aN,Fdbs:=bO,read:=true,wish:=gT ag.wish (aQ.drop k) }:gU).Fdbs),view:=(({ ag with Routes:=aQ,Neighs:=aN,Fdbs:=bO,read:=true,wish:=gT ag.wish (aQ.drop k) }:gU).view),skipped:=(({ ag with Routes:=aQ,Neighs:=aN,Fdbs:=bO,read:=true,wish:=gT ag.wish (aQ.drop k) }:gU).skipped) }:gU))
 have q39:({ ({ ag with Routes:=aQ,Neighs:=aN,Fdbs:=bO,read:=true,wish:=gT ag.wish (aQ.drop k) }:gU) with Routes:=(({ ag with Routes:=aQ,Neighs:=aN,Fdbs:=bO,read:=true,wish:=gT ag.wish (aQ.drop k) }:gU).Routes),Neighs:=(({ ag with Routes:=aQ,Neighs:=aN,Fdbs:=bO,read:=true,wish:=gT ag.wish (aQ.drop k) }:gU).Neighs),Fdbs:=(({ ag with Routes:=aQ,Neighs:=aN,Fdbs:=bO,read:=true,wish:=gT ag.wish (aQ.drop k) }:gU).Fdbs),view:=(({ ag with Routes:=aQ,Neighs:=aN,Fdbs:=bO,read:=true,wish:=gT ag.wish (aQ.drop k) }:gU).view),skipped:=(({ ag with Routes:=aQ,Neighs:=aN,Fdbs:=bO,read:=true,wish:=gT ag.wish (aQ.drop k) }:gU).skipped) }:gU)=({ ag with Routes:=aQ,Neighs:=aN,Fdbs:=bO,read:=true,wish:=gT ag.wish (aQ.drop (k-1)) }:gU):=by clear hs m;rw[<-a4X (by assumption) (by omega) (by assumption)]
 replace m:=m.swp (q:=sX pag ({ ag with Routes:=aQ,Neighs:=aN,Fdbs:=bO,read:=true,wish:=gT ag.wish (aQ.drop (k-1)) }:gU)) s0 (fun _ e=>by rw[<-q39];exact e)
 exact⟨(k-1)+1,by omega,k-1,by omega,rfl,hs.to ⟨rfl,rfl,rfl,trivial⟩,m.sub (a0 (a0 .n))⟩
theorem aK2 (pag:Addr) (ag:gU) (aEX:Fx .i64) (aMQ:Fx .i64) (wH:SH) (kI:List TLease) (w0:World) (R:Hh) (tJ:RdS R 12 wH.v (kI.map aV)) (B0:kI.length<=2000000000) (m:Hp w0 R [sX pag ag] w0):Calls Tryz.prog 158 ⟨[.pointer (some (bK pag 0)),.agg ⟨[.int .i64 aEX.v,.int .i64 aMQ.v,wH.v]⟩]⟩ w0 fun e w'=>∃ v,e= .returned v/\(v=(.int .i64 (uW aEX.v kI))/\Hp w0 R [sX pag (sK ag aEX kI)] w'):=by
 have hol2:=tC (h:=ag.self.Host.v) (l:=kI)
 have aXC:=tJ.bd
 refine enter (n:=86) Tryz.func158 rfl rfl rfl fun a (hs:St 86 [(0,.pointer (some (bK pag 0))),(1,.agg ⟨[.int .i64 aEX.v,.int .i64 aMQ.v,wH.v]⟩)] a)=>?_
 have mo:=m.openRa r0
 obtain⟨x1,x2,x3,x4,x5,m⟩:=mo
 refine bN ?_
 refine dU (cs:=[.int .i64 aEX.v,.int .i64 aMQ.v,wH.v]) hs m rfl rfl rfl fun p6 w7 m a hs=>?_
 refine bP hs m fW fun a w_ hs m=>?_
 refine aR hs rfl (fun h8=>?_) (fun h8=>?_)
 ·have h8p:=of_decide_eq_true h8
  refine bT hs m gX fun a w_ hs m=>?_
  refine bH hs (vs:=[.int .i64 162]) rfl ⟨rfl,trivial⟩ ?_
  exact⟨_,rfl,nX ((aMG (a:=ag) (by omega)).1),jF ((aMG (a:=ag) (by omega)).2) (m.sub (a1 (a1 (a1 (a1 (a1 (a1 (a0 .n))))))))⟩
 have h8p:=of_decide_eq_false h8
 refine bT hs m lA fun a w_ hs m=>?_
 refine wp_loop_ghost (fun gn a w=>∃ k:Nat,(k<=kI.length)/\(0<=k)/\(pC (xZ kI) k=true)/\gn=kI.length+1-k/\St 86 [(0,.pointer (some (bK pag 0))),(3,.pointer (some (bK p6 0))),(5,.int .i64 (k:Int))] a/\Hp w0 R [Bx pag 140 (cRa ag.self ag.opn ag.request ag.read x1.v x2.v x3.v x4.v ag.cursor ag.stale x5.v ag.degraded ag.granted ag.waiting ag.wish ag.renewed ag.quiet),Bx p6 74 [.int .i64 aEX.v,.int .i64 aMQ.v,wH.v],Sv 4 51 x1.v (ag.Routes.map aM),Sv 7 54 x2.v (ag.Neighs.map aS),Sv 7 56 x3.v (ag.Fdbs.map cB),Sv 12 48 x4.v (ag.view.map aV),Sv 2 44 x5.v (ag.skipped.map aO)] w) (kI.length+1-0) ⟨0,by omega,by omega,by rfl,rfl,hs.to ⟨rfl,rfl,rfl,trivial⟩,m.sub (a1 (a0 (a0 (a0 (a0 (a0 (a0 .n)))))))⟩ ?_
 rintro gn a w11 ⟨k,hk,h1,ho,rfl,hs,m⟩
 refine bT hs m (x_ gI (e_ (p_ (bQ m rfl eR (dX tJ))) eZ)) fun a w_ hs m=>?_
 refine aR hs rfl (fun h12=>?_) (fun h12=>?_)
 rotate_left
 ·have h12p:=of_decide_eq_false h12
  refine bT hs m hQ fun a w_ hs m=>?_
  replace m:=m.nilSvM aV 12 48
  refine cF (c:=aV) (xs:=[]) (ys:=kI) hs m rfl rfl eR xF fZ mY rfl vN rfl r0 (m.rd tJ) (fun _=>rfl) (by(simp;omega)) rfl fun v13 w15 m a hs=>?_
  refine bP hs m (x_ iA (dZ s1 (t:=x_ lA (dZ s1 (t:=x_ gX (dZ s1 (t:=x_ gX (dZ s1 (t:=x_ gX (dZ s1 (t:=x_ gX (dZ s1 (t:=gC))))))))))))) fun a w21 hs m=>?_
  refine cC (v:=.int .i64 (eU ag.self.Host.v kI)) hs m rfl rfl aLX rfl (aHR pag ({ ag with view:=kI,cursor:=aEX,stale:=false,skipped:=([]:List aT),granted:=⟨0,rfl⟩,waiting:=false }:gU) _ ⟨x1,x2,x3,v13,nilH,(lO r1 _ m),(m.rdv r3),(m.rdv r4),(m.rdv r5),(m.rdv r0),(RdS.nil _ _)⟩ ) rfl fun w22 m a hs=>?_
  refine bP hs m hQ fun a w_ hs m=>?_
  refine aR hs rfl (fun h23=>?_) (fun h23=>?_)
  ·have h23p:=of_decide_eq_true h23
   refine bT hs m gZ fun a w_ hs m=>?_
   obtain⟨e24,he25⟩:=bI (l:=kI) (i:=(eU ag.self.Host.v kI).toNat) (by omega)
   refine rY (c:=aV) (e:=e24) hs m (x:=(.tmp 79)) (ix:=(.tmp 80)) rfl rfl eR fZ r0 (by omega) he25 fun p26 hp27 ok28=>?_
   refine bP hs m (e_ (p_ (ok28 _ _ _ _ _)) (x_ eO (e_ (p_ (cN (aO e24.Subnet))) (x_ iA (dZ s1 (t:=gZ)))))) fun a w29 hs m=>?_
   refine bH hs (vs:=[.int .i64 0]) rfl ⟨rfl,trivial⟩ ?_
   replace m:=m.nilSvM aO 2 44
   exact⟨_,rfl,nX ((aUJ (a:=ag) (aHE (by omega) (by omega) ho) (by omega) (by assumption)).1),jF ((aUJ (a:=ag) (aHE (by omega) (by omega) ho) (by omega) (by assumption)).2) (m.sub (a2 (a3 (a3 (a3 (a1 (a0 (a0 (a0 (a0 .n))))))))))⟩
  have h23p:=of_decide_eq_false h23
  refine bT hs m gZ fun a w_ hs m=>?_
  refine bH hs (vs:=[.int .i64 0]) rfl ⟨rfl,trivial⟩ ?_
  replace m:=m.nilSvM aO 2 44
  exact⟨_,rfl,nX ((aUI (a:=ag) (aHE (by omega) (by omega) ho) (by omega)).1),jF ((aUI (a:=ag) (aHE (by omega) (by omega) ho) (by omega)).2) (m.sub (a2 (a3 (a3 (a3 (a1 (a0 (a0 (a0 (a0 .n))))))))))⟩
 have h12p:=of_decide_eq_true h12
 refine bT hs m lA fun a w_ hs m=>?_
 obtain⟨e36,he37⟩:=bI (l:=kI) (i:=k) (by omega)
 refine kE (c:=aV) (e:=e36) hs m (x:=(.tmp 19)) (ix:=(.tmp 20)) rfl rfl eR fZ tJ (by omega) he37 fun p38 hp39 ok40=>?_
 refine bP hs m (e_ (p_ (ok40 _ _ _ _ _)) (x_ eO (e_ (p_ (cN (aO e36.Subnet))) bR))) fun a w_ hs m=>?_
 refine cC hs m rfl rfl aO4 rfl (yJ e36.Subnet _  ) rfl fun w41 m a hs=>?_
 refine bP hs m eZ fun a w_ hs m=>?_
 refine eE m mo (by kernel_rfl) ?_
 refine nG hs (k:=fun a hs=>?_)
 rcases Bool.eq_false_or_eq_true (!(iZ e36.Subnet)) with hb42|hb42
 ·have hb42p:=hb42;simp only[fK] at hb42p
  refine kZ hs (k:=fun a hs=>?_)
  refine kZ hs (k:=fun a hs=>?_)
  refine kZ hs (k:=fun a hs=>?_)
  refine sO hs (h2:=q_ (aP (r:=.bool true) rfl rfl rfl (by rw[hb42];rfl))) (k:=fun a hs=>?_)
  refine wpQuiet_nil fun w43 m=>?_
  refine bT hs m mT fun a w_ hs m=>?_
  refine bH hs (vs:=[.int .i64 162]) rfl ⟨rfl,trivial⟩ ?_
  exact⟨_,rfl,nX ((aDC (a:=ag) (k:=k) (by omega) (aP1 (by assumption) (by assumption))).1),jF ((aDC (a:=ag) (k:=k) (by omega) (aP1 (by assumption) (by assumption))).2) (m.sub (a0 (a1 (a1 (a1 (a1 (a1 (a0 .n))))))))⟩
 ·have hb42p:=hb42;simp only[fK] at hb42p
  refine nG hs (k:=fun a hs=>?_)
  rcases Bool.eq_false_or_eq_true (decide ((k:Int)>0)) with hb47|hb47
  ·have hb47p:=of_decide_eq_true hb47
   refine vJ hs (k:=fun a hs=>?_)
   obtain⟨e48,he49⟩:=bI (l:=kI) (i:=((k:Int)-1).toNat) (by omega)
   refine kE (c:=aV) (e:=e48) hs m (x:=(.tmp 32)) (ix:=(.tmp 34)) rfl rfl eR fZ tJ (by omega) he49 fun p50 hp51 ok52=>?_
   refine kZ hs (h1:=kW hb47 (ok52 _ _ _ _ _)) (h3:=kW hb47 (cN (aO e48.Subnet))) (k:=fun a hs=>?_)
   refine kE (c:=aV) (e:=e36) hs m (x:=(.tmp 39)) (ix:=(.tmp 40)) rfl rfl eR fZ tJ (by omega) he37 fun p53 hp54 ok55=>?_
   refine nG hs (h1:=kW hb47 (ok55 _ _ _ _ _)) (h3:=kW hb47 (cN (aO e36.Subnet))) (k:=fun a hs=>?_)
   refine jI hs rfl rfl hb47 rfl rfl aCO rfl (fun w m=>uS e48.Subnet e36.Subnet w  ) rfl fun a hs=>?_
   refine nG hs (h2:=kW hb42 (aP (r:=.bool (!(cL e48.Subnet e36.Subnet))) rfl rfl rfl (by rw[hb47];rfl))) (h3:=q_ (aP (r:=.bool (!(cL e48.Subnet e36.Subnet))) rfl rfl rfl (by rw[hb42];rfl))) (k:=fun a hs=>?_)
   refine wpQuiet_nil fun w56 m=>?_
   refine aR hs rfl (fun h57=>?_) (fun h57=>?_)
   ·have h57p:=h57;simp only[fK] at h57p
    refine bT hs m fW fun a w_ hs m=>?_
    refine bH hs (vs:=[.int .i64 162]) rfl ⟨rfl,trivial⟩ ?_
    exact⟨_,rfl,nX ((aDC (a:=ag) (k:=k) (by omega) (aP0 (by assumption) (by assumption) (by assumption) (by assumption))).1),jF ((aDC (a:=ag) (k:=k) (by omega) (aP0 (by assumption) (by assumption) (by assumption) (by assumption))).2) (m.sub (a0 (a1 (a1 (a1 (a1 (a1 (a0 .n))))))))⟩
   have h57p:=h57;simp only[fK] at h57p
   refine bT hs m hQ fun a w_ hs m=>?_
   exact⟨kI.length+1-(k+1),by omega,k+1,by omega,by omega,by exact nH ho (aSM (by assumption) (by assumption) (by assumption) (by assumption) (by assumption)),rfl,hs.to ⟨rfl,rfl,rfl,trivial⟩,m.sub (a0 (a0 (a0 (a0 (a0 (a0 (a0 .n)))))))⟩
  ·have hb47p:=of_decide_eq_false hb47
   refine kZ hs (k:=fun a hs=>?_)
   refine kZ hs (k:=fun a hs=>?_)
   refine xD hs (h4:=kW hb42 (aP (r:=.bool false) rfl rfl rfl (by rw[hb47];rfl))) (h5:=q_ (aP (r:=.bool false) rfl rfl rfl (by rw[hb42];rfl))) (k:=fun a hs=>?_)
   refine wpQuiet_nil fun w60 m=>?_
   refine bT hs m fW fun a w_ hs m=>?_
   exact⟨kI.length+1-(k+1),by omega,k+1,by omega,by omega,by exact nH ho (aSL (by assumption) (by assumption) (by assumption)),rfl,hs.to ⟨rfl,rfl,rfl,trivial⟩,m.sub (a0 (a0 (a0 (a0 (a0 (a0 (a0 .n)))))))⟩
end Go.Proofs.YtnbpodjbemfpbaaGreat.Fw
set_option linter.all false
set_option maxHeartbeats 4000000
set_option maxRecDepth 100000
namespace Go.Proofs.YtnbpodjbemfpbaaGreat.Fw
open Go
theorem aM4 (pag:Addr) (ag:gU) (o:eV) (w0:World) (R:Hh) (B0:ag.view.length<=2000000000) (B1:ag.Routes.length<=2000000000) (B2:ag.Neighs.length<=2000000000) (B3:ag.Fdbs.length<=2000000000) (B4:ag.skipped.length<=2000000000000) (m:Hp w0 R [sX pag ag] w0):Calls Tryz.prog 177 ⟨[.pointer (some (bK pag 0)),.agg ⟨mO o⟩]⟩ w0 fun e w'=>∃ v,e= .returned v/\(v=(.tuple ⟨[]⟩)/\Hp w0 R [sX pag (qF ag o)] w'):=by
 have hg0:=rT (g:=gR o) (l:=ag.Routes)
 have hg1:=rT (g:=gN o) (l:=ag.Neighs)
 have hg2:=rT (g:=gF o) (l:=ag.Fdbs)
 refine enter (n:=179) Tryz.func177 rfl rfl rfl fun a (hs:St 179 [(0,.pointer (some (bK pag 0))),(1,.agg ⟨mO o⟩)] a)=>?_
 have mo:=m.openRa r0
 obtain⟨x1,x2,x3,x4,x5,m⟩:=mo
 refine bN ?_
 refine dU (cs:=mO o) hs m rfl (by kernel_rfl) rfl fun p6 w7 m a hs=>?_
 refine wpList_nil (aB ?_)
 refine bN ?_
 refine bZ hs m jL rfl fun p8 w9 m a hs=>?_
 refine bP hs m lA fun a w_ hs m=>?_
 replace m:=m.nilSvM aM 4 51
 rw[(show ([]:List bD)=cV (gR o) (ag.Routes.take 0) from aA8)] at m
 refine wp_loop_ghost (fun gn a w=>∃ k0:Nat,∃ v10:SH,(k0<=ag.Routes.length)/\gn=ag.Routes.length-k0/\St 179 [(0,.pointer (some (bK pag 0))),(3,.pointer (some (bK p6 0))),(4,.pointer (some (bK p8 0))),(5,.int .i64 (k0:Int))] a/\Hp w0 R [Bx pag 140 (cRa ag.self ag.opn ag.request ag.read x1.v x2.v x3.v x4.v ag.cursor ag.stale x5.v ag.degraded ag.granted ag.waiting ag.wish ag.renewed ag.quiet),Bx p6 58 (mO o),Bx p8 29 [v10.v,nilH.v,nilH.v],Sv 4 51 x1.v (ag.Routes.map aM),Sv 7 54 x2.v (ag.Neighs.map aS),Sv 7 56 x3.v (ag.Fdbs.map cB),Sv 12 48 x4.v (ag.view.map aV),Sv 2 44 x5.v (ag.skipped.map aO),Sv 4 51 v10.v ((cV (gR o) (ag.Routes.take k0)).map aM)] w) (ag.Routes.length-0) ⟨0,nilH,by omega,rfl,hs.to ⟨rfl,rfl,rfl,rfl,trivial⟩,m.sub (a3 (a2 (a1 (a1 (a1 (a1 (a1 (a1 (a0 .n)))))))))⟩ ?_
 rintro gn a w13 ⟨k0,v10,hk0,rfl,hs,m⟩
 have hkl0:=xV (g:=gR o) (l:=ag.Routes) (k:=k0)
 refine bT hs m (x_ lA (e_ (p_ (bQ m rfl eY (fV r3))) eZ)) fun a w_ hs m=>?_
 refine aR hs rfl (fun h14=>?_) (fun h14=>?_)
 rotate_left
 ·have h14p:=of_decide_eq_false h14
  refine bT hs m mT fun a w_ hs m=>?_
  rw[show ag.Routes.take k0=ag.Routes from List.take_of_length_le (by omega)] at m
  replace m:=m.nilSvM aS 7 54
  rw[(show ([]:List bA)=cV (gN o) (ag.Neighs.take 0) from aA8)] at m
  refine wp_loop_ghost (fun gn a w=>∃ k1:Nat,∃ v15:SH,(k1<=ag.Neighs.length)/\gn=ag.Neighs.length-k1/\St 179 [(0,.pointer (some (bK pag 0))),(3,.pointer (some (bK p6 0))),(4,.pointer (some (bK p8 0))),(7,.int .i64 (k1:Int))] a/\Hp w0 R [Bx pag 140 (cRa ag.self ag.opn ag.request ag.read x1.v x2.v x3.v x4.v ag.cursor ag.stale x5.v ag.degraded ag.granted ag.waiting ag.wish ag.renewed ag.quiet),Bx p6 58 (mO o),Bx p8 29 [v10.v,v15.v,nilH.v],Sv 4 51 x1.v (ag.Routes.map aM),Sv 7 54 x2.v (ag.Neighs.map aS),Sv 7 56 x3.v (ag.Fdbs.map cB),Sv 12 48 x4.v (ag.view.map aV),Sv 2 44 x5.v (ag.skipped.map aO),Sv 4 51 v10.v ((cV (gR o) ag.Routes).map aM),Sv 7 54 v15.v ((cV (gN o) (ag.Neighs.take k1)).map aS)] w) (ag.Neighs.length-0) ⟨0,nilH,by omega,rfl,hs.to ⟨rfl,rfl,rfl,rfl,trivial⟩,m.sub (a1 (a1 (a1 (a1 (a1 (a1 (a1 (a1 (a1 (a0 .n))))))))))⟩ ?_
  rintro gn a w18 ⟨k1,v15,hk1,rfl,hs,m⟩
  have hkl1:=xV (g:=gN o) (l:=ag.Neighs) (k:=k1)
  refine bT hs m (x_ lA (e_ (p_ (bQ m rfl fP (fV r4))) eZ)) fun a w_ hs m=>?_
  refine aR hs rfl (fun h19=>?_) (fun h19=>?_)
  rotate_left
  ·have h19p:=of_decide_eq_false h19
   refine bT hs m mT fun a w_ hs m=>?_
   rw[show ag.Neighs.take k1=ag.Neighs from List.take_of_length_le (by omega)] at m
   replace m:=m.nilSvM cB 7 56
   rw[(show ([]:List cH)=cV (gF o) (ag.Fdbs.take 0) from aA8)] at m
   refine wp_loop_ghost (fun gn a w=>∃ k2:Nat,∃ v20:SH,(k2<=ag.Fdbs.length)/\gn=ag.Fdbs.length-k2/\St 179 [(0,.pointer (some (bK pag 0))),(3,.pointer (some (bK p6 0))),(4,.pointer (some (bK p8 0))),(9,.int .i64 (k2:Int))] a/\Hp w0 R [Bx pag 140 (cRa ag.self ag.opn ag.request ag.read x1.v x2.v x3.v x4.v ag.cursor ag.stale x5.v ag.degraded ag.granted ag.waiting ag.wish ag.renewed ag.quiet),Bx p6 58 (mO o),Bx p8 29 [v10.v,v15.v,v20.v],Sv 4 51 x1.v (ag.Routes.map aM),Sv 7 54 x2.v (ag.Neighs.map aS),Sv 7 56 x3.v (ag.Fdbs.map cB),Sv 12 48 x4.v (ag.view.map aV),Sv 2 44 x5.v (ag.skipped.map aO),Sv 4 51 v10.v ((cV (gR o) ag.Routes).map aM),Sv 7 54 v15.v ((cV (gN o) ag.Neighs).map aS),Sv 7 56 v20.v ((cV (gF o) (ag.Fdbs.take k2)).map cB)] w) (ag.Fdbs.length-0) ⟨0,nilH,by omega,rfl,hs.to ⟨rfl,rfl,rfl,rfl,trivial⟩,m.sub (a1 (a1 (a1 (a1 (a1 (a1 (a1 (a1 (a1 (a1 (a0 .n)))))))))))⟩ ?_
   rintro gn a w23 ⟨k2,v20,hk2,rfl,hs,m⟩
   have hkl2:=xV (g:=gF o) (l:=ag.Fdbs) (k:=k2)
   refine bT hs m (x_ lA (e_ (p_ (bQ m rfl fQ (fV r5))) eZ)) fun a w_ hs m=>?_
   refine aR hs rfl (fun h24=>?_) (fun h24=>?_)
   rotate_left
   ·have h24p:=of_decide_eq_false h24
    refine bT hs m a2U fun a w_ hs m=>?_
    refine aR hs rfl (fun h25=>?_) (fun h25=>?_)
    ·have h25p:=eq_of_beq h25
     refine bT hs m (x_ eO (e_ (p_ (cN [v10.v,v15.v,v20.v])) (x_ eO (e_ (p_ (cN (aM o.Route))) bR)))) fun a w_ hs m=>?_
     refine wL 3 (m.sub (a8 (a8 (a8 (a0 (a0 (a0 (a0 (a0 (a0 (a0 (a0 .n)))))))))))) hs aVH (fun R1 hR ⟨y1,sy,ly⟩ mc=>yK v10 (cV (gR o) ag.Routes) v15 (cV (gN o) ag.Neighs) v20 (cV (gF o) (ag.Fdbs.take k2)) o.Route _ R1  (by omega) mc) fun v26 v27 v28 w29 m a hs=>?_
     simp only[iG] at m
     refine bP hs m (dZ s5 (t:=x_ gI (e_ (p_ (cN [v26.v,v27.v,v28.v])) (x_ iA (dZ s3 (t:=bR)))))) fun a w31 hs m=>?_
     refine wpList_nil (nI hs (vs:=[]) rfl trivial ?_)
     replace m:=(m.sub (a3 (a0 (a0 (a0 (a5 (a5 (a0 (a0 (a0 (a0 (a0 .n)))))))))))).closeRa (p:=pag) (A:=({ ag with Routes:=(nW o.Route (cV (gR o) ag.Routes)),Neighs:=cV (gN o) ag.Neighs,Fdbs:=(cV (gF o) (ag.Fdbs.take k2)) }:gU))
     rw[(show ({ ag with Routes:=(nW o.Route (cV (gR o) ag.Routes)),Neighs:=cV (gN o) ag.Neighs,Fdbs:=(cV (gF o) (ag.Fdbs.take k2)) }:gU)=qF ag o by(simp only[qF, *,List.take_of_length_le (show ag.Fdbs.length<=k2 by omega)];simp))] at m
     refine⟨_,rfl,?_,m.sub (a0 .n)⟩
     rfl
    have h25p:=ne_of_beq_false h25
    refine bT hs m gI fun a w_ hs m=>?_
    refine aR hs rfl (fun h33=>?_) (fun h33=>?_)
    ·have h33p:=eq_of_beq h33
     refine bT hs m (x_ eO (e_ (p_ (cN [v10.v,v15.v,v20.v])) (x_ eO (e_ (p_ (cN (aS o.Neigh))) bR)))) fun a w_ hs m=>?_
     refine wL 3 (m.sub (a8 (a8 (a8 (a0 (a0 (a0 (a0 (a0 (a0 (a0 (a0 .n)))))))))))) hs a0G (fun R1 hR ⟨y1,sy,ly⟩ mc=>aC0 v10 (cV (gR o) ag.Routes) v15 (cV (gN o) ag.Neighs) v20 (cV (gF o) (ag.Fdbs.take k2)) o.Neigh _ R1  (by omega) mc) fun v34 v35 v36 w37 m a hs=>?_
     simp only[iG] at m
     refine bP hs m (dZ s5 (t:=x_ gI (e_ (p_ (cN [v34.v,v35.v,v36.v])) (x_ iA (dZ s3 (t:=bR)))))) fun a w39 hs m=>?_
     refine wpList_nil (nI hs (vs:=[]) rfl trivial ?_)
     replace m:=(m.sub (a3 (a0 (a0 (a0 (a5 (a5 (a0 (a0 (a0 (a0 (a0 .n)))))))))))).closeRa (p:=pag) (A:=({ ag with Routes:=cV (gR o) ag.Routes,Neighs:=(pY o.Neigh (cV (gN o) ag.Neighs)),Fdbs:=(cV (gF o) (ag.Fdbs.take k2)) }:gU))
     rw[(show ({ ag with Routes:=cV (gR o) ag.Routes,Neighs:=(pY o.Neigh (cV (gN o) ag.Neighs)),Fdbs:=(cV (gF o) (ag.Fdbs.take k2)) }:gU)=qF ag o by(simp only[qF, *,List.take_of_length_le (show ag.Fdbs.length<=k2 by omega)];simp))] at m
     refine⟨_,rfl,?_,m.sub (a0 .n)⟩
     rfl
    have h33p:=ne_of_beq_false h33
    refine bT hs m gI fun a w_ hs m=>?_
    refine aR hs rfl (fun h41=>?_) (fun h41=>?_)
    ·have h41p:=eq_of_beq h41
     refine bT hs m (x_ eO (e_ (p_ (cN [v10.v,v15.v,v20.v])) (x_ eO (e_ (p_ (cN (cB o.Fdb))) bR)))) fun a w_ hs m=>?_
     refine wL 3 (m.sub (a8 (a8 (a8 (a0 (a0 (a0 (a0 (a0 (a0 (a0 (a0 .n)))))))))))) hs a0H (fun R1 hR ⟨y1,sy,ly⟩ mc=>aGL v10 (cV (gR o) ag.Routes) v15 (cV (gN o) ag.Neighs) v20 (cV (gF o) (ag.Fdbs.take k2)) o.Fdb _ R1  (by omega) mc) fun v42 v43 v44 w45 m a hs=>?_
     simp only[iG] at m
     refine bP hs m (dZ s5 (t:=x_ gI (e_ (p_ (cN [v42.v,v43.v,v44.v])) (x_ iA (dZ s3 (t:=bR)))))) fun a w47 hs m=>?_
     refine wpList_nil (nI hs (vs:=[]) rfl trivial ?_)
     replace m:=(m.sub (a3 (a0 (a0 (a0 (a5 (a5 (a0 (a0 (a0 (a0 (a0 .n)))))))))))).closeRa (p:=pag) (A:=({ ag with Routes:=cV (gR o) ag.Routes,Neighs:=cV (gN o) ag.Neighs,Fdbs:=(aBS o.Fdb (cV (gF o) (ag.Fdbs.take k2))) }:gU))
     rw[(show ({ ag with Routes:=cV (gR o) ag.Routes,Neighs:=cV (gN o) ag.Neighs,Fdbs:=(aBS o.Fdb (cV (gF o) (ag.Fdbs.take k2))) }:gU)=qF ag o by(simp only[qF, *,List.take_of_length_le (show ag.Fdbs.length<=k2 by omega)];simp))] at m
     refine⟨_,rfl,?_,m.sub (a0 .n)⟩
     rfl
    have h41p:=ne_of_beq_false h41
    refine bT hs m (x_ gI (e_ (p_ (cN [v10.v,v15.v,v20.v])) (x_ iA (dZ s0 (t:=bR))))) fun a w49 hs m=>?_
    refine wpList_nil (nI hs (vs:=[]) rfl trivial ?_)
    replace m:=(m.sub (a0 (a7 (a7 (a7 (a5 (a5 (a0 (a0 (a0 (a0 (a0 .n)))))))))))).closeRa (p:=pag) (A:=({ ag with Routes:=cV (gR o) ag.Routes,Neighs:=cV (gN o) ag.Neighs,Fdbs:=(cV (gF o) (ag.Fdbs.take k2)) }:gU))
    rw[(show ({ ag with Routes:=cV (gR o) ag.Routes,Neighs:=cV (gN o) ag.Neighs,Fdbs:=(cV (gF o) (ag.Fdbs.take k2)) }:gU)=qF ag o by(simp only[qF, *,List.take_of_length_le (show ag.Fdbs.length<=k2 by omega)];simp))] at m
    refine⟨_,rfl,?_,m.sub (a0 .n)⟩
    rfl
   have h24p:=of_decide_eq_true h24
   refine wp_skip ?_
   refine aB ?_
   refine dG ?_
   refine wp_block ?_
   refine eE m mo (by kernel_rfl) ?_
   refine vJ hs (k:=fun a hs=>?_)
   refine qct (.c (.c (.c (.c (.n))))) hs 124 (.bool ((o.Kind.v==5) || (o.Kind.v==6))) ?_ ?_
   ·rcases Bool.eq_false_or_eq_true (o.Kind.v==5) with hb51|hb51
    ·have hb51p:=eq_of_beq hb51
     refine vJ hs (h4:=q_ (aP (r:=.bool ((o.Kind.v==5) || (o.Kind.v==6))) rfl rfl rfl (by rw[hb51];rfl))) (k:=fun a hs=>?_)
     exact wpQuiet_nil (hs.ct 3)
    ·have hb51p:=ne_of_beq_false hb51
     refine vJ hs (h4:=q_ (aP (r:=.bool ((o.Kind.v==5) || (o.Kind.v==6))) rfl rfl rfl (by rw[hb51];rfl))) (k:=fun a hs=>?_)
     exact wpQuiet_nil (hs.ct 3)
   intro a hs
   refine uZ hs (k:=fun a hs=>?_)
   refine oU (.c (.c (.c (.c (.c (.c (.c (.c (.c (.c (.c (.c (.c (.c (.n))))))))))))))) (fun a=>St 179 [(0,.pointer (some (bK pag 0))),(3,.pointer (some (bK p6 0))),(4,.pointer (some (bK p8 0))),(9,.int .i64 (k2:Int)),(139,.bool (((o.Kind.v==5) || (o.Kind.v==6))&&(decide (((ag.Fdbs[k2]?).getD gH).MAC=o.Fdb.MAC))))] a) ?_ ?_
   ·rcases Bool.eq_false_or_eq_true ((o.Kind.v==5) || (o.Kind.v==6)) with hb52|hb52
    ·have hb52p:=hb52;simp only[fK] at hb52p
     refine kZ hs (k:=fun a hs=>?_)
     obtain⟨e53,he54⟩:=bI (l:=ag.Fdbs) (i:=k2) (by omega)
     refine rY (c:=cB) (e:=e53) hs m (x:=(.tmp 130)) (ix:=(.tmp 131)) rfl rfl fQ gS r5 (by omega) he54 fun p55 hp56 ok57=>?_
     refine kZ hs (h1:=kW hb52 (ok57 _ _ _ _ _)) (h3:=kW hb52 (cN (mU e53.MAC))) (h6:=kW hb52 (cN (mU o.Fdb.MAC))) (k:=fun a hs=>?_)
     refine sO hs (h1:=kW hb52 (mP (b:=decide (e53.MAC=o.Fdb.MAC)) rfl rfl aDZ (aAX _) (aAX _) (aKQ e53.MAC o.Fdb.MAC))) (h2:=q_ (aP (r:=.bool (((o.Kind.v==5) || (o.Kind.v==6))&&(decide (((ag.Fdbs[k2]?).getD gH).MAC=o.Fdb.MAC)))) rfl rfl rfl (by(try rw[he54]);rw[hb52];rfl))) (k:=fun a hs=>?_)
     exact wpQuiet_nil (hs.to ⟨rfl,rfl,rfl,rfl,rfl,trivial⟩)
    ·have hb52p:=hb52;simp only[fK] at hb52p
     refine kZ hs (k:=fun a hs=>?_)
     refine kZ hs (k:=fun a hs=>?_)
     refine sO hs (h2:=q_ (aP (r:=.bool (((o.Kind.v==5) || (o.Kind.v==6))&&(decide (((ag.Fdbs[k2]?).getD gH).MAC=o.Fdb.MAC)))) rfl rfl rfl (by rw[hb52];rfl))) (k:=fun a hs=>?_)
     exact wpQuiet_nil (hs.to ⟨rfl,rfl,rfl,rfl,rfl,trivial⟩)
   intro a hs
   refine uZ hs (k:=fun a hs=>?_)
   refine wpQuiet_nil fun w58 m=>?_
   refine bT hs m gI fun a w_ hs m=>?_
   refine aR hs rfl (fun h59=>?_) (fun h59=>?_)
   ·have h59p:=h59;simp only[fK] at h59p
    refine drL m (a0 (a0 (a1 (a1 (a1 (a1 (a1 (a1 (a1 .n))))))))) fun w60 m=>?_
    refine pA hs (m.sub (a0 (a0 (a1 (a1 (a1 (a1 (a1 (a1 (a1 .n)))))))))) 0 2 3 4 5 6 (k:=fun a hs=>?_)
    refine kY hs (m.sub (a0 (a0 (a1 (a1 (a1 (a1 (a1 (a1 (a1 .n)))))))))) 7 (k:=fun a hs=>?_)
    obtain⟨e61,he62⟩:=bI (l:=ag.Fdbs) (i:=k2) (by omega)
    refine rY (c:=cB) (e:=e61) hs (m.sub (a0 (a0 (a1 (a1 (a1 (a1 (a1 (a1 (a1 .n)))))))))) (x:=(.tmp 148)) (ix:=(.tmp 149)) rfl rfl fQ gS r4 (by omega) he62 fun p63 hp64 ok65=>?_
    refine tI hs (m.sub (a0 (a0 (a1 (a1 (a1 (a1 (a1 (a1 (a1 .n)))))))))) 8 9 (h1:=k_ rfl (ok65 _ _ _ _ _)) (h2:=k_ rfl (cN (cB e61))) (k:=fun a hs=>?_)
    refine kV (i:=1) (j:=10) (by kernel_rfl) rfl rfl ?_ ?_
    ·refine bP hs m eO fun a w_ hs m=>?_
     refine wpList_nil (aB ⟨(m.sub (a0 (a0 (a1 (a1 (a1 (a1 (a1 (a1 (a1 .n)))))))))),?_⟩)
     refine bU (i:=10) (by kernel_rfl) rfl ?_
     refine dK (c:=cB) (ys:=[e61]) hs m fQ gS lS rfl rfl rfl rfl rfl (fun _=>rfl) rfl rfl rfl fun v66 w67 m a hs=>?_
     refine wpList_nil (aB ⟨(m.sub (a1 (a1 (a2 (a2 (a2 (a2 (a2 (a2 (a2 .n)))))))))),?_⟩)
     refine bU (i:=11) (by kernel_rfl) rfl ?_
     refine cF (c:=cB) (xs:=cV (gF o) (ag.Fdbs.take k2)) (ys:=[e61]) hs m rfl rfl fQ aB8 gS lS rfl qP rfl r11 (m.rdv r0) (fun _=>rfl) (by(simp;omega)) rfl fun v68 w69 m a hs=>?_
     refine wpList_nil (aB ⟨(m.sub (a2 (a2 (a3 (a3 (a3 (a3 (a3 (a3 (a3 .n)))))))))),?_⟩)
     refine kY hs (m.sub (a2 (a2 (a3 (a3 (a3 (a3 (a3 (a3 (a3 .n)))))))))) 12 (k:=fun a hs=>?_)
     refine bU (i:=13) (by kernel_rfl) rfl ?_
     refine bP hs m (dZ s4 (t:=bR)) fun a w70 hs m=>?_
     refine wpList_nil (aB ⟨(m.sub (a2 (a2 (a3 (a3 (a3 (a3 (a3 (a3 (a3 .n)))))))))),?_⟩)
     refine dC (by kernel_rfl) (eA (aB ?_))
     refine bT hs m gX fun a w_ hs m=>?_
     rw[(show (cV (gF o) (ag.Fdbs.take k2))++[e61]=cV (gF o) (ag.Fdbs.take (k2+1)) from vR (by assumption) (by assumption))] at m
     exact⟨ag.Fdbs.length-(k2+1),by omega,k2+1,v68,by omega,rfl,hs.to ⟨rfl,rfl,rfl,rfl,trivial⟩,m.sub (a2 (a2 (a2 (a2 (a2 (a2 (a2 (a2 (a2 (a2 (a0 .n)))))))))))⟩
    ·refine dK (c:=cB) (ys:=[e61]) hs m fQ gS lS rfl rfl rfl rfl rfl (fun _=>rfl) rfl rfl rfl fun v72 w73 m a hs=>?_
     refine wpList_nil (aB ⟨(m.sub (a1 (a1 (a2 (a2 (a2 (a2 (a2 (a2 (a2 .n)))))))))),?_⟩)
     refine bU (i:=1) (by kernel_rfl) rfl ?_
     refine bP hs m eO fun a w_ hs m=>?_
     refine wpList_nil (aB ⟨(m.sub (a1 (a1 (a2 (a2 (a2 (a2 (a2 (a2 (a2 .n)))))))))),?_⟩)
     refine bU (i:=11) (by kernel_rfl) rfl ?_
     refine cF (c:=cB) (xs:=cV (gF o) (ag.Fdbs.take k2)) (ys:=[e61]) hs m rfl rfl fQ aB8 gS lS rfl qP rfl r11 (m.rdv r0) (fun _=>rfl) (by(simp;omega)) rfl fun v74 w75 m a hs=>?_
     refine wpList_nil (aB ⟨(m.sub (a2 (a2 (a3 (a3 (a3 (a3 (a3 (a3 (a3 .n)))))))))),?_⟩)
     refine kY hs (m.sub (a2 (a2 (a3 (a3 (a3 (a3 (a3 (a3 (a3 .n)))))))))) 12 (k:=fun a hs=>?_)
     refine bU (i:=13) (by kernel_rfl) rfl ?_
     refine bP hs m (dZ s4 (t:=bR)) fun a w76 hs m=>?_
     refine wpList_nil (aB ⟨(m.sub (a2 (a2 (a3 (a3 (a3 (a3 (a3 (a3 (a3 .n)))))))))),?_⟩)
     refine dC (by kernel_rfl) (eA (aB ?_))
     refine bT hs m gX fun a w_ hs m=>?_
     rw[(show (cV (gF o) (ag.Fdbs.take k2))++[e61]=cV (gF o) (ag.Fdbs.take (k2+1)) from vR (by assumption) (by assumption))] at m
     exact⟨ag.Fdbs.length-(k2+1),by omega,k2+1,v74,by omega,rfl,hs.to ⟨rfl,rfl,rfl,rfl,trivial⟩,m.sub (a2 (a2 (a2 (a2 (a2 (a2 (a2 (a2 (a2 (a2 (a0 .n)))))))))))⟩
   have h59p:=h59;simp only[fK] at h59p
   refine bT hs m hQ fun a w_ hs m=>?_
   rw[(show cV (gF o) (ag.Fdbs.take k2)=cV (gF o) (ag.Fdbs.take (k2+1)) from aEB (by omega) (by assumption))] at m
   exact⟨ag.Fdbs.length-(k2+1),by omega,k2+1,v20,by omega,rfl,hs.to ⟨rfl,rfl,rfl,rfl,trivial⟩,m.sub (a0 (a0 (a0 (a0 (a0 (a0 (a0 (a0 (a0 (a0 (a0 .n)))))))))))⟩
  have h19p:=of_decide_eq_true h19
  refine wp_skip ?_
  refine aB ?_
  refine dG ?_
  refine wp_block ?_
  refine eE m mo (by kernel_rfl) ?_
  refine vJ hs (k:=fun a hs=>?_)
  refine qct (.c (.c (.c (.c (.n))))) hs 76 (.bool ((o.Kind.v==3) || (o.Kind.v==4))) ?_ ?_
  ·rcases Bool.eq_false_or_eq_true (o.Kind.v==3) with hb79|hb79
   ·have hb79p:=eq_of_beq hb79
    refine vJ hs (h4:=q_ (aP (r:=.bool ((o.Kind.v==3) || (o.Kind.v==4))) rfl rfl rfl (by rw[hb79];rfl))) (k:=fun a hs=>?_)
    exact wpQuiet_nil (hs.ct 3)
   ·have hb79p:=ne_of_beq_false hb79
    refine vJ hs (h4:=q_ (aP (r:=.bool ((o.Kind.v==3) || (o.Kind.v==4))) rfl rfl rfl (by rw[hb79];rfl))) (k:=fun a hs=>?_)
    exact wpQuiet_nil (hs.ct 3)
  intro a hs
  refine uZ hs (k:=fun a hs=>?_)
  refine oU (.c (.c (.c (.c (.c (.c (.c (.c (.c (.c (.c (.c (.c (.c (.n))))))))))))))) (fun a=>St 179 [(0,.pointer (some (bK pag 0))),(3,.pointer (some (bK p6 0))),(4,.pointer (some (bK p8 0))),(7,.int .i64 (k1:Int)),(91,.bool (((o.Kind.v==3) || (o.Kind.v==4))&&(((ag.Neighs[k1]?).getD cW).IP.v==o.Neigh.IP.v)))] a) ?_ ?_
  ·rcases Bool.eq_false_or_eq_true ((o.Kind.v==3) || (o.Kind.v==4)) with hb80|hb80
   ·have hb80p:=hb80;simp only[fK] at hb80p
    refine kZ hs (k:=fun a hs=>?_)
    obtain⟨e81,he82⟩:=bI (l:=ag.Neighs) (i:=k1) (by omega)
    refine rY (c:=aS) (e:=e81) hs m (x:=(.tmp 82)) (ix:=(.tmp 83)) rfl rfl fP gQ r4 (by omega) he82 fun p83 hp84 ok85=>?_
    refine kZ hs (h1:=kW hb80 (ok85 _ _ _ _ _)) (k:=fun a hs=>?_)
    refine sO hs (h2:=q_ (aP (r:=.bool (((o.Kind.v==3) || (o.Kind.v==4))&&(((ag.Neighs[k1]?).getD cW).IP.v==o.Neigh.IP.v))) rfl rfl rfl (by(try rw[he82]);rw[hb80];rfl))) (k:=fun a hs=>?_)
    exact wpQuiet_nil (hs.to ⟨rfl,rfl,rfl,rfl,rfl,trivial⟩)
   ·have hb80p:=hb80;simp only[fK] at hb80p
    refine kZ hs (k:=fun a hs=>?_)
    refine kZ hs (k:=fun a hs=>?_)
    refine sO hs (h2:=q_ (aP (r:=.bool (((o.Kind.v==3) || (o.Kind.v==4))&&(((ag.Neighs[k1]?).getD cW).IP.v==o.Neigh.IP.v))) rfl rfl rfl (by rw[hb80];rfl))) (k:=fun a hs=>?_)
    exact wpQuiet_nil (hs.to ⟨rfl,rfl,rfl,rfl,rfl,trivial⟩)
  intro a hs
  refine uZ hs (k:=fun a hs=>?_)
  refine wpQuiet_nil fun w86 m=>?_
  refine bT hs m gI fun a w_ hs m=>?_
  refine aR hs rfl (fun h87=>?_) (fun h87=>?_)
  ·have h87p:=h87;simp only[fK] at h87p
   refine drL m (a0 (a0 (a1 (a1 (a1 (a1 (a1 (a1 .n)))))))) fun w88 m=>?_
   refine pA hs (m.sub (a0 (a0 (a1 (a1 (a1 (a1 (a1 (a1 .n))))))))) 0 2 3 4 5 6 (k:=fun a hs=>?_)
   refine kY hs (m.sub (a0 (a0 (a1 (a1 (a1 (a1 (a1 (a1 .n))))))))) 7 (k:=fun a hs=>?_)
   obtain⟨e89,he90⟩:=bI (l:=ag.Neighs) (i:=k1) (by omega)
   refine rY (c:=aS) (e:=e89) hs (m.sub (a0 (a0 (a1 (a1 (a1 (a1 (a1 (a1 .n))))))))) (x:=(.tmp 100)) (ix:=(.tmp 101)) rfl rfl fP gQ r3 (by omega) he90 fun p91 hp92 ok93=>?_
   refine tI hs (m.sub (a0 (a0 (a1 (a1 (a1 (a1 (a1 (a1 .n))))))))) 8 9 (h1:=k_ rfl (ok93 _ _ _ _ _)) (h2:=k_ rfl (cN (aS e89))) (k:=fun a hs=>?_)
   refine kV (i:=1) (j:=10) (by kernel_rfl) rfl rfl ?_ ?_
   ·refine bP hs m eO fun a w_ hs m=>?_
    refine wpList_nil (aB ⟨(m.sub (a0 (a0 (a1 (a1 (a1 (a1 (a1 (a1 .n))))))))),?_⟩)
    refine bU (i:=10) (by kernel_rfl) rfl ?_
    refine dK (c:=aS) (ys:=[e89]) hs m fP gQ lW rfl rfl rfl rfl rfl (fun _=>rfl) rfl rfl rfl fun v94 w95 m a hs=>?_
    refine wpList_nil (aB ⟨(m.sub (a1 (a1 (a2 (a2 (a2 (a2 (a2 (a2 .n))))))))),?_⟩)
    refine bU (i:=11) (by kernel_rfl) rfl ?_
    refine cF (c:=aS) (xs:=cV (gN o) (ag.Neighs.take k1)) (ys:=[e89]) hs m rfl rfl fP aB7 gQ lW rfl qO rfl r10 (m.rdv r0) (fun _=>rfl) (by(simp;omega)) rfl fun v96 w97 m a hs=>?_
    refine wpList_nil (aB ⟨(m.sub (a2 (a2 (a3 (a3 (a3 (a3 (a3 (a3 .n))))))))),?_⟩)
    refine kY hs (m.sub (a2 (a2 (a3 (a3 (a3 (a3 (a3 (a3 .n))))))))) 12 (k:=fun a hs=>?_)
    refine bU (i:=13) (by kernel_rfl) rfl ?_
    refine bP hs m (dZ s4 (t:=bR)) fun a w98 hs m=>?_
    refine wpList_nil (aB ⟨(m.sub (a2 (a2 (a3 (a3 (a3 (a3 (a3 (a3 .n))))))))),?_⟩)
    refine dC (by kernel_rfl) (eA (aB ?_))
    refine bT hs m gX fun a w_ hs m=>?_
    rw[(show (cV (gN o) (ag.Neighs.take k1))++[e89]=cV (gN o) (ag.Neighs.take (k1+1)) from vR (by assumption) (by assumption))] at m
    exact⟨ag.Neighs.length-(k1+1),by omega,k1+1,v96,by omega,rfl,hs.to ⟨rfl,rfl,rfl,rfl,trivial⟩,m.sub (a2 (a2 (a2 (a2 (a2 (a2 (a2 (a2 (a2 (a0 .n))))))))))⟩
   ·refine dK (c:=aS) (ys:=[e89]) hs m fP gQ lW rfl rfl rfl rfl rfl (fun _=>rfl) rfl rfl rfl fun v100 w101 m a hs=>?_
    refine wpList_nil (aB ⟨(m.sub (a1 (a1 (a2 (a2 (a2 (a2 (a2 (a2 .n))))))))),?_⟩)
    refine bU (i:=1) (by kernel_rfl) rfl ?_
    refine bP hs m eO fun a w_ hs m=>?_
    refine wpList_nil (aB ⟨(m.sub (a1 (a1 (a2 (a2 (a2 (a2 (a2 (a2 .n))))))))),?_⟩)
    refine bU (i:=11) (by kernel_rfl) rfl ?_
    refine cF (c:=aS) (xs:=cV (gN o) (ag.Neighs.take k1)) (ys:=[e89]) hs m rfl rfl fP aB7 gQ lW rfl qO rfl r10 (m.rdv r0) (fun _=>rfl) (by(simp;omega)) rfl fun v102 w103 m a hs=>?_
    refine wpList_nil (aB ⟨(m.sub (a2 (a2 (a3 (a3 (a3 (a3 (a3 (a3 .n))))))))),?_⟩)
    refine kY hs (m.sub (a2 (a2 (a3 (a3 (a3 (a3 (a3 (a3 .n))))))))) 12 (k:=fun a hs=>?_)
    refine bU (i:=13) (by kernel_rfl) rfl ?_
    refine bP hs m (dZ s4 (t:=bR)) fun a w104 hs m=>?_
    refine wpList_nil (aB ⟨(m.sub (a2 (a2 (a3 (a3 (a3 (a3 (a3 (a3 .n))))))))),?_⟩)
    refine dC (by kernel_rfl) (eA (aB ?_))
    refine bT hs m gX fun a w_ hs m=>?_
    rw[(show (cV (gN o) (ag.Neighs.take k1))++[e89]=cV (gN o) (ag.Neighs.take (k1+1)) from vR (by assumption) (by assumption))] at m
    exact⟨ag.Neighs.length-(k1+1),by omega,k1+1,v102,by omega,rfl,hs.to ⟨rfl,rfl,rfl,rfl,trivial⟩,m.sub (a2 (a2 (a2 (a2 (a2 (a2 (a2 (a2 (a2 (a0 .n))))))))))⟩
  have h87p:=h87;simp only[fK] at h87p
  refine bT hs m hQ fun a w_ hs m=>?_
  rw[(show cV (gN o) (ag.Neighs.take k1)=cV (gN o) (ag.Neighs.take (k1+1)) from aEB (by omega) (by assumption))] at m
  exact⟨ag.Neighs.length-(k1+1),by omega,k1+1,v15,by omega,rfl,hs.to ⟨rfl,rfl,rfl,rfl,trivial⟩,m.sub (a0 (a0 (a0 (a0 (a0 (a0 (a0 (a0 (a0 (a0 .n))))))))))⟩
 have h14p:=of_decide_eq_true h14
 refine wp_skip ?_
 refine aB ?_
 refine dG ?_
 refine wp_block ?_
 refine eE m mo (by kernel_rfl) ?_
 refine vJ hs (k:=fun a hs=>?_)
 refine qct (.c (.c (.c (.c (.n))))) hs 28 (.bool ((o.Kind.v==1) || (o.Kind.v==2))) ?_ ?_
 ·rcases Bool.eq_false_or_eq_true (o.Kind.v==1) with hb107|hb107
  ·have hb107p:=eq_of_beq hb107
   refine vJ hs (h4:=q_ (aP (r:=.bool ((o.Kind.v==1) || (o.Kind.v==2))) rfl rfl rfl (by rw[hb107];rfl))) (k:=fun a hs=>?_)
   exact wpQuiet_nil (hs.ct 3)
  ·have hb107p:=ne_of_beq_false hb107
   refine vJ hs (h4:=q_ (aP (r:=.bool ((o.Kind.v==1) || (o.Kind.v==2))) rfl rfl rfl (by rw[hb107];rfl))) (k:=fun a hs=>?_)
   exact wpQuiet_nil (hs.ct 3)
 intro a hs
 refine uZ hs (k:=fun a hs=>?_)
 refine oU (.c (.c (.c (.c (.c (.c (.c (.c (.c (.c (.c (.c (.c (.c (.n))))))))))))))) (fun a=>St 179 [(0,.pointer (some (bK pag 0))),(3,.pointer (some (bK p6 0))),(4,.pointer (some (bK p8 0))),(5,.int .i64 (k0:Int)),(43,.bool (((o.Kind.v==1) || (o.Kind.v==2))&&(decide (((ag.Routes[k0]?).getD gE).Dst=o.Route.Dst))))] a) ?_ ?_
 ·rcases Bool.eq_false_or_eq_true ((o.Kind.v==1) || (o.Kind.v==2)) with hb108|hb108
  ·have hb108p:=hb108;simp only[fK] at hb108p
   refine kZ hs (k:=fun a hs=>?_)
   obtain⟨e109,he110⟩:=bI (l:=ag.Routes) (i:=k0) (by omega)
   refine rY (c:=aM) (e:=e109) hs m (x:=(.tmp 34)) (ix:=(.tmp 35)) rfl rfl eY gG r3 (by omega) he110 fun p111 hp112 ok113=>?_
   refine kZ hs (h1:=kW hb108 (ok113 _ _ _ _ _)) (h3:=kW hb108 (cN (aO e109.Dst))) (h6:=kW hb108 (cN (aO o.Route.Dst))) (k:=fun a hs=>?_)
   refine sO hs (h1:=kW hb108 (mP (b:=decide (e109.Dst=o.Route.Dst)) rfl rfl zE (lB _) (lB _) (sA e109.Dst o.Route.Dst))) (h2:=q_ (aP (r:=.bool (((o.Kind.v==1) || (o.Kind.v==2))&&(decide (((ag.Routes[k0]?).getD gE).Dst=o.Route.Dst)))) rfl rfl rfl (by(try rw[he110]);rw[hb108];rfl))) (k:=fun a hs=>?_)
   exact wpQuiet_nil (hs.to ⟨rfl,rfl,rfl,rfl,rfl,trivial⟩)
  ·have hb108p:=hb108;simp only[fK] at hb108p
   refine kZ hs (k:=fun a hs=>?_)
   refine kZ hs (k:=fun a hs=>?_)
   refine sO hs (h2:=q_ (aP (r:=.bool (((o.Kind.v==1) || (o.Kind.v==2))&&(decide (((ag.Routes[k0]?).getD gE).Dst=o.Route.Dst)))) rfl rfl rfl (by rw[hb108];rfl))) (k:=fun a hs=>?_)
   exact wpQuiet_nil (hs.to ⟨rfl,rfl,rfl,rfl,rfl,trivial⟩)
 intro a hs
 refine uZ hs (k:=fun a hs=>?_)
 refine wpQuiet_nil fun w114 m=>?_
 refine bT hs m gI fun a w_ hs m=>?_
 refine aR hs rfl (fun h115=>?_) (fun h115=>?_)
 ·have h115p:=h115;simp only[fK] at h115p
  refine drL m (a0 (a0 (a1 (a1 (a1 (a1 (a1 .n))))))) fun w116 m=>?_
  refine pA hs (m.sub (a0 (a0 (a1 (a1 (a1 (a1 (a1 .n)))))))) 0 2 3 4 5 6 (k:=fun a hs=>?_)
  refine kY hs (m.sub (a0 (a0 (a1 (a1 (a1 (a1 (a1 .n)))))))) 7 (k:=fun a hs=>?_)
  obtain⟨e117,he118⟩:=bI (l:=ag.Routes) (i:=k0) (by omega)
  refine rY (c:=aM) (e:=e117) hs (m.sub (a0 (a0 (a1 (a1 (a1 (a1 (a1 .n)))))))) (x:=(.tmp 52)) (ix:=(.tmp 53)) rfl rfl eY gG r2 (by omega) he118 fun p119 hp120 ok121=>?_
  refine tI hs (m.sub (a0 (a0 (a1 (a1 (a1 (a1 (a1 .n)))))))) 8 9 (h1:=k_ rfl (ok121 _ _ _ _ _)) (h2:=k_ rfl (cN (aM e117))) (k:=fun a hs=>?_)
  refine kV (i:=1) (j:=10) (by kernel_rfl) rfl rfl ?_ ?_
  ·refine bP hs m eO fun a w_ hs m=>?_
   refine wpList_nil (aB ⟨(m.sub (a0 (a0 (a1 (a1 (a1 (a1 (a1 .n)))))))),?_⟩)
   refine bU (i:=10) (by kernel_rfl) rfl ?_
   refine dK (c:=aM) (ys:=[e117]) hs m eY gG kK rfl rfl rfl rfl rfl (fun _=>rfl) rfl rfl rfl fun v122 w123 m a hs=>?_
   refine wpList_nil (aB ⟨(m.sub (a1 (a1 (a2 (a2 (a2 (a2 (a2 .n)))))))),?_⟩)
   refine bU (i:=11) (by kernel_rfl) rfl ?_
   refine cF (c:=aM) (xs:=cV (gR o) (ag.Routes.take k0)) (ys:=[e117]) hs m rfl rfl eY aB6 gG kK rfl qN rfl r9 (m.rdv r0) (fun _=>rfl) (by(simp;omega)) rfl fun v124 w125 m a hs=>?_
   refine wpList_nil (aB ⟨(m.sub (a2 (a2 (a3 (a3 (a3 (a3 (a3 .n)))))))),?_⟩)
   refine kY hs (m.sub (a2 (a2 (a3 (a3 (a3 (a3 (a3 .n)))))))) 12 (k:=fun a hs=>?_)
   refine bU (i:=13) (by kernel_rfl) rfl ?_
   refine bP hs m (dZ s4 (t:=bR)) fun a w126 hs m=>?_
   refine wpList_nil (aB ⟨(m.sub (a2 (a2 (a3 (a3 (a3 (a3 (a3 .n)))))))),?_⟩)
   refine dC (by kernel_rfl) (eA (aB ?_))
   refine bT hs m gX fun a w_ hs m=>?_
   rw[(show (cV (gR o) (ag.Routes.take k0))++[e117]=cV (gR o) (ag.Routes.take (k0+1)) from vR (by assumption) (by assumption))] at m
   exact⟨ag.Routes.length-(k0+1),by omega,k0+1,v124,by omega,rfl,hs.to ⟨rfl,rfl,rfl,rfl,trivial⟩,m.sub (a2 (a2 (a2 (a2 (a2 (a2 (a2 (a2 (a0 .n)))))))))⟩
  ·refine dK (c:=aM) (ys:=[e117]) hs m eY gG kK rfl rfl rfl rfl rfl (fun _=>rfl) rfl rfl rfl fun v128 w129 m a hs=>?_
   refine wpList_nil (aB ⟨(m.sub (a1 (a1 (a2 (a2 (a2 (a2 (a2 .n)))))))),?_⟩)
   refine bU (i:=1) (by kernel_rfl) rfl ?_
   refine bP hs m eO fun a w_ hs m=>?_
   refine wpList_nil (aB ⟨(m.sub (a1 (a1 (a2 (a2 (a2 (a2 (a2 .n)))))))),?_⟩)
   refine bU (i:=11) (by kernel_rfl) rfl ?_
   refine cF (c:=aM) (xs:=cV (gR o) (ag.Routes.take k0)) (ys:=[e117]) hs m rfl rfl eY aB6 gG kK rfl qN rfl r9 (m.rdv r0) (fun _=>rfl) (by(simp;omega)) rfl fun v130 w131 m a hs=>?_
   refine wpList_nil (aB ⟨(m.sub (a2 (a2 (a3 (a3 (a3 (a3 (a3 .n)))))))),?_⟩)
   refine kY hs (m.sub (a2 (a2 (a3 (a3 (a3 (a3 (a3 .n)))))))) 12 (k:=fun a hs=>?_)
   refine bU (i:=13) (by kernel_rfl) rfl ?_
   refine bP hs m (dZ s4 (t:=bR)) fun a w132 hs m=>?_
   refine wpList_nil (aB ⟨(m.sub (a2 (a2 (a3 (a3 (a3 (a3 (a3 .n)))))))),?_⟩)
   refine dC (by kernel_rfl) (eA (aB ?_))
   refine bT hs m gX fun a w_ hs m=>?_
   rw[(show (cV (gR o) (ag.Routes.take k0))++[e117]=cV (gR o) (ag.Routes.take (k0+1)) from vR (by assumption) (by assumption))] at m
   exact⟨ag.Routes.length-(k0+1),by omega,k0+1,v130,by omega,rfl,hs.to ⟨rfl,rfl,rfl,rfl,trivial⟩,m.sub (a2 (a2 (a2 (a2 (a2 (a2 (a2 (a2 (a0 .n)))))))))⟩
 have h115p:=h115;simp only[fK] at h115p
 refine bT hs m hQ fun a w_ hs m=>?_
 rw[(show cV (gR o) (ag.Routes.take k0)=cV (gR o) (ag.Routes.take (k0+1)) from aEB (by omega) (by assumption))] at m
 exact⟨ag.Routes.length-(k0+1),by omega,k0+1,v10,by omega,rfl,hs.to ⟨rfl,rfl,rfl,rfl,trivial⟩,m.sub (a0 (a0 (a0 (a0 (a0 (a0 (a0 (a0 (a0 .n)))))))))⟩
end Go.Proofs.YtnbpodjbemfpbaaGreat.Fw
set_option linter.all false
set_option maxHeartbeats 4000000
set_option maxRecDepth 100000
namespace Go.Proofs.YtnbpodjbemfpbaaGreat.Fw
open Go
theorem aK6 (pag:Addr) (ag:gU) (er:Int) (w0:World) (R:Hh) (B0:ag.view.length<=2000000000) (B1:ag.Routes.length<=2000000000) (B2:ag.Neighs.length<=2000000000) (B3:ag.Fdbs.length<=2000000000) (B4:ag.skipped.length<=2000000000000) (m:Hp w0 R [sX pag ag] w0):Calls Tryz.prog 159 ⟨[.pointer (some (bK pag 0)),.int .i64 er]⟩ w0 fun e w'=>∃ v,e= .returned v/\(v=(.tuple ⟨[]⟩)/\Hp w0 R [sX pag (rK ag er)] w'):=by
 refine enter (n:=135) Tryz.func159 rfl rfl rfl fun a (hs:St 135 [(0,.pointer (some (bK pag 0))),(1,.int .i64 er)] a)=>?_
 have mo:=m.openRa r0
 obtain⟨x1,x2,x3,x4,x5,m⟩:=mo
 refine bT hs m (x_ gI (e_ (p_ (cN (mO ag.request.Op))) bR)) fun a w_ hs m=>?_
 refine bZ hs m mZ rfl fun p6 w7 m a hs=>?_
 refine bP hs m (dZ s0 (t:=gZ)) fun a w8 hs m=>?_
 refine jO (.c (.c (.c (.c (.n))))) hs m 23 (ag.request.Op.Kind.v==1) (.bool ((ag.request.Op.Kind.v==1) || (ag.request.Op.Kind.v==3))) ?_
 rintro a w10 ⟨hs,m⟩
 refine bP hs m eO fun a w_ hs m=>?_
 refine jO (.c (.c (.c (.c (.n))))) hs m 28 ((ag.request.Op.Kind.v==1) || (ag.request.Op.Kind.v==3)) (.bool (((ag.request.Op.Kind.v==1) || (ag.request.Op.Kind.v==3)) || (ag.request.Op.Kind.v==5))) ?_
 rintro a w12 ⟨hs,m⟩
 refine bP hs m lA fun a w_ hs m=>?_
 refine aR hs rfl (fun h13=>?_) (fun h13=>?_)
 ·have h13p:=eq_of_beq h13
  refine bT hs m (x_ iA (e_ (p_ (cN (mO ag.request.Op))) bR)) fun a w_ hs m=>?_
  replace m:=(m.sub (a1 (a1 (a1 (a1 (a1 (a1 (a0 .n)))))))).closeRa (p:=pag) (A:=ag)
  refine eW 1 (m.sub (a0 (a0 .n))) hs aZ8 (fun R1 hR ⟨y1,sy,ly⟩ mc=>aM4 pag ag ag.request.Op _ R1  (by omega) (by omega) (by omega) (by omega) (by omega) mc) fun w14 m a hs=>?_
  simp only[iG] at m
  have mo:=m.openRa r0
  obtain⟨x15,x16,x17,x18,x19,m⟩:=mo
  refine wpList_nil (nI hs (vs:=[]) rfl trivial ?_)
  replace m:=(m.sub (a0 (a0 (a0 (a0 (a0 (a0 (a0 .n)))))))).closeRa (p:=pag) (A:=(qF ag ag.request.Op))
  rw[(show (qF ag ag.request.Op)=rK ag er from aX0 (by assumption))] at m
  refine⟨_,rfl,?_,m.sub (a0 .n)⟩
  rfl
 have h13p:=ne_of_beq_false h13
 refine bT hs m gC fun a w_ hs m=>?_
 refine jO (.c (.c (.n))) hs m 38 (er==4) (.bool ((er==4)&&(((ag.request.Op.Kind.v==1) || (ag.request.Op.Kind.v==3)) || (ag.request.Op.Kind.v==5)))) ?_
 rintro a w22 ⟨hs,m⟩
 refine wpList_nil (aB ?_)
 refine aR hs rfl (fun h23=>?_) (fun h23=>?_)
 ·have h23p:=h23;simp only[fK] at h23p
  refine bT hs m (x_ gC (dZ s1 (t:=gZ))) fun a w24 hs m=>?_
  rw[(show ag.skipped=hX ag 0 from aEP)] at m
  refine wp_loop_ghost (fun gn a w=>∃ k:Nat,∃ v25:SH,(k<=ag.view.length)/\gn=ag.view.length-k/\St 135 [(0,.pointer (some (bK pag 0))),(4,.pointer (some (bK p6 0))),(6,.int .i64 (k:Int))] a/\Hp w0 R [Bx pag 140 (cRa ag.self ag.opn ag.request ag.read x1.v x2.v x3.v x4.v ag.cursor ag.stale v25.v true ag.granted ag.waiting ag.wish ag.renewed ag.quiet),Bx p6 58 (mO ag.request.Op),Sv 4 51 x1.v (ag.Routes.map aM),Sv 7 54 x2.v (ag.Neighs.map aS),Sv 7 56 x3.v (ag.Fdbs.map cB),Sv 12 48 x4.v (ag.view.map aV),Sv 2 44 v25.v ((hX ag k).map aO)] w) (ag.view.length-0) ⟨0,x5,by omega,rfl,hs.to ⟨rfl,rfl,rfl,trivial⟩,m.sub (a1 (a0 (a0 (a0 (a0 (a0 (a0 .n)))))))⟩ ?_
  rintro gn a w27 ⟨k,v25,hk,rfl,hs,m⟩
  have hsk:=aEQ (a:=ag) (k:=k)
  refine bT hs m (x_ gZ (e_ (p_ (bQ m rfl eR (fV r5))) eZ)) fun a w_ hs m=>?_
  refine aR hs rfl (fun h28=>?_) (fun h28=>?_)
  rotate_left
  ·have h28p:=of_decide_eq_false h28
   refine wp_exit ?_
   refine eK (eK (lL (?_)))
   refine nI hs (vs:=[]) rfl trivial ?_
   replace m:=(m.sub (a0 (a1 (a1 (a1 (a1 (a1 (a0 .n)))))))).closeRa (p:=pag) (A:=({ ag with skipped:=(hX ag k),degraded:=true }:gU))
   rw[(show ({ ag with skipped:=(hX ag k),degraded:=true }:gU)=rK ag er from aXZ (by assumption) (by assumption) (by omega))] at m
   refine⟨_,rfl,?_,m.sub (a0 .n)⟩
   rfl
  have h28p:=of_decide_eq_true h28
  refine bT hs m fW fun a w_ hs m=>?_
  obtain⟨e30,he31⟩:=bI (l:=ag.view) (i:=k) (by omega)
  refine rY (c:=aV) (e:=e30) hs m (x:=(.tmp 54)) (ix:=(.tmp 55)) rfl rfl eR fZ r5 (by omega) he31 fun p32 hp33 ok34=>?_
  refine bP hs m (e_ (p_ (ok34 _ _ _ _ _)) (e_ (p_ (cN (aV e30))) bR)) fun a w_ hs m=>?_
  refine bZ hs m mY rfl fun p35 w36 m a hs=>?_
  refine bP hs m (dZ s0 (t:=iA)) fun a w37 hs m=>?_
  refine eE m mo (by kernel_rfl) ?_
  refine kZ hs (k:=fun a hs=>?_)
  refine nG hs (k:=fun a hs=>?_)
  refine wpQuiet_nil fun w38 m=>?_
  refine bT hs m gI fun a w_ hs m=>?_
  refine xY (.c (.c (.c (.c (.c (.c (.c (.n)))))))) hs m 76 (.bool ((ag.request.Op.Kind.v==1)&&(decide (e30.Subnet=ag.request.Op.Route.Dst)))) ?_ ?_
  ·rcases Bool.eq_false_or_eq_true (ag.request.Op.Kind.v==1) with hb39|hb39
   ·have hb39p:=eq_of_beq hb39
    refine bP hs m (x_ eO (e_ (dV hb39 (cN (aO e30.Subnet))) (x_ iA (e_ (dV hb39 (cN (aO ag.request.Op.Route.Dst))) (e_ (dV hb39 (mP (b:=decide (e30.Subnet=ag.request.Op.Route.Dst)) rfl rfl zE (lB _) (lB _) (sA e30.Subnet ag.request.Op.Route.Dst))) eO))))) fun a w_ hs m=>?_
    exact nN hs m 6 (by rw[hb39];rfl)
   ·have hb39p:=ne_of_beq_false hb39
    refine bP hs m gZ fun a w_ hs m=>?_
    exact nN hs m 6 (by rw[hb39];rfl)
  rintro a w40 ⟨hs,m⟩
  refine bP hs m gX fun a w_ hs m=>?_
  refine zG (.c (.c (.c (.c (.c (.c (.c (.c (.c (.c (.c (.c (.c (.c (.c (.c (.n))))))))))))))))) (fun a w=>St 135 [(0,.pointer (some (bK pag 0))),(4,.pointer (some (bK p6 0))),(6,.int .i64 (k:Int)),(7,.pointer (some (bK p35 0))),(8,.bool (e30.Host.v !=ag.self.Host.v)),(94,.bool (((ag.request.Op.Kind.v==1)&&(decide (e30.Subnet=ag.request.Op.Route.Dst))) || (((ag.request.Op.Kind.v==3)&&(e30.Host.v !=ag.self.Host.v))&&(e30.Subnet.Addr.v==ag.request.Op.Neigh.IP.v))))] a/\Hp w0 R [Bx p35 48 (aV e30),Bx pag 140 (cRa ag.self ag.opn ag.request ag.read x1.v x2.v x3.v x4.v ag.cursor ag.stale v25.v true ag.granted ag.waiting ag.wish ag.renewed ag.quiet),Bx p6 58 (mO ag.request.Op),Sv 4 51 x1.v (ag.Routes.map aM),Sv 7 54 x2.v (ag.Neighs.map aS),Sv 7 56 x3.v (ag.Fdbs.map cB),Sv 12 48 x4.v (ag.view.map aV),Sv 2 44 v25.v ((hX ag k).map aO)] w) ?_ ?_
  ·rcases Bool.eq_false_or_eq_true ((ag.request.Op.Kind.v==1)&&(decide (e30.Subnet=ag.request.Op.Route.Dst))) with hb41|hb41
   ·have hb41p:=hb41;simp only[fK] at hb41p
    refine bP hs m (x_ aJ3 (e_ (p_ (aP (r:=.bool (((ag.request.Op.Kind.v==1)&&(decide (e30.Subnet=ag.request.Op.Route.Dst))) || (((ag.request.Op.Kind.v==3)&&(e30.Host.v !=ag.self.Host.v))&&(e30.Subnet.Addr.v==ag.request.Op.Neigh.IP.v)))) rfl rfl rfl (by rw[hb41];rfl))) bR)) fun a w_ hs m=>?_
    exact wpList_nil (aB ⟨hs.to ⟨rfl,rfl,rfl,rfl,rfl,rfl,trivial⟩,m⟩)
   ·have hb41p:=hb41;simp only[fK] at hb41p
    refine bP hs m gC fun a w_ hs m=>?_
    refine xY (.c (.c (.n))) hs m 84 (.bool ((ag.request.Op.Kind.v==3)&&(e30.Host.v !=ag.self.Host.v))) ?_ ?_
    ·rcases Bool.eq_false_or_eq_true (ag.request.Op.Kind.v==3) with hb42|hb42
     ·have hb42p:=eq_of_beq hb42
      refine bP hs m (x_ eO (e_ (dV hb41 (aP (r:=.bool ((ag.request.Op.Kind.v==3)&&(e30.Host.v !=ag.self.Host.v))) rfl rfl rfl (by rw[hb42];rfl))) bR)) fun a w_ hs m=>?_
      exact wpList_nil (aB ⟨hs.ct 1,m⟩)
     ·have hb42p:=ne_of_beq_false hb42
      refine bP hs m (x_ eO (e_ (dV hb41 (aP (r:=.bool ((ag.request.Op.Kind.v==3)&&(e30.Host.v !=ag.self.Host.v))) rfl rfl rfl (by rw[hb42];rfl))) bR)) fun a w_ hs m=>?_
      exact wpList_nil (aB ⟨hs.ct 1,m⟩)
    rintro a w43 ⟨hs,m⟩
    refine bP hs m eO fun a w_ hs m=>?_
    refine xY (.c (.c (.c (.c (.c (.c (.c (.c (.n))))))))) hs m 93 (.bool (((ag.request.Op.Kind.v==3)&&(e30.Host.v !=ag.self.Host.v))&&(e30.Subnet.Addr.v==ag.request.Op.Neigh.IP.v))) ?_ ?_
    ·rcases Bool.eq_false_or_eq_true ((ag.request.Op.Kind.v==3)&&(e30.Host.v !=ag.self.Host.v)) with hb44|hb44
     ·have hb44p:=hb44;simp only[fK] at hb44p
      refine bP hs m (x_ gZ (e_ (dV hb41 (aP (r:=.bool (((ag.request.Op.Kind.v==3)&&(e30.Host.v !=ag.self.Host.v))&&(e30.Subnet.Addr.v==ag.request.Op.Neigh.IP.v))) rfl rfl rfl (by rw[hb44];rfl))) bR)) fun a w_ hs m=>?_
      exact wpList_nil (aB ⟨hs.ct 7,m⟩)
     ·have hb44p:=hb44;simp only[fK] at hb44p
      refine bP hs m (x_ gZ (e_ (dV hb41 (aP (r:=.bool (((ag.request.Op.Kind.v==3)&&(e30.Host.v !=ag.self.Host.v))&&(e30.Subnet.Addr.v==ag.request.Op.Neigh.IP.v))) rfl rfl rfl (by rw[hb44];rfl))) bR)) fun a w_ hs m=>?_
      exact wpList_nil (aB ⟨hs.ct 7,m⟩)
    rintro a w45 ⟨hs,m⟩
    refine bP hs m (e_ (p_ (aP (r:=.bool (((ag.request.Op.Kind.v==1)&&(decide (e30.Subnet=ag.request.Op.Route.Dst))) || (((ag.request.Op.Kind.v==3)&&(e30.Host.v !=ag.self.Host.v))&&(e30.Subnet.Addr.v==ag.request.Op.Neigh.IP.v)))) rfl rfl rfl (by rw[hb41];rfl))) bR) fun a w_ hs m=>?_
    exact wpList_nil (aB ⟨hs.to ⟨rfl,rfl,rfl,rfl,rfl,rfl,trivial⟩,m⟩)
  rintro a w46 ⟨hs,m⟩
  refine bP hs m gX fun a w_ hs m=>?_
  refine zG (.c (.c (.c (.c (.c (.c (.c (.c (.c (.c (.c (.c (.c (.c (.c (.n)))))))))))))))) (fun a w=>St 135 [(0,.pointer (some (bK pag 0))),(4,.pointer (some (bK p6 0))),(6,.int .i64 (k:Int)),(7,.pointer (some (bK p35 0))),(111,.bool ((((ag.request.Op.Kind.v==1)&&(decide (e30.Subnet=ag.request.Op.Route.Dst))) || (((ag.request.Op.Kind.v==3)&&(e30.Host.v !=ag.self.Host.v))&&(e30.Subnet.Addr.v==ag.request.Op.Neigh.IP.v))) || (((ag.request.Op.Kind.v==5)&&(e30.Host.v !=ag.self.Host.v))&&(decide (e30.MAC=ag.request.Op.Fdb.MAC)))))] a/\Hp w0 R [Bx p35 48 (aV e30),Bx pag 140 (cRa ag.self ag.opn ag.request ag.read x1.v x2.v x3.v x4.v ag.cursor ag.stale v25.v true ag.granted ag.waiting ag.wish ag.renewed ag.quiet),Bx p6 58 (mO ag.request.Op),Sv 4 51 x1.v (ag.Routes.map aM),Sv 7 54 x2.v (ag.Neighs.map aS),Sv 7 56 x3.v (ag.Fdbs.map cB),Sv 12 48 x4.v (ag.view.map aV),Sv 2 44 v25.v ((hX ag k).map aO)] w) ?_ ?_
  ·rcases Bool.eq_false_or_eq_true (((ag.request.Op.Kind.v==1)&&(decide (e30.Subnet=ag.request.Op.Route.Dst))) || (((ag.request.Op.Kind.v==3)&&(e30.Host.v !=ag.self.Host.v))&&(e30.Subnet.Addr.v==ag.request.Op.Neigh.IP.v))) with hb47|hb47
   ·have hb47p:=hb47;simp only[fK] at hb47p
    refine bP hs m (x_ aAM (e_ (p_ (aP (r:=.bool ((((ag.request.Op.Kind.v==1)&&(decide (e30.Subnet=ag.request.Op.Route.Dst))) || (((ag.request.Op.Kind.v==3)&&(e30.Host.v !=ag.self.Host.v))&&(e30.Subnet.Addr.v==ag.request.Op.Neigh.IP.v))) || (((ag.request.Op.Kind.v==5)&&(e30.Host.v !=ag.self.Host.v))&&(decide (e30.MAC=ag.request.Op.Fdb.MAC))))) rfl rfl rfl (by rw[hb47];rfl))) bR)) fun a w_ hs m=>?_
    exact wpList_nil (aB ⟨hs.to ⟨rfl,rfl,rfl,rfl,rfl,trivial⟩,m⟩)
   ·have hb47p:=hb47;simp only[fK] at hb47p
    refine bP hs m gC fun a w_ hs m=>?_
    refine xY (.c (.c (.n))) hs m 102 (.bool ((ag.request.Op.Kind.v==5)&&(e30.Host.v !=ag.self.Host.v))) ?_ ?_
    ·rcases Bool.eq_false_or_eq_true (ag.request.Op.Kind.v==5) with hb48|hb48
     ·have hb48p:=eq_of_beq hb48
      refine bP hs m (x_ eO (e_ (dV hb47 (aP (r:=.bool ((ag.request.Op.Kind.v==5)&&(e30.Host.v !=ag.self.Host.v))) rfl rfl rfl (by rw[hb48];rfl))) bR)) fun a w_ hs m=>?_
      exact wpList_nil (aB ⟨hs.ct 1,m⟩)
     ·have hb48p:=ne_of_beq_false hb48
      refine bP hs m (x_ eO (e_ (dV hb47 (aP (r:=.bool ((ag.request.Op.Kind.v==5)&&(e30.Host.v !=ag.self.Host.v))) rfl rfl rfl (by rw[hb48];rfl))) bR)) fun a w_ hs m=>?_
      exact wpList_nil (aB ⟨hs.ct 1,m⟩)
    rintro a w49 ⟨hs,m⟩
    refine bP hs m eO fun a w_ hs m=>?_
    refine xY (.c (.c (.c (.c (.c (.c (.c (.n)))))))) hs m 110 (.bool (((ag.request.Op.Kind.v==5)&&(e30.Host.v !=ag.self.Host.v))&&(decide (e30.MAC=ag.request.Op.Fdb.MAC)))) ?_ ?_
    ·rcases Bool.eq_false_or_eq_true ((ag.request.Op.Kind.v==5)&&(e30.Host.v !=ag.self.Host.v)) with hb50|hb50
     ·have hb50p:=hb50;simp only[fK] at hb50p
      refine bP hs m (x_ eO (e_ (dV hb50 (cN (mU e30.MAC))) (x_ iA (e_ (dV hb50 (cN (mU ag.request.Op.Fdb.MAC))) (e_ (dV hb50 (mP (b:=decide (e30.MAC=ag.request.Op.Fdb.MAC)) rfl rfl aDZ (aAX _) (aAX _) (aKQ e30.MAC ag.request.Op.Fdb.MAC))) (e_ (dV hb47 (aP (r:=.bool (((ag.request.Op.Kind.v==5)&&(e30.Host.v !=ag.self.Host.v))&&(decide (e30.MAC=ag.request.Op.Fdb.MAC)))) rfl rfl rfl (by rw[hb50];rfl))) bR)))))) fun a w_ hs m=>?_
      exact wpList_nil (aB ⟨hs.ct 6,m⟩)
     ·have hb50p:=hb50;simp only[fK] at hb50p
      refine bP hs m (x_ gX (e_ (dV hb47 (aP (r:=.bool (((ag.request.Op.Kind.v==5)&&(e30.Host.v !=ag.self.Host.v))&&(decide (e30.MAC=ag.request.Op.Fdb.MAC)))) rfl rfl rfl (by rw[hb50];rfl))) bR)) fun a w_ hs m=>?_
      exact wpList_nil (aB ⟨hs.ct 6,m⟩)
    rintro a w51 ⟨hs,m⟩
    refine bP hs m (e_ (p_ (aP (r:=.bool ((((ag.request.Op.Kind.v==1)&&(decide (e30.Subnet=ag.request.Op.Route.Dst))) || (((ag.request.Op.Kind.v==3)&&(e30.Host.v !=ag.self.Host.v))&&(e30.Subnet.Addr.v==ag.request.Op.Neigh.IP.v))) || (((ag.request.Op.Kind.v==5)&&(e30.Host.v !=ag.self.Host.v))&&(decide (e30.MAC=ag.request.Op.Fdb.MAC))))) rfl rfl rfl (by rw[hb47];rfl))) bR) fun a w_ hs m=>?_
    exact wpList_nil (aB ⟨hs.to ⟨rfl,rfl,rfl,rfl,rfl,trivial⟩,m⟩)
  rintro a w52 ⟨hs,m⟩
  refine bP hs m eZ fun a w_ hs m=>?_
  refine eE m mo (by kernel_rfl) ?_
  refine kZ hs (h6:=q_ (cN (aO e30.Subnet))) (k:=fun a hs=>?_)
  refine mL hs rfl rfl aT7 rfl (fun w m=>aIZ v25 (hX ag k) e30.Subnet w (m.rdv r7) ) rfl fun a hs=>?_
  refine uZ hs (k:=fun a hs=>?_)
  refine wpQuiet_nil fun w53 m=>?_
  refine bT hs m eZ fun a w_ hs m=>?_
  refine jO (.c (.c (.c (.n)))) hs m 123 ((((ag.request.Op.Kind.v==1)&&(decide (e30.Subnet=ag.request.Op.Route.Dst))) || (((ag.request.Op.Kind.v==3)&&(e30.Host.v !=ag.self.Host.v))&&(e30.Subnet.Addr.v==ag.request.Op.Neigh.IP.v))) || (((ag.request.Op.Kind.v==5)&&(e30.Host.v !=ag.self.Host.v))&&(decide (e30.MAC=ag.request.Op.Fdb.MAC)))) (.bool (((((ag.request.Op.Kind.v==1)&&(decide (e30.Subnet=ag.request.Op.Route.Dst))) || (((ag.request.Op.Kind.v==3)&&(e30.Host.v !=ag.self.Host.v))&&(e30.Subnet.Addr.v==ag.request.Op.Neigh.IP.v))) || (((ag.request.Op.Kind.v==5)&&(e30.Host.v !=ag.self.Host.v))&&(decide (e30.MAC=ag.request.Op.Fdb.MAC))))&&(!(decide (e30.Subnet ∈ hX ag k))))) ?_
  rintro a w55 ⟨hs,m⟩
  refine wpList_nil (aB ?_)
  refine aR hs rfl (fun h56=>?_) (fun h56=>?_)
  ·have h56p:=h56;simp only[fK] at h56p
   refine drL m (a0 (a1 (a1 (a1 (a1 (a1 .n)))))) fun w57 m=>?_
   refine pA hs (m.sub (a0 (a1 (a1 (a1 (a1 (a1 .n))))))) 0 1 2 3 5 6 (h6:=k_ rfl (cN (aO e30.Subnet))) (k:=fun a hs=>?_)
   refine kV (i:=4) (j:=7) (by kernel_rfl) rfl rfl ?_ ?_
   ·refine bP hs m eO fun a w_ hs m=>?_
    refine wpList_nil (aB ⟨(m.sub (a0 (a1 (a1 (a1 (a1 (a1 .n))))))),?_⟩)
    refine bU (i:=7) (by kernel_rfl) rfl ?_
    refine dK (c:=aO) (ys:=[e30.Subnet]) hs m hY jQ uM rfl rfl rfl rfl rfl (fun _=>rfl) rfl rfl rfl fun v58 w59 m a hs=>?_
    refine wpList_nil (aB ⟨(m.sub (a1 (a2 (a2 (a2 (a2 (a2 .n))))))),?_⟩)
    refine bU (i:=8) (by kernel_rfl) rfl ?_
    refine cF (c:=aO) (xs:=hX ag k) (ys:=[e30.Subnet]) hs m rfl rfl hY aFF jQ uM rfl aFC rfl r8 (m.rdv r0) (fun _=>rfl) (by(simp;omega)) rfl fun v60 w61 m a hs=>?_
    refine wpList_nil (aB ⟨(m.sub (a2 (a3 (a3 (a3 (a3 (a3 .n))))))),?_⟩)
    refine tI hs (m.sub (a2 (a3 (a3 (a3 (a3 (a3 .n))))))) 9 10 (k:=fun a hs=>?_)
    refine bU (i:=11) (by kernel_rfl) rfl ?_
    refine bP hs m (dZ s3 (t:=bR)) fun a w62 hs m=>?_
    refine wpList_nil (aB ⟨(m.sub (a2 (a3 (a3 (a3 (a3 (a3 .n))))))),?_⟩)
    refine dC (by kernel_rfl) (eA (aB ?_))
    refine bT hs m gX fun a w_ hs m=>?_
    rw[(show (hX ag k)++[e30.Subnet]=hX ag (k+1) from aBI (by assumption) (by assumption))] at m
    exact⟨ag.view.length-(k+1),by omega,k+1,v60,by omega,rfl,hs.to ⟨rfl,rfl,rfl,trivial⟩,m.sub (a3 (a3 (a3 (a3 (a3 (a3 (a0 .n)))))))⟩
   ·refine dK (c:=aO) (ys:=[e30.Subnet]) hs m hY jQ uM rfl rfl rfl rfl rfl (fun _=>rfl) rfl rfl rfl fun v64 w65 m a hs=>?_
    refine wpList_nil (aB ⟨(m.sub (a1 (a2 (a2 (a2 (a2 (a2 .n))))))),?_⟩)
    refine bU (i:=4) (by kernel_rfl) rfl ?_
    refine bP hs m eO fun a w_ hs m=>?_
    refine wpList_nil (aB ⟨(m.sub (a1 (a2 (a2 (a2 (a2 (a2 .n))))))),?_⟩)
    refine bU (i:=8) (by kernel_rfl) rfl ?_
    refine cF (c:=aO) (xs:=hX ag k) (ys:=[e30.Subnet]) hs m rfl rfl hY aFF jQ uM rfl aFC rfl r8 (m.rdv r0) (fun _=>rfl) (by(simp;omega)) rfl fun v66 w67 m a hs=>?_
    refine wpList_nil (aB ⟨(m.sub (a2 (a3 (a3 (a3 (a3 (a3 .n))))))),?_⟩)
    refine tI hs (m.sub (a2 (a3 (a3 (a3 (a3 (a3 .n))))))) 9 10 (k:=fun a hs=>?_)
    refine bU (i:=11) (by kernel_rfl) rfl ?_
    refine bP hs m (dZ s3 (t:=bR)) fun a w68 hs m=>?_
    refine wpList_nil (aB ⟨(m.sub (a2 (a3 (a3 (a3 (a3 (a3 .n))))))),?_⟩)
    refine dC (by kernel_rfl) (eA (aB ?_))
    refine bT hs m gX fun a w_ hs m=>?_
    rw[(show (hX ag k)++[e30.Subnet]=hX ag (k+1) from aBI (by assumption) (by assumption))] at m
    exact⟨ag.view.length-(k+1),by omega,k+1,v66,by omega,rfl,hs.to ⟨rfl,rfl,rfl,trivial⟩,m.sub (a3 (a3 (a3 (a3 (a3 (a3 (a0 .n)))))))⟩
  have h56p:=h56;simp only[fK] at h56p
  refine bT hs m hQ fun a w_ hs m=>?_
  rw[(show hX ag k=hX ag (k+1) from aBH (by assumption) (by assumption))] at m
  exact⟨ag.view.length-(k+1),by omega,k+1,v25,by omega,rfl,hs.to ⟨rfl,rfl,rfl,trivial⟩,m.sub (a1 (a1 (a1 (a1 (a1 (a1 (a1 .n)))))))⟩
 have h23p:=h23;simp only[fK] at h23p
 refine wp_skip ?_
 refine nI hs (vs:=[]) rfl trivial ?_
 replace m:=(m.sub (a1 (a1 (a1 (a1 (a1 (a1 (a0 .n)))))))).closeRa (p:=pag) (A:=ag)
 rw[(show ag=rK ag er from aXY (by assumption) (by assumption))] at m
 refine⟨_,rfl,?_,m.sub (a0 .n)⟩
 rfl
theorem aF6 (pag:Addr) (ag:gU) (bM:Fx .i64) (aW:fC) (aU:Fx .i64) (aZ:Fx .i64) (bJ:SH) (aJ:List TLease) (cM:SH) (bC:List TEvent) (aY:SH) (aE:List bD) (aX:SH) (aG:List bA) (bE:SH) (aK:List cH) (w0:World) (R:Hh) (dI:RdS R 12 bJ.v (aJ.map aV)) (eQ:RdS R 14 cM.v (bC.map eI)) (dE:RdS R 4 aY.v (aE.map aM)) (dD:RdS R 7 aX.v (aG.map aS)) (dM:RdS R 7 bE.v (aK.map cB)) (m:Hp w0 R [sX pag ag] w0):Calls Tryz.prog 160 ⟨[.pointer (some (bK pag 0)),.agg ⟨sY bM aW aU aZ bJ.v cM.v aY.v aX.v bE.v⟩]⟩ w0 fun e w'=>∃ v,e= .returned v/\(v=(.int .i64 (wZ ag bM.v aW.Lease))/\Hp w0 R [sX pag (vG ag bM.v aW.Lease)] w'):=by
 have hol:=tC (h:=ag.self.Host.v) (l:=ag.view)
 have kB:=dI.bd
 have oS:=eQ.bd
 have iX:=dE.bd
 have iW:=dD.bd
 have kC:=dM.bd
 refine enter (n:=93) Tryz.func160 rfl rfl rfl fun a (hs:St 93 [(0,.pointer (some (bK pag 0))),(1,.agg ⟨sY bM aW aU aZ bJ.v cM.v aY.v aX.v bE.v⟩)] a)=>?_
 have mo:=m.openRa r0
 obtain⟨x1,x2,x3,x4,x5,m⟩:=mo
 refine bN ?_
 refine dU (cs:=sY bM aW aU aZ bJ.v cM.v aY.v aX.v bE.v) hs m rfl (by kernel_rfl) rfl fun p6 w7 m a hs=>?_
 refine bP hs m aYS fun a w_ hs m=>?_
 refine aR hs rfl (fun h8=>?_) (fun h8=>?_)
 ·have h8p:=eq_of_beq h8
  refine bT hs m (x_ eZ (e_ (p_ (cN (aV aW.Lease))) bR)) fun a w_ hs m=>?_
  refine bZ hs m mY rfl fun p9 w10 m a hs=>?_
  refine bP hs m (dZ s0 (t:=x_ gC (e_ (p_ (cN (aO aW.Lease.Subnet))) bR))) fun a w11 hs m=>?_
  refine cC hs m rfl rfl aO4 rfl (yJ aW.Lease.Subnet _  ) rfl fun w12 m a hs=>?_
  refine bP hs m gC fun a w_ hs m=>?_
  refine eE m mo (by kernel_rfl) ?_
  refine kZ hs (k:=fun a hs=>?_)
  refine nG hs (k:=fun a hs=>?_)
  refine qct (.c (.c (.c (.n)))) hs 34 (.bool ((aW.Lease.Host.v !=ag.self.Host.v) || (!(iZ aW.Lease.Subnet)))) ?_ ?_
  ·rcases Bool.eq_false_or_eq_true (aW.Lease.Host.v !=ag.self.Host.v) with hb13|hb13
   ·have hb13p:=fT hb13
    refine nG hs (h3:=q_ (aP (r:=.bool ((aW.Lease.Host.v !=ag.self.Host.v) || (!(iZ aW.Lease.Subnet)))) rfl rfl rfl (by rw[hb13];rfl))) (k:=fun a hs=>?_)
    exact wpQuiet_nil (hs.ct 2)
   ·have hb13p:=dJ hb13
    refine nG hs (h3:=q_ (aP (r:=.bool ((aW.Lease.Host.v !=ag.self.Host.v) || (!(iZ aW.Lease.Subnet)))) rfl rfl rfl (by rw[hb13];rfl))) (k:=fun a hs=>?_)
    exact wpQuiet_nil (hs.ct 2)
  intro a hs
  refine wpQuiet_nil fun w14 m=>?_
  refine aR hs rfl (fun h15=>?_) (fun h15=>?_)
  ·have h15p:=h15;simp only[fK] at h15p
   refine bT hs m gZ fun a w_ hs m=>?_
   refine bH hs (vs:=[.int .i64 162]) rfl ⟨rfl,trivial⟩ ?_
   exact⟨_,rfl,nX ((aMN (a:=ag) (by omega) (by assumption)).1),jF ((aMN (a:=ag) (by omega) (by assumption)).2) (m.sub (a2 (a2 (a2 (a2 (a2 (a2 (a0 (a0 .n)))))))))⟩
  have h15p:=h15;simp only[fK] at h15p
  refine bT hs m gC fun a w_ hs m=>?_
  refine cC hs m rfl rfl aLX rfl (aHR pag ag _ ⟨x1,x2,x3,x4,x5,(lO r2 _ m),(m.rdv r3),(m.rdv r4),(m.rdv r5),(m.rdv r6),(m.rdv r7)⟩ ) rfl fun w18 m a hs=>?_
  refine bP hs m gC fun a w_ hs m=>?_
  refine eE m mo (by kernel_rfl) ?_
  refine nG hs (k:=fun a hs=>?_)
  rcases Bool.eq_false_or_eq_true (decide ((eU ag.self.Host.v ag.view)>=0)) with hb19|hb19
  ·have hb19p:=of_decide_eq_true hb19
   refine xD hs (k:=fun a hs=>?_)
   obtain⟨e20,he21⟩:=bI (l:=ag.view) (i:=(eU ag.self.Host.v ag.view).toNat) (by omega)
   refine rY (c:=aV) (e:=e20) hs m (x:=(.tmp 43)) (ix:=(.tmp 44)) rfl rfl eR fZ r6 (by omega) he21 fun p22 hp23 ok24=>?_
   refine kZ hs (h1:=kW hb19 (ok24 _ _ _ _ _)) (h3:=kW hb19 (cN (aO e20.Subnet))) (h5:=kW hb19 (cN (aO aW.Lease.Subnet))) (h6:=kW hb19 (mP (b:=decide (e20.Subnet=aW.Lease.Subnet)) rfl rfl zE (lB _) (lB _) (sA e20.Subnet aW.Lease.Subnet))) (k:=fun a hs=>?_)
   refine uZ hs (h1:=q_ (aP (r:=.bool (decide (e20.Subnet=aW.Lease.Subnet))) rfl rfl rfl (by rw[hb19];rfl))) (k:=fun a hs=>?_)
   refine wpQuiet_nil fun w25 m=>?_
   refine aR hs rfl (fun h26=>?_) (fun h26=>?_)
   ·have h26p:=of_decide_eq_true h26
    refine drL m (a0 (a0 (a0 (a0 (a0 (a0 (a1 .n))))))) fun w27 m=>?_
    refine pA hs (m.sub (a0 (a0 (a0 (a0 (a0 (a0 (a1 .n)))))))) 0 1 2 3 4 5 (k:=fun a hs=>?_)
    refine kY hs (m.sub (a0 (a0 (a0 (a0 (a0 (a0 (a1 .n)))))))) 6 (k:=fun a hs=>?_)
    refine bU (i:=7) (by kernel_rfl) rfl ?_
    refine rY (c:=aV) (e:=e20) hs m (x:=(.tmp 55)) (ix:=(.tmp 56)) rfl rfl eR fZ r6 (by omega) he21 fun p28 hp29 ok30=>?_
    refine bP hs m (e_ (p_ (ok30 _ _ _ _ _)) bR) fun a w_ hs m=>?_
    refine wpList_nil (aB ⟨(m.sub (a0 (a0 (a0 (a0 (a0 (a0 (a1 .n)))))))),?_⟩)
    refine kY hs (m.sub (a0 (a0 (a0 (a0 (a0 (a0 (a1 .n)))))))) 8 (k:=fun a hs=>?_)
    refine bU (i:=9) (by kernel_rfl) rfl ?_
    refine rV (c:=aV) (e':=(⟨e20.Host,e20.Subnet,e20.Pub,e20.MAC,aW.Lease.Until,e20.Rev⟩:TLease)) (vs:=[.int .i64 aW.Lease.Until.v]) hs m rfl rfl r6 hp29 he21 ty2 rfl rfl rfl rfl rfl fun w31 m=>?_
    replace m:Hp w0 R [Sv 12 48 x4.v ((ag.view.set ((eU ag.self.Host.v ag.view).toNat) (⟨e20.Host,e20.Subnet,e20.Pub,e20.MAC,aW.Lease.Until,e20.Rev⟩:TLease)).map aV),Bx p9 48 (aV aW.Lease),Bx p6 77 (sY bM aW aU aZ bJ.v cM.v aY.v aX.v bE.v),Bx pag 140 (cRa ag.self ag.opn ag.request ag.read x1.v x2.v x3.v x4.v ag.cursor ag.stale x5.v ag.degraded ag.granted ag.waiting ag.wish ag.renewed ag.quiet),Sv 4 51 x1.v (ag.Routes.map aM),Sv 7 54 x2.v (ag.Neighs.map aS),Sv 7 56 x3.v (ag.Fdbs.map cB),Sv 2 44 x5.v (ag.skipped.map aO)] w31:=m
    refine wpList_nil (aB ⟨(m.sub (a1 (a1 (a1 (a1 (a1 (a1 (a1 .n)))))))),?_⟩)
    refine dC (by kernel_rfl) (aB ?_)
    refine bT hs m gI fun a w_ hs m=>?_
    refine aR hs rfl (fun h32=>?_) (fun h32=>?_)
    ·have h32p:=eq_of_beq h32
     refine bT hs m (x_ gX (dZ s3 (t:=x_ gI (e_ (p_ (cN (aO aW.Lease.Subnet))) (x_ iA (dZ s3 (t:=gZ))))))) fun a w34 hs m=>?_
     refine jO (.c (.c (.c (.c (.n))))) hs m 79 (ag.request.Kind.v==4) (.bool ((ag.request.Kind.v==4)&&(bM.v==4))) ?_
     rintro a w36 ⟨hs,m⟩
     refine wpList_nil (aB ?_)
     refine bV hs rfl (by(rw[show (bM.v==4)=false from by simp;omega];simp)) ?_
     refine bT hs m gZ fun a w_ hs m=>?_
     refine jO (.c (.c (.c (.c (.n))))) hs m 89 (ag.request.Kind.v==5) (.bool ((ag.request.Kind.v==5)&&(bM.v==111))) ?_
     rintro a w39 ⟨hs,m⟩
     refine wpList_nil (aB ?_)
     refine bV hs rfl (by(rw[show (bM.v==111)=false from by simp;omega];simp)) ?_
     refine bT hs m gZ fun a w_ hs m=>?_
     refine bH hs (vs:=[.int .i64 0]) rfl ⟨rfl,trivial⟩ ?_
     exact⟨_,rfl,nX ((aF4 (a:=ag) (by omega) (by assumption) (aMO (by omega) (by assumption) (by assumption)) (by omega)).1),jF ((aF4 (a:=ag) (by omega) (by assumption) (aMO (by omega) (by assumption) (by assumption)) (by omega)).2) (m.sub (a3 (a3 (a3 (a3 (a0 (a2 (a0 (a0 .n)))))))))⟩
    have h32p:=ne_of_beq_false h32
    refine bT hs m gZ fun a w_ hs m=>?_
    refine jO (.c (.c (.c (.c (.n))))) hs m 79 (ag.request.Kind.v==4) (.bool ((ag.request.Kind.v==4)&&(bM.v==4))) ?_
    rintro a w44 ⟨hs,m⟩
    refine wpList_nil (aB ?_)
    refine bV hs rfl (by(rw[show (bM.v==4)=false from by simp;omega];simp)) ?_
    refine bT hs m gZ fun a w_ hs m=>?_
    refine jO (.c (.c (.c (.c (.n))))) hs m 89 (ag.request.Kind.v==5) (.bool ((ag.request.Kind.v==5)&&(bM.v==111))) ?_
    rintro a w47 ⟨hs,m⟩
    refine wpList_nil (aB ?_)
    refine bV hs rfl (by(rw[show (bM.v==111)=false from by simp;omega];simp)) ?_
    refine bT hs m gZ fun a w_ hs m=>?_
    refine bH hs (vs:=[.int .i64 0]) rfl ⟨rfl,trivial⟩ ?_
    exact⟨_,rfl,nX ((aF5 (a:=ag) (by omega) (by assumption) (aMO (by omega) (by assumption) (by assumption)) (by omega)).1),jF ((aF5 (a:=ag) (by omega) (by assumption) (aMO (by omega) (by assumption) (by assumption)) (by omega)).2) (m.sub (a3 (a3 (a3 (a3 (a0 (a2 (a0 (a0 .n)))))))))⟩
   have h26p:=of_decide_eq_false h26
   refine bT hs m gZ fun a w_ hs m=>?_
   refine aR hs rfl (fun h51=>?_) (fun h51=>?_)
   ·have h51p:=eq_of_beq h51
    refine bT hs m (x_ gX (dZ s2 (t:=x_ gI (e_ (p_ (cN (aO aW.Lease.Subnet))) (x_ iA (dZ s2 (t:=gZ))))))) fun a w53 hs m=>?_
    refine jO (.c (.c (.c (.c (.n))))) hs m 79 (ag.request.Kind.v==4) (.bool ((ag.request.Kind.v==4)&&(bM.v==4))) ?_
    rintro a w55 ⟨hs,m⟩
    refine wpList_nil (aB ?_)
    refine bV hs rfl (by(rw[show (bM.v==4)=false from by simp;omega];simp)) ?_
    refine bT hs m gZ fun a w_ hs m=>?_
    refine jO (.c (.c (.c (.c (.n))))) hs m 89 (ag.request.Kind.v==5) (.bool ((ag.request.Kind.v==5)&&(bM.v==111))) ?_
    rintro a w58 ⟨hs,m⟩
    refine wpList_nil (aB ?_)
    refine bV hs rfl (by(rw[show (bM.v==111)=false from by simp;omega];simp)) ?_
    refine bT hs m gZ fun a w_ hs m=>?_
    refine bH hs (vs:=[.int .i64 0]) rfl ⟨rfl,trivial⟩ ?_
    exact⟨_,rfl,nX ((aF4 (a:=ag) (by omega) (by assumption) (aHP (by assumption) (by assumption)) (by omega)).1),jF ((aF4 (a:=ag) (by omega) (by assumption) (aHP (by assumption) (by assumption)) (by omega)).2) (m.sub (a2 (a2 (a2 (a2 (a2 (a2 (a0 (a0 .n)))))))))⟩
   have h51p:=ne_of_beq_false h51
   refine bT hs m gZ fun a w_ hs m=>?_
   refine jO (.c (.c (.c (.c (.n))))) hs m 79 (ag.request.Kind.v==4) (.bool ((ag.request.Kind.v==4)&&(bM.v==4))) ?_
   rintro a w63 ⟨hs,m⟩
   refine wpList_nil (aB ?_)
   refine bV hs rfl (by(rw[show (bM.v==4)=false from by simp;omega];simp)) ?_
   refine bT hs m gZ fun a w_ hs m=>?_
   refine jO (.c (.c (.c (.c (.n))))) hs m 89 (ag.request.Kind.v==5) (.bool ((ag.request.Kind.v==5)&&(bM.v==111))) ?_
   rintro a w66 ⟨hs,m⟩
   refine wpList_nil (aB ?_)
   refine bV hs rfl (by(rw[show (bM.v==111)=false from by simp;omega];simp)) ?_
   refine bT hs m gZ fun a w_ hs m=>?_
   refine bH hs (vs:=[.int .i64 0]) rfl ⟨rfl,trivial⟩ ?_
   exact⟨_,rfl,nX ((aF5 (a:=ag) (by omega) (by assumption) (aHP (by assumption) (by assumption)) (by omega)).1),jF ((aF5 (a:=ag) (by omega) (by assumption) (aHP (by assumption) (by assumption)) (by omega)).2) (m.sub (a2 (a2 (a2 (a2 (a2 (a2 (a0 (a0 .n)))))))))⟩
  ·have hb19p:=of_decide_eq_false hb19
   refine kZ hs (k:=fun a hs=>?_)
   refine kZ hs (h6:=q_ (aP (r:=.bool false) rfl rfl rfl (by rw[hb19];rfl))) (k:=fun a hs=>?_)
   refine wpQuiet_nil fun w70 m=>?_
   refine bT hs m lA fun a w_ hs m=>?_
   refine aR hs rfl (fun h72=>?_) (fun h72=>?_)
   ·have h72p:=eq_of_beq h72
    refine bT hs m (x_ gX (dZ s2 (t:=x_ gI (e_ (p_ (cN (aO aW.Lease.Subnet))) (x_ iA (dZ s2 (t:=gZ))))))) fun a w74 hs m=>?_
    refine jO (.c (.c (.c (.c (.n))))) hs m 79 (ag.request.Kind.v==4) (.bool ((ag.request.Kind.v==4)&&(bM.v==4))) ?_
    rintro a w76 ⟨hs,m⟩
    refine wpList_nil (aB ?_)
    refine bV hs rfl (by(rw[show (bM.v==4)=false from by simp;omega];simp)) ?_
    refine bT hs m gZ fun a w_ hs m=>?_
    refine jO (.c (.c (.c (.c (.n))))) hs m 89 (ag.request.Kind.v==5) (.bool ((ag.request.Kind.v==5)&&(bM.v==111))) ?_
    rintro a w79 ⟨hs,m⟩
    refine wpList_nil (aB ?_)
    refine bV hs rfl (by(rw[show (bM.v==111)=false from by simp;omega];simp)) ?_
    refine bT hs m gZ fun a w_ hs m=>?_
    refine bH hs (vs:=[.int .i64 0]) rfl ⟨rfl,trivial⟩ ?_
    exact⟨_,rfl,nX ((aF4 (a:=ag) (by omega) (by assumption) (aHO (by omega)) (by omega)).1),jF ((aF4 (a:=ag) (by omega) (by assumption) (aHO (by omega)) (by omega)).2) (m.sub (a2 (a2 (a2 (a2 (a2 (a2 (a0 (a0 .n)))))))))⟩
   have h72p:=ne_of_beq_false h72
   refine bT hs m gZ fun a w_ hs m=>?_
   refine jO (.c (.c (.c (.c (.n))))) hs m 79 (ag.request.Kind.v==4) (.bool ((ag.request.Kind.v==4)&&(bM.v==4))) ?_
   rintro a w84 ⟨hs,m⟩
   refine wpList_nil (aB ?_)
   refine bV hs rfl (by(rw[show (bM.v==4)=false from by simp;omega];simp)) ?_
   refine bT hs m gZ fun a w_ hs m=>?_
   refine jO (.c (.c (.c (.c (.n))))) hs m 89 (ag.request.Kind.v==5) (.bool ((ag.request.Kind.v==5)&&(bM.v==111))) ?_
   rintro a w87 ⟨hs,m⟩
   refine wpList_nil (aB ?_)
   refine bV hs rfl (by(rw[show (bM.v==111)=false from by simp;omega];simp)) ?_
   refine bT hs m gZ fun a w_ hs m=>?_
   refine bH hs (vs:=[.int .i64 0]) rfl ⟨rfl,trivial⟩ ?_
   exact⟨_,rfl,nX ((aF5 (a:=ag) (by omega) (by assumption) (aHO (by omega)) (by omega)).1),jF ((aF5 (a:=ag) (by omega) (by assumption) (aHO (by omega)) (by omega)).2) (m.sub (a2 (a2 (a2 (a2 (a2 (a2 (a0 (a0 .n)))))))))⟩
 have h8p:=ne_of_beq_false h8
 refine bT hs m gZ fun a w_ hs m=>?_
 refine jO (.c (.c (.c (.c (.n))))) hs m 79 (ag.request.Kind.v==4) (.bool ((ag.request.Kind.v==4)&&(bM.v==4))) ?_
 rintro a w92 ⟨hs,m⟩
 refine wpList_nil (aB ?_)
 refine aR hs rfl (fun h93=>?_) (fun h93=>?_)
 ·have h93p:=h93;simp only[fK] at h93p
  refine bT hs m (x_ gC (dZ s1 (t:=gZ))) fun a w94 hs m=>?_
  refine jO (.c (.c (.c (.c (.n))))) hs m 89 (ag.request.Kind.v==5) (.bool ((ag.request.Kind.v==5)&&(bM.v==111))) ?_
  rintro a w96 ⟨hs,m⟩
  refine wpList_nil (aB ?_)
  refine bV hs rfl (by(rw[show (bM.v==111)=false from by simp;omega];simp)) ?_
  refine bT hs m gZ fun a w_ hs m=>?_
  refine bH hs (vs:=[.int .i64 0]) rfl ⟨rfl,trivial⟩ ?_
  exact⟨_,rfl,nX ((aUQ (a:=ag) (by omega) (by assumption)).1),jF ((aUQ (a:=ag) (by omega) (by assumption)).2) (m.sub (a1 (a1 (a1 (a1 (a1 (a1 (a0 .n))))))))⟩
 have h93p:=h93;simp only[fK] at h93p
 refine bT hs m gZ fun a w_ hs m=>?_
 refine jO (.c (.c (.c (.c (.n))))) hs m 89 (ag.request.Kind.v==5) (.bool ((ag.request.Kind.v==5)&&(bM.v==111))) ?_
 rintro a w101 ⟨hs,m⟩
 refine wpList_nil (aB ?_)
 refine aR hs rfl (fun h102=>?_) (fun h102=>?_)
 ·have h102p:=h102;simp only[fK] at h102p
  refine bT hs m (x_ gC (dZ s1 (t:=gZ))) fun a w103 hs m=>?_
  refine bH hs (vs:=[.int .i64 0]) rfl ⟨rfl,trivial⟩ ?_
  exact⟨_,rfl,nX ((aUP (a:=ag) (by omega) (by assumption) (by assumption)).1),jF ((aUP (a:=ag) (by omega) (by assumption) (by assumption)).2) (m.sub (a1 (a1 (a1 (a1 (a1 (a1 (a0 .n))))))))⟩
 have h102p:=h102;simp only[fK] at h102p
 refine bT hs m gZ fun a w_ hs m=>?_
 refine bH hs (vs:=[.int .i64 0]) rfl ⟨rfl,trivial⟩ ?_
 exact⟨_,rfl,nX ((aUO (a:=ag) (by omega) (by assumption) (by assumption)).1),jF ((aUO (a:=ag) (by omega) (by assumption) (by assumption)).2) (m.sub (a1 (a1 (a1 (a1 (a1 (a1 (a0 .n))))))))⟩
end Go.Proofs.YtnbpodjbemfpbaaGreat.Fw
set_option linter.all false
set_option maxHeartbeats 4000000
set_option maxRecDepth 100000
namespace Go.Proofs.YtnbpodjbemfpbaaGreat.Fw
open Go
theorem aLE (pag:Addr) (ag:gU) (q:aT) (w0:World) (R:Hh) (B0:ag.view.length<=2100000000) (m:Hp w0 R [sX pag ag] w0):Calls Tryz.prog 178 ⟨[.pointer (some (bK pag 0)),.agg ⟨aO q⟩]⟩ w0 fun e w'=>∃ v,e= .returned v/\(v=(.tuple ⟨[]⟩)/\Hp w0 R [sX pag ({ ag with view:=cV (fun e=>decide (e.Subnet=q)) ag.view }:gU)] w'):=by
 refine enter (n:=39) Tryz.func178 rfl rfl rfl fun a (hs:St 39 [(0,.pointer (some (bK pag 0))),(1,.agg ⟨aO q⟩)] a)=>?_
 have mo:=m.openRa r0
 obtain⟨x1,x2,x3,x4,x5,m⟩:=mo
 refine bN ?_
 refine dU (cs:=aO q) hs m rfl rfl rfl fun p6 w7 m a hs=>?_
 refine bP hs m nP fun a w_ hs m=>?_
 replace m:=m.nilSvM aV 12 48
 rw[(show ([]:List TLease)=cV (fun e=>decide (e.Subnet=q)) (ag.view.take 0) from aA8)] at m
 refine wp_loop_ghost (fun gn a w=>∃ k:Nat,∃ v8:SH,(k<=ag.view.length)/\gn=ag.view.length-k/\St 39 [(0,.pointer (some (bK pag 0))),(3,.pointer (some (bK p6 0))),(4,v8.v),(5,.int .i64 (k:Int))] a/\Hp w0 R [Bx pag 140 (cRa ag.self ag.opn ag.request ag.read x1.v x2.v x3.v x4.v ag.cursor ag.stale x5.v ag.degraded ag.granted ag.waiting ag.wish ag.renewed ag.quiet),Bx p6 44 (aO q),Sv 4 51 x1.v (ag.Routes.map aM),Sv 7 54 x2.v (ag.Neighs.map aS),Sv 7 56 x3.v (ag.Fdbs.map cB),Sv 12 48 x4.v (ag.view.map aV),Sv 2 44 x5.v (ag.skipped.map aO),Sv 12 48 v8.v ((cV (fun e=>decide (e.Subnet=q)) (ag.view.take k)).map aV)] w) (ag.view.length-0) ⟨0,nilH,by omega,rfl,hs.to ⟨rfl,rfl,rfl,rfl,trivial⟩,m.sub (a2 (a1 (a1 (a1 (a1 (a1 (a1 (a0 .n))))))))⟩ ?_
 rintro gn a w11 ⟨k,v8,hk,rfl,hs,m⟩
 have hkl:=xV (g:=fun e=>decide (e.Subnet=q)) (l:=ag.view) (k:=k)
 refine bT hs m (x_ gZ (e_ (p_ (bQ m rfl eR (fV r5))) eZ)) fun a w_ hs m=>?_
 refine aR hs rfl (fun h12=>?_) (fun h12=>?_)
 rotate_left
 ·have h12p:=of_decide_eq_false h12
  refine bT hs m (x_ fW (dZ s0 (t:=bR))) fun a w13 hs m=>?_
  refine wpList_nil (nI hs (vs:=[]) rfl trivial ?_)
  replace m:=(m.sub (a0 (a1 (a1 (a1 (a3 (a2 (a0 (a0 .n))))))))).closeRa (p:=pag) (A:=({ ag with view:=(cV (fun e=>decide (e.Subnet=q)) (ag.view.take k)) }:gU))
  rw[(show ({ ag with view:=(cV (fun e=>decide (e.Subnet=q)) (ag.view.take k)) }:gU)=({ ag with view:=cV (fun e=>decide (e.Subnet=q)) ag.view }:gU) by((rw[aFW (by omega)])))] at m
  refine⟨_,rfl,?_,m.sub (a0 .n)⟩
  rfl
 have h12p:=of_decide_eq_true h12
 refine wp_skip ?_
 refine aB ?_
 refine dG ?_
 refine wp_block ?_
 refine eE m mo (by kernel_rfl) ?_
 refine xD hs (k:=fun a hs=>?_)
 obtain⟨e15,he16⟩:=bI (l:=ag.view) (i:=k) (by omega)
 refine rY (c:=aV) (e:=e15) hs m (x:=(.tmp 18)) (ix:=(.tmp 19)) rfl rfl eR fZ r5 (by omega) he16 fun p17 hp18 ok19=>?_
 refine xD hs (h1:=q_ (ok19 _ _ _ _ _)) (h3:=q_ (cN (aO e15.Subnet))) (h4:=q_ (cN (aO q))) (h5:=q_ (sS (b:=decide (e15.Subnet=q)) rfl rfl zE (lB _) (lB _) (sA e15.Subnet q))) (k:=fun a hs=>?_)
 refine wpQuiet_nil fun w20 m=>?_
 refine aR hs rfl (fun h21=>?_) (fun h21=>?_)
 ·have h21p:=h21;simp only[fK] at h21p
  refine bT hs m gZ fun a w_ hs m=>?_
  refine rY (c:=aV) (e:=e15) hs m (x:=(.tmp 29)) (ix:=(.tmp 30)) rfl rfl eR fZ r5 (by omega) he16 fun p22 hp23 ok24=>?_
  refine bP hs m (e_ (p_ (ok24 _ _ _ _ _)) (e_ (p_ (cN (aV e15))) bR)) fun a w_ hs m=>?_
  refine dK (c:=aV) (ys:=[e15]) hs m eR fZ mY rfl rfl rfl rfl rfl (fun _=>rfl) rfl rfl rfl fun v25 w26 m a hs=>?_
  refine cF (c:=aV) (xs:=cV (fun e=>decide (e.Subnet=q)) (ag.view.take k)) (ys:=[e15]) hs m rfl rfl eR xF fZ mY rfl vN rfl r8 (m.rdv r0) (fun _=>rfl) (by(simp;omega)) rfl fun v27 w28 m a hs=>?_
  refine bP hs m fW fun a w_ hs m=>?_
  rw[(show (cV (fun e=>decide (e.Subnet=q)) (ag.view.take k))++[e15]=cV (fun e=>decide (e.Subnet=q)) (ag.view.take (k+1)) from aG5 (by assumption) (by assumption))] at m
  exact⟨ag.view.length-(k+1),by omega,k+1,v27,by omega,rfl,hs.to ⟨rfl,rfl,rfl,rfl,trivial⟩,m.sub (a2 (a2 (a2 (a2 (a2 (a2 (a2 (a0 .n))))))))⟩
 have h21p:=h21;simp only[fK] at h21p
 refine bT hs m hQ fun a w_ hs m=>?_
 rw[(show cV (fun e=>decide (e.Subnet=q)) (ag.view.take k)=cV (fun e=>decide (e.Subnet=q)) (ag.view.take (k+1)) from aG4 (by assumption) (by assumption))] at m
 exact⟨ag.view.length-(k+1),by omega,k+1,v8,by omega,rfl,hs.to ⟨rfl,rfl,rfl,rfl,trivial⟩,m.sub (a0 (a0 (a0 (a0 (a0 (a0 (a0 (a0 .n))))))))⟩
theorem aTB (pag:Addr) (ag:gU) (x:TLease) (w0:World) (R:Hh) (B0:ag.view.length<=2100000000) (m:Hp w0 R [sX pag ag] w0):Calls Tryz.prog 179 ⟨[.pointer (some (bK pag 0)),.agg ⟨aV x⟩]⟩ w0 fun e w'=>∃ v,e= .returned v/\(v=(.tuple ⟨[]⟩)/\Hp w0 R [sX pag ({ ag with view:=wS x ag.view }:gU)] w'):=by
 refine enter (n:=55) Tryz.func179 rfl rfl rfl fun a (hs:St 55 [(0,.pointer (some (bK pag 0))),(1,.agg ⟨aV x⟩)] a)=>?_
 have mo:=m.openRa r0
 obtain⟨x1,x2,x3,x4,x5,m⟩:=mo
 refine bN ?_
 refine dU (cs:=aV x) hs m rfl (by kernel_rfl) rfl fun p6 w7 m a hs=>?_
 refine bP hs m aMZ fun a w_ hs m=>?_
 replace m:=m.nilSvM aV 12 48
 rw[(show ([]:List TLease)=(fX (fun e=>cL x.Subnet e.Subnet) x (ag.view.take 0)).1 by(rw[xJ]))] at m
 refine wp_loop_ghost (fun gn a w=>∃ k:Nat,∃ inn:Bool,∃ v8:SH,(k<=ag.view.length)/\((fX (fun e=>cL x.Subnet e.Subnet) x (ag.view.take k)).2=inn)/\gn=ag.view.length-k/\St 55 [(0,.pointer (some (bK pag 0))),(3,.pointer (some (bK p6 0))),(4,v8.v),(5,.bool inn),(6,.int .i64 (k:Int))] a/\Hp w0 R [Bx pag 140 (cRa ag.self ag.opn ag.request ag.read x1.v x2.v x3.v x4.v ag.cursor ag.stale x5.v ag.degraded ag.granted ag.waiting ag.wish ag.renewed ag.quiet),Bx p6 48 (aV x),Sv 4 51 x1.v (ag.Routes.map aM),Sv 7 54 x2.v (ag.Neighs.map aS),Sv 7 56 x3.v (ag.Fdbs.map cB),Sv 12 48 x4.v (ag.view.map aV),Sv 2 44 x5.v (ag.skipped.map aO),Sv 12 48 v8.v (((fX (fun e=>cL x.Subnet e.Subnet) x (ag.view.take k)).1).map aV)] w) (ag.view.length-0) ⟨0,false,nilH,by omega,by rw[xJ],rfl,hs.to ⟨rfl,rfl,rfl,rfl,rfl,trivial⟩,m.sub (a2 (a1 (a1 (a1 (a1 (a1 (a1 (a0 .n))))))))⟩ ?_
 rintro gn a w11 ⟨k,inn,v8,hk,hin,rfl,hs,m⟩
 have hal:=aAP (lw:=fun e=>cL x.Subnet e.Subnet) (x:=x) (l:=ag.view) (k:=k)
 refine bT hs m (x_ gZ (e_ (p_ (bQ m rfl eR (fV r5))) eZ)) fun a w_ hs m=>?_
 refine aR hs rfl (fun h12=>?_) (fun h12=>?_)
 rotate_left
 ·have h12p:=of_decide_eq_false h12
  refine bT hs m mT fun a w_ hs m=>?_
  refine aR hs rfl (fun h13=>?_) (fun h13=>?_)
  ·have h13p:=h13;simp only[fK] at h13p
   refine bT hs m (x_ iA (e_ (p_ (cN (aV x))) bR)) fun a w_ hs m=>?_
   refine dK (c:=aV) (ys:=[x]) hs m eR fZ mY rfl rfl rfl rfl rfl (fun _=>rfl) rfl rfl rfl fun v14 w15 m a hs=>?_
   refine cF (c:=aV) (xs:=(fX (fun e=>cL x.Subnet e.Subnet) x (ag.view.take k)).1) (ys:=[x]) hs m rfl rfl eR xF fZ mY rfl vN rfl r8 (m.rdv r0) (fun _=>rfl) (by(simp;omega)) rfl fun v16 w17 m a hs=>?_
   refine bP hs m (x_ lA (dZ s2 (t:=bR))) fun a w18 hs m=>?_
   refine wpList_nil (nI hs (vs:=[]) rfl trivial ?_)
   replace m:=(m.sub (a2 (a3 (a3 (a3 (a0 (a3 (a0 (a0 (a0 .n)))))))))).closeRa (p:=pag) (A:=({ ag with view:=(((fX (fun e=>cL x.Subnet e.Subnet) x (ag.view.take k)).1)++[x]) }:gU))
   rw[(show ({ ag with view:=(((fX (fun e=>cL x.Subnet e.Subnet) x (ag.view.take k)).1)++[x]) }:gU)=({ ag with view:=wS x ag.view }:gU) by(rw[aW5 (by omega) hin (by simpa using ‹(!inn)=true›)]))] at m
   refine⟨_,rfl,?_,m.sub (a0 .n)⟩
   rfl
  have h13p:=h13;simp only[fK] at h13p
  refine bT hs m (x_ gZ (dZ s0 (t:=bR))) fun a w20 hs m=>?_
  refine wpList_nil (nI hs (vs:=[]) rfl trivial ?_)
  replace m:=(m.sub (a0 (a1 (a1 (a1 (a3 (a2 (a0 (a0 .n))))))))).closeRa (p:=pag) (A:=({ ag with view:=((fX (fun e=>cL x.Subnet e.Subnet) x (ag.view.take k)).1) }:gU))
  rw[(show ({ ag with view:=((fX (fun e=>cL x.Subnet e.Subnet) x (ag.view.take k)).1) }:gU)=({ ag with view:=wS x ag.view }:gU) by(rw[aW6 (by omega) hin (by simpa using ‹(!inn)=false›)]))] at m
  refine⟨_,rfl,?_,m.sub (a0 .n)⟩
  rfl
 have h12p:=of_decide_eq_true h12
 refine wp_skip ?_
 refine aB ?_
 refine dG ?_
 refine wp_block ?_
 refine dG ?_
 refine eE m mo (by kernel_rfl) ?_
 refine nG hs (k:=fun a hs=>?_)
 refine oU (.c (.c (.c (.c (.c (.c (.c (.c (.c (.c (.c (.c (.n))))))))))))) (fun a=>St 55 [(0,.pointer (some (bK pag 0))),(3,.pointer (some (bK p6 0))),(4,v8.v),(5,.bool inn),(6,.int .i64 (k:Int)),(30,.bool ((!inn)&&(cL x.Subnet ((ag.view[k]?).getD eG).Subnet)))] a) ?_ ?_
 ·rcases Bool.eq_false_or_eq_true (!inn) with hb22|hb22
  ·have hb22p:=hb22;simp only[fK] at hb22p
   refine kZ hs (h2:=kW hb22 (cN (aO x.Subnet))) (k:=fun a hs=>?_)
   refine uZ hs (k:=fun a hs=>?_)
   obtain⟨e23,he24⟩:=bI (l:=ag.view) (i:=k) (by omega)
   refine rY (c:=aV) (e:=e23) hs m (x:=(.tmp 24)) (ix:=(.tmp 25)) rfl rfl eR fZ r5 (by omega) he24 fun p25 hp26 ok27=>?_
   refine nG hs (h1:=kW hb22 (ok27 _ _ _ _ _)) (h3:=kW hb22 (cN (aO e23.Subnet))) (k:=fun a hs=>?_)
   refine jI hs rfl rfl hb22 rfl rfl aCO rfl (fun w m=>uS x.Subnet e23.Subnet w  ) rfl fun a hs=>?_
   refine uZ hs (h1:=q_ (aP (r:=.bool ((!inn)&&(cL x.Subnet ((ag.view[k]?).getD eG).Subnet))) rfl rfl rfl (by(try rw[he24]);rw[hb22];rfl))) (k:=fun a hs=>?_)
   exact wpQuiet_nil (hs.to ⟨rfl,rfl,rfl,rfl,rfl,rfl,trivial⟩)
  ·have hb22p:=hb22;simp only[fK] at hb22p
   refine kZ hs (k:=fun a hs=>?_)
   refine kZ hs (h6:=q_ (aP (r:=.bool ((!inn)&&(cL x.Subnet ((ag.view[k]?).getD eG).Subnet))) rfl rfl rfl (by rw[hb22];rfl))) (k:=fun a hs=>?_)
   exact wpQuiet_nil (hs.to ⟨rfl,rfl,rfl,rfl,rfl,rfl,trivial⟩)
 intro a hs
 refine wpQuiet_nil fun w28 m=>?_
 refine aR hs rfl (fun h29=>?_) (fun h29=>?_)
 ·have h29p:=h29;simp only[fK] at h29p
  refine bT hs m (x_ iA (e_ (p_ (cN (aV x))) bR)) fun a w_ hs m=>?_
  refine dK (c:=aV) (ys:=[x]) hs m eR fZ mY rfl rfl rfl rfl rfl (fun _=>rfl) rfl rfl rfl fun v30 w31 m a hs=>?_
  refine cF (c:=aV) (xs:=(fX (fun e=>cL x.Subnet e.Subnet) x (ag.view.take k)).1) (ys:=[x]) hs m rfl rfl eR xF fZ mY rfl vN rfl r8 (m.rdv r0) (fun _=>rfl) (by(simp;omega)) rfl fun v32 w33 m a hs=>?_
  refine bP hs m aAM fun a w_ hs m=>?_
  obtain⟨e34,he35⟩:=bI (l:=ag.view) (i:=k) (by omega)
  refine rY (c:=aV) (e:=e34) hs m (x:=(.tmp 39)) (ix:=(.tmp 40)) rfl rfl eR fZ r7 (by omega) he35 fun p36 hp37 ok38=>?_
  refine bP hs m (e_ (p_ (ok38 _ _ _ _ _)) (e_ (p_ (cN (aV e34))) bR)) fun a w_ hs m=>?_
  refine dK (c:=aV) (ys:=[e34]) hs m eR fZ mY rfl rfl rfl rfl rfl (fun _=>rfl) rfl rfl rfl fun v39 w40 m a hs=>?_
  refine cF (c:=aV) (xs:=((fX (fun e=>cL x.Subnet e.Subnet) x (ag.view.take k)).1)++[x]) (ys:=[e34]) hs m rfl rfl eR xF fZ mY rfl vN rfl r1 (m.rdv r0) (fun _=>rfl) (by(simp;omega)) rfl fun v41 w42 m a hs=>?_
  refine bP hs m fW fun a w_ hs m=>?_
  rw[(show ((fX (fun e=>cL x.Subnet e.Subnet) x (ag.view.take k)).1)++[x]++[e34]=(fX (fun e=>cL x.Subnet e.Subnet) x (ag.view.take (k+1))).1 from aJ6 (by assumption) hin (by assumption))] at m
  exact⟨ag.view.length-(k+1),by omega,k+1,true,v41,by omega,by exact aJ8 (by assumption) hin (by assumption),rfl,hs.to ⟨rfl,rfl,rfl,rfl,rfl,trivial⟩,m.sub (a3 (a3 (a3 (a3 (a3 (a3 (a3 (a0 .n))))))))⟩
 have h29p:=h29;simp only[fK] at h29p
 refine bT hs m hQ fun a w_ hs m=>?_
 obtain⟨e44,he45⟩:=bI (l:=ag.view) (i:=k) (by omega)
 refine rY (c:=aV) (e:=e44) hs m (x:=(.tmp 39)) (ix:=(.tmp 40)) rfl rfl eR fZ r5 (by omega) he45 fun p46 hp47 ok48=>?_
 refine bP hs m (e_ (p_ (ok48 _ _ _ _ _)) (e_ (p_ (cN (aV e44))) bR)) fun a w_ hs m=>?_
 refine dK (c:=aV) (ys:=[e44]) hs m eR fZ mY rfl rfl rfl rfl rfl (fun _=>rfl) rfl rfl rfl fun v49 w50 m a hs=>?_
 refine cF (c:=aV) (xs:=(fX (fun e=>cL x.Subnet e.Subnet) x (ag.view.take k)).1) (ys:=[e44]) hs m rfl rfl eR xF fZ mY rfl vN rfl r8 (m.rdv r0) (fun _=>rfl) (by(simp;omega)) rfl fun v51 w52 m a hs=>?_
 refine bP hs m fW fun a w_ hs m=>?_
 rw[(show ((fX (fun e=>cL x.Subnet e.Subnet) x (ag.view.take k)).1)++[e44]=(fX (fun e=>cL x.Subnet e.Subnet) x (ag.view.take (k+1))).1 from aJ5 (by assumption) hin (by assumption))] at m
 exact⟨ag.view.length-(k+1),by omega,k+1,inn,v51,by omega,by exact aJ7 (by assumption) hin (by assumption),rfl,hs.to ⟨rfl,rfl,rfl,rfl,rfl,trivial⟩,m.sub (a2 (a2 (a2 (a2 (a2 (a2 (a2 (a0 .n))))))))⟩
end Go.Proofs.YtnbpodjbemfpbaaGreat.Fw
