/-
  Own work: walks and laws, joined by wip/tool/compact.py.
-/
import Derived.Test.YtnbpodjbemfpbaaGreatG11
import Derived.KernelRfl
set_option linter.all false
set_option linter.all false
set_option maxHeartbeats 4000000
set_option maxRecDepth 100000
namespace Go.Proofs.YtnbpodjbemfpbaaGreat.Fw
open Go
theorem aH1 (bG:SH) (aQ:List bD) (bF:SH) (aN:List bA) (bX:SH) (bO:List cH) (w0:World) (dT:RdS (hh w0) 4 bG.v (aQ.map aM)) (dY:RdS (hh w0) 7 bF.v (aN.map aS)) (fG:RdS (hh w0) 7 bX.v (bO.map cB)) (A0:aQ.length<=16777216) (A1:aN.length<=16777216) (A2:bO.length<=16777216):Calls Tryz.prog 55 ⟨[.agg ⟨[bG.v,bF.v,bX.v]⟩]⟩ w0 fun e w'=>∃ v,e= .returned v/\(∃ x0:SH,∃ x1:SH,∃ x2:SH,v=(.agg ⟨[x0.v,x1.v,x2.v]⟩)/\Hp w0 (hh w0) [Sv 4 51 x0.v (aQ.map aM),Sv 7 54 x1.v (aN.map aS),Sv 7 56 x2.v (bO.map cB)] w'):=by
 have jE:=dT.bd
 have jD:=dY.bd
 have mD:=fG.bd
 refine enter (n:=13) Tryz.func55 rfl rfl rfl fun a (hs:St 13 [(0,.agg ⟨[bG.v,bF.v,bX.v]⟩)] a)=>?_
 have m:=Hp.start w0
 refine bN ?_
 refine dU (cs:=[bG.v,bF.v,bX.v]) hs m rfl rfl rfl fun p1 w2 m a hs=>?_
 refine bZ hs m jL rfl fun p3 w4 m a hs=>?_
 refine wpList_nil (aB ?_)
 refine vK m (a1 .n) fun w5 m=>?_
 refine pA hs (m.sub (a1 .n)) 0 1 3 4 6 7 (k:=fun a hs=>?_)
 replace m:=m.nilSvM aM 4 51
 refine bU (i:=2) (by kernel_rfl) rfl ?_
 refine cF (c:=aM) (xs:=[]) (ys:=aQ) hs m rfl rfl eY aB6 gG kK rfl qN rfl r0 (m.rd dT) (fun _=>rfl) (by(simp;omega)) rfl fun v6 w8 m a hs=>?_
 refine wpList_nil (aB ⟨(m.sub (a2 .n)),?_⟩)
 replace m:=m.nilSvM aS 7 54
 refine bU (i:=5) (by kernel_rfl) rfl ?_
 refine cF (c:=aS) (xs:=[]) (ys:=aN) hs m rfl rfl fP aB7 gQ lW rfl qO rfl r0 (m.rd dY) (fun _=>rfl) (by(simp;omega)) rfl fun v9 w11 m a hs=>?_
 refine wpList_nil (aB ⟨(m.sub (a3 .n)),?_⟩)
 replace m:=m.nilSvM cB 7 56
 refine bU (i:=8) (by kernel_rfl) rfl ?_
 refine cF (c:=cB) (xs:=[]) (ys:=bO) hs m rfl rfl fQ aB8 gS lS rfl qP rfl r0 (m.rd fG) (fun _=>rfl) (by(simp;omega)) rfl fun v12 w14 m a hs=>?_
 refine wpList_nil (aB ⟨(m.sub (a4 .n)),?_⟩)
 refine kY hs (m.sub (a4 .n)) 9 (h1:=k_ rfl (bW (cs:=[v6.v,v9.v,v12.v]) rI jL rfl rfl)) (k:=fun a hs=>?_)
 refine bU (i:=10) (by kernel_rfl) rfl ?_
 refine bP hs m (dZ s3 (t:=bR)) fun a w15 hs m=>?_
 refine wpList_nil (aB ⟨(m.sub (a4 .n)),?_⟩)
 refine dC (by kernel_rfl) (aB ?_)
 refine wp_ret ?_
 refine bH hs (vs:=[.agg ⟨[v6.v,v9.v,v12.v]⟩]) rfl ⟨cZ (cs:=[v6.v,v9.v,v12.v]) m rfl xH r3 rfl,trivial⟩ ?_
 refine⟨_,rfl,v6,v9,v12,?_,m.sub (a2 (a1 (a0 .n)))⟩
 rfl
theorem zL (bG:SH) (aQ:List bD) (bF:SH) (aN:List bA) (bX:SH) (bO:List cH) (w0:World) (dT:RdS (hh w0) 4 bG.v (aQ.map aM)) (dY:RdS (hh w0) 7 bF.v (aN.map aS)) (fG:RdS (hh w0) 7 bX.v (bO.map cB)) (A0:aQ.length<=16777000) (A1:aN.length<=16777000) (A2:bO.length<=16777000):Calls Tryz.prog 16 ⟨[.agg ⟨[bG.v,bF.v,bX.v]⟩]⟩ w0 fun e w'=>∃ v,e= .returned v/\(∃ x0:SH,∃ x1:SH,∃ x2:SH,v=(.agg ⟨[x0.v,x1.v,x2.v]⟩)/\Hp w0 (hh w0) [Sv 4 51 x0.v ((dW lG aQ 70).map aM),Sv 7 54 x1.v ((dW lF aN 70).map aS),Sv 7 56 x2.v ((dW lE bO 70).map cB)] w'):=by
 have jE:=dT.bd
 have jD:=dY.bd
 have mD:=fG.bd
 refine enter (n:=39) Tryz.func16 rfl rfl rfl fun a (hs:St 39 [(0,.agg ⟨[bG.v,bF.v,bX.v]⟩)] a)=>?_
 have m:=Hp.start w0
 refine bN ?_
 refine dU (cs:=[bG.v,bF.v,bX.v]) hs m rfl rfl rfl fun p1 w2 m a hs=>?_
 refine bZ hs m jL rfl fun p3 w4 m a hs=>?_
 refine bP hs m (x_ eZ (e_ (p_ (cN [bG.v,bF.v,bX.v])) bR)) fun a w_ hs m=>?_
 refine oL m hs a3I (aH1 bG aQ bF aN bX bO _ (m.rd dT) (m.rd dY) (m.rd fG) (by omega) (by omega) (by omega)) fun v5 v6 v7 w8 m a hs=>?_
 simp only[iG] at m
 refine bZ hs m jL rfl fun p9 w10 m a hs=>?_
 refine bP hs m (dZ s0 (t:=lA)) fun a w11 hs m=>?_
 rw[(show aQ=dW lG aQ 0 from aHQ)] at m
 rw[(show aN=dW lF aN 0 from aHQ)] at m
 rw[(show bO=dW lE bO 0 from aHQ)] at m
 refine wp_loop_ghost (fun gn a w=>∃ k:Nat,∃ v12:SH,∃ v13:SH,∃ v14:SH,(k<=70)/\gn=70-k/\St 39 [(2,.pointer (some (bK p3 0))),(3,.pointer (some (bK p9 0))),(4,.int .i64 (k:Int))] a/\Hp w0 (hh w0) [Bx p3 29 [nilH.v,nilH.v,nilH.v],Bx p9 29 [v12.v,v13.v,v14.v],Sv 4 51 v12.v ((dW lG aQ k).map aM),Sv 7 54 v13.v ((dW lF aN k).map aS),Sv 7 56 v14.v ((dW lE bO k).map cB)] w) (70-0) ⟨0,v5,v6,v7,by omega,rfl,hs.to ⟨rfl,rfl,rfl,trivial⟩,m.sub (a4 (a0 (a0 (a0 (a0 .n)))))⟩ ?_
 rintro gn a w18 ⟨k,v12,v13,v14,hk,rfl,hs,m⟩
 have l1:=tL (mk:=lG) (l:=aQ) (k:=k)
 have l2:=tL (mk:=lF) (l:=aN) (k:=k)
 have l3:=tL (mk:=lE) (l:=bO) (k:=k)
 refine bT hs m gX fun a w_ hs m=>?_
 refine aR hs rfl (fun h19=>?_) (fun h19=>?_)
 rotate_left
 ·have h19p:=of_decide_eq_false h19
  refine bT hs m (x_ gX (e_ (p_ (cN [v12.v,v13.v,v14.v])) (dZ s0 (t:=eZ)))) fun a w20 hs m=>?_
  refine bH hs (vs:=[.agg ⟨[v12.v,v13.v,v14.v]⟩]) rfl ⟨cZ (cs:=[v12.v,v13.v,v14.v]) m rfl xH r0 rfl,trivial⟩ ?_
  rw[(show dW lG aQ k=dW lG aQ 70 from aCF (by omega))] at m
  rw[(show dW lF aN k=dW lF aN 70 from aCF (by omega))] at m
  rw[(show dW lE bO k=dW lE bO 70 from aCF (by omega))] at m
  refine⟨_,rfl,v12,v13,v14,?_,m.sub (a2 (a2 (a2 .n)))⟩
  rfl
 have h19p:=of_decide_eq_true h19
 refine bT hs m (x_ hQ (e_ (p_ (lH (r:=201+(k:Int)) rfl zV aFE (lR (by omega) (by omega)))) (e_ (p_ (bW (cs:=aM (⟨(⟨⟨0,rfl⟩,⟨0,rfl⟩⟩:aT),⟨201+(k:Int),lR (by omega) (by omega)⟩,false⟩:bD)) aN1 kK rfl rfl)) bR))) fun a w_ hs m=>?_
 refine dK (c:=aM) (ys:=[(⟨(⟨⟨0,rfl⟩,⟨0,rfl⟩⟩:aT),⟨201+(k:Int),lR (by omega) (by omega)⟩,false⟩:bD)]) hs m eY gG kK rfl rfl rfl rfl rfl (fun _=>rfl) rfl rfl rfl fun v24 w25 m a hs=>?_
 refine cF (c:=aM) (xs:=dW lG aQ k) (ys:=[(⟨(⟨⟨0,rfl⟩,⟨0,rfl⟩⟩:aT),⟨201+(k:Int),lR (by omega) (by omega)⟩,false⟩:bD)]) hs m rfl rfl eY aB6 gG kK rfl qN rfl r3 (m.rdv r0) (fun _=>rfl) (by(simp;omega)) rfl fun v26 w27 m a hs=>?_
 refine bP hs m (x_ eO (dZ s3 (t:=x_ gZ (e_ (p_ (lH (r:=201+(k:Int)) rfl zV aFE (lR (by omega) (by omega)))) (e_ (p_ (bW (cs:=aS (⟨⟨201+(k:Int),lR (by omega) (by omega)⟩,(⟨⟨0,rfl⟩,⟨0,rfl⟩,⟨0,rfl⟩,⟨0,rfl⟩,⟨0,rfl⟩,⟨0,rfl⟩⟩:cK)⟩:bA)) aQ9 lW rfl rfl)) bR))))) fun a w28 hs m=>?_
 refine dK (c:=aS) (ys:=[(⟨⟨201+(k:Int),lR (by omega) (by omega)⟩,(⟨⟨0,rfl⟩,⟨0,rfl⟩,⟨0,rfl⟩,⟨0,rfl⟩,⟨0,rfl⟩,⟨0,rfl⟩⟩:cK)⟩:bA)]) hs m fP gQ lW rfl rfl rfl rfl rfl (fun _=>rfl) rfl rfl rfl fun v29 w30 m a hs=>?_
 refine cF (c:=aS) (xs:=dW lF aN k) (ys:=[(⟨⟨201+(k:Int),lR (by omega) (by omega)⟩,(⟨⟨0,rfl⟩,⟨0,rfl⟩,⟨0,rfl⟩,⟨0,rfl⟩,⟨0,rfl⟩,⟨0,rfl⟩⟩:cK)⟩:bA)]) hs m rfl rfl fP aB7 gQ lW rfl qO rfl r5 (m.rdv r0) (fun _=>rfl) (by(simp;omega)) rfl fun v31 w32 m a hs=>?_
 refine bP hs m (x_ eO (dZ s5 (t:=x_ gZ (e_ (p_ (lH (r:=201+(k:Int)) rfl zV aFE (lR (by omega) (by omega)))) (e_ (p_ (bW (cs:=cB (⟨(⟨⟨0,rfl⟩,⟨0,rfl⟩,⟨0,rfl⟩,⟨0,rfl⟩,⟨0,rfl⟩,⟨0,rfl⟩⟩:cK),⟨201+(k:Int),lR (by omega) (by omega)⟩⟩:cH)) aN2 lS rfl rfl)) bR))))) fun a w33 hs m=>?_
 refine dK (c:=cB) (ys:=[(⟨(⟨⟨0,rfl⟩,⟨0,rfl⟩,⟨0,rfl⟩,⟨0,rfl⟩,⟨0,rfl⟩,⟨0,rfl⟩⟩:cK),⟨201+(k:Int),lR (by omega) (by omega)⟩⟩:cH)]) hs m fQ gS lS rfl rfl rfl rfl rfl (fun _=>rfl) rfl rfl rfl fun v34 w35 m a hs=>?_
 refine cF (c:=cB) (xs:=dW lE bO k) (ys:=[(⟨(⟨⟨0,rfl⟩,⟨0,rfl⟩,⟨0,rfl⟩,⟨0,rfl⟩,⟨0,rfl⟩,⟨0,rfl⟩⟩:cK),⟨201+(k:Int),lR (by omega) (by omega)⟩⟩:cH)]) hs m rfl rfl fQ aB8 gS lS rfl qP rfl r7 (m.rdv r0) (fun _=>rfl) (by(simp;omega)) rfl fun v36 w37 m a hs=>?_
 refine bP hs m (x_ eO (dZ s7 (t:=hQ))) fun a w38 hs m=>?_
 rw[(show (dW lG aQ k)++[(⟨(⟨⟨0,rfl⟩,⟨0,rfl⟩⟩:aT),⟨201+(k:Int),lR (by omega) (by omega)⟩,false⟩:bD)]=dW lG aQ (k+1) from aAG (mk:=lG) (by omega))] at m
 rw[(show (dW lF aN k)++[(⟨⟨201+(k:Int),lR (by omega) (by omega)⟩,(⟨⟨0,rfl⟩,⟨0,rfl⟩,⟨0,rfl⟩,⟨0,rfl⟩,⟨0,rfl⟩,⟨0,rfl⟩⟩:cK)⟩:bA)]=dW lF aN (k+1) from aAG (mk:=lF) (by omega))] at m
 rw[(show (dW lE bO k)++[(⟨(⟨⟨0,rfl⟩,⟨0,rfl⟩,⟨0,rfl⟩,⟨0,rfl⟩,⟨0,rfl⟩,⟨0,rfl⟩⟩:cK),⟨201+(k:Int),lR (by omega) (by omega)⟩⟩:cH)]=dW lE bO (k+1) from aAG (mk:=lE) (by omega))] at m
 exact⟨70-(k+1),by omega,k+1,v26,v31,v36,by omega,rfl,hs.to ⟨rfl,rfl,rfl,trivial⟩,m.sub (a6 (a6 (a4 (a2 (a0 .n)))))⟩
theorem a0O (bG:SH) (aQ:List bD) (bF:SH) (aN:List bA) (bX:SH) (bO:List cH) (w0:World) (dT:RdS (hh w0) 4 bG.v (aQ.map aM)) (dY:RdS (hh w0) 7 bF.v (aN.map aS)) (fG:RdS (hh w0) 7 bX.v (bO.map cB)) (A0:70<=aQ.length) (A1:70<=aN.length) (A2:70<=bO.length):iL Tryz.prog 18 [.agg ⟨[bG.v,bF.v,bX.v]⟩] (.agg ⟨[(kX 4 bG 0 (aQ.length-70) aQ.length).v,(kX 7 bF 0 (aN.length-70) aN.length).v,(kX 7 bX 0 (bO.length-70) bO.length).v]⟩) w0:=by
 have jE:=dT.bd
 have jD:=dY.bd
 have mD:=fG.bd
 refine enter (n:=34) Tryz.func18 rfl rfl rfl fun a (hs:St 34 [(0,.agg ⟨[bG.v,bF.v,bX.v]⟩)] a)=>?_
 have m:=Hp.start w0
 refine bN ?_
 refine dU (cs:=[bG.v,bF.v,bX.v]) hs m rfl rfl rfl fun p1 w2 m a hs=>?_
 refine bZ hs m jL rfl fun p3 w4 m a hs=>?_
 refine wpList_nil (aB ?_)
 refine vK m (a1 .n) fun w5 m=>?_
 refine pA hs (m.sub (a1 .n)) 0 1 2 3 4 5 (h5:=k_ rfl (bQ (m.sub (a1 .n)) rfl eY (dX dT))) (h6:=k_ rfl (qX (r:=((aQ.length-70:Nat):Int)) rfl rfl (by rw[cJ (by omega) (by omega)];omega))) (k:=fun a hs=>?_)
 refine zh3 hs (m.sub (a1 .n)) 6 7 8 (h3:=k_ rfl (bQ (m.sub (a1 .n)) rfl eY (dX dT))) (k:=fun a hs=>?_)
 have hc6:=((m.rd dT)).ncapM
 have hf7:RdS (hh w0) 4 (kX 4 bG 0 (aQ.length-70) aQ.length).v ((aQ.take (aQ.length-70)).map aM):=dT.win (by omega) (by omega) (by omega) (by omega) (by simp)
 refine pA hs (m.sub (a1 .n)) 9 10 11 12 13 14 (h1:=k_ rfl (cE (i:=0) (j:=(aQ.length-70)) (c:=aQ.length) rfl eY gG rfl ⟨_,rfl⟩ ⟨_,rfl⟩ (fun h=>by cases h) (by omega) (by omega) (by omega))) (h6:=k_ rfl (bQ (m.sub (a1 .n)) rfl fP (dX dY))) (k:=fun a hs=>?_)
 refine zh4 hs (m.sub (a1 .n)) 15 16 17 18 (h1:=k_ rfl (qX (r:=((aN.length-70:Nat):Int)) rfl rfl (by rw[cJ (by omega) (by omega)];omega))) (h4:=k_ rfl (bQ (m.sub (a1 .n)) rfl fP (dX dY))) (k:=fun a hs=>?_)
 have hc8:=((m.rd dY)).ncapM
 have hf9:RdS (hh w0) 7 (kX 7 bF 0 (aN.length-70) aN.length).v ((aN.take (aN.length-70)).map aS):=dY.win (by omega) (by omega) (by omega) (by omega) (by simp)
 refine pA hs (m.sub (a1 .n)) 19 20 21 22 23 24 (h1:=k_ rfl (cE (i:=0) (j:=(aN.length-70)) (c:=aN.length) rfl fP gQ rfl ⟨_,rfl⟩ ⟨_,rfl⟩ (fun h=>by cases h) (by omega) (by omega) (by omega))) (h6:=k_ rfl (bQ (m.sub (a1 .n)) rfl fQ (dX fG))) (k:=fun a hs=>?_)
 refine zh4 hs (m.sub (a1 .n)) 25 26 27 28 (h1:=k_ rfl (qX (r:=((bO.length-70:Nat):Int)) rfl rfl (by rw[cJ (by omega) (by omega)];omega))) (h4:=k_ rfl (bQ (m.sub (a1 .n)) rfl fQ (dX fG))) (k:=fun a hs=>?_)
 have hc10:=((m.rd fG)).ncapM
 have hf11:RdS (hh w0) 7 (kX 7 bX 0 (bO.length-70) bO.length).v ((bO.take (bO.length-70)).map cB):=fG.win (by omega) (by omega) (by omega) (by omega) (by simp)
 refine tI hs (m.sub (a1 .n)) 29 30 (h1:=k_ rfl (cE (i:=0) (j:=(bO.length-70)) (c:=bO.length) rfl fQ gS rfl ⟨_,rfl⟩ ⟨_,rfl⟩ (fun h=>by cases h) (by omega) (by omega) (by omega))) (h2:=k_ rfl (bW (cs:=[(kX 4 bG 0 (aQ.length-70) aQ.length).v,(kX 7 bF 0 (aN.length-70) aN.length).v,(kX 7 bX 0 (bO.length-70) bO.length).v]) rI jL rfl rfl)) (k:=fun a hs=>?_)
 refine bU (i:=31) (by kernel_rfl) rfl ?_
 refine bP hs m (dZ s0 (t:=bR)) fun a w12 hs m=>?_
 refine wpList_nil (aB ⟨(m.sub (a1 .n)),?_⟩)
 refine dC (by kernel_rfl) (aB ?_)
 refine wp_ret ?_
 refine bH hs (vs:=[.agg ⟨[(kX 4 bG 0 (aQ.length-70) aQ.length).v,(kX 7 bF 0 (aN.length-70) aN.length).v,(kX 7 bX 0 (bO.length-70) bO.length).v]⟩]) rfl ⟨cZ (cs:=[(kX 4 bG 0 (aQ.length-70) aQ.length).v,(kX 7 bF 0 (aN.length-70) aN.length).v,(kX 7 bX 0 (bO.length-70) bO.length).v]) m rfl xH r0 rfl,trivial⟩ ?_
 refine⟨?_,m.sub .n⟩
 rfl
end Go.Proofs.YtnbpodjbemfpbaaGreat.Fw
set_option linter.all false
set_option maxHeartbeats 4000000
set_option maxRecDepth 100000
namespace Go.Proofs.YtnbpodjbemfpbaaGreat.Fw
open Go
theorem aXS (l:TLease) (qag pag:Addr) (ag:hF) (w0:World) (hqag:CellsAt (hh w0) qag [.pointer (some (bK pag 0))]) (hag:AgR (hh w0) pag ag):iL Tryz.prog 130 [.agg ⟨aV l⟩,.pointer (some (bK qag 0))] (.bool (l.Host.v==ag.self.Host.v)) w0:=by
 refine enter (n:=12) Tryz.func130 rfl rfl rfl fun a (hs:St 12 [(0,.agg ⟨aV l⟩),(1,.pointer (some (bK qag 0)))] a)=>?_
 have m:=Hp.start w0
 have hag0:=hag
 obtain⟨x1,x2,x3,x4,x5,x6,x7,hx8,hx9,hx10,hx11,hx12,hx13,hx14,hx15⟩:=hag0
 have lx2:=hx10.bd
 have lx3:=hx11.bd
 have lx4:=hx12.bd
 have lx5:=hx13.bd
 have lx6:=hx14.bd
 have lx7:=hx15.bd
 refine bN ?_
 refine dU (cs:=aV l) hs m rfl (by kernel_rfl) rfl fun p16 w17 m a hs=>?_
 refine bP hs m eZ fun a w_ hs m=>?_
 refine eE m mo (by kernel_rfl) ?_
 refine kZ hs (k:=fun a hs=>?_)
 refine nG hs (k:=fun a hs=>?_)
 refine wpQuiet_nil fun w18 m=>?_
 refine wp_ret ?_
 refine bH hs (vs:=[.bool (l.Host.v==ag.self.Host.v)]) rfl ⟨rfl,trivial⟩ ?_
 refine⟨?_,m.sub .n⟩
 rfl
theorem aIQ (vx:SH) (x:List TLease) (qag pag:Addr) (ag:hF) (w0:World) (hx:RdS (hh w0) 12 vx.v (x.map aV)) (hqag:CellsAt (hh w0) qag [.pointer (some (bK pag 0))]) (hag:AgR (hh w0) pag ag):iL Tryz.prog 129 [vx.v,.func (.func 130) ⟨[]⟩ ⟨[.pointer (some (bK qag 0))]⟩] (.int .i64 (eU ag.self.Host.v x)) w0:=by
 have lvx:=hx.bd
 refine enter (n:=19) Tryz.func129 rfl rfl rfl fun a (hs:St 19 [(0,vx.v),(1,.func (.func 130) ⟨[]⟩ ⟨[.pointer (some (bK qag 0))]⟩)] a)=>?_
 have m:=Hp.start w0
 have hag0:=hag
 obtain⟨x1,x2,x3,x4,x5,x6,x7,hx8,hx9,hx10,hx11,hx12,hx13,hx14,hx15⟩:=hag0
 have lx2:=hx10.bd
 have lx3:=hx11.bd
 have lx4:=hx12.bd
 have lx5:=hx13.bd
 have lx6:=hx14.bd
 have lx7:=hx15.bd
 refine bT hs m (x_ gZ (e_ (p_ (bQ m rfl eR (dX hx))) gC)) fun a w_ hs m=>?_
 refine wp_loop_ghost (fun gn a w=>∃ k:Nat,(k<=x.length)/\(∀ i,i<k->∀ y,x[i]?=some y->¬ y.Host.v=ag.self.Host.v)/\gn=x.length-k/\St 19 [(0,vx.v),(1,.func (.func 130) ⟨[]⟩ ⟨[.pointer (some (bK qag 0))]⟩),(7,.int .i64 (x.length:Int)),(8,.int .i64 (k:Int))] a/\Hp w0 (hh w0) [] w) (x.length-0) ⟨0,by omega,by(intro i hi;omega),rfl,hs.to ⟨rfl,rfl,rfl,rfl,trivial⟩,m.sub .n⟩ ?_
 rintro gn a w16 ⟨k,hk,hn,rfl,hs,m⟩
 refine bT hs m gI fun a w_ hs m=>?_
 refine aR hs rfl (fun h17=>?_) (fun h17=>?_)
 rotate_left
 ·have h17p:=of_decide_eq_false h17
  refine bT hs m fW fun a w_ hs m=>?_
  refine bH hs (vs:=[.int .i64 (-1)]) rfl ⟨rfl,trivial⟩ ?_
  exact⟨by rw[(show ((-1):Int)=eU ag.self.Host.v x from aI6 hn (by omega))];rfl,m.sub .n⟩
 have h17p:=of_decide_eq_true h17
 refine bT hs m aBW fun a w_ hs m=>?_
 obtain⟨e19,he20⟩:=bI (l:=x) (i:=k) (by omega)
 refine kE (c:=aV) (e:=e19) hs m (x:=(.tmp 12)) (ix:=(.tmp 13)) rfl rfl eR fZ hx (by omega) he20 fun p21 hp22 ok23=>?_
 refine bP hs m (e_ (p_ (ok23 _ _ _ _ _)) (e_ (p_ (cN (aV e19))) bR)) fun a w_ hs m=>?_
 refine cC hs m rfl rfl aZH rfl (aXS e19 qag pag ag _ (aPL hqag _ m) (hag.le m.frame) ) rfl fun w24 m a hs=>?_
 refine wpList_nil (aB ?_)
 refine aR hs rfl (fun h25=>?_) (fun h25=>?_)
 ·have h25p:=eq_of_beq h25
  refine bT hs m mT fun a w_ hs m=>?_
  refine bH hs (vs:=[.int .i64 (k:Int)]) rfl ⟨rfl,trivial⟩ ?_
  exact⟨by rw[(show ((k:Int):Int)=eU ag.self.Host.v x from aMF hn (by assumption) (by assumption))];rfl,m.sub .n⟩
 have h25p:=ne_of_beq_false h25
 refine bT hs m lA fun a w_ hs m=>?_
 exact⟨x.length-(k+1),by omega,k+1,by omega,by exact aI7 hn (by assumption) (by assumption),rfl,hs.to ⟨rfl,rfl,rfl,rfl,trivial⟩,m.sub .n⟩
theorem aI5 (pag:Addr) (ag:hF) (w0:World) (hag:AgR (hh w0) pag ag):iL Tryz.prog 84 [.pointer (some (bK pag 0))] (.int .i64 (eU ag.self.Host.v ag.view)) w0:=by
 refine enter (n:=9) Tryz.func84 rfl rfl rfl fun a (hs:St 9 [(0,.pointer (some (bK pag 0)))] a)=>?_
 have m:=Hp.start w0
 have hag0:=hag
 obtain⟨x1,x2,x3,x4,x5,x6,x7,hx8,hx9,hx10,hx11,hx12,hx13,hx14,hx15⟩:=hag0
 have lx2:=hx10.bd
 have lx3:=hx11.bd
 have lx4:=hx12.bd
 have lx5:=hx13.bd
 have lx6:=hx14.bd
 have lx7:=hx15.bd
 refine bN ?_
 refine dU (cs:=[.pointer (some (bK pag 0))]) hs m rfl rfl rfl fun p16 w17 m a hs=>?_
 refine bP hs m (x_ lA (e_ (p_ (oT (us:=[]) (vs:=[.pointer (some (bK p16 0))]) rfl rfl)) bR)) fun a w_ hs m=>?_
 refine cC hs m rfl rfl aZG rfl (aIQ x6 ag.view p16 pag ag _ (m.rd hx14) (lO r0 _ m) (hag.le m.frame) ) rfl fun w18 m a hs=>?_
 refine bP hs m gC fun a w_ hs m=>?_
 refine bH hs (vs:=[.int .i64 (eU ag.self.Host.v ag.view)]) rfl ⟨rfl,trivial⟩ ?_
 refine⟨?_,m.sub .n⟩
 rfl
theorem aB1 (pag:Addr) (ag:hF) (w0:World) (hag:AgR (hh w0) pag ag) (A0:ag.view.length<=8388608) (A1:ag.Routes.length<=8388608) (A2:ag.Neighs.length<=8388608) (A3:ag.Fdbs.length<=8388608):Calls Tryz.prog 85 ⟨[.pointer (some (bK pag 0))]⟩ w0 fun e w'=>∃ v,e= .returned v/\(∃ x0:SH,v=(x0.v)/\Hp w0 (hh w0) [Sv 19 58 x0.v ((fY ag).map mO)] w'):=by
 refine enter (n:=52) Tryz.func85 rfl rfl rfl fun a (hs:St 52 [(0,.pointer (some (bK pag 0)))] a)=>?_
 have m:=Hp.start w0
 have hag0:=hag
 obtain⟨x1,x2,x3,x4,x5,x6,x7,hx8,hx9,hx10,hx11,hx12,hx13,hx14,hx15⟩:=hag0
 have lx2:=hx10.bd
 have lx3:=hx11.bd
 have lx4:=hx12.bd
 have lx5:=hx13.bd
 have lx6:=hx14.bd
 have lx7:=hx15.bd
 refine bT hs m (x_ aAM (e_ (p_ (bQ m rfl eR (dX hx14))) gC)) fun a w_ hs m=>?_
 replace m:=m.nilSvM aV 12 48
 rw[(show ([]:List TLease)=kO ag.skipped (ag.view.take 0) from aSH)] at m
 refine wp_loop_ghost (fun gn a w=>∃ k:Nat,∃ v16:SH,(k<=ag.view.length)/\gn=ag.view.length-k/\St 52 [(0,.pointer (some (bK pag 0))),(3,v16.v),(13,x6.v),(14,.int .i64 (ag.view.length:Int)),(15,.int .i64 (k:Int))] a/\Hp w0 (hh w0) [Sv 12 48 v16.v ((kO ag.skipped (ag.view.take k)).map aV)] w) (ag.view.length-0) ⟨0,nilH,by omega,rfl,hs.to ⟨rfl,rfl,rfl,rfl,rfl,trivial⟩,m.sub (a0 .n)⟩ ?_
 rintro gn a w19 ⟨k,v16,hk,rfl,hs,m⟩
 have hcp:=aGU ag k
 refine bT hs m gI fun a w_ hs m=>?_
 refine aR hs rfl (fun h20=>?_) (fun h20=>?_)
 rotate_left
 ·have h20p:=of_decide_eq_false h20
  refine wp_exit ?_
  refine eK (eK (lL (?_)))
  refine aB ?_
  refine vK m (a0 .n) fun w21 m=>?_
  refine pA hs (m.sub (a0 .n)) 0 1 2 3 4 5 (h4:=k_ rfl (cN [x3.v,x4.v,x5.v])) (k:=fun a hs=>?_)
  refine zh4 hs (m.sub (a0 .n)) 6 7 8 9 (k:=fun a hs=>?_)
  refine bU (i:=10) (by kernel_rfl) rfl ?_
  refine oL m hs a3A (aXT v16 (kO ag.skipped (ag.view.take k)) ag.self.Host.v _ (m.rdv r0) (by omega)) fun v22 v23 v24 w25 m a hs=>?_
  simp only[iG] at m
  refine wpList_nil (aB ⟨(m.sub (a3 .n)),?_⟩)
  refine bU (i:=11) (by kernel_rfl) rfl ?_
  refine jS m hs a3C (aVU x3 ag.Routes x4 ag.Neighs x5 ag.Fdbs v22 ((nD (kO ag.skipped (ag.view.take k)) ag.self.Host.v).R) v23 ((nD (kO ag.skipped (ag.view.take k)) ag.self.Host.v).N) v24 ((nD (kO ag.skipped (ag.view.take k)) ag.self.Host.v).F) _ (m.rd hx11) (m.rd hx12) (m.rd hx13) (m.rdv r0) (m.rdv r1) (m.rdv r2) (by omega) (by omega) (by omega) (by omega) (by omega) (by omega)) fun v26 w27 m a hs=>?_
  simp only[iG] at m
  refine wpList_nil (aB ⟨(m.sub (a4 .n)),?_⟩)
  refine zh5 hs (m.sub (a4 .n)) 12 13 14 15 16 (k:=fun a hs=>?_)
  refine dC (by kernel_rfl) (aB ?_)
  refine bT hs m gX fun a w_ hs m=>?_
  refine bH hs (vs:=[v26.v]) rfl ⟨rfl,trivial⟩ ?_
  rw[(show xC ag.Routes ag.Neighs ag.Fdbs ((nD (kO ag.skipped (ag.view.take k)) ag.self.Host.v).R) ((nD (kO ag.skipped (ag.view.take k)) ag.self.Host.v).N) ((nD (kO ag.skipped (ag.view.take k)) ag.self.Host.v).F)=fY ag from aIF (by omega))] at m
  refine⟨_,rfl,v26,?_,m.sub (a0 .n)⟩
  rfl
 have h20p:=of_decide_eq_true h20
 refine wp_skip ?_
 refine aB ?_
 refine dG ?_
 refine wp_block ?_
 refine bN ?_
 obtain⟨e29,he30⟩:=bI (l:=ag.view) (i:=k) (by omega)
 refine kE (c:=aV) (e:=e29) hs m (x:=(.tmp 13)) (ix:=(.tmp 15)) rfl rfl eR fZ hx14 (by omega) he30 fun p31 hp32 ok33=>?_
 refine bP hs m (e_ (p_ (ok33 _ _ _ _ _)) (e_ (p_ (cN (aV e29))) bR)) fun a w_ hs m=>?_
 refine bZ hs m mY rfl fun p34 w35 m a hs=>?_
 refine bP hs m (dZ s0 (t:=iA)) fun a w36 hs m=>?_
 refine eE m mo (by kernel_rfl) ?_
 refine kZ hs (h6:=q_ (cN (aO e29.Subnet))) (k:=fun a hs=>?_)
 refine mL hs rfl rfl aO1 rfl (fun w m=>zQ x7 ag.skipped e29.Subnet w (m.rd hx15) ) rfl fun a hs=>?_
 refine xD hs (k:=fun a hs=>?_)
 refine wpQuiet_nil fun w37 m=>?_
 refine bT hs m gI fun a w_ hs m=>?_
 refine aR hs rfl (fun h38=>?_) (fun h38=>?_)
 ·have h38p:=h38;simp only[fK] at h38p
  refine bT hs m (x_ iA (e_ (p_ (cN (aV e29))) bR)) fun a w_ hs m=>?_
  refine dK (c:=aV) (ys:=[e29]) hs m eR fZ mY rfl rfl rfl rfl rfl (fun _=>rfl) rfl rfl rfl fun v39 w40 m a hs=>?_
  refine cF (c:=aV) (xs:=kO ag.skipped (ag.view.take k)) (ys:=[e29]) hs m rfl rfl eR xF fZ mY rfl vN rfl r2 (m.rdv r0) (fun _=>rfl) (by(simp;omega)) rfl fun v41 w42 m a hs=>?_
  refine bP hs m hQ fun a w_ hs m=>?_
  rw[(show (kO ag.skipped (ag.view.take k))++[e29]=kO ag.skipped (ag.view.take (k+1)) from aSJ (by assumption) (by assumption))] at m
  exact⟨ag.view.length-(k+1),by omega,k+1,v41,by omega,rfl,hs.to ⟨rfl,rfl,rfl,rfl,rfl,trivial⟩,m.sub (a0 .n)⟩
 have h38p:=h38;simp only[fK] at h38p
 refine bT hs m lA fun a w_ hs m=>?_
 rw[(show kO ag.skipped (ag.view.take k)=kO ag.skipped (ag.view.take (k+1)) from aSI (by assumption) (by assumption))] at m
 exact⟨ag.view.length-(k+1),by omega,k+1,v16,by omega,rfl,hs.to ⟨rfl,rfl,rfl,rfl,rfl,trivial⟩,m.sub (a1 .n)⟩
end Go.Proofs.YtnbpodjbemfpbaaGreat.Fw
set_option linter.all false
set_option maxHeartbeats 4000000
set_option maxRecDepth 100000
namespace Go.Proofs.YtnbpodjbemfpbaaGreat.Fw
open Go
theorem aOQ (x:Int) (y:Int) (w0:World):iL Tryz.prog 117 [.int .i64 x,.int .i64 y] (.int .i64 (jR x y)) w0:=by
 refine enter (n:=32) Tryz.func117 rfl rfl rfl fun a (hs:St 32 [(0,.int .i64 x),(1,.int .i64 y)] a)=>?_
 have m:=Hp.start w0
 refine bT hs m (x_ gZ (e_ (p_ (fA (r:=IntKind.i64.wrap (x+y)) rfl rfl rfl)) hQ)) fun a w_ hs m=>?_
 refine jO (.c (.c (.c (.n)))) hs m 15 (decide (x>0)) (.bool ((decide (x>0))&&(decide (y>0)))) ?_
 rintro a w2 ⟨hs,m⟩
 refine bP hs m eO fun a w_ hs m=>?_
 refine jO (.c (.c (.c (.n)))) hs m 19 ((decide (x>0))&&(decide (y>0))) (.bool (((decide (x>0))&&(decide (y>0)))&&(decide ((IntKind.i64.wrap (x+y))<0)))) ?_
 rintro a w4 ⟨hs,m⟩
 refine bP hs m eZ fun a w_ hs m=>?_
 refine aR hs rfl (fun h5=>?_) (fun h5=>?_)
 ·have h5p:=h5;simp only[fK] at h5p
  refine bT hs m gZ fun a w_ hs m=>?_
  refine bH hs (vs:=[.int .i64 9223372036854775807]) rfl ⟨rfl,trivial⟩ ?_
  exact⟨by rw[(show (9223372036854775807:Int)=jR x y by(simp only[jR, *];rfl))];rfl,m.sub .n⟩
 have h5p:=h5;simp only[fK] at h5p
 refine bT hs m gC fun a w_ hs m=>?_
 refine jO (.c (.c (.c (.n)))) hs m 26 (decide (x<0)) (.bool ((decide (x<0))&&(decide (y<0)))) ?_
 rintro a w8 ⟨hs,m⟩
 refine bP hs m eO fun a w_ hs m=>?_
 refine jO (.c (.c (.c (.n)))) hs m 30 ((decide (x<0))&&(decide (y<0))) (.bool (((decide (x<0))&&(decide (y<0)))&&(decide ((IntKind.i64.wrap (x+y))>=0)))) ?_
 rintro a w10 ⟨hs,m⟩
 refine bP hs m eZ fun a w_ hs m=>?_
 refine aR hs rfl (fun h11=>?_) (fun h11=>?_)
 ·have h11p:=h11;simp only[fK] at h11p
  refine bT hs m gZ fun a w_ hs m=>?_
  refine bH hs (vs:=[.int .i64 (-9223372036854775808)]) rfl ⟨rfl,trivial⟩ ?_
  exact⟨by rw[(show ((-9223372036854775808):Int)=jR x y by(simp only[jR, *];rfl))];rfl,m.sub .n⟩
 have h11p:=h11;simp only[fK] at h11p
 refine bT hs m hQ fun a w_ hs m=>?_
 refine bH hs (vs:=[.int .i64 (IntKind.i64.wrap (x+y))]) rfl ⟨rfl,trivial⟩ ?_
 exact⟨by rw[(show (IntKind.i64.wrap (x+y):Int)=jR x y by(simp only[jR, *];rfl))];rfl,m.sub .n⟩
theorem aM1 (pag:Addr) (ag:hF) (now:Int) (w0:World) (hag:AgR (hh w0) pag ag):iL Tryz.prog 74 [.pointer (some (bK pag 0)),.int .i64 now] (.tuple ⟨[.agg ⟨eS (rM ag)⟩,.bool (pB ag)]⟩) w0:=by
 have hol:=tC (h:=ag.self.Host.v) (l:=ag.view)
 refine enter (n:=83) Tryz.func74 rfl rfl rfl fun a (hs:St 83 [(0,.pointer (some (bK pag 0))),(1,.int .i64 now)] a)=>?_
 have m:=Hp.start w0
 have hag0:=hag
 obtain⟨x1,x2,x3,x4,x5,x6,x7,hx8,hx9,hx10,hx11,hx12,hx13,hx14,hx15⟩:=hag0
 have lx2:=hx10.bd
 have lx3:=hx11.bd
 have lx4:=hx12.bd
 have lx5:=hx13.bd
 have lx6:=hx14.bd
 have lx7:=hx15.bd
 refine bN ?_
 refine bZ hs m nC rfl fun p16 w17 m a hs=>?_
 refine bP hs m gX fun a w_ hs m=>?_
 refine cC hs m rfl rfl aO6 rfl (aI5 pag ag _ (hag.le m.frame) ) rfl fun w18 m a hs=>?_
 refine bP hs m eZ fun a w_ hs m=>?_
 refine eE m mo (by kernel_rfl) ?_
 refine nG hs (k:=fun a hs=>?_)
 rcases Bool.eq_false_or_eq_true (decide ((eU ag.self.Host.v ag.view)>=0)) with hb19|hb19
 ·have hb19p:=of_decide_eq_true hb19
  refine xD hs (k:=fun a hs=>?_)
  obtain⟨e20,he21⟩:=bI (l:=ag.view) (i:=(eU ag.self.Host.v ag.view).toNat) (by omega)
  refine kE (c:=aV) (e:=e20) hs m (x:=(.tmp 16)) (ix:=(.tmp 17)) rfl rfl eR fZ hx14 (by omega) he21 fun p22 hp23 ok24=>?_
  refine kZ hs (h1:=kW hb19 (ok24 _ _ _ _ _)) (k:=fun a hs=>?_)
  refine xD hs (h4:=q_ (aP (r:=.bool (e20.Pub.v==ag.self.Pub.v)) rfl rfl rfl (by rw[hb19];rfl))) (k:=fun a hs=>?_)
  rcases Bool.eq_false_or_eq_true (e20.Pub.v==ag.self.Pub.v) with hb25|hb25
  ·have hb25p:=eq_of_beq hb25
   refine xD hs (k:=fun a hs=>?_)
   refine kE (c:=aV) (e:=e20) hs m (x:=(.tmp 32)) (ix:=(.tmp 33)) rfl rfl eR fZ hx14 (by omega) he21 fun p26 hp27 ok28=>?_
   refine kZ hs (h1:=kW hb25 (ok28 _ _ _ _ _)) (h3:=kW hb25 (cN (mU e20.MAC))) (k:=fun a hs=>?_)
   refine vJ hs (h2:=kW hb25 (cN (mU ag.self.MAC))) (h3:=kW hb25 (mP (b:=decide (e20.MAC=ag.self.MAC)) rfl rfl aDZ (aAX _) (aAX _) (aKQ e20.MAC ag.self.MAC))) (h4:=q_ (aP (r:=.bool (decide (e20.MAC=ag.self.MAC))) rfl rfl rfl (by rw[hb25];rfl))) (k:=fun a hs=>?_)
   refine wpQuiet_nil fun w29 m=>?_
   refine aR hs rfl (fun h30=>?_) (fun h30=>?_)
   ·have h30p:=of_decide_eq_true h30
    refine bT hs m (x_ eO (e_ (p_ (bW (cs:=eS nB) sU nC rfl (by kernel_rfl))) (dZ s0 (t:=gI)))) fun a w31 hs m=>?_
    refine bH hs (vs:=[.agg ⟨eS nB⟩,.bool false]) rfl ⟨cZ (cs:=eS nB) m rfl pX r0 rfl,rfl,trivial⟩ ?_
    refine⟨?_,m.sub .n⟩
    have q32:(nB:eH)=rM ag:=by clear hs m;exact aU2 (aP7 (by assumption) (by assumption) (by assumption) (by assumption))
    have q33:(false:Bool)=pB ag:=by clear hs m;exact aU1 (aP7 (by assumption) (by assumption) (by assumption) (by assumption))
    (rw[q32,q33];rfl)
   have h30p:=of_decide_eq_false h30
   refine wp_skip ?_
   refine aB ?_
   refine vK m (a0 .n) fun w34 m=>?_
   refine pA hs (m.sub (a0 .n)) 0 1 2 3 4 5 (k:=fun a hs=>?_)
   refine pA hs (m.sub (a0 .n)) 6 7 8 9 10 11 (h3:=k_ rfl (cN (aO ag.wish))) (k:=fun a hs=>?_)
   refine pA hs (m.sub (a0 .n)) 12 13 14 15 16 17 (k:=fun a hs=>?_)
   refine tI hs (m.sub (a0 .n)) 18 19 (h1:=k_ rfl (cN (mU ag.self.MAC))) (h2:=k_ rfl (bW (cs:=aDO (⟨⟨1,rfl⟩,ag.self.Host,ag.wish,ag.self.Pub,ag.self.MAC,⟨0,rfl⟩⟩:lT)) aN3 aFK rfl (by kernel_rfl))) (k:=fun a hs=>?_)
   refine bU (i:=20) (by kernel_rfl) rfl ?_
   refine bZ hs m aFK rfl fun p35 w36 m a hs=>?_
   refine wpList_nil (aB ⟨(m.sub (a1 .n)),?_⟩)
   refine bU (i:=21) (by kernel_rfl) rfl ?_
   refine bP hs m (dZ s0 (t:=bR)) fun a w37 hs m=>?_
   refine wpList_nil (aB ⟨(m.sub (a1 .n)),?_⟩)
   refine dC (by kernel_rfl) (aB ?_)
   refine vK m (a0 .n) fun w38 m=>?_
   refine pA hs (m.sub (a0 .n)) 0 1 2 3 4 5 (h1:=k_ rfl (cN (aDO (⟨⟨1,rfl⟩,ag.self.Host,ag.wish,ag.self.Pub,ag.self.MAC,⟨0,rfl⟩⟩:lT)))) (h2:=k_ rfl (bW (cs:=eS (⟨⟨4,rfl⟩,(⟨⟨1,rfl⟩,ag.self.Host,ag.wish,ag.self.Pub,ag.self.MAC,⟨0,rfl⟩⟩:lT),mM,⟨0,rfl⟩,⟨0,rfl⟩⟩:eH)) sU nC rfl (by kernel_rfl))) (k:=fun a hs=>?_)
   refine pA hs (m.sub (a0 .n)) 6 7 8 9 10 11 (k:=fun a hs=>?_)
   rcases Bool.eq_false_or_eq_true (decide (ag.cursor.v>=ag.granted.v)) with hb39|hb39
   ·have hb39p:=of_decide_eq_true hb39
    refine pA hs (m.sub (a0 .n)) 12 13 14 15 16 17 (h6:=k_ rfl (aP (r:=.bool (!ag.waiting)) rfl rfl rfl (by rw[hb39];rfl))) (k:=fun a hs=>?_)
    refine bU (i:=18) (by kernel_rfl) rfl ?_
    refine bP hs m (dZ s1 (t:=bR)) fun a w40 hs m=>?_
    refine wpList_nil (aB ⟨(m.sub (a0 .n)),?_⟩)
    refine kY hs (m.sub (a0 .n)) 19 (k:=fun a hs=>?_)
    refine dC (by kernel_rfl) (aB ?_)
    refine wp_ret ?_
    refine bH hs (vs:=[.agg ⟨eS (⟨⟨4,rfl⟩,(⟨⟨1,rfl⟩,ag.self.Host,ag.wish,ag.self.Pub,ag.self.MAC,⟨0,rfl⟩⟩:lT),mM,⟨0,rfl⟩,⟨0,rfl⟩⟩:eH)⟩,.bool (!ag.waiting)]) rfl ⟨cZ (cs:=eS (⟨⟨4,rfl⟩,(⟨⟨1,rfl⟩,ag.self.Host,ag.wish,ag.self.Pub,ag.self.MAC,⟨0,rfl⟩⟩:lT),mM,⟨0,rfl⟩,⟨0,rfl⟩⟩:eH)) m rfl pX r1 rfl,rfl,trivial⟩ ?_
    refine⟨?_,m.sub .n⟩
    have q41:((⟨⟨4,rfl⟩,(⟨⟨1,rfl⟩,ag.self.Host,ag.wish,ag.self.Pub,ag.self.MAC,⟨0,rfl⟩⟩:lT),mM,⟨0,rfl⟩,⟨0,rfl⟩⟩:eH):eH)=rM ag:=by clear hs m;exact zP (aDB (by assumption) (by assumption))
    have q42:(!ag.waiting:Bool)=pB ag:=by clear hs m;exact aKA (aDB (by assumption) (by assumption)) (by assumption)
    (rw[q41,q42];rfl)
   ·have hb39p:=of_decide_eq_false hb39
    refine pA hs (m.sub (a0 .n)) 12 13 14 15 16 17 (h6:=k_ rfl (aP (r:=.bool false) rfl rfl rfl (by rw[hb39];rfl))) (k:=fun a hs=>?_)
    refine bU (i:=18) (by kernel_rfl) rfl ?_
    refine bP hs m (dZ s1 (t:=bR)) fun a w43 hs m=>?_
    refine wpList_nil (aB ⟨(m.sub (a0 .n)),?_⟩)
    refine kY hs (m.sub (a0 .n)) 19 (k:=fun a hs=>?_)
    refine dC (by kernel_rfl) (aB ?_)
    refine wp_ret ?_
    refine bH hs (vs:=[.agg ⟨eS (⟨⟨4,rfl⟩,(⟨⟨1,rfl⟩,ag.self.Host,ag.wish,ag.self.Pub,ag.self.MAC,⟨0,rfl⟩⟩:lT),mM,⟨0,rfl⟩,⟨0,rfl⟩⟩:eH)⟩,.bool false]) rfl ⟨cZ (cs:=eS (⟨⟨4,rfl⟩,(⟨⟨1,rfl⟩,ag.self.Host,ag.wish,ag.self.Pub,ag.self.MAC,⟨0,rfl⟩⟩:lT),mM,⟨0,rfl⟩,⟨0,rfl⟩⟩:eH)) m rfl pX r1 rfl,rfl,trivial⟩ ?_
    refine⟨?_,m.sub .n⟩
    have q44:((⟨⟨4,rfl⟩,(⟨⟨1,rfl⟩,ag.self.Host,ag.wish,ag.self.Pub,ag.self.MAC,⟨0,rfl⟩⟩:lT),mM,⟨0,rfl⟩,⟨0,rfl⟩⟩:eH):eH)=rM ag:=by clear hs m;exact zP (aDB (by assumption) (by assumption))
    have q45:(false:Bool)=pB ag:=by clear hs m;exact aJ9 (aDB (by assumption) (by assumption)) (by assumption)
    (rw[q44,q45];rfl)
  ·have hb25p:=ne_of_beq_false hb25
   refine kZ hs (k:=fun a hs=>?_)
   refine kZ hs (k:=fun a hs=>?_)
   refine nG hs (h3:=q_ (aP (r:=.bool false) rfl rfl rfl (by rw[hb25];rfl))) (k:=fun a hs=>?_)
   refine wpQuiet_nil fun w46 m=>?_
   refine bV hs rfl rfl ?_
   refine wp_skip ?_
   refine aB ?_
   refine vK m (a0 .n) fun w48 m=>?_
   refine pA hs (m.sub (a0 .n)) 0 1 2 3 4 5 (k:=fun a hs=>?_)
   refine pA hs (m.sub (a0 .n)) 6 7 8 9 10 11 (h3:=k_ rfl (cN (aO ag.wish))) (k:=fun a hs=>?_)
   refine pA hs (m.sub (a0 .n)) 12 13 14 15 16 17 (k:=fun a hs=>?_)
   refine tI hs (m.sub (a0 .n)) 18 19 (h1:=k_ rfl (cN (mU ag.self.MAC))) (h2:=k_ rfl (bW (cs:=aDO (⟨⟨1,rfl⟩,ag.self.Host,ag.wish,ag.self.Pub,ag.self.MAC,⟨0,rfl⟩⟩:lT)) aN3 aFK rfl (by kernel_rfl))) (k:=fun a hs=>?_)
   refine bU (i:=20) (by kernel_rfl) rfl ?_
   refine bZ hs m aFK rfl fun p49 w50 m a hs=>?_
   refine wpList_nil (aB ⟨(m.sub (a1 .n)),?_⟩)
   refine bU (i:=21) (by kernel_rfl) rfl ?_
   refine bP hs m (dZ s0 (t:=bR)) fun a w51 hs m=>?_
   refine wpList_nil (aB ⟨(m.sub (a1 .n)),?_⟩)
   refine dC (by kernel_rfl) (aB ?_)
   refine vK m (a0 .n) fun w52 m=>?_
   refine pA hs (m.sub (a0 .n)) 0 1 2 3 4 5 (h1:=k_ rfl (cN (aDO (⟨⟨1,rfl⟩,ag.self.Host,ag.wish,ag.self.Pub,ag.self.MAC,⟨0,rfl⟩⟩:lT)))) (h2:=k_ rfl (bW (cs:=eS (⟨⟨4,rfl⟩,(⟨⟨1,rfl⟩,ag.self.Host,ag.wish,ag.self.Pub,ag.self.MAC,⟨0,rfl⟩⟩:lT),mM,⟨0,rfl⟩,⟨0,rfl⟩⟩:eH)) sU nC rfl (by kernel_rfl))) (k:=fun a hs=>?_)
   refine pA hs (m.sub (a0 .n)) 6 7 8 9 10 11 (k:=fun a hs=>?_)
   rcases Bool.eq_false_or_eq_true (decide (ag.cursor.v>=ag.granted.v)) with hb53|hb53
   ·have hb53p:=of_decide_eq_true hb53
    refine pA hs (m.sub (a0 .n)) 12 13 14 15 16 17 (h6:=k_ rfl (aP (r:=.bool (!ag.waiting)) rfl rfl rfl (by rw[hb53];rfl))) (k:=fun a hs=>?_)
    refine bU (i:=18) (by kernel_rfl) rfl ?_
    refine bP hs m (dZ s1 (t:=bR)) fun a w54 hs m=>?_
    refine wpList_nil (aB ⟨(m.sub (a0 .n)),?_⟩)
    refine kY hs (m.sub (a0 .n)) 19 (k:=fun a hs=>?_)
    refine dC (by kernel_rfl) (aB ?_)
    refine wp_ret ?_
    refine bH hs (vs:=[.agg ⟨eS (⟨⟨4,rfl⟩,(⟨⟨1,rfl⟩,ag.self.Host,ag.wish,ag.self.Pub,ag.self.MAC,⟨0,rfl⟩⟩:lT),mM,⟨0,rfl⟩,⟨0,rfl⟩⟩:eH)⟩,.bool (!ag.waiting)]) rfl ⟨cZ (cs:=eS (⟨⟨4,rfl⟩,(⟨⟨1,rfl⟩,ag.self.Host,ag.wish,ag.self.Pub,ag.self.MAC,⟨0,rfl⟩⟩:lT),mM,⟨0,rfl⟩,⟨0,rfl⟩⟩:eH)) m rfl pX r1 rfl,rfl,trivial⟩ ?_
    refine⟨?_,m.sub .n⟩
    have q55:((⟨⟨4,rfl⟩,(⟨⟨1,rfl⟩,ag.self.Host,ag.wish,ag.self.Pub,ag.self.MAC,⟨0,rfl⟩⟩:lT),mM,⟨0,rfl⟩,⟨0,rfl⟩⟩:eH):eH)=rM ag:=by clear hs m;exact zP (aBF (by assumption) (by assumption))
    have q56:(!ag.waiting:Bool)=pB ag:=by clear hs m;exact aKA (aBF (by assumption) (by assumption)) (by assumption)
    (rw[q55,q56];rfl)
   ·have hb53p:=of_decide_eq_false hb53
    refine pA hs (m.sub (a0 .n)) 12 13 14 15 16 17 (h6:=k_ rfl (aP (r:=.bool false) rfl rfl rfl (by rw[hb53];rfl))) (k:=fun a hs=>?_)
    refine bU (i:=18) (by kernel_rfl) rfl ?_
    refine bP hs m (dZ s1 (t:=bR)) fun a w57 hs m=>?_
    refine wpList_nil (aB ⟨(m.sub (a0 .n)),?_⟩)
    refine kY hs (m.sub (a0 .n)) 19 (k:=fun a hs=>?_)
    refine dC (by kernel_rfl) (aB ?_)
    refine wp_ret ?_
    refine bH hs (vs:=[.agg ⟨eS (⟨⟨4,rfl⟩,(⟨⟨1,rfl⟩,ag.self.Host,ag.wish,ag.self.Pub,ag.self.MAC,⟨0,rfl⟩⟩:lT),mM,⟨0,rfl⟩,⟨0,rfl⟩⟩:eH)⟩,.bool false]) rfl ⟨cZ (cs:=eS (⟨⟨4,rfl⟩,(⟨⟨1,rfl⟩,ag.self.Host,ag.wish,ag.self.Pub,ag.self.MAC,⟨0,rfl⟩⟩:lT),mM,⟨0,rfl⟩,⟨0,rfl⟩⟩:eH)) m rfl pX r1 rfl,rfl,trivial⟩ ?_
    refine⟨?_,m.sub .n⟩
    have q58:((⟨⟨4,rfl⟩,(⟨⟨1,rfl⟩,ag.self.Host,ag.wish,ag.self.Pub,ag.self.MAC,⟨0,rfl⟩⟩:lT),mM,⟨0,rfl⟩,⟨0,rfl⟩⟩:eH):eH)=rM ag:=by clear hs m;exact zP (aBF (by assumption) (by assumption))
    have q59:(false:Bool)=pB ag:=by clear hs m;exact aJ9 (aBF (by assumption) (by assumption)) (by assumption)
    (rw[q58,q59];rfl)
 ·have hb19p:=of_decide_eq_false hb19
  refine kZ hs (k:=fun a hs=>?_)
  refine kZ hs (k:=fun a hs=>?_)
  refine kZ hs (h3:=q_ (aP (r:=.bool false) rfl rfl rfl (by rw[hb19];rfl))) (h5:=yX rfl) (h6:=yX rfl) (k:=fun a hs=>?_)
  refine kZ hs (h1:=yX rfl) (h2:=yX rfl) (h3:=yX rfl) (h4:=yX rfl) (h5:=yX rfl) (h6:=yX rfl) (k:=fun a hs=>?_)
  refine kZ hs (h1:=yX rfl) (h2:=yX rfl) (h3:=yX rfl) (h4:=yX rfl) (h5:=yX rfl) (h6:=yX rfl) (k:=fun a hs=>?_)
  refine uZ hs (h1:=q_ (aP (r:=.bool false) rfl rfl rfl rfl)) (k:=fun a hs=>?_)
  refine wpQuiet_nil fun w60 m=>?_
  refine bV hs rfl rfl ?_
  refine wp_skip ?_
  refine aB ?_
  refine vK m (a0 .n) fun w62 m=>?_
  refine pA hs (m.sub (a0 .n)) 0 1 2 3 4 5 (k:=fun a hs=>?_)
  refine pA hs (m.sub (a0 .n)) 6 7 8 9 10 11 (h3:=k_ rfl (cN (aO ag.wish))) (k:=fun a hs=>?_)
  refine pA hs (m.sub (a0 .n)) 12 13 14 15 16 17 (k:=fun a hs=>?_)
  refine tI hs (m.sub (a0 .n)) 18 19 (h1:=k_ rfl (cN (mU ag.self.MAC))) (h2:=k_ rfl (bW (cs:=aDO (⟨⟨1,rfl⟩,ag.self.Host,ag.wish,ag.self.Pub,ag.self.MAC,⟨0,rfl⟩⟩:lT)) aN3 aFK rfl (by kernel_rfl))) (k:=fun a hs=>?_)
  refine bU (i:=20) (by kernel_rfl) rfl ?_
  refine bZ hs m aFK rfl fun p63 w64 m a hs=>?_
  refine wpList_nil (aB ⟨(m.sub (a1 .n)),?_⟩)
  refine bU (i:=21) (by kernel_rfl) rfl ?_
  refine bP hs m (dZ s0 (t:=bR)) fun a w65 hs m=>?_
  refine wpList_nil (aB ⟨(m.sub (a1 .n)),?_⟩)
  refine dC (by kernel_rfl) (aB ?_)
  refine vK m (a0 .n) fun w66 m=>?_
  refine pA hs (m.sub (a0 .n)) 0 1 2 3 4 5 (h1:=k_ rfl (cN (aDO (⟨⟨1,rfl⟩,ag.self.Host,ag.wish,ag.self.Pub,ag.self.MAC,⟨0,rfl⟩⟩:lT)))) (h2:=k_ rfl (bW (cs:=eS (⟨⟨4,rfl⟩,(⟨⟨1,rfl⟩,ag.self.Host,ag.wish,ag.self.Pub,ag.self.MAC,⟨0,rfl⟩⟩:lT),mM,⟨0,rfl⟩,⟨0,rfl⟩⟩:eH)) sU nC rfl (by kernel_rfl))) (k:=fun a hs=>?_)
  refine pA hs (m.sub (a0 .n)) 6 7 8 9 10 11 (k:=fun a hs=>?_)
  rcases Bool.eq_false_or_eq_true (decide (ag.cursor.v>=ag.granted.v)) with hb67|hb67
  ·have hb67p:=of_decide_eq_true hb67
   refine pA hs (m.sub (a0 .n)) 12 13 14 15 16 17 (h6:=k_ rfl (aP (r:=.bool (!ag.waiting)) rfl rfl rfl (by rw[hb67];rfl))) (k:=fun a hs=>?_)
   refine bU (i:=18) (by kernel_rfl) rfl ?_
   refine bP hs m (dZ s1 (t:=bR)) fun a w68 hs m=>?_
   refine wpList_nil (aB ⟨(m.sub (a0 .n)),?_⟩)
   refine kY hs (m.sub (a0 .n)) 19 (k:=fun a hs=>?_)
   refine dC (by kernel_rfl) (aB ?_)
   refine wp_ret ?_
   refine bH hs (vs:=[.agg ⟨eS (⟨⟨4,rfl⟩,(⟨⟨1,rfl⟩,ag.self.Host,ag.wish,ag.self.Pub,ag.self.MAC,⟨0,rfl⟩⟩:lT),mM,⟨0,rfl⟩,⟨0,rfl⟩⟩:eH)⟩,.bool (!ag.waiting)]) rfl ⟨cZ (cs:=eS (⟨⟨4,rfl⟩,(⟨⟨1,rfl⟩,ag.self.Host,ag.wish,ag.self.Pub,ag.self.MAC,⟨0,rfl⟩⟩:lT),mM,⟨0,rfl⟩,⟨0,rfl⟩⟩:eH)) m rfl pX r1 rfl,rfl,trivial⟩ ?_
   refine⟨?_,m.sub .n⟩
   have q69:((⟨⟨4,rfl⟩,(⟨⟨1,rfl⟩,ag.self.Host,ag.wish,ag.self.Pub,ag.self.MAC,⟨0,rfl⟩⟩:lT),mM,⟨0,rfl⟩,⟨0,rfl⟩⟩:eH):eH)=rM ag:=by clear hs m;exact zP (aBE (by omega))
   have q70:(!ag.waiting:Bool)=pB ag:=by clear hs m;exact aKA (aBE (by omega)) (by assumption)
   (rw[q69,q70];rfl)
  ·have hb67p:=of_decide_eq_false hb67
   refine pA hs (m.sub (a0 .n)) 12 13 14 15 16 17 (h6:=k_ rfl (aP (r:=.bool false) rfl rfl rfl (by rw[hb67];rfl))) (k:=fun a hs=>?_)
   refine bU (i:=18) (by kernel_rfl) rfl ?_
   refine bP hs m (dZ s1 (t:=bR)) fun a w71 hs m=>?_
   refine wpList_nil (aB ⟨(m.sub (a0 .n)),?_⟩)
   refine kY hs (m.sub (a0 .n)) 19 (k:=fun a hs=>?_)
   refine dC (by kernel_rfl) (aB ?_)
   refine wp_ret ?_
   refine bH hs (vs:=[.agg ⟨eS (⟨⟨4,rfl⟩,(⟨⟨1,rfl⟩,ag.self.Host,ag.wish,ag.self.Pub,ag.self.MAC,⟨0,rfl⟩⟩:lT),mM,⟨0,rfl⟩,⟨0,rfl⟩⟩:eH)⟩,.bool false]) rfl ⟨cZ (cs:=eS (⟨⟨4,rfl⟩,(⟨⟨1,rfl⟩,ag.self.Host,ag.wish,ag.self.Pub,ag.self.MAC,⟨0,rfl⟩⟩:lT),mM,⟨0,rfl⟩,⟨0,rfl⟩⟩:eH)) m rfl pX r1 rfl,rfl,trivial⟩ ?_
   refine⟨?_,m.sub .n⟩
   have q72:((⟨⟨4,rfl⟩,(⟨⟨1,rfl⟩,ag.self.Host,ag.wish,ag.self.Pub,ag.self.MAC,⟨0,rfl⟩⟩:lT),mM,⟨0,rfl⟩,⟨0,rfl⟩⟩:eH):eH)=rM ag:=by clear hs m;exact zP (aBE (by omega))
   have q73:(false:Bool)=pB ag:=by clear hs m;exact aJ9 (aBE (by omega)) (by assumption)
   (rw[q72,q73];rfl)
theorem aS7 (pag:Addr) (ag:hF) (now:Int) (w0:World) (hag:AgR (hh w0) pag ag):iL Tryz.prog 75 [.pointer (some (bK pag 0)),.int .i64 now] (.tuple ⟨[.agg ⟨eS (uD ag)⟩,.bool (tD ag now)]⟩) w0:=by
 have hol:=tC (h:=ag.self.Host.v) (l:=ag.view)
 refine enter (n:=53) Tryz.func75 rfl rfl rfl fun a (hs:St 53 [(0,.pointer (some (bK pag 0))),(1,.int .i64 now)] a)=>?_
 have m:=Hp.start w0
 have hag0:=hag
 obtain⟨x1,x2,x3,x4,x5,x6,x7,hx8,hx9,hx10,hx11,hx12,hx13,hx14,hx15⟩:=hag0
 have lx2:=hx10.bd
 have lx3:=hx11.bd
 have lx4:=hx12.bd
 have lx5:=hx13.bd
 have lx6:=hx14.bd
 have lx7:=hx15.bd
 refine bN ?_
 refine bZ hs m nC rfl fun p16 w17 m a hs=>?_
 refine bP hs m gI fun a w_ hs m=>?_
 refine cC hs m rfl rfl aO6 rfl (aI5 pag ag _ (hag.le m.frame) ) rfl fun w18 m a hs=>?_
 refine bP hs m lA fun a w_ hs m=>?_
 refine jO (.c (.c (.c (.c (.c (.n)))))) hs m 18 (decide ((eU ag.self.Host.v ag.view)<0)) (.bool ((decide ((eU ag.self.Host.v ag.view)<0)) || ag.renewed)) ?_
 rintro a w20 ⟨hs,m⟩
 refine wpList_nil (aB ?_)
 refine aR hs rfl (fun h21=>?_) (fun h21=>?_)
 ·have h21p:=h21;simp only[fK] at h21p
  refine bT hs m (x_ eO (e_ (p_ (bW (cs:=eS nB) sU nC rfl (by kernel_rfl))) (dZ s0 (t:=gI)))) fun a w22 hs m=>?_
  refine bH hs (vs:=[.agg ⟨eS nB⟩,.bool false]) rfl ⟨cZ (cs:=eS nB) m rfl pX r0 rfl,rfl,trivial⟩ ?_
  refine⟨?_,m.sub .n⟩
  have q23:(nB:eH)=uD ag:=by clear hs m;exact aX8 (by assumption)
  have q24:(false:Bool)=tD ag now:=by clear hs m;exact aX3 (by assumption)
  (rw[q23,q24];rfl)
 have h21p:=h21;simp only[fK] at h21p
 refine bT hs m lA fun a w_ hs m=>?_
 obtain⟨e25,he26⟩:=bI (l:=ag.view) (i:=(eU ag.self.Host.v ag.view).toNat) (by omega)
 refine kE (c:=aV) (e:=e25) hs m (x:=(.tmp 23)) (ix:=(.tmp 24)) rfl rfl eR fZ hx14 (by omega) he26 fun p27 hp28 ok29=>?_
 refine bP hs m (e_ (p_ (ok29 _ _ _ _ _)) (e_ (p_ (cN (aV e25))) bR)) fun a w_ hs m=>?_
 refine bZ hs m mY rfl fun p30 w31 m a hs=>?_
 refine bP hs m (dZ s0 (t:=iA)) fun a w32 hs m=>?_
 refine vK m (a0 (a0 .n)) fun w33 m=>?_
 refine pA hs (m.sub (a0 (a0 .n))) 0 1 2 3 4 5 (k:=fun a hs=>?_)
 refine tI hs (m.sub (a0 (a0 .n))) 6 7 (h1:=k_ rfl (cN (aO e25.Subnet))) (h2:=k_ rfl (bW (cs:=aDO (⟨⟨2,rfl⟩,ag.self.Host,e25.Subnet,⟨0,rfl⟩,kG,⟨0,rfl⟩⟩:lT)) aN3 aFK rfl (by kernel_rfl))) (k:=fun a hs=>?_)
 refine bU (i:=8) (by kernel_rfl) rfl ?_
 refine bZ hs m aFK rfl fun p34 w35 m a hs=>?_
 refine wpList_nil (aB ⟨(m.sub (a1 (a1 .n))),?_⟩)
 refine bU (i:=9) (by kernel_rfl) rfl ?_
 refine bP hs m (dZ s0 (t:=bR)) fun a w36 hs m=>?_
 refine wpList_nil (aB ⟨(m.sub (a1 (a1 .n))),?_⟩)
 refine dC (by kernel_rfl) (aB ?_)
 refine vK m (a0 (a0 .n)) fun w37 m=>?_
 refine pA hs (m.sub (a0 (a0 .n))) 0 1 2 3 4 5 (h1:=k_ rfl (cN (aDO (⟨⟨2,rfl⟩,ag.self.Host,e25.Subnet,⟨0,rfl⟩,kG,⟨0,rfl⟩⟩:lT)))) (h2:=k_ rfl (bW (cs:=eS (⟨⟨5,rfl⟩,(⟨⟨2,rfl⟩,ag.self.Host,e25.Subnet,⟨0,rfl⟩,kG,⟨0,rfl⟩⟩:lT),mM,⟨0,rfl⟩,⟨0,rfl⟩⟩:eH)) sU nC rfl (by kernel_rfl))) (k:=fun a hs=>?_)
 rcases Bool.eq_false_or_eq_true (decide (e25.Until.v<9223372036854775807)) with hb38|hb38
 ·have hb38p:=of_decide_eq_true hb38
  refine pA hs (m.sub (a0 (a0 .n))) 6 7 8 9 10 11 (k:=fun a hs=>?_)
  refine zh3 hs (m.sub (a0 (a0 .n))) 12 13 14 (h3:=kg_ rfl hb38 (aQA (r:=IntKind.i64.wrap (0-ag.self.Renew.v)) rfl rfl)) (k:=fun a hs=>?_)
  refine bU (i:=15) (by kernel_rfl) rfl ?_
  refine kU hs rfl rfl hb38 ?_
  refine cC hs m rfl rfl aY8 rfl (aOQ e25.Until.v (IntKind.i64.wrap (0-ag.self.Renew.v)) _  ) rfl fun w39 m a hs=>?_
  refine wpList_nil (aB ⟨(m.sub (a0 (a0 .n))),?_⟩)
  refine tI hs (m.sub (a0 (a0 .n))) 16 17 (h2:=k_ rfl (aP (r:=.bool (decide (now>=(jR e25.Until.v (IntKind.i64.wrap (0-ag.self.Renew.v)))))) rfl rfl rfl (by rw[hb38];rfl))) (k:=fun a hs=>?_)
  refine bU (i:=18) (by kernel_rfl) rfl ?_
  refine bP hs m (dZ s2 (t:=bR)) fun a w40 hs m=>?_
  refine wpList_nil (aB ⟨(m.sub (a0 (a0 .n))),?_⟩)
  refine kY hs (m.sub (a0 (a0 .n))) 19 (k:=fun a hs=>?_)
  refine dC (by kernel_rfl) (aB ?_)
  refine wp_ret ?_
  refine bH hs (vs:=[.agg ⟨eS (⟨⟨5,rfl⟩,(⟨⟨2,rfl⟩,ag.self.Host,e25.Subnet,⟨0,rfl⟩,kG,⟨0,rfl⟩⟩:lT),mM,⟨0,rfl⟩,⟨0,rfl⟩⟩:eH)⟩,.bool (decide (now>=(jR e25.Until.v (IntKind.i64.wrap (0-ag.self.Renew.v)))))]) rfl ⟨cZ (cs:=eS (⟨⟨5,rfl⟩,(⟨⟨2,rfl⟩,ag.self.Host,e25.Subnet,⟨0,rfl⟩,kG,⟨0,rfl⟩⟩:lT),mM,⟨0,rfl⟩,⟨0,rfl⟩⟩:eH)) m rfl pX r2 rfl,rfl,trivial⟩ ?_
  refine⟨?_,m.sub .n⟩
  have q41:((⟨⟨5,rfl⟩,(⟨⟨2,rfl⟩,ag.self.Host,e25.Subnet,⟨0,rfl⟩,kG,⟨0,rfl⟩⟩:lT),mM,⟨0,rfl⟩,⟨0,rfl⟩⟩:eH):eH)=uD ag:=by clear hs m;exact aK7 (by assumption) (by assumption)
  have q42:(decide (now>=(jR e25.Until.v (IntKind.i64.wrap (0-ag.self.Renew.v)))):Bool)=tD ag now:=by clear hs m;exact aX4 (by assumption) (by assumption) (by assumption)
  (rw[q41,q42];rfl)
 ·have hb38p:=of_decide_eq_false hb38
  refine pA hs (m.sub (a0 (a0 .n))) 6 7 8 9 10 11 (k:=fun a hs=>?_)
  refine pA hs (m.sub (a0 (a0 .n))) 12 13 14 15 16 17 (h6:=k_ rfl (aP (r:=.bool false) rfl rfl rfl (by rw[hb38];rfl))) (k:=fun a hs=>?_)
  refine bU (i:=18) (by kernel_rfl) rfl ?_
  refine bP hs m (dZ s2 (t:=bR)) fun a w43 hs m=>?_
  refine wpList_nil (aB ⟨(m.sub (a0 (a0 .n))),?_⟩)
  refine kY hs (m.sub (a0 (a0 .n))) 19 (k:=fun a hs=>?_)
  refine dC (by kernel_rfl) (aB ?_)
  refine wp_ret ?_
  refine bH hs (vs:=[.agg ⟨eS (⟨⟨5,rfl⟩,(⟨⟨2,rfl⟩,ag.self.Host,e25.Subnet,⟨0,rfl⟩,kG,⟨0,rfl⟩⟩:lT),mM,⟨0,rfl⟩,⟨0,rfl⟩⟩:eH)⟩,.bool false]) rfl ⟨cZ (cs:=eS (⟨⟨5,rfl⟩,(⟨⟨2,rfl⟩,ag.self.Host,e25.Subnet,⟨0,rfl⟩,kG,⟨0,rfl⟩⟩:lT),mM,⟨0,rfl⟩,⟨0,rfl⟩⟩:eH)) m rfl pX r2 rfl,rfl,trivial⟩ ?_
  refine⟨?_,m.sub .n⟩
  have q44:((⟨⟨5,rfl⟩,(⟨⟨2,rfl⟩,ag.self.Host,e25.Subnet,⟨0,rfl⟩,kG,⟨0,rfl⟩⟩:lT),mM,⟨0,rfl⟩,⟨0,rfl⟩⟩:eH):eH)=uD ag:=by clear hs m;exact aK7 (by assumption) (by assumption)
  have q45:(false:Bool)=tD ag now:=by clear hs m;exact aX2 (by assumption) (by assumption) (by assumption)
  (rw[q44,q45];rfl)
theorem aO7 (pag:Addr) (ag:hF) (now:Int) (w0:World) (hag:AgR (hh w0) pag ag) (A0:ag.view.length<=8388608) (A1:ag.Routes.length<=8388608) (A2:ag.Neighs.length<=8388608) (A3:ag.Fdbs.length<=8388608):iL Tryz.prog 73 [.pointer (some (bK pag 0)),.int .i64 now] (.tuple ⟨[.agg ⟨eS (wM ag)⟩,.bool (zC ag)]⟩) w0:=by
 refine enter (n:=17) Tryz.func73 rfl rfl rfl fun a (hs:St 17 [(0,.pointer (some (bK pag 0))),(1,.int .i64 now)] a)=>?_
 have m:=Hp.start w0
 have hag0:=hag
 obtain⟨x1,x2,x3,x4,x5,x6,x7,hx8,hx9,hx10,hx11,hx12,hx13,hx14,hx15⟩:=hag0
 have lx2:=hx10.bd
 have lx3:=hx11.bd
 have lx4:=hx12.bd
 have lx5:=hx13.bd
 have lx6:=hx14.bd
 have lx7:=hx15.bd
 refine bN ?_
 refine bZ hs m nC rfl fun p16 w17 m a hs=>?_
 refine bP hs m gI fun a w_ hs m=>?_
 refine jS m hs aVO (aB1 pag ag _ (hag.le m.frame) (by omega) (by omega) (by omega) (by omega)) fun v18 w19 m a hs=>?_
 simp only[iG] at m
 refine bP hs m (x_ gX (e_ (p_ (bQ m rfl oO (fV r0))) eZ)) fun a w_ hs m=>?_
 refine aR hs rfl (fun h20=>?_) (fun h20=>?_)
 ·have h20p:=eq_of_beq h20
  refine bT hs m (x_ eO (e_ (p_ (bW (cs:=eS nB) sU nC rfl (by kernel_rfl))) (dZ s1 (t:=gI)))) fun a w21 hs m=>?_
  refine bH hs (vs:=[.agg ⟨eS nB⟩,.bool false]) rfl ⟨cZ (cs:=eS nB) m rfl pX r1 rfl,rfl,trivial⟩ ?_
  refine⟨?_,m.sub .n⟩
  have q22:(nB:eH)=wM ag:=by clear hs m;exact aVT (by assumption)
  have q23:(false:Bool)=zC ag:=by clear hs m;exact aVR (by assumption)
  (rw[q22,q23];rfl)
 have h20p:=ne_of_beq_false h20
 refine bT hs m gC fun a w_ hs m=>?_
 obtain⟨e24,he25⟩:=bI (l:=fY ag) (i:=0) (by omega)
 refine rY (c:=mO) (e:=e24) hs m (x:=(.tmp 13)) (ix:=(.const (.int .i64 0))) rfl rfl oO qL r0 (by omega) he25 fun p26 hp27 ok28=>?_
 refine bP hs m (e_ (p_ (ok28 _ _ _ _ _)) (e_ (p_ (cN (mO e24))) (e_ (p_ (bW (cs:=eS (⟨⟨3,rfl⟩,jA,e24,⟨0,rfl⟩,⟨0,rfl⟩⟩:eH)) sU nC rfl (by kernel_rfl))) (dZ s1 (t:=gC))))) fun a w29 hs m=>?_
 refine bH hs (vs:=[.agg ⟨eS (⟨⟨3,rfl⟩,jA,e24,⟨0,rfl⟩,⟨0,rfl⟩⟩:eH)⟩,.bool true]) rfl ⟨cZ (cs:=eS (⟨⟨3,rfl⟩,jA,e24,⟨0,rfl⟩,⟨0,rfl⟩⟩:eH)) m rfl pX r1 rfl,rfl,trivial⟩ ?_
 refine⟨?_,m.sub .n⟩
 have q30:((⟨⟨3,rfl⟩,jA,e24,⟨0,rfl⟩,⟨0,rfl⟩⟩:eH):eH)=wM ag:=by clear hs m;exact aVS (by assumption)
 have q31:(true:Bool)=zC ag:=by clear hs m;exact aVQ (by assumption)
 (rw[q30,q31];rfl)
theorem aXJ (now:Int) (qag pag:Addr) (ag:hF) (w0:World) (hqag:CellsAt (hh w0) qag [.pointer (some (bK pag 0))]) (hag:AgR (hh w0) pag ag):iL Tryz.prog 71 [.int .i64 now,.pointer (some (bK qag 0))] (.tuple ⟨[.agg ⟨eS (⟨⟨1,rfl⟩,jA,mM,⟨0,rfl⟩,⟨0,rfl⟩⟩:eH)⟩,.bool (!ag.read)]⟩) w0:=by
 refine enter (n:=11) Tryz.func71 rfl rfl rfl fun a (hs:St 11 [(0,.int .i64 now),(1,.pointer (some (bK qag 0)))] a)=>?_
 have m:=Hp.start w0
 have hag0:=hag
 obtain⟨x1,x2,x3,x4,x5,x6,x7,hx8,hx9,hx10,hx11,hx12,hx13,hx14,hx15⟩:=hag0
 have lx2:=hx10.bd
 have lx3:=hx11.bd
 have lx4:=hx12.bd
 have lx5:=hx13.bd
 have lx6:=hx14.bd
 have lx7:=hx15.bd
 refine bN ?_
 refine bZ hs m nC rfl fun p16 w17 m a hs=>?_
 refine bP hs m eZ fun a w_ hs m=>?_
 refine vK m .n fun w18 m=>?_
 refine pA hs (m.sub .n) 0 1 2 3 4 5 (h1:=k_ rfl (bW (cs:=eS (⟨⟨1,rfl⟩,jA,mM,⟨0,rfl⟩,⟨0,rfl⟩⟩:eH)) sU nC rfl (by kernel_rfl))) (k:=fun a hs=>?_)
 refine bU (i:=6) (by kernel_rfl) rfl ?_
 refine bP hs m (dZ s0 (t:=bR)) fun a w19 hs m=>?_
 refine wpList_nil (aB ⟨(m.sub .n),?_⟩)
 refine kY hs (m.sub .n) 7 (k:=fun a hs=>?_)
 refine dC (by kernel_rfl) (aB ?_)
 refine wp_ret ?_
 refine bH hs (vs:=[.agg ⟨eS (⟨⟨1,rfl⟩,jA,mM,⟨0,rfl⟩,⟨0,rfl⟩⟩:eH)⟩,.bool (!ag.read)]) rfl ⟨cZ (cs:=eS (⟨⟨1,rfl⟩,jA,mM,⟨0,rfl⟩,⟨0,rfl⟩⟩:eH)) m rfl pX r0 rfl,rfl,trivial⟩ ?_
 refine⟨?_,m.sub .n⟩
 rfl
theorem aXK (now:Int) (qag pag:Addr) (ag:hF) (w0:World) (hqag:CellsAt (hh w0) qag [.pointer (some (bK pag 0))]) (hag:AgR (hh w0) pag ag):iL Tryz.prog 72 [.int .i64 now,.pointer (some (bK qag 0))] (.tuple ⟨[.agg ⟨eS (⟨⟨2,rfl⟩,jA,mM,⟨0,rfl⟩,⟨0,rfl⟩⟩:eH)⟩,.bool ag.stale]⟩) w0:=by
 refine enter (n:=10) Tryz.func72 rfl rfl rfl fun a (hs:St 10 [(0,.int .i64 now),(1,.pointer (some (bK qag 0)))] a)=>?_
 have m:=Hp.start w0
 have hag0:=hag
 obtain⟨x1,x2,x3,x4,x5,x6,x7,hx8,hx9,hx10,hx11,hx12,hx13,hx14,hx15⟩:=hag0
 have lx2:=hx10.bd
 have lx3:=hx11.bd
 have lx4:=hx12.bd
 have lx5:=hx13.bd
 have lx6:=hx14.bd
 have lx7:=hx15.bd
 refine bN ?_
 refine bZ hs m nC rfl fun p16 w17 m a hs=>?_
 refine bP hs m eZ fun a w_ hs m=>?_
 refine vK m .n fun w18 m=>?_
 refine zh5 hs (m.sub .n) 0 1 2 3 4 (h1:=k_ rfl (bW (cs:=eS (⟨⟨2,rfl⟩,jA,mM,⟨0,rfl⟩,⟨0,rfl⟩⟩:eH)) sU nC rfl (by kernel_rfl))) (k:=fun a hs=>?_)
 refine bU (i:=5) (by kernel_rfl) rfl ?_
 refine bP hs m (dZ s0 (t:=bR)) fun a w19 hs m=>?_
 refine wpList_nil (aB ⟨(m.sub .n),?_⟩)
 refine kY hs (m.sub .n) 6 (k:=fun a hs=>?_)
 refine dC (by kernel_rfl) (aB ?_)
 refine wp_ret ?_
 refine bH hs (vs:=[.agg ⟨eS (⟨⟨2,rfl⟩,jA,mM,⟨0,rfl⟩,⟨0,rfl⟩⟩:eH)⟩,.bool ag.stale]) rfl ⟨cZ (cs:=eS (⟨⟨2,rfl⟩,jA,mM,⟨0,rfl⟩,⟨0,rfl⟩⟩:eH)) m rfl pX r0 rfl,rfl,trivial⟩ ?_
 refine⟨?_,m.sub .n⟩
 rfl
theorem aXL (now:Int) (qag pag:Addr) (ag:hF) (w0:World) (hqag:CellsAt (hh w0) qag [.pointer (some (bK pag 0))]) (hag:AgR (hh w0) pag ag):iL Tryz.prog 76 [.int .i64 now,.pointer (some (bK qag 0))] (.tuple ⟨[.agg ⟨eS (pZ ag)⟩,.bool true]⟩) w0:=by
 refine enter (n:=10) Tryz.func76 rfl rfl rfl fun a (hs:St 10 [(0,.int .i64 now),(1,.pointer (some (bK qag 0)))] a)=>?_
 have m:=Hp.start w0
 have hag0:=hag
 obtain⟨x1,x2,x3,x4,x5,x6,x7,hx8,hx9,hx10,hx11,hx12,hx13,hx14,hx15⟩:=hag0
 have lx2:=hx10.bd
 have lx3:=hx11.bd
 have lx4:=hx12.bd
 have lx5:=hx13.bd
 have lx6:=hx14.bd
 have lx7:=hx15.bd
 refine bN ?_
 refine bZ hs m nC rfl fun p16 w17 m a hs=>?_
 refine bP hs m (x_ lA (e_ (p_ (bW (cs:=eS (⟨⟨6,rfl⟩,jA,mM,ag.cursor,⟨4,rfl⟩⟩:eH)) sU nC rfl (by kernel_rfl))) (dZ s0 (t:=gC)))) fun a w18 hs m=>?_
 refine bH hs (vs:=[.agg ⟨eS (⟨⟨6,rfl⟩,jA,mM,ag.cursor,⟨4,rfl⟩⟩:eH)⟩,.bool true]) rfl ⟨cZ (cs:=eS (⟨⟨6,rfl⟩,jA,mM,ag.cursor,⟨4,rfl⟩⟩:eH)) m rfl pX r0 rfl,rfl,trivial⟩ ?_
 exact⟨by rw[(show ((⟨⟨6,rfl⟩,jA,mM,ag.cursor,⟨4,rfl⟩⟩:eH):eH)=pZ ag by(rfl))];rfl,m.sub .n⟩
end Go.Proofs.YtnbpodjbemfpbaaGreat.Fw
set_option linter.all false
set_option maxHeartbeats 4000000
set_option maxRecDepth 100000
namespace Go.Proofs.YtnbpodjbemfpbaaGreat.Fw
open Go
theorem aSP (pag:Addr) (ag:hF) (vl:SH) (l:List TEvent) (w0:World) (hag:AgR (hh w0) pag ag) (hl:RdS (hh w0) 14 vl.v (l.map eI)):iL Tryz.prog 136 [.pointer (some (bK pag 0)),vl.v] (.bool (oI ag l)) w0:=by
 have hcu:=ag.cursor.i64
 have lvl:=hl.bd
 refine enter (n:=50) Tryz.func136 rfl rfl rfl fun a (hs:St 50 [(0,.pointer (some (bK pag 0))),(1,vl.v)] a)=>?_
 have m:=Hp.start w0
 have hag0:=hag
 obtain⟨x1,x2,x3,x4,x5,x6,x7,hx8,hx9,hx10,hx11,hx12,hx13,hx14,hx15⟩:=hag0
 have lx2:=hx10.bd
 have lx3:=hx11.bd
 have lx4:=hx12.bd
 have lx5:=hx13.bd
 have lx6:=hx14.bd
 have lx7:=hx15.bd
 refine bT hs m (x_ gZ (e_ (p_ (bQ m rfl oP (dX hl))) eZ)) fun a w_ hs m=>?_
 refine aR hs rfl (fun h16=>?_) (fun h16=>?_)
 ·have h16p:=of_decide_eq_true h16
  refine bT hs m gX fun a w_ hs m=>?_
  refine bH hs (vs:=[.bool false]) rfl ⟨rfl,trivial⟩ ?_
  exact⟨by rw[(show (false:Bool)=oI ag l from a1B (by omega))];rfl,m.sub .n⟩
 have h16p:=of_decide_eq_false h16
 refine bT hs m (x_ aBW (e_ (p_ (bQ m rfl oP (dX hl))) gC)) fun a w_ hs m=>?_
 refine wp_loop_ghost (fun gn a w=>∃ k:Nat,∃ at_:Int,(k<=l.length)/\(-9223372036854775808<=at_/\at_<=9223372036854775807)/\(zX ag.cursor.v l=zX at_ (l.drop k))/\gn=l.length-k/\St 50 [(5,.int .i64 at_),(15,vl.v),(16,.int .i64 (l.length:Int)),(17,.int .i64 (k:Int))] a/\Hp w0 (hh w0) [] w) (l.length-0) ⟨0,ag.cursor.v,by omega,by omega,by rfl,rfl,hs.to ⟨rfl,rfl,rfl,rfl,trivial⟩,m.sub .n⟩ ?_
 rintro gn a w18 ⟨k,at_,hk,hat,ho,rfl,hs,m⟩
 refine bT hs m gI fun a w_ hs m=>?_
 refine aR hs rfl (fun h19=>?_) (fun h19=>?_)
 rotate_left
 ·have h19p:=of_decide_eq_false h19
  refine bT hs m fW fun a w_ hs m=>?_
  refine bH hs (vs:=[.bool true]) rfl ⟨rfl,trivial⟩ ?_
  exact⟨by rw[(show (true:Bool)=oI ag l from a1D (by omega) ho (by omega))];rfl,m.sub .n⟩
 have h19p:=of_decide_eq_true h19
 refine wp_skip ?_
 refine aB ?_
 refine dG ?_
 refine wp_block ?_
 refine bN ?_
 obtain⟨e21,he22⟩:=bI (l:=l) (i:=k) (by omega)
 refine kE (c:=eI) (e:=e21) hs m (x:=(.tmp 15)) (ix:=(.tmp 17)) rfl rfl oP oM hl (by omega) he22 fun p23 hp24 ok25=>?_
 refine bP hs m (e_ (p_ (ok25 _ _ _ _ _)) (e_ (p_ (cN (eI e21))) bR)) fun a w_ hs m=>?_
 refine bZ hs m zN rfl fun p26 w27 m a hs=>?_
 refine bP hs m (dZ s0 (t:=gZ)) fun a w28 hs m=>?_
 refine jO (.c (.c (.c (.c (.c (.c (.n))))))) hs m 29 (at_==9223372036854775807) (.bool ((at_==9223372036854775807) || (e21.Rev.v !=(at_+1)))) (hf:=by intro hb a w hs m;have hbp:=hb;simp only[fK] at hbp;refine bP hs m aYT fun a w hs m=>?_;first|exact nN hs m 5 (by rw[hb];try rfl)|exact nN hs m 5 (by simp [hb])) ?_
 rintro a w30 ⟨hs,m⟩
 refine bP hs m eO fun a w_ hs m=>?_
 refine zG (.c (.c (.c (.c (.c (.c (.c (.c (.c (.n)))))))))) (fun a w=>St 50 [(5,.int .i64 at_),(7,.pointer (some (bK p26 0))),(15,vl.v),(16,.int .i64 (l.length:Int)),(17,.int .i64 (k:Int)),(39,.bool (((at_==9223372036854775807) || (e21.Rev.v !=(at_+1))) || ((e21.Kind.v !=1)&&(e21.Kind.v !=2))))] a/\Hp w0 (hh w0) [Bx p26 161 (eI e21)] w) ?_ ?_
 ·rcases Bool.eq_false_or_eq_true ((at_==9223372036854775807) || (e21.Rev.v !=(at_+1))) with hb31|hb31
  ·have hb31p:=hb31;simp only[fK] at hb31p
   refine bP hs m (x_ lA (e_ (p_ (aP (r:=.bool (((at_==9223372036854775807) || (e21.Rev.v !=(at_+1))) || ((e21.Kind.v !=1)&&(e21.Kind.v !=2)))) rfl rfl rfl (by rw[hb31];rfl))) bR)) fun a w_ hs m=>?_
   exact wpList_nil (aB ⟨hs.to ⟨rfl,rfl,rfl,rfl,rfl,rfl,trivial⟩,m⟩)
  ·have hb31p:=hb31;simp only[fK] at hb31p
   refine bP hs m gC fun a w_ hs m=>?_
   refine xY (.c (.c (.c (.c (.n))))) hs m 38 (.bool ((e21.Kind.v !=1)&&(e21.Kind.v !=2))) ?_ ?_
   ·rcases Bool.eq_false_or_eq_true (e21.Kind.v !=1) with hb32|hb32
    ·have hb32p:=fT hb32
     refine bP hs m (x_ eZ (e_ (dV hb31 (aP (r:=.bool ((e21.Kind.v !=1)&&(e21.Kind.v !=2))) rfl rfl rfl (by rw[hb32];rfl))) bR)) fun a w_ hs m=>?_
     exact wpList_nil (aB ⟨hs.ct 3,m⟩)
    ·have hb32p:=dJ hb32
     refine bP hs m (x_ eZ (e_ (dV hb31 (aP (r:=.bool ((e21.Kind.v !=1)&&(e21.Kind.v !=2))) rfl rfl rfl (by rw[hb32];rfl))) bR)) fun a w_ hs m=>?_
     exact wpList_nil (aB ⟨hs.ct 3,m⟩)
   rintro a w33 ⟨hs,m⟩
   refine bP hs m (e_ (p_ (aP (r:=.bool (((at_==9223372036854775807) || (e21.Rev.v !=(at_+1))) || ((e21.Kind.v !=1)&&(e21.Kind.v !=2)))) rfl rfl rfl (by rw[hb31];rfl))) bR) fun a w_ hs m=>?_
   exact wpList_nil (aB ⟨hs.to ⟨rfl,rfl,rfl,rfl,rfl,rfl,trivial⟩,m⟩)
 rintro a w34 ⟨hs,m⟩
 refine bP hs m eO fun a w_ hs m=>?_
 refine xY (.c (.c (.c (.c (.c (.c (.n))))))) hs m 46 (.bool ((((at_==9223372036854775807) || (e21.Rev.v !=(at_+1))) || ((e21.Kind.v !=1)&&(e21.Kind.v !=2))) || (!(iR e21.Lease.Subnet)))) ?_ ?_
 ·rcases Bool.eq_false_or_eq_true (((at_==9223372036854775807) || (e21.Rev.v !=(at_+1))) || ((e21.Kind.v !=1)&&(e21.Kind.v !=2))) with hb35|hb35
  ·have hb35p:=hb35;simp only[fK] at hb35p
   refine bP hs m gX fun a w_ hs m=>?_
   exact nN hs m 5 (by rw[hb35];rfl)
  ·have hb35p:=hb35;simp only[fK] at hb35p
   refine bP hs m (x_ iA (e_ (dV hb35 (cN (aO e21.Lease.Subnet))) bR)) fun a w_ hs m=>?_
   refine sL hs rfl rfl hb35 m rfl rfl aO3 rfl (aBR e21.Lease.Subnet _  ) rfl fun w36 m a hs=>?_
   refine bP hs m iA fun a w_ hs m=>?_
   exact nN hs m 5 (by rw[hb35];rfl)
 rintro a w37 ⟨hs,m⟩
 refine wpList_nil (aB ?_)
 refine aR hs rfl (fun h38=>?_) (fun h38=>?_)
 ·have h38p:=h38;simp only[fK] at h38p
  refine bT hs m mT fun a w_ hs m=>?_
  refine bH hs (vs:=[.bool false]) rfl ⟨rfl,trivial⟩ ?_
  exact⟨by rw[(show (false:Bool)=oI ag l from a1A (by assumption) (by assumption) ho (by omega))];rfl,m.sub .n⟩
 have h38p:=h38;simp only[fK] at h38p
 refine bT hs m aAM fun a w_ hs m=>?_
 exact⟨l.length-(k+1),by omega,k+1,at_+1,by omega,by omega,by exact a1C (by assumption) (by assumption) ho,rfl,hs.to ⟨rfl,rfl,rfl,rfl,trivial⟩,m.sub .n⟩
theorem pK (bG:SH) (aQ:List bD) (bF:SH) (aN:List bA) (bX:SH) (bO:List cH) (w0:World) (dT:RdS (hh w0) 4 bG.v (aQ.map aM)) (dY:RdS (hh w0) 7 bF.v (aN.map aS)) (fG:RdS (hh w0) 7 bX.v (bO.map cB)) (A0:aQ.length<=2600000000000) (A1:aN.length<=2600000000000) (A2:bO.length<=2600000000000):Calls Tryz.prog 83 ⟨[.agg ⟨[bG.v,bF.v,bX.v]⟩]⟩ w0 fun e w'=>∃ v,e= .returned v/\(∃ x0:SH,∃ x1:SH,∃ x2:SH,v=(.agg ⟨[x0.v,x1.v,x2.v]⟩)/\Hp w0 (hh w0) [Sv 4 51 x0.v (aQ.map aM),Sv 7 54 x1.v (aN.map aS),Sv 7 56 x2.v (bO.map cB)] w'):=by
 have jE:=dT.bd
 have jD:=dY.bd
 have mD:=fG.bd
 refine enter (n:=13) Tryz.func83 rfl rfl rfl fun a (hs:St 13 [(0,.agg ⟨[bG.v,bF.v,bX.v]⟩)] a)=>?_
 have m:=Hp.start w0
 refine bN ?_
 refine dU (cs:=[bG.v,bF.v,bX.v]) hs m rfl rfl rfl fun p1 w2 m a hs=>?_
 refine bZ hs m jL rfl fun p3 w4 m a hs=>?_
 refine wpList_nil (aB ?_)
 refine vK m (a1 .n) fun w5 m=>?_
 refine pA hs (m.sub (a1 .n)) 0 1 3 4 6 7 (k:=fun a hs=>?_)
 refine bU (i:=2) (by kernel_rfl) rfl ?_
 refine jS m hs aZD (aGW bG aQ _ (m.rd dT) (by omega)) fun v6 w7 m a hs=>?_
 simp only[iG] at m
 refine wpList_nil (aB ⟨(m.sub (a2 .n)),?_⟩)
 refine bU (i:=5) (by kernel_rfl) rfl ?_
 refine jS m hs aZE (aGV bF aN _ (m.rd dY) (by omega)) fun v8 w9 m a hs=>?_
 simp only[iG] at m
 refine wpList_nil (aB ⟨(m.sub (a3 .n)),?_⟩)
 refine bU (i:=8) (by kernel_rfl) rfl ?_
 refine jS m hs aZF (aKG bX bO _ (m.rd fG) (by omega)) fun v10 w11 m a hs=>?_
 simp only[iG] at m
 refine wpList_nil (aB ⟨(m.sub (a4 .n)),?_⟩)
 refine kY hs (m.sub (a4 .n)) 9 (h1:=k_ rfl (bW (cs:=[v6.v,v8.v,v10.v]) rI jL rfl rfl)) (k:=fun a hs=>?_)
 refine bU (i:=10) (by kernel_rfl) rfl ?_
 refine bP hs m (dZ s3 (t:=bR)) fun a w12 hs m=>?_
 refine wpList_nil (aB ⟨(m.sub (a4 .n)),?_⟩)
 refine dC (by kernel_rfl) (aB ?_)
 refine wp_ret ?_
 refine bH hs (vs:=[.agg ⟨[v6.v,v8.v,v10.v]⟩]) rfl ⟨cZ (cs:=[v6.v,v8.v,v10.v]) m rfl xH r3 rfl,trivial⟩ ?_
 refine⟨_,rfl,v6,v8,v10,?_,m.sub (a2 (a1 (a0 .n)))⟩
 rfl
theorem aYJ (pag:Addr) (ag:hF) (w0:World) (hag:AgR (hh w0) pag ag) (A0:ag.view.length<=8388608) (A1:ag.Routes.length<=8388608) (A2:ag.Neighs.length<=8388608) (A3:ag.Fdbs.length<=8388608) (A4:ag.skipped.length<=2600000000000):Calls Tryz.prog 30 ⟨[.pointer (some (bK pag 0))]⟩ w0 fun e w'=>∃ v,e= .returned v/\(∃ x0:SH,∃ x1:SH,∃ x2:SH,∃ x3:SH,∃ x4:SH,v=(.agg ⟨sZ (decide (eU ag.self.Host.v ag.view>=0)) (oN ag) ag.cursor (aAL ag) ag.degraded x0.v x1.v x2.v x3.v x4.v⟩)/\Hp w0 (hh w0) [Sv 12 48 x0.v (ag.view.map aV),Sv 2 44 x1.v (ag.skipped.map aO),Sv 4 51 x2.v (ag.Routes.map aM),Sv 7 54 x3.v (ag.Neighs.map aS),Sv 7 56 x4.v (ag.Fdbs.map cB)] w'):=by
 have hol:=tC (h:=ag.self.Host.v) (l:=ag.view)
 refine enter (n:=67) Tryz.func30 rfl rfl rfl fun a (hs:St 67 [(0,.pointer (some (bK pag 0)))] a)=>?_
 have m:=Hp.start w0
 have hag0:=hag
 obtain⟨x1,x2,x3,x4,x5,x6,x7,hx8,hx9,hx10,hx11,hx12,hx13,hx14,hx15⟩:=hag0
 have lx2:=hx10.bd
 have lx3:=hx11.bd
 have lx4:=hx12.bd
 have lx5:=hx13.bd
 have lx6:=hx14.bd
 have lx7:=hx15.bd
 refine bN ?_
 refine bZ hs m xI rfl fun p16 w17 m a hs=>?_
 refine wpList_nil (aB ?_)
 refine wK (fun a w=>∃ y18:Addr,∃ y19:SH,∃ y20:SH,∃ y21:SH,∃ y22:SH,∃ y23:SH,St 67 [(0,.pointer (some (bK pag 0))),(2,.pointer (some (bK p16 0))),(3,.pointer (some (bK y18 0)))] a/\Hp w0 (hh w0) [Bx y18 84 (sZ false eG ag.cursor false ag.degraded y23.v y22.v y19.v y20.v y21.v),Sv 4 51 y19.v (ag.Routes.map aM),Sv 7 54 y20.v (ag.Neighs.map aS),Sv 7 56 y21.v (ag.Fdbs.map cB),Sv 2 44 y22.v (ag.skipped.map aO),Sv 12 48 y23.v (ag.view.map aV),Bx p16 84 (sZ false eG ⟨0,rfl⟩ false false nilH.v nilH.v nilH.v nilH.v nilH.v)] w) ?_ ?_
 ·refine drL m (a0 .n) fun w24 m=>?_
  refine pA hs (m.sub (a0 .n)) 0 1 2 3 4 5 (k:=fun a hs=>?_)
  refine pA hs (m.sub (a0 .n)) 6 7 8 9 10 11 (k:=fun a hs=>?_)
  refine pA hs (m.sub (a0 .n)) 13 14 15 16 18 19 (k:=fun a hs=>?_)
  refine tI hs (m.sub (a0 .n)) 20 21 (h2:=k_ rfl (cN [x3.v,x4.v,x5.v])) (k:=fun a hs=>?_)
  refine kV (i:=12) (j:=24) (by kernel_rfl) rfl rfl ?_ ?_
  ·refine jS m hs aVM (wN x6 ag.view _ (m.rd hx14) (by omega)) fun v25 w26 m a hs=>?_
   simp only[iG] at m
   refine wpList_nil (aB ⟨(m.sub (a1 .n)),?_⟩)
   refine kV (i:=17) (j:=24) (by kernel_rfl) rfl rfl ?_ ?_
   ·refine jS m hs aVN (vB x7 ag.skipped _ (m.rd hx15) (by omega)) fun v27 w28 m a hs=>?_
    simp only[iG] at m
    refine wpList_nil (aB ⟨(m.sub (a2 .n)),?_⟩)
    refine kV (i:=22) (j:=24) (by kernel_rfl) rfl rfl ?_ ?_
    ·refine oL m hs aO5 (pK x3 ag.Routes x4 ag.Neighs x5 ag.Fdbs _ (m.rd hx11) (m.rd hx12) (m.rd hx13) (by omega) (by omega) (by omega)) fun v29 v30 v31 w32 m a hs=>?_
     simp only[iG] at m
     refine wpList_nil (aB ⟨(m.sub (a5 .n)),?_⟩)
     refine kY hs (m.sub (a5 .n)) 23 (h1:=k_ rfl (bW (cs:=sZ false eG ag.cursor false ag.degraded v25.v v27.v v29.v v30.v v31.v) aLN xI rfl (by kernel_rfl))) (k:=fun a hs=>?_)
     refine bU (i:=24) (by kernel_rfl) rfl ?_
     refine bZ hs m xI rfl fun p33 w34 m a hs=>?_
     refine wpList_nil (aB ⟨(m.sub (a6 .n)),?_⟩)
     refine bU (i:=25) (by kernel_rfl) rfl ?_
     refine bP hs m (dZ s0 (t:=bR)) fun a w35 hs m=>?_
     refine wpList_nil (aB ⟨(m.sub (a6 .n)),?_⟩)
     refine dC (by kernel_rfl) (aB ?_)
     exact⟨p33,v29,v30,v31,v27,v25,hs.to ⟨rfl,rfl,rfl,trivial⟩,m.sub (a0 (a0 (a0 (a0 (a0 (a0 (a0 .n)))))))⟩
    ·refine bZ hs m xI rfl fun p36 w37 m a hs=>?_
     refine wpList_nil (aB ⟨(m.sub (a3 .n)),?_⟩)
     refine bU (i:=22) (by kernel_rfl) rfl ?_
     refine oL m hs aO5 (pK x3 ag.Routes x4 ag.Neighs x5 ag.Fdbs _ (m.rd hx11) (m.rd hx12) (m.rd hx13) (by omega) (by omega) (by omega)) fun v38 v39 v40 w41 m a hs=>?_
     simp only[iG] at m
     refine wpList_nil (aB ⟨(m.sub (a6 .n)),?_⟩)
     refine kY hs (m.sub (a6 .n)) 23 (h1:=k_ rfl (bW (cs:=sZ false eG ag.cursor false ag.degraded v25.v v27.v v38.v v39.v v40.v) aLN xI rfl (by kernel_rfl))) (k:=fun a hs=>?_)
     refine bU (i:=25) (by kernel_rfl) rfl ?_
     refine bP hs m (dZ s3 (t:=bR)) fun a w42 hs m=>?_
     refine wpList_nil (aB ⟨(m.sub (a6 .n)),?_⟩)
     refine dC (by kernel_rfl) (aB ?_)
     exact⟨p36,v38,v39,v40,v27,v25,hs.to ⟨rfl,rfl,rfl,trivial⟩,m.sub (a3 (a0 (a0 (a0 (a0 (a0 (a0 .n)))))))⟩
   ·refine bZ hs m xI rfl fun p43 w44 m a hs=>?_
    refine wpList_nil (aB ⟨(m.sub (a2 .n)),?_⟩)
    refine bU (i:=17) (by kernel_rfl) rfl ?_
    refine jS m hs aVN (vB x7 ag.skipped _ (m.rd hx15) (by omega)) fun v45 w46 m a hs=>?_
    simp only[iG] at m
    refine wpList_nil (aB ⟨(m.sub (a3 .n)),?_⟩)
    refine bU (i:=22) (by kernel_rfl) rfl ?_
    refine oL m hs aO5 (pK x3 ag.Routes x4 ag.Neighs x5 ag.Fdbs _ (m.rd hx11) (m.rd hx12) (m.rd hx13) (by omega) (by omega) (by omega)) fun v47 v48 v49 w50 m a hs=>?_
    simp only[iG] at m
    refine wpList_nil (aB ⟨(m.sub (a6 .n)),?_⟩)
    refine kY hs (m.sub (a6 .n)) 23 (h1:=k_ rfl (bW (cs:=sZ false eG ag.cursor false ag.degraded v25.v v45.v v47.v v48.v v49.v) aLN xI rfl (by kernel_rfl))) (k:=fun a hs=>?_)
    refine bU (i:=25) (by kernel_rfl) rfl ?_
    refine bP hs m (dZ s4 (t:=bR)) fun a w51 hs m=>?_
    refine wpList_nil (aB ⟨(m.sub (a6 .n)),?_⟩)
    refine dC (by kernel_rfl) (aB ?_)
    exact⟨p43,v47,v48,v49,v45,v25,hs.to ⟨rfl,rfl,rfl,trivial⟩,m.sub (a4 (a0 (a0 (a0 (a0 (a0 (a0 .n)))))))⟩
  ·refine bZ hs m xI rfl fun p52 w53 m a hs=>?_
   refine wpList_nil (aB ⟨(m.sub (a1 .n)),?_⟩)
   refine bU (i:=12) (by kernel_rfl) rfl ?_
   refine jS m hs aVM (wN x6 ag.view _ (m.rd hx14) (by omega)) fun v54 w55 m a hs=>?_
   simp only[iG] at m
   refine wpList_nil (aB ⟨(m.sub (a2 .n)),?_⟩)
   refine bU (i:=17) (by kernel_rfl) rfl ?_
   refine jS m hs aVN (vB x7 ag.skipped _ (m.rd hx15) (by omega)) fun v56 w57 m a hs=>?_
   simp only[iG] at m
   refine wpList_nil (aB ⟨(m.sub (a3 .n)),?_⟩)
   refine bU (i:=22) (by kernel_rfl) rfl ?_
   refine oL m hs aO5 (pK x3 ag.Routes x4 ag.Neighs x5 ag.Fdbs _ (m.rd hx11) (m.rd hx12) (m.rd hx13) (by omega) (by omega) (by omega)) fun v58 v59 v60 w61 m a hs=>?_
   simp only[iG] at m
   refine wpList_nil (aB ⟨(m.sub (a6 .n)),?_⟩)
   refine kY hs (m.sub (a6 .n)) 23 (h1:=k_ rfl (bW (cs:=sZ false eG ag.cursor false ag.degraded v54.v v56.v v58.v v59.v v60.v) aLN xI rfl (by kernel_rfl))) (k:=fun a hs=>?_)
   refine bU (i:=25) (by kernel_rfl) rfl ?_
   refine bP hs m (dZ s5 (t:=bR)) fun a w62 hs m=>?_
   refine wpList_nil (aB ⟨(m.sub (a6 .n)),?_⟩)
   refine dC (by kernel_rfl) (aB ?_)
   exact⟨p52,v58,v59,v60,v56,v54,hs.to ⟨rfl,rfl,rfl,trivial⟩,m.sub (a5 (a0 (a0 (a0 (a0 (a0 (a0 .n)))))))⟩
 rintro a w63 ⟨y18,y19,y20,y21,y22,y23,hs,m⟩
 refine bT hs m eZ fun a w_ hs m=>?_
 refine cC hs m rfl rfl aO6 rfl (aI5 pag ag _ (hag.le m.frame) ) rfl fun w64 m a hs=>?_
 refine bP hs m lA fun a w_ hs m=>?_
 refine aR hs rfl (fun h65=>?_) (fun h65=>?_)
 ·have h65p:=of_decide_eq_true h65
  refine drL m (a1 (a1 (a1 (a1 (a1 (a1 .n)))))) fun w66 m=>?_
  refine zh5 hs (m.sub (a1 (a1 (a1 (a1 (a1 (a1 .n))))))) 0 1 2 3 4 (k:=fun a hs=>?_)
  obtain⟨e67,he68⟩:=bI (l:=ag.view) (i:=(eU ag.self.Host.v ag.view).toNat) (by omega)
  refine kE (c:=aV) (e:=e67) hs (m.sub (a1 (a1 (a1 (a1 (a1 (a1 .n))))))) (x:=(.tmp 36)) (ix:=(.tmp 37)) rfl rfl eR fZ hx14 (by omega) he68 fun p69 hp70 ok71=>?_
  refine zh3 hs (m.sub (a1 (a1 (a1 (a1 (a1 (a1 .n))))))) 5 6 7 (h1:=k_ rfl (ok71 _ _ _ _ _)) (h2:=k_ rfl (cN (aV e67))) (k:=fun a hs=>?_)
  refine bU (i:=8) (by kernel_rfl) rfl ?_
  refine bP hs m (dZ s0 (t:=bR)) fun a w72 hs m=>?_
  refine wpList_nil (aB ⟨(m.sub (a1 (a1 (a1 (a1 (a1 (a1 .n))))))),?_⟩)
  refine kY hs (m.sub (a1 (a1 (a1 (a1 (a1 (a1 .n))))))) 9 (k:=fun a hs=>?_)
  refine bU (i:=10) (by kernel_rfl) rfl ?_
  refine bP hs m (dZ s0 (t:=bR)) fun a w73 hs m=>?_
  refine wpList_nil (aB ⟨(m.sub (a1 (a1 (a1 (a1 (a1 (a1 .n))))))),?_⟩)
  refine dC (by kernel_rfl) (aB ?_)
  refine bT hs m gX fun a w_ hs m=>?_
  refine xY (.c (.c (.c (.c (.c (.c (.n))))))) hs m 52 (.bool (ag.read&&(!ag.stale))) ?_ ?_
  ·rcases Bool.eq_false_or_eq_true ag.read with hb74|hb74
   ·refine bP hs m gX fun a w_ hs m=>?_
    exact nN hs m 5 (by rw[hb74];rfl)
   ·refine bP hs m gX fun a w_ hs m=>?_
    exact nN hs m 5 (by rw[hb74];rfl)
  rintro a w75 ⟨hs,m⟩
  refine bP hs m eO fun a w_ hs m=>?_
  refine jO (.c (.c (.c (.c (.c (.n)))))) hs m 58 (ag.read&&(!ag.stale)) (.bool ((ag.read&&(!ag.stale))&&ag.quiet)) ?_
  rintro a w77 ⟨hs,m⟩
  refine bP hs m eO fun a w_ hs m=>?_
  refine zG (.c (.c (.c (.c (.c (.n)))))) (fun a w=>St 67 [(2,.pointer (some (bK p16 0))),(3,.pointer (some (bK y18 0))),(64,.bool (((ag.read&&(!ag.stale))&&ag.quiet)&&(((fY ag).length:Int)==0)))] a/\Hp w0 (hh w0) [Bx y18 84 (sZ true e67 ag.cursor false ag.degraded y23.v y22.v y19.v y20.v y21.v),Sv 4 51 y19.v (ag.Routes.map aM),Sv 7 54 y20.v (ag.Neighs.map aS),Sv 7 56 y21.v (ag.Fdbs.map cB),Sv 2 44 y22.v (ag.skipped.map aO),Sv 12 48 y23.v (ag.view.map aV),Bx p16 84 (sZ false eG ⟨0,rfl⟩ false false nilH.v nilH.v nilH.v nilH.v nilH.v)] w) ?_ ?_
  ·rcases Bool.eq_false_or_eq_true ((ag.read&&(!ag.stale))&&ag.quiet) with hb78|hb78
   ·have hb78p:=hb78;simp only[fK] at hb78p
    refine bP hs m eO fun a w_ hs m=>?_
    refine kU hs rfl rfl hb78 ?_
    refine jS m hs aVO (aB1 pag ag _ (hag.le m.frame) (by omega) (by omega) (by omega) (by omega)) fun v79 w80 m a hs=>?_
    simp only[iG] at m
    refine bP hs m (e_ (dV hb78 (bQ m rfl oO (fV r0))) (x_ eO (e_ (p_ (aP (r:=.bool (((ag.read&&(!ag.stale))&&ag.quiet)&&(((fY ag).length:Int)==0))) rfl rfl rfl (by rw[hb78];rfl))) bR))) fun a w_ hs m=>?_
    exact wpList_nil (aB ⟨hs.to ⟨rfl,rfl,rfl,trivial⟩,m.sub (a1 (a1 (a1 (a1 (a1 (a1 (a1 .n)))))))⟩)
   ·have hb78p:=hb78;simp only[fK] at hb78p
    refine bP hs m (x_ gC (e_ (p_ (aP (r:=.bool (((ag.read&&(!ag.stale))&&ag.quiet)&&(((fY ag).length:Int)==0))) rfl rfl rfl (by rw[hb78];rfl))) bR)) fun a w_ hs m=>?_
    exact wpList_nil (aB ⟨hs.to ⟨rfl,rfl,rfl,trivial⟩,m⟩)
  rintro a w81 ⟨hs,m⟩
  refine bP hs m (x_ eO (dZ s0 (t:=x_ eZ (e_ (p_ (cN (sZ true e67 ag.cursor (((ag.read&&(!ag.stale))&&ag.quiet)&&(((fY ag).length:Int)==0)) ag.degraded y23.v y22.v y19.v y20.v y21.v))) (dZ s6 (t:=eZ)))))) fun a w83 hs m=>?_
  refine bH hs (vs:=[.agg ⟨sZ true e67 ag.cursor (((ag.read&&(!ag.stale))&&ag.quiet)&&(((fY ag).length:Int)==0)) ag.degraded y23.v y22.v y19.v y20.v y21.v⟩]) rfl ⟨cZ (cs:=sZ true e67 ag.cursor (((ag.read&&(!ag.stale))&&ag.quiet)&&(((fY ag).length:Int)==0)) ag.degraded y23.v y22.v y19.v y20.v y21.v) m rfl aTL r6 rfl,trivial⟩ ?_
  refine⟨_,rfl,y23,y22,y19,y20,y21,?_,m.sub (a5 (a4 (a1 (a1 (a1 .n)))))⟩
  have q84:(true:Bool)=decide (eU ag.self.Host.v ag.view>=0):=by clear hs m;exact(decide_eq_true (by omega)).symm
  have q85:(e67:TLease)=oN ag:=by clear hs m;exact a2F (by omega) (by assumption)
  have q86:(((ag.read&&(!ag.stale))&&ag.quiet)&&(((fY ag).length:Int)==0):Bool)=aAL ag:=by clear hs m;rfl
  (rw[q84,q85,q86];rfl)
 have h65p:=of_decide_eq_false h65
 refine bT hs m lA fun a w_ hs m=>?_
 refine xY (.c (.c (.c (.c (.c (.c (.n))))))) hs m 52 (.bool (ag.read&&(!ag.stale))) ?_ ?_
 ·rcases Bool.eq_false_or_eq_true ag.read with hb87|hb87
  ·refine bP hs m gX fun a w_ hs m=>?_
   exact nN hs m 5 (by rw[hb87];rfl)
  ·refine bP hs m gX fun a w_ hs m=>?_
   exact nN hs m 5 (by rw[hb87];rfl)
 rintro a w88 ⟨hs,m⟩
 refine bP hs m eO fun a w_ hs m=>?_
 refine jO (.c (.c (.c (.c (.c (.n)))))) hs m 58 (ag.read&&(!ag.stale)) (.bool ((ag.read&&(!ag.stale))&&ag.quiet)) ?_
 rintro a w90 ⟨hs,m⟩
 refine bP hs m eO fun a w_ hs m=>?_
 refine zG (.c (.c (.c (.c (.c (.n)))))) (fun a w=>St 67 [(2,.pointer (some (bK p16 0))),(3,.pointer (some (bK y18 0))),(64,.bool (((ag.read&&(!ag.stale))&&ag.quiet)&&(((fY ag).length:Int)==0)))] a/\Hp w0 (hh w0) [Bx y18 84 (sZ false eG ag.cursor false ag.degraded y23.v y22.v y19.v y20.v y21.v),Sv 4 51 y19.v (ag.Routes.map aM),Sv 7 54 y20.v (ag.Neighs.map aS),Sv 7 56 y21.v (ag.Fdbs.map cB),Sv 2 44 y22.v (ag.skipped.map aO),Sv 12 48 y23.v (ag.view.map aV),Bx p16 84 (sZ false eG ⟨0,rfl⟩ false false nilH.v nilH.v nilH.v nilH.v nilH.v)] w) ?_ ?_
 ·rcases Bool.eq_false_or_eq_true ((ag.read&&(!ag.stale))&&ag.quiet) with hb91|hb91
  ·have hb91p:=hb91;simp only[fK] at hb91p
   refine bP hs m eO fun a w_ hs m=>?_
   refine kU hs rfl rfl hb91 ?_
   refine jS m hs aVO (aB1 pag ag _ (hag.le m.frame) (by omega) (by omega) (by omega) (by omega)) fun v92 w93 m a hs=>?_
   simp only[iG] at m
   refine bP hs m (e_ (dV hb91 (bQ m rfl oO (fV r0))) (x_ eO (e_ (p_ (aP (r:=.bool (((ag.read&&(!ag.stale))&&ag.quiet)&&(((fY ag).length:Int)==0))) rfl rfl rfl (by rw[hb91];rfl))) bR))) fun a w_ hs m=>?_
   exact wpList_nil (aB ⟨hs.to ⟨rfl,rfl,rfl,trivial⟩,m.sub (a1 (a1 (a1 (a1 (a1 (a1 (a1 .n)))))))⟩)
  ·have hb91p:=hb91;simp only[fK] at hb91p
   refine bP hs m (x_ gC (e_ (p_ (aP (r:=.bool (((ag.read&&(!ag.stale))&&ag.quiet)&&(((fY ag).length:Int)==0))) rfl rfl rfl (by rw[hb91];rfl))) bR)) fun a w_ hs m=>?_
   exact wpList_nil (aB ⟨hs.to ⟨rfl,rfl,rfl,trivial⟩,m⟩)
 rintro a w94 ⟨hs,m⟩
 refine bP hs m (x_ eO (dZ s0 (t:=x_ eZ (e_ (p_ (cN (sZ false eG ag.cursor (((ag.read&&(!ag.stale))&&ag.quiet)&&(((fY ag).length:Int)==0)) ag.degraded y23.v y22.v y19.v y20.v y21.v))) (dZ s6 (t:=eZ)))))) fun a w96 hs m=>?_
 refine bH hs (vs:=[.agg ⟨sZ false eG ag.cursor (((ag.read&&(!ag.stale))&&ag.quiet)&&(((fY ag).length:Int)==0)) ag.degraded y23.v y22.v y19.v y20.v y21.v⟩]) rfl ⟨cZ (cs:=sZ false eG ag.cursor (((ag.read&&(!ag.stale))&&ag.quiet)&&(((fY ag).length:Int)==0)) ag.degraded y23.v y22.v y19.v y20.v y21.v) m rfl aTL r6 rfl,trivial⟩ ?_
 refine⟨_,rfl,y23,y22,y19,y20,y21,?_,m.sub (a5 (a4 (a1 (a1 (a1 .n)))))⟩
 have q97:(false:Bool)=decide (eU ag.self.Host.v ag.view>=0):=by clear hs m;exact(decide_eq_false (by omega)).symm
 have q98:(eG:TLease)=oN ag:=by clear hs m;exact a2E (by omega)
 have q99:(((ag.read&&(!ag.stale))&&ag.quiet)&&(((fY ag).length:Int)==0):Bool)=aAL ag:=by clear hs m;rfl
 (rw[q97,q98,q99];rfl)
end Go.Proofs.YtnbpodjbemfpbaaGreat.Fw
