/-
  Own work: walks and laws, joined by wip/tool/compact.py.
-/
import Derived.Test.YtnbpodjbemfpbaaGreatG12
import Derived.KernelRfl
set_option linter.all false
set_option linter.all false
set_option maxHeartbeats 4000000
set_option maxRecDepth 100000
namespace Go.Proofs.YtnbpodjbemfpbaaGreat.Fw
open Go
theorem aR4 (pag:Addr) (ag:hF) (o:eV) (w0:World) (R:Hh) (B0:ag.view.length<=2000000000) (B1:ag.Routes.length<=2000000000) (B2:ag.Neighs.length<=2000000000) (B3:ag.Fdbs.length<=2000000000) (B4:ag.skipped.length<=2000000000000) (m:Hp w0 R [tP pag ag] w0):Calls Tryz.prog 134 ⟨[.pointer (some (bK pag 45)),.agg ⟨mO o⟩]⟩ w0 fun e w'=>∃ v,e= .returned v/\(v=(.tuple ⟨[]⟩)/\Hp w0 R [tP pag (mC ag o)] w'):=by
 refine enter (n:=78) Tryz.func134 rfl rfl rfl fun a (hs:St 78 [(0,.pointer (some (bK pag 45))),(1,.agg ⟨mO o⟩)] a)=>?_
 have mo:=m.openAg r0
 obtain⟨x1,x2,x3,x4,x5,x6,x7,m⟩:=mo
 refine bN ?_
 refine dU (cs:=mO o) hs m rfl (by kernel_rfl) rfl fun p8 w9 m a hs=>?_
 refine bP hs m aBW fun a w_ hs m=>?_
 refine aR hs rfl (fun h10=>?_) (fun h10=>?_)
 ·have h10p:=eq_of_beq h10
  refine drL m (a0 (a1 (a1 (a2 (a2 (a2 (a2 .n))))))) fun w11 m=>?_
  refine pA hs (m.sub (a0 (a1 (a1 (a2 (a2 (a2 (a2 .n)))))))) 0 1 2 3 5 6 (h6:=k_ rfl (cN (aM o.Route))) (k:=fun a hs=>?_)
  refine bU (i:=4) (by kernel_rfl) rfl ?_
  refine bP hs m eO fun a w_ hs m=>?_
  refine wpList_nil (aB ⟨(m.sub (a0 (a1 (a1 (a2 (a2 (a2 (a2 .n)))))))),?_⟩)
  refine bU (i:=7) (by kernel_rfl) rfl ?_
  refine jM 1 (m.sub (a4 (a0 (a0 (a0 (a0 (a0 (a0 (a0 (a0 .n)))))))))) hs aVD (fun R1 hR ⟨y1,sy,ly⟩ mc=>aAH x3 ag.Routes o.Route _ R1  (by omega) mc) fun v12 w13 m a hs=>?_
  simp only[iG] at m
  refine wpList_nil (aB ⟨(m.sub (a1 (a2 (a2 (a2 (a2 (a2 (a2 .n)))))))),?_⟩)
  refine tI hs (m.sub (a1 (a2 (a2 (a2 (a2 (a2 (a2 .n)))))))) 8 9 (k:=fun a hs=>?_)
  refine bU (i:=10) (by kernel_rfl) rfl ?_
  refine bP hs m (dZ s2 (t:=bR)) fun a w14 hs m=>?_
  refine wpList_nil (aB ⟨(m.sub (a1 (a2 (a2 (a2 (a2 (a2 (a2 .n)))))))),?_⟩)
  refine dC (by kernel_rfl) (eA (nI hs (vs:=[]) rfl trivial ?_))
  replace m:=(m.sub (a2 (a2 (a2 (a0 (a1 (a1 (a1 (a1 (a0 .n)))))))))).closeAg (p:=pag) (A:=({ ag with Routes:=(iB bS ag.Routes o.Route) }:hF))
  rw[(show ({ ag with Routes:=(iB bS ag.Routes o.Route) }:hF)=mC ag o by(simp [mC, *]))] at m
  refine⟨_,rfl,?_,m.sub (a0 .n)⟩
  rfl
 have h10p:=ne_of_beq_false h10
 refine bT hs m gI fun a w_ hs m=>?_
 refine aR hs rfl (fun h16=>?_) (fun h16=>?_)
 ·have h16p:=eq_of_beq h16
  refine drL m (a0 (a1 (a1 (a2 (a2 (a2 (a2 .n))))))) fun w17 m=>?_
  refine pA hs (m.sub (a0 (a1 (a1 (a2 (a2 (a2 (a2 .n)))))))) 0 1 2 3 5 6 (h6:=k_ rfl (cN (aM o.Route))) (k:=fun a hs=>?_)
  refine bU (i:=4) (by kernel_rfl) rfl ?_
  refine bP hs m eO fun a w_ hs m=>?_
  refine wpList_nil (aB ⟨(m.sub (a0 (a1 (a1 (a2 (a2 (a2 (a2 .n)))))))),?_⟩)
  refine bU (i:=7) (by kernel_rfl) rfl ?_
  refine jM 1 (m.sub (a4 (a0 (a0 (a0 (a0 (a0 (a0 (a0 (a0 .n)))))))))) hs aZ1 (fun R1 hR ⟨y1,sy,ly⟩ mc=>aH4 x3 ag.Routes o.Route _ R1   mc) fun v18 w19 m a hs=>?_
  simp only[iG] at m
  refine wpList_nil (aB ⟨(m.sub (a1 (a2 (a2 (a2 (a2 (a2 (a2 .n)))))))),?_⟩)
  refine tI hs (m.sub (a1 (a2 (a2 (a2 (a2 (a2 (a2 .n)))))))) 8 9 (k:=fun a hs=>?_)
  refine bU (i:=10) (by kernel_rfl) rfl ?_
  refine bP hs m (dZ s2 (t:=bR)) fun a w20 hs m=>?_
  refine wpList_nil (aB ⟨(m.sub (a1 (a2 (a2 (a2 (a2 (a2 (a2 .n)))))))),?_⟩)
  refine dC (by kernel_rfl) (eA (nI hs (vs:=[]) rfl trivial ?_))
  replace m:=(m.sub (a2 (a2 (a2 (a0 (a1 (a1 (a1 (a1 (a0 .n)))))))))).closeAg (p:=pag) (A:=({ ag with Routes:=(fJ bS ag.Routes o.Route) }:hF))
  rw[(show ({ ag with Routes:=(fJ bS ag.Routes o.Route) }:hF)=mC ag o by(simp [mC, *]))] at m
  refine⟨_,rfl,?_,m.sub (a0 .n)⟩
  rfl
 have h16p:=ne_of_beq_false h16
 refine bT hs m gI fun a w_ hs m=>?_
 refine aR hs rfl (fun h22=>?_) (fun h22=>?_)
 ·have h22p:=eq_of_beq h22
  refine drL m (a0 (a1 (a1 (a1 (a2 (a2 (a2 .n))))))) fun w23 m=>?_
  refine pA hs (m.sub (a0 (a1 (a1 (a1 (a2 (a2 (a2 .n)))))))) 0 1 2 3 5 6 (h6:=k_ rfl (cN (aS o.Neigh))) (k:=fun a hs=>?_)
  refine bU (i:=4) (by kernel_rfl) rfl ?_
  refine bP hs m eO fun a w_ hs m=>?_
  refine wpList_nil (aB ⟨(m.sub (a0 (a1 (a1 (a1 (a2 (a2 (a2 .n)))))))),?_⟩)
  refine bU (i:=7) (by kernel_rfl) rfl ?_
  refine jM 1 (m.sub (a5 (a0 (a0 (a0 (a0 (a0 (a0 (a0 (a0 .n)))))))))) hs a0E (fun R1 hR ⟨y1,sy,ly⟩ mc=>aEZ x4 ag.Neighs o.Neigh _ R1  (by omega) mc) fun v24 w25 m a hs=>?_
  simp only[iG] at m
  refine wpList_nil (aB ⟨(m.sub (a1 (a2 (a2 (a2 (a2 (a2 (a2 .n)))))))),?_⟩)
  refine tI hs (m.sub (a1 (a2 (a2 (a2 (a2 (a2 (a2 .n)))))))) 8 9 (k:=fun a hs=>?_)
  refine bU (i:=10) (by kernel_rfl) rfl ?_
  refine bP hs m (dZ s2 (t:=bR)) fun a w26 hs m=>?_
  refine wpList_nil (aB ⟨(m.sub (a1 (a2 (a2 (a2 (a2 (a2 (a2 .n)))))))),?_⟩)
  refine dC (by kernel_rfl) (eA (nI hs (vs:=[]) rfl trivial ?_))
  replace m:=(m.sub (a2 (a2 (a2 (a2 (a0 (a1 (a1 (a1 (a0 .n)))))))))).closeAg (p:=pag) (A:=({ ag with Neighs:=(iB bB ag.Neighs o.Neigh) }:hF))
  rw[(show ({ ag with Neighs:=(iB bB ag.Neighs o.Neigh) }:hF)=mC ag o by(simp [mC, *]))] at m
  refine⟨_,rfl,?_,m.sub (a0 .n)⟩
  rfl
 have h22p:=ne_of_beq_false h22
 refine bT hs m gI fun a w_ hs m=>?_
 refine aR hs rfl (fun h28=>?_) (fun h28=>?_)
 ·have h28p:=eq_of_beq h28
  refine drL m (a0 (a1 (a1 (a1 (a2 (a2 (a2 .n))))))) fun w29 m=>?_
  refine pA hs (m.sub (a0 (a1 (a1 (a1 (a2 (a2 (a2 .n)))))))) 0 1 2 3 5 6 (h6:=k_ rfl (cN (aS o.Neigh))) (k:=fun a hs=>?_)
  refine bU (i:=4) (by kernel_rfl) rfl ?_
  refine bP hs m eO fun a w_ hs m=>?_
  refine wpList_nil (aB ⟨(m.sub (a0 (a1 (a1 (a1 (a2 (a2 (a2 .n)))))))),?_⟩)
  refine bU (i:=7) (by kernel_rfl) rfl ?_
  refine jM 1 (m.sub (a5 (a0 (a0 (a0 (a0 (a0 (a0 (a0 (a0 .n)))))))))) hs aZ2 (fun R1 hR ⟨y1,sy,ly⟩ mc=>aH3 x4 ag.Neighs o.Neigh _ R1   mc) fun v30 w31 m a hs=>?_
  simp only[iG] at m
  refine wpList_nil (aB ⟨(m.sub (a1 (a2 (a2 (a2 (a2 (a2 (a2 .n)))))))),?_⟩)
  refine tI hs (m.sub (a1 (a2 (a2 (a2 (a2 (a2 (a2 .n)))))))) 8 9 (k:=fun a hs=>?_)
  refine bU (i:=10) (by kernel_rfl) rfl ?_
  refine bP hs m (dZ s2 (t:=bR)) fun a w32 hs m=>?_
  refine wpList_nil (aB ⟨(m.sub (a1 (a2 (a2 (a2 (a2 (a2 (a2 .n)))))))),?_⟩)
  refine dC (by kernel_rfl) (eA (nI hs (vs:=[]) rfl trivial ?_))
  replace m:=(m.sub (a2 (a2 (a2 (a2 (a0 (a1 (a1 (a1 (a0 .n)))))))))).closeAg (p:=pag) (A:=({ ag with Neighs:=(fJ bB ag.Neighs o.Neigh) }:hF))
  rw[(show ({ ag with Neighs:=(fJ bB ag.Neighs o.Neigh) }:hF)=mC ag o by(simp [mC, *]))] at m
  refine⟨_,rfl,?_,m.sub (a0 .n)⟩
  rfl
 have h28p:=ne_of_beq_false h28
 refine bT hs m gI fun a w_ hs m=>?_
 refine aR hs rfl (fun h34=>?_) (fun h34=>?_)
 ·have h34p:=eq_of_beq h34
  refine drL m (a0 (a1 (a1 (a1 (a1 (a2 (a2 .n))))))) fun w35 m=>?_
  refine pA hs (m.sub (a0 (a1 (a1 (a1 (a1 (a2 (a2 .n)))))))) 0 1 2 3 5 6 (h6:=k_ rfl (cN (cB o.Fdb))) (k:=fun a hs=>?_)
  refine bU (i:=4) (by kernel_rfl) rfl ?_
  refine bP hs m eO fun a w_ hs m=>?_
  refine wpList_nil (aB ⟨(m.sub (a0 (a1 (a1 (a1 (a1 (a2 (a2 .n)))))))),?_⟩)
  refine bU (i:=7) (by kernel_rfl) rfl ?_
  refine jM 1 (m.sub (a6 (a0 (a0 (a0 (a0 (a0 (a0 (a0 (a0 .n)))))))))) hs a0F (fun R1 hR ⟨y1,sy,ly⟩ mc=>aJM x5 ag.Fdbs o.Fdb _ R1  (by omega) mc) fun v36 w37 m a hs=>?_
  simp only[iG] at m
  refine wpList_nil (aB ⟨(m.sub (a1 (a2 (a2 (a2 (a2 (a2 (a2 .n)))))))),?_⟩)
  refine tI hs (m.sub (a1 (a2 (a2 (a2 (a2 (a2 (a2 .n)))))))) 8 9 (k:=fun a hs=>?_)
  refine bU (i:=10) (by kernel_rfl) rfl ?_
  refine bP hs m (dZ s2 (t:=bR)) fun a w38 hs m=>?_
  refine wpList_nil (aB ⟨(m.sub (a1 (a2 (a2 (a2 (a2 (a2 (a2 .n)))))))),?_⟩)
  refine dC (by kernel_rfl) (eA (nI hs (vs:=[]) rfl trivial ?_))
  replace m:=(m.sub (a2 (a2 (a2 (a2 (a2 (a0 (a1 (a1 (a0 .n)))))))))).closeAg (p:=pag) (A:=({ ag with Fdbs:=(iB bY ag.Fdbs o.Fdb) }:hF))
  rw[(show ({ ag with Fdbs:=(iB bY ag.Fdbs o.Fdb) }:hF)=mC ag o by(simp [mC, *]))] at m
  refine⟨_,rfl,?_,m.sub (a0 .n)⟩
  rfl
 have h34p:=ne_of_beq_false h34
 refine bT hs m gI fun a w_ hs m=>?_
 refine aR hs rfl (fun h40=>?_) (fun h40=>?_)
 ·have h40p:=eq_of_beq h40
  refine drL m (a0 (a1 (a1 (a1 (a1 (a2 (a2 .n))))))) fun w41 m=>?_
  refine pA hs (m.sub (a0 (a1 (a1 (a1 (a1 (a2 (a2 .n)))))))) 0 1 2 3 5 6 (h6:=k_ rfl (cN (cB o.Fdb))) (k:=fun a hs=>?_)
  refine bU (i:=4) (by kernel_rfl) rfl ?_
  refine bP hs m eO fun a w_ hs m=>?_
  refine wpList_nil (aB ⟨(m.sub (a0 (a1 (a1 (a1 (a1 (a2 (a2 .n)))))))),?_⟩)
  refine bU (i:=7) (by kernel_rfl) rfl ?_
  refine jM 1 (m.sub (a6 (a0 (a0 (a0 (a0 (a0 (a0 (a0 (a0 .n)))))))))) hs aZ3 (fun R1 hR ⟨y1,sy,ly⟩ mc=>aLO x5 ag.Fdbs o.Fdb _ R1   mc) fun v42 w43 m a hs=>?_
  simp only[iG] at m
  refine wpList_nil (aB ⟨(m.sub (a1 (a2 (a2 (a2 (a2 (a2 (a2 .n)))))))),?_⟩)
  refine tI hs (m.sub (a1 (a2 (a2 (a2 (a2 (a2 (a2 .n)))))))) 8 9 (k:=fun a hs=>?_)
  refine bU (i:=10) (by kernel_rfl) rfl ?_
  refine bP hs m (dZ s2 (t:=bR)) fun a w44 hs m=>?_
  refine wpList_nil (aB ⟨(m.sub (a1 (a2 (a2 (a2 (a2 (a2 (a2 .n)))))))),?_⟩)
  refine dC (by kernel_rfl) (eA (nI hs (vs:=[]) rfl trivial ?_))
  replace m:=(m.sub (a2 (a2 (a2 (a2 (a2 (a0 (a1 (a1 (a0 .n)))))))))).closeAg (p:=pag) (A:=({ ag with Fdbs:=(fJ bY ag.Fdbs o.Fdb) }:hF))
  rw[(show ({ ag with Fdbs:=(fJ bY ag.Fdbs o.Fdb) }:hF)=mC ag o by(simp [mC, *]))] at m
  refine⟨_,rfl,?_,m.sub (a0 .n)⟩
  rfl
 have h40p:=ne_of_beq_false h40
 refine wp_skip ?_
 refine eA (nI hs (vs:=[]) rfl trivial ?_)
 replace m:=(m.sub (a1 (a1 (a1 (a1 (a1 (a1 (a1 (a1 (a0 .n)))))))))).closeAg (p:=pag) (A:=ag)
 rw[(show ag=mC ag o by(simp [mC, *]))] at m
 refine⟨_,rfl,?_,m.sub (a0 .n)⟩
 rfl
theorem aPH (pag:Addr) (ag:hF) (bM:Fx .i64) (aW:fC) (aU:Fx .i64) (aZ:Fx .i64) (bJ:SH) (aJ:List TLease) (cM:SH) (bC:List TEvent) (aY:SH) (aE:List bD) (aX:SH) (aG:List bA) (bE:SH) (aK:List cH) (w0:World) (R:Hh) (dI:RdS R 12 bJ.v (aJ.map aV)) (eQ:RdS R 14 cM.v (bC.map eI)) (dE:RdS R 4 aY.v (aE.map aM)) (dD:RdS R 7 aX.v (aG.map aS)) (dM:RdS R 7 bE.v (aK.map cB)) (B0:aE.length<=2000000000) (B1:aG.length<=2000000000) (B2:aK.length<=2000000000) (m:Hp w0 R [tP pag ag] w0):Calls Tryz.prog 86 ⟨[.pointer (some (bK pag 0)),.agg ⟨sY bM aW aU aZ bJ.v cM.v aY.v aX.v bE.v⟩]⟩ w0 fun e w'=>∃ v,e= .returned v/\(v=(.int .i64 (tR bM.v aE aG aK))/\Hp w0 R [tP pag (rJ ag bM.v aE aG aK)] w'):=by
 have kB:=dI.bd
 have oS:=eQ.bd
 have iX:=dE.bd
 have iW:=dD.bd
 have kC:=dM.bd
 refine enter (n:=41) Tryz.func86 rfl rfl rfl fun a (hs:St 41 [(0,.pointer (some (bK pag 0))),(1,.agg ⟨sY bM aW aU aZ bJ.v cM.v aY.v aX.v bE.v⟩)] a)=>?_
 have mo:=m.openAg r0
 obtain⟨x1,x2,x3,x4,x5,x6,x7,m⟩:=mo
 refine bN ?_
 refine dU (cs:=sY bM aW aU aZ bJ.v cM.v aY.v aX.v bE.v) hs m rfl (by kernel_rfl) rfl fun p8 w9 m a hs=>?_
 refine bP hs m fW fun a w_ hs m=>?_
 refine aR hs rfl (fun h10=>?_) (fun h10=>?_)
 ·have h10p:=fT h10
  refine bT hs m gX fun a w_ hs m=>?_
  refine bH hs (vs:=[.int .i64 0]) rfl ⟨rfl,trivial⟩ ?_
  replace m:=(m.sub (a1 (a1 (a1 (a1 (a1 (a1 (a1 (a1 (a0 .n)))))))))).closeAg (p:=pag) (A:=ag)
  rw[(show ag=rJ ag bM.v aE aG aK by(simp [rJ, *]))] at m
  exact⟨_,rfl,by rw[(show (0:Int)=tR bM.v aE aG aK by(simp [tR, *]))];rfl,m.sub (a0 .n)⟩
 have h10p:=dJ h10
 refine bT hs m (x_ gI (e_ (p_ (cN [aY.v,aX.v,bE.v])) bR)) fun a w_ hs m=>?_
 refine cC hs m rfl rfl aVI rfl (aB5 aY aE aX aG bE aK _ (m.rd dE) (m.rd dD) (m.rd dM) ) rfl fun w13 m a hs=>?_
 refine bP hs m eZ fun a w_ hs m=>?_
 refine aR hs rfl (fun h14=>?_) (fun h14=>?_)
 ·have h14p:=h14;simp only[fK] at h14p
  refine bT hs m gX fun a w_ hs m=>?_
  refine bH hs (vs:=[.int .i64 161]) rfl ⟨rfl,trivial⟩ ?_
  replace m:=(m.sub (a1 (a1 (a1 (a1 (a1 (a1 (a1 (a1 (a0 .n)))))))))).closeAg (p:=pag) (A:=ag)
  rw[(show ag=rJ ag bM.v aE aG aK by(simp [rJ, *]))] at m
  exact⟨_,rfl,by rw[(show (161:Int)=tR bM.v aE aG aK by(simp [tR, *]))];rfl,m.sub (a0 .n)⟩
 have h14p:=h14;simp only[fK] at h14p
 refine bT hs m (x_ gX (e_ (p_ (cN [aY.v,aX.v,bE.v])) bR)) fun a w_ hs m=>?_
 refine oL m hs aO5 (pK aY aE aX aG bE aK _ (m.rd dE) (m.rd dD) (m.rd dM) (by omega) (by omega) (by omega)) fun v17 v18 v19 w20 m a hs=>?_
 simp only[iG] at m
 refine bP hs m (x_ iA (dZ s4 (t:=x_ iA (dZ s4 (t:=hQ))))) fun a w22 hs m=>?_
 refine bP hs m (e_ (p_ (bQ m rfl eY (fV r0))) gC) fun a w_ hs m=>?_
 refine wp_loop_ghost (fun gn a w=>∃ k:Nat,(k<=aE.length)/\(∀ i,i<k->∀ x,aE[i]?=some x->x.Local=false)/\gn=aE.length-k/\St 41 [(0,.pointer (some (bK pag 0))),(27,v17.v),(28,.int .i64 (aE.length:Int)),(29,.int .i64 (k:Int))] a/\Hp w0 R [Bx pag 135 (cAg ag.self x2.v ag.opn true v17.v v18.v v19.v x6.v ag.cursor ag.stale x7.v ag.degraded ag.granted ag.waiting ag.wish ag.renewed ag.quiet),Sv 4 51 v17.v (aE.map aM),Sv 2 138 x2.v ((iI pag x1:List (List Value)).map id),Sv 7 54 v18.v (aG.map aS),Sv 7 56 v19.v (aK.map cB),Sv 12 48 x6.v (ag.view.map aV),Sv 2 44 x7.v (ag.skipped.map aO),Bx x1 63 [.pointer (some (bK pag 0))]] w) (aE.length-0) ⟨0,by omega,by(intro i hi;omega),rfl,hs.to ⟨rfl,rfl,rfl,rfl,trivial⟩,m.sub (a4 (a0 (a4 (a0 (a0 (a5 (a5 (a1 .n))))))))⟩ ?_
 rintro gn a w23 ⟨k,hk,hn,rfl,hs,m⟩
 refine bT hs m gI fun a w_ hs m=>?_
 refine aR hs rfl (fun h24=>?_) (fun h24=>?_)
 rotate_left
 ·have h24p:=of_decide_eq_false h24
  refine bT hs m fW fun a w_ hs m=>?_
  refine bH hs (vs:=[.int .i64 0]) rfl ⟨rfl,trivial⟩ ?_
  replace m:=(m.sub (a0 (a6 (a1 (a0 (a0 (a0 (a0 (a0 .n))))))))).closeAg (p:=pag) (A:=({ ag with read:=true,Routes:=aE,Neighs:=aG,Fdbs:=aK }:hF))
  rw[(show ({ ag with read:=true,Routes:=aE,Neighs:=aG,Fdbs:=aK }:hF)=rJ ag bM.v aE aG aK by((simp only[rJ, *,<-aOC hn (by omega)];simp)))] at m
  exact⟨_,rfl,by rw[(show (0:Int)=tR bM.v aE aG aK by(simp [tR, *]))];rfl,m.sub (a0 .n)⟩
 have h24p:=of_decide_eq_true h24
 refine wp_skip ?_
 refine aB ?_
 refine dG ?_
 refine wp_block ?_
 refine bN ?_
 obtain⟨e27,he28⟩:=bI (l:=aE) (i:=k) (by omega)
 refine rY (c:=aM) (e:=e27) hs m (x:=(.tmp 27)) (ix:=(.tmp 29)) rfl rfl eY gG r1 (by omega) he28 fun p29 hp30 ok31=>?_
 refine bP hs m (e_ (p_ (ok31 _ _ _ _ _)) (e_ (p_ (cN (aM e27))) bR)) fun a w_ hs m=>?_
 refine bZ hs m kK rfl fun p32 w33 m a hs=>?_
 refine bP hs m (dZ s0 (t:=gZ)) fun a w34 hs m=>?_
 refine aR hs rfl (fun h35=>?_) (fun h35=>?_)
 ·refine bT hs m (x_ eZ (e_ (p_ (cN (aO e27.Dst))) (x_ iA (dZ s1 (t:=eZ))))) fun a w36 hs m=>?_
  refine wP rfl (eK (eK (lL (?_))))
  refine aB ?_
  refine bT hs m gI fun a w_ hs m=>?_
  refine bH hs (vs:=[.int .i64 0]) rfl ⟨rfl,trivial⟩ ?_
  replace m:=(m.sub (a1 (a7 (a2 (a1 (a1 (a1 (a1 (a1 (a0 .n)))))))))).closeAg (p:=pag) (A:=({ ag with read:=true,Routes:=aE,Neighs:=aG,Fdbs:=aK,wish:=e27.Dst }:hF))
  rw[(show ({ ag with read:=true,Routes:=aE,Neighs:=aG,Fdbs:=aK,wish:=e27.Dst }:hF)=rJ ag bM.v aE aG aK by((simp only[rJ, *,<-aRH hn (by assumption) (by assumption)];simp)))] at m
  exact⟨_,rfl,by rw[(show (0:Int)=tR bM.v aE aG aK by(simp [tR, *]))];rfl,m.sub (a0 .n)⟩
 refine bT hs m lA fun a w_ hs m=>?_
 exact⟨aE.length-(k+1),by omega,k+1,by omega,by exact aOD hn (by assumption) (by assumption),rfl,hs.to ⟨rfl,rfl,rfl,rfl,trivial⟩,m.sub (a1 (a1 (a1 (a1 (a1 (a1 (a1 (a1 .n))))))))⟩
theorem aN0 (pag:Addr) (ag:hF) (bM:Fx .i64) (aW:fC) (aU:Fx .i64) (aZ:Fx .i64) (bJ:SH) (aJ:List TLease) (cM:SH) (bC:List TEvent) (aY:SH) (aE:List bD) (aX:SH) (aG:List bA) (bE:SH) (aK:List cH) (w0:World) (R:Hh) (dI:RdS R 12 bJ.v (aJ.map aV)) (eQ:RdS R 14 cM.v (bC.map eI)) (dE:RdS R 4 aY.v (aE.map aM)) (dD:RdS R 7 aX.v (aG.map aS)) (dM:RdS R 7 bE.v (aK.map cB)) (B0:aJ.length<=2000000000) (m:Hp w0 R [tP pag ag] w0):Calls Tryz.prog 87 ⟨[.pointer (some (bK pag 0)),.agg ⟨sY bM aW aU aZ bJ.v cM.v aY.v aX.v bE.v⟩]⟩ w0 fun e w'=>∃ v,e= .returned v/\(v=(.int .i64 (sM bM.v aU.v aJ))/\Hp w0 R [tP pag (qG ag bM.v aU aJ)] w'):=by
 have hol2:=tC (h:=ag.self.Host.v) (l:=aJ)
 have kB:=dI.bd
 have oS:=eQ.bd
 have iX:=dE.bd
 have iW:=dD.bd
 have kC:=dM.bd
 refine enter (n:=75) Tryz.func87 rfl rfl rfl fun a (hs:St 75 [(0,.pointer (some (bK pag 0))),(1,.agg ⟨sY bM aW aU aZ bJ.v cM.v aY.v aX.v bE.v⟩)] a)=>?_
 have mo:=m.openAg r0
 obtain⟨x1,x2,x3,x4,x5,x6,x7,m⟩:=mo
 refine bN ?_
 refine dU (cs:=sY bM aW aU aZ bJ.v cM.v aY.v aX.v bE.v) hs m rfl (by kernel_rfl) rfl fun p8 w9 m a hs=>?_
 refine bP hs m fW fun a w_ hs m=>?_
 refine aR hs rfl (fun h10=>?_) (fun h10=>?_)
 ·have h10p:=fT h10
  refine bT hs m gX fun a w_ hs m=>?_
  refine bH hs (vs:=[.int .i64 0]) rfl ⟨rfl,trivial⟩ ?_
  exact⟨_,rfl,nX ((aQ6 (g:=ag) (l:=aJ) (by assumption)).1),kM ((aQ6 (by assumption)).2) (m.sub (a1 (a1 (a1 (a1 (a1 (a1 (a1 (a1 (a0 .n))))))))))⟩
 have h10p:=dJ h10
 refine bT hs m hQ fun a w_ hs m=>?_
 refine xY (.c (.c (.c (.c (.c (.c (.n))))))) hs m 21 (.bool ((decide (aU.v<0)) || (!(gV dL aJ)))) ?_ ?_
 ·rcases Bool.eq_false_or_eq_true (decide (aU.v<0)) with hb13|hb13
  ·have hb13p:=of_decide_eq_true hb13
   refine bP hs m gX fun a w_ hs m=>?_
   exact nN hs m 5 (by rw[hb13];rfl)
  ·have hb13p:=of_decide_eq_false hb13
   refine bP hs m eZ fun a w_ hs m=>?_
   refine sL hs rfl rfl hb13 m rfl rfl aZI rfl (aHL bJ aJ _ (m.rd dI) ) rfl fun w14 m a hs=>?_
   refine bP hs m iA fun a w_ hs m=>?_
   exact nN hs m 5 (by rw[hb13];rfl)
 rintro a w15 ⟨hs,m⟩
 refine wpList_nil (aB ?_)
 refine aR hs rfl (fun h16=>?_) (fun h16=>?_)
 ·have h16p:=h16;simp only[fK] at h16p
  refine bT hs m gX fun a w_ hs m=>?_
  refine bH hs (vs:=[.int .i64 162]) rfl ⟨rfl,trivial⟩ ?_
  exact⟨_,rfl,nX ((aJO (g:=ag) (by omega) (by assumption)).1),kM ((aJO (by omega) (by assumption)).2) (m.sub (a1 (a1 (a1 (a1 (a1 (a1 (a1 (a1 (a0 .n))))))))))⟩
 have h16p:=h16;simp only[fK] at h16p
 refine bT hs m (x_ gZ (e_ (p_ (bQ m rfl eR (dX dI))) gC)) fun a w_ hs m=>?_
 refine wp_loop_ghost (fun gn a w=>∃ k:Nat,(k<=aJ.length)/\((aJ.take k).all (fun e=>iR e.Subnet)=true)/\gn=aJ.length-k/\St 75 [(0,.pointer (some (bK pag 0))),(3,.pointer (some (bK p8 0))),(24,bJ.v),(25,.int .i64 (aJ.length:Int)),(26,.int .i64 (k:Int))] a/\Hp w0 R [Bx pag 135 (cAg ag.self x2.v ag.opn ag.read x3.v x4.v x5.v x6.v ag.cursor ag.stale x7.v ag.degraded ag.granted ag.waiting ag.wish ag.renewed ag.quiet),Bx p8 77 (sY bM aW aU aZ bJ.v cM.v aY.v aX.v bE.v),Sv 2 138 x2.v ((iI pag x1:List (List Value)).map id),Sv 4 51 x3.v (ag.Routes.map aM),Sv 7 54 x4.v (ag.Neighs.map aS),Sv 7 56 x5.v (ag.Fdbs.map cB),Sv 12 48 x6.v (ag.view.map aV),Sv 2 44 x7.v (ag.skipped.map aO),Bx x1 63 [.pointer (some (bK pag 0))]] w) (aJ.length-0) ⟨0,by omega,by simp,rfl,hs.to ⟨rfl,rfl,rfl,rfl,rfl,trivial⟩,m.sub (a1 (a0 (a1 (a1 (a1 (a1 (a1 (a1 (a0 .n)))))))))⟩ ?_
 rintro gn a w19 ⟨k,hk,hv,rfl,hs,m⟩
 refine bT hs m gI fun a w_ hs m=>?_
 refine aR hs rfl (fun h20=>?_) (fun h20=>?_)
 rotate_left
 ·have h20p:=of_decide_eq_false h20
  refine wp_exit ?_
  refine eK (eK (lL (?_)))
  refine aB ?_
  refine vK m (a1 (a1 (a1 (a1 (a1 (a1 (a1 (a1 .n)))))))) fun w21 m=>?_
  refine pA hs (m.sub (a1 (a1 (a1 (a1 (a1 (a1 (a1 (a1 .n))))))))) 0 1 2 3 4 6 (k:=fun a hs=>?_)
  refine tI hs (m.sub (a1 (a1 (a1 (a1 (a1 (a1 (a1 (a1 .n))))))))) 7 8 (k:=fun a hs=>?_)
  refine bU (i:=5) (by kernel_rfl) rfl ?_
  refine jS m hs aVM (wN bJ aJ _ (m.rd dI) (by omega)) fun v22 w23 m a hs=>?_
  simp only[iG] at m
  refine wpList_nil (aB ⟨(m.sub (a2 (a2 (a2 (a2 (a2 (a2 (a2 (a2 .n))))))))),?_⟩)
  refine tI hs (m.sub (a2 (a2 (a2 (a2 (a2 (a2 (a2 (a2 .n))))))))) 9 10 (k:=fun a hs=>?_)
  refine bU (i:=11) (by kernel_rfl) rfl ?_
  refine bP hs m (dZ s1 (t:=bR)) fun a w24 hs m=>?_
  refine wpList_nil (aB ⟨(m.sub (a2 (a2 (a2 (a2 (a2 (a2 (a2 (a2 .n))))))))),?_⟩)
  refine tI hs (m.sub (a2 (a2 (a2 (a2 (a2 (a2 (a2 (a2 .n))))))))) 12 13 (k:=fun a hs=>?_)
  refine bU (i:=14) (by kernel_rfl) rfl ?_
  refine bP hs m (dZ s1 (t:=bR)) fun a w25 hs m=>?_
  refine wpList_nil (aB ⟨(m.sub (a2 (a2 (a2 (a2 (a2 (a2 (a2 (a2 .n))))))))),?_⟩)
  refine dC (by kernel_rfl) (aB ?_)
  refine bT hs m (x_ gZ (dZ s1 (t:=x_ iA (dZ s1 (t:=x_ iA (dZ s1 (t:=x_ iA (dZ s1 (t:=gI))))))))) fun a w29 hs m=>?_
  refine cC (v:=.int .i64 (eU ag.self.Host.v aJ)) hs m rfl rfl aO6 rfl (aI5 pag ({ ag with view:=aJ,cursor:=aU,stale:=false,skipped:=([]:List aT),granted:=⟨0,rfl⟩,waiting:=false }:hF) _ ⟨x1,x2,x3,x4,x5,v22,nilH,(lO r1 _ m),(lO r9 _ m),(m.rdv r3),(m.rdv r4),(m.rdv r5),(m.rdv r6),(m.rdv r0),(RdS.nil _ _)⟩ ) rfl fun w30 m a hs=>?_
  refine bP hs m lA fun a w_ hs m=>?_
  refine aR hs rfl (fun h31=>?_) (fun h31=>?_)
  ·have h31p:=of_decide_eq_true h31
   refine bT hs m gZ fun a w_ hs m=>?_
   obtain⟨e32,he33⟩:=bI (l:=aJ) (i:=(eU ag.self.Host.v aJ).toNat) (by omega)
   refine rY (c:=aV) (e:=e32) hs m (x:=(.tmp 68)) (ix:=(.tmp 69)) rfl rfl eR fZ r0 (by omega) he33 fun p34 hp35 ok36=>?_
   refine bP hs m (e_ (p_ (ok36 _ _ _ _ _)) (x_ eO (e_ (p_ (cN (aO e32.Subnet))) (x_ iA (dZ s1 (t:=gZ)))))) fun a w37 hs m=>?_
   refine bH hs (vs:=[.int .i64 0]) rfl ⟨rfl,trivial⟩ ?_
   replace m:=m.nilSvM aO 2 44
   exact⟨_,rfl,nX ((aQ7 (g:=ag) (by omega) (aDG (by omega) (by assumption) (by omega) hv) (by omega) (by assumption)).1),kM ((aQ7 (by omega) (aDG (by omega) (by assumption) (by omega) hv) (by omega) (by assumption)).2) (m.sub (a2 (a9 (a3 (a3 (a3 (a3 (a1 (a0 (a0 (a0 (a0 .n))))))))))))⟩
  have h31p:=of_decide_eq_false h31
  refine bT hs m gZ fun a w_ hs m=>?_
  refine bH hs (vs:=[.int .i64 0]) rfl ⟨rfl,trivial⟩ ?_
  replace m:=m.nilSvM aO 2 44
  exact⟨_,rfl,nX ((aQ4 (g:=ag) (by omega) (aDG (by omega) (by assumption) (by omega) hv) (by omega)).1),kM ((aQ4 (by omega) (aDG (by omega) (by assumption) (by omega) hv) (by omega)).2) (m.sub (a2 (a9 (a3 (a3 (a3 (a3 (a1 (a0 (a0 (a0 (a0 .n))))))))))))⟩
 have h20p:=of_decide_eq_true h20
 refine wp_skip ?_
 refine aB ?_
 refine dG ?_
 refine wp_block ?_
 refine bN ?_
 obtain⟨e44,he45⟩:=bI (l:=aJ) (i:=k) (by omega)
 refine kE (c:=aV) (e:=e44) hs m (x:=(.tmp 24)) (ix:=(.tmp 26)) rfl rfl eR fZ dI (by omega) he45 fun p46 hp47 ok48=>?_
 refine bP hs m (e_ (p_ (ok48 _ _ _ _ _)) (e_ (p_ (cN (aV e44))) bR)) fun a w_ hs m=>?_
 refine bZ hs m mY rfl fun p49 w50 m a hs=>?_
 refine bP hs m (dZ s0 (t:=x_ gC (e_ (p_ (cN (aO e44.Subnet))) bR))) fun a w51 hs m=>?_
 refine cC hs m rfl rfl aO3 rfl (aBR e44.Subnet _  ) rfl fun w52 m a hs=>?_
 refine bP hs m eZ fun a w_ hs m=>?_
 refine aR hs rfl (fun h53=>?_) (fun h53=>?_)
 ·have h53p:=h53;simp only[fK] at h53p
  refine bT hs m fW fun a w_ hs m=>?_
  refine bH hs (vs:=[.int .i64 162]) rfl ⟨rfl,trivial⟩ ?_
  exact⟨_,rfl,nX ((aJP (g:=ag) (by omega) (by assumption) (by assumption)).1),kM ((aJP (by omega) (by assumption) (by assumption)).2) (m.sub (a1 (a8 (a2 (a2 (a2 (a2 (a2 (a2 (a0 (a0 .n)))))))))))⟩
 have h53p:=h53;simp only[fK] at h53p
 refine bT hs m lA fun a w_ hs m=>?_
 exact⟨aJ.length-(k+1),by omega,k+1,by omega,by(rw[aFB (by assumption),hv];simp_all),rfl,hs.to ⟨rfl,rfl,rfl,rfl,rfl,trivial⟩,m.sub (a1 (a1 (a1 (a1 (a1 (a1 (a1 (a1 (a1 .n)))))))))⟩
end Go.Proofs.YtnbpodjbemfpbaaGreat.Fw
set_option linter.all false
set_option maxHeartbeats 4000000
set_option maxRecDepth 100000
namespace Go.Proofs.YtnbpodjbemfpbaaGreat.Fw
open Go
theorem aM5 (pag:Addr) (ag:hF) (er:Int) (w0:World) (R:Hh) (B0:ag.view.length<=2000000000) (B1:ag.Routes.length<=2000000000) (B2:ag.Neighs.length<=2000000000) (B3:ag.Fdbs.length<=2000000000) (B4:ag.skipped.length<=2000000000000) (m:Hp w0 R [tP pag ag] w0):Calls Tryz.prog 88 ⟨[.pointer (some (bK pag 0)),.int .i64 er]⟩ w0 fun e w'=>∃ v,e= .returned v/\(v=(.tuple ⟨[]⟩)/\Hp w0 R [tP pag (kH ag er)] w'):=by
 refine enter (n:=116) Tryz.func88 rfl rfl rfl fun a (hs:St 116 [(0,.pointer (some (bK pag 0))),(1,.int .i64 er)] a)=>?_
 have mo:=m.openAg r0
 obtain⟨x1,x2,x3,x4,x5,x6,x7,m⟩:=mo
 refine bT hs m (x_ gI (e_ (p_ (cN (mO ag.opn.Op))) bR)) fun a w_ hs m=>?_
 refine bZ hs m mZ rfl fun p8 w9 m a hs=>?_
 refine bP hs m (dZ s0 (t:=gZ)) fun a w10 hs m=>?_
 refine jO (.c (.c (.c (.c (.n))))) hs m 21 (ag.opn.Op.Kind.v==1) (.bool ((ag.opn.Op.Kind.v==1) || (ag.opn.Op.Kind.v==3))) ?_
 rintro a w12 ⟨hs,m⟩
 refine bP hs m eO fun a w_ hs m=>?_
 refine jO (.c (.c (.c (.c (.n))))) hs m 26 ((ag.opn.Op.Kind.v==1) || (ag.opn.Op.Kind.v==3)) (.bool (((ag.opn.Op.Kind.v==1) || (ag.opn.Op.Kind.v==3)) || (ag.opn.Op.Kind.v==5))) ?_
 rintro a w14 ⟨hs,m⟩
 refine bP hs m fW fun a w_ hs m=>?_
 refine aR hs rfl (fun h15=>?_) (fun h15=>?_)
 ·have h15p:=eq_of_beq h15
  refine drL m (a0 .n) fun w16 m=>?_
  refine zh4 hs (m.sub (a0 .n)) 0 1 2 3 (h4:=k_ rfl (cN (mO ag.opn.Op))) (k:=fun a hs=>?_)
  replace m:=(m.sub (a1 (a1 (a1 (a1 (a1 (a1 (a1 (a1 (a0 .n)))))))))).closeAg (p:=pag) (A:=ag)
  refine bU (i:=4) (by kernel_rfl) rfl ?_
  refine eW 1 (m.sub (a0 (a0 .n))) hs aZJ (fun R1 hR ⟨y1,sy,ly⟩ mc=>aR4 pag ag ag.opn.Op _ R1  (by omega) (by omega) (by omega) (by omega) (by omega) mc) fun w17 m a hs=>?_
  simp only[iG] at m
  have mo:=m.openAg r0
  obtain⟨x18,x19,x20,x21,x22,x23,x24,m⟩:=mo
  refine wpList_nil (aB ⟨(m.sub (a8 .n)),?_⟩)
  refine dC (by kernel_rfl) (eA (nI hs (vs:=[]) rfl trivial ?_))
  replace m:=(m.sub (a0 (a0 (a0 (a0 (a0 (a0 (a0 (a0 (a0 .n)))))))))).closeAg (p:=pag) (A:=(mC ag ag.opn.Op))
  rw[(show (mC ag ag.opn.Op)=kH ag er from aM8 (by assumption))] at m
  refine⟨_,rfl,?_,m.sub (a0 .n)⟩
  rfl
 have h15p:=ne_of_beq_false h15
 refine bT hs m gC fun a w_ hs m=>?_
 refine jO (.c (.c (.n))) hs m 40 (er==4) (.bool ((er==4)&&(((ag.opn.Op.Kind.v==1) || (ag.opn.Op.Kind.v==3)) || (ag.opn.Op.Kind.v==5)))) ?_
 rintro a w27 ⟨hs,m⟩
 refine bP hs m eZ fun a w_ hs m=>?_
 refine aR hs rfl (fun h28=>?_) (fun h28=>?_)
 ·have h28p:=h28;simp only[fK] at h28p
  refine bT hs m (x_ gC (dZ s1 (t:=gZ))) fun a w29 hs m=>?_
  refine bP hs m (e_ (p_ (bQ m rfl eR (fV r7))) gC) fun a w_ hs m=>?_
  rw[(show ag.skipped=mN ag 0 from aHX)] at m
  refine wp_loop_ghost (fun gn a w=>∃ k:Nat,∃ v30:SH,(k<=ag.view.length)/\gn=ag.view.length-k/\St 116 [(0,.pointer (some (bK pag 0))),(4,.pointer (some (bK p8 0))),(47,x6.v),(48,.int .i64 (ag.view.length:Int)),(49,.int .i64 (k:Int))] a/\Hp w0 R [Bx pag 135 (cAg ag.self x2.v ag.opn ag.read x3.v x4.v x5.v x6.v ag.cursor ag.stale v30.v true ag.granted ag.waiting ag.wish ag.renewed ag.quiet),Bx p8 58 (mO ag.opn.Op),Sv 12 48 x6.v (ag.view.map aV),Sv 2 138 x2.v ((iI pag x1:List (List Value)).map id),Sv 4 51 x3.v (ag.Routes.map aM),Sv 7 54 x4.v (ag.Neighs.map aS),Sv 7 56 x5.v (ag.Fdbs.map cB),Sv 2 44 v30.v ((mN ag k).map aO),Bx x1 63 [.pointer (some (bK pag 0))]] w) (ag.view.length-0) ⟨0,x7,by omega,rfl,hs.to ⟨rfl,rfl,rfl,rfl,rfl,trivial⟩,m.sub (a1 (a0 (a5 (a1 (a1 (a1 (a1 (a1 (a0 .n)))))))))⟩ ?_
  rintro gn a w32 ⟨k,v30,hk,rfl,hs,m⟩
  have hsk:=aGA (g:=ag) (k:=k)
  refine bT hs m gI fun a w_ hs m=>?_
  refine aR hs rfl (fun h33=>?_) (fun h33=>?_)
  rotate_left
  ·have h33p:=of_decide_eq_false h33
   refine wp_exit ?_
   refine eK (eK (lL (?_)))
   refine eA (nI hs (vs:=[]) rfl trivial ?_)
   replace m:=(m.sub (a0 (a7 (a2 (a2 (a2 (a2 (a1 (a1 (a0 .n)))))))))).closeAg (p:=pag) (A:=({ ag with skipped:=(mN ag k),degraded:=true }:hF))
   rw[(show ({ ag with skipped:=(mN ag k),degraded:=true }:hF)=kH ag er from aM7 (by assumption) (by assumption) (by omega))] at m
   refine⟨_,rfl,?_,m.sub (a0 .n)⟩
   rfl
  have h33p:=of_decide_eq_true h33
  refine wp_skip ?_
  refine aB ?_
  refine dG ?_
  refine wp_block ?_
  refine bN ?_
  obtain⟨e35,he36⟩:=bI (l:=ag.view) (i:=k) (by omega)
  refine rY (c:=aV) (e:=e35) hs m (x:=(.tmp 47)) (ix:=(.tmp 49)) rfl rfl eR fZ r2 (by omega) he36 fun p37 hp38 ok39=>?_
  refine bP hs m (e_ (p_ (ok39 _ _ _ _ _)) (e_ (p_ (cN (aV e35))) bR)) fun a w_ hs m=>?_
  refine bZ hs m mY rfl fun p40 w41 m a hs=>?_
  refine bP hs m (dZ s0 (t:=iA)) fun a w42 hs m=>?_
  refine eE m mo (by kernel_rfl) ?_
  refine kZ hs (k:=fun a hs=>?_)
  refine nG hs (k:=fun a hs=>?_)
  refine wpQuiet_nil fun w43 m=>?_
  refine bT hs m gI fun a w_ hs m=>?_
  refine xY (.c (.c (.c (.c (.c (.c (.c (.n)))))))) hs m 71 (.bool ((ag.opn.Op.Kind.v==1)&&(decide (e35.Subnet=ag.opn.Op.Route.Dst)))) ?_ ?_
  ·rcases Bool.eq_false_or_eq_true (ag.opn.Op.Kind.v==1) with hb44|hb44
   ·have hb44p:=eq_of_beq hb44
    refine bP hs m (x_ eO (e_ (dV hb44 (cN (aO e35.Subnet))) (x_ iA (e_ (dV hb44 (cN (aO ag.opn.Op.Route.Dst))) (e_ (dV hb44 (mP (b:=decide (e35.Subnet=ag.opn.Op.Route.Dst)) rfl rfl zE (lB _) (lB _) (sA e35.Subnet ag.opn.Op.Route.Dst))) eO))))) fun a w_ hs m=>?_
    exact nN hs m 6 (by rw[hb44];rfl)
   ·have hb44p:=ne_of_beq_false hb44
    refine bP hs m gZ fun a w_ hs m=>?_
    exact nN hs m 6 (by rw[hb44];rfl)
  rintro a w45 ⟨hs,m⟩
  refine bP hs m eO fun a w_ hs m=>?_
  refine zG (.c (.c (.c (.c (.c (.c (.c (.c (.c (.c (.c (.c (.c (.c (.c (.c (.n))))))))))))))))) (fun a w=>St 116 [(0,.pointer (some (bK pag 0))),(4,.pointer (some (bK p8 0))),(7,.pointer (some (bK p40 0))),(8,.bool (e35.Host.v !=ag.self.Host.v)),(47,x6.v),(48,.int .i64 (ag.view.length:Int)),(49,.int .i64 (k:Int)),(88,.bool (((ag.opn.Op.Kind.v==1)&&(decide (e35.Subnet=ag.opn.Op.Route.Dst))) || (((ag.opn.Op.Kind.v==3)&&(e35.Host.v !=ag.self.Host.v))&&(e35.Subnet.Addr.v==ag.opn.Op.Neigh.IP.v))))] a/\Hp w0 R [Bx p40 48 (aV e35),Bx pag 135 (cAg ag.self x2.v ag.opn ag.read x3.v x4.v x5.v x6.v ag.cursor ag.stale v30.v true ag.granted ag.waiting ag.wish ag.renewed ag.quiet),Bx p8 58 (mO ag.opn.Op),Sv 12 48 x6.v (ag.view.map aV),Sv 2 138 x2.v ((iI pag x1:List (List Value)).map id),Sv 4 51 x3.v (ag.Routes.map aM),Sv 7 54 x4.v (ag.Neighs.map aS),Sv 7 56 x5.v (ag.Fdbs.map cB),Sv 2 44 v30.v ((mN ag k).map aO),Bx x1 63 [.pointer (some (bK pag 0))]] w) ?_ ?_
  ·rcases Bool.eq_false_or_eq_true ((ag.opn.Op.Kind.v==1)&&(decide (e35.Subnet=ag.opn.Op.Route.Dst))) with hb46|hb46
   ·have hb46p:=hb46;simp only[fK] at hb46p
    refine bP hs m (x_ aJ3 (e_ (p_ (aP (r:=.bool (((ag.opn.Op.Kind.v==1)&&(decide (e35.Subnet=ag.opn.Op.Route.Dst))) || (((ag.opn.Op.Kind.v==3)&&(e35.Host.v !=ag.self.Host.v))&&(e35.Subnet.Addr.v==ag.opn.Op.Neigh.IP.v)))) rfl rfl rfl (by rw[hb46];rfl))) bR)) fun a w_ hs m=>?_
    exact wpList_nil (aB ⟨hs.to ⟨rfl,rfl,rfl,rfl,rfl,rfl,rfl,rfl,trivial⟩,m⟩)
   ·have hb46p:=hb46;simp only[fK] at hb46p
    refine bP hs m gC fun a w_ hs m=>?_
    refine xY (.c (.c (.n))) hs m 78 (.bool ((ag.opn.Op.Kind.v==3)&&(e35.Host.v !=ag.self.Host.v))) ?_ ?_
    ·rcases Bool.eq_false_or_eq_true (ag.opn.Op.Kind.v==3) with hb47|hb47
     ·have hb47p:=eq_of_beq hb47
      refine bP hs m (x_ eO (e_ (dV hb46 (aP (r:=.bool ((ag.opn.Op.Kind.v==3)&&(e35.Host.v !=ag.self.Host.v))) rfl rfl rfl (by rw[hb47];rfl))) bR)) fun a w_ hs m=>?_
      exact wpList_nil (aB ⟨hs.ct 1,m⟩)
     ·have hb47p:=ne_of_beq_false hb47
      refine bP hs m (x_ eO (e_ (dV hb46 (aP (r:=.bool ((ag.opn.Op.Kind.v==3)&&(e35.Host.v !=ag.self.Host.v))) rfl rfl rfl (by rw[hb47];rfl))) bR)) fun a w_ hs m=>?_
      exact wpList_nil (aB ⟨hs.ct 1,m⟩)
    rintro a w48 ⟨hs,m⟩
    refine bP hs m eO fun a w_ hs m=>?_
    refine xY (.c (.c (.c (.c (.c (.c (.c (.c (.n))))))))) hs m 87 (.bool (((ag.opn.Op.Kind.v==3)&&(e35.Host.v !=ag.self.Host.v))&&(e35.Subnet.Addr.v==ag.opn.Op.Neigh.IP.v))) ?_ ?_
    ·rcases Bool.eq_false_or_eq_true ((ag.opn.Op.Kind.v==3)&&(e35.Host.v !=ag.self.Host.v)) with hb49|hb49
     ·have hb49p:=hb49;simp only[fK] at hb49p
      refine bP hs m (x_ gZ (e_ (dV hb46 (aP (r:=.bool (((ag.opn.Op.Kind.v==3)&&(e35.Host.v !=ag.self.Host.v))&&(e35.Subnet.Addr.v==ag.opn.Op.Neigh.IP.v))) rfl rfl rfl (by rw[hb49];rfl))) bR)) fun a w_ hs m=>?_
      exact wpList_nil (aB ⟨hs.ct 7,m⟩)
     ·have hb49p:=hb49;simp only[fK] at hb49p
      refine bP hs m (x_ gZ (e_ (dV hb46 (aP (r:=.bool (((ag.opn.Op.Kind.v==3)&&(e35.Host.v !=ag.self.Host.v))&&(e35.Subnet.Addr.v==ag.opn.Op.Neigh.IP.v))) rfl rfl rfl (by rw[hb49];rfl))) bR)) fun a w_ hs m=>?_
      exact wpList_nil (aB ⟨hs.ct 7,m⟩)
    rintro a w50 ⟨hs,m⟩
    refine bP hs m (e_ (p_ (aP (r:=.bool (((ag.opn.Op.Kind.v==1)&&(decide (e35.Subnet=ag.opn.Op.Route.Dst))) || (((ag.opn.Op.Kind.v==3)&&(e35.Host.v !=ag.self.Host.v))&&(e35.Subnet.Addr.v==ag.opn.Op.Neigh.IP.v)))) rfl rfl rfl (by rw[hb46];rfl))) bR) fun a w_ hs m=>?_
    exact wpList_nil (aB ⟨hs.to ⟨rfl,rfl,rfl,rfl,rfl,rfl,rfl,rfl,trivial⟩,m⟩)
  rintro a w51 ⟨hs,m⟩
  refine bP hs m eO fun a w_ hs m=>?_
  refine zG (.c (.c (.c (.c (.c (.c (.c (.c (.c (.c (.c (.c (.c (.c (.c (.n)))))))))))))))) (fun a w=>St 116 [(0,.pointer (some (bK pag 0))),(4,.pointer (some (bK p8 0))),(7,.pointer (some (bK p40 0))),(47,x6.v),(48,.int .i64 (ag.view.length:Int)),(49,.int .i64 (k:Int)),(104,.bool ((((ag.opn.Op.Kind.v==1)&&(decide (e35.Subnet=ag.opn.Op.Route.Dst))) || (((ag.opn.Op.Kind.v==3)&&(e35.Host.v !=ag.self.Host.v))&&(e35.Subnet.Addr.v==ag.opn.Op.Neigh.IP.v))) || (((ag.opn.Op.Kind.v==5)&&(e35.Host.v !=ag.self.Host.v))&&(decide (e35.MAC=ag.opn.Op.Fdb.MAC)))))] a/\Hp w0 R [Bx p40 48 (aV e35),Bx pag 135 (cAg ag.self x2.v ag.opn ag.read x3.v x4.v x5.v x6.v ag.cursor ag.stale v30.v true ag.granted ag.waiting ag.wish ag.renewed ag.quiet),Bx p8 58 (mO ag.opn.Op),Sv 12 48 x6.v (ag.view.map aV),Sv 2 138 x2.v ((iI pag x1:List (List Value)).map id),Sv 4 51 x3.v (ag.Routes.map aM),Sv 7 54 x4.v (ag.Neighs.map aS),Sv 7 56 x5.v (ag.Fdbs.map cB),Sv 2 44 v30.v ((mN ag k).map aO),Bx x1 63 [.pointer (some (bK pag 0))]] w) ?_ ?_
  ·rcases Bool.eq_false_or_eq_true (((ag.opn.Op.Kind.v==1)&&(decide (e35.Subnet=ag.opn.Op.Route.Dst))) || (((ag.opn.Op.Kind.v==3)&&(e35.Host.v !=ag.self.Host.v))&&(e35.Subnet.Addr.v==ag.opn.Op.Neigh.IP.v))) with hb52|hb52
   ·have hb52p:=hb52;simp only[fK] at hb52p
    refine bP hs m (x_ aAM (e_ (p_ (aP (r:=.bool ((((ag.opn.Op.Kind.v==1)&&(decide (e35.Subnet=ag.opn.Op.Route.Dst))) || (((ag.opn.Op.Kind.v==3)&&(e35.Host.v !=ag.self.Host.v))&&(e35.Subnet.Addr.v==ag.opn.Op.Neigh.IP.v))) || (((ag.opn.Op.Kind.v==5)&&(e35.Host.v !=ag.self.Host.v))&&(decide (e35.MAC=ag.opn.Op.Fdb.MAC))))) rfl rfl rfl (by rw[hb52];rfl))) bR)) fun a w_ hs m=>?_
    exact wpList_nil (aB ⟨hs.to ⟨rfl,rfl,rfl,rfl,rfl,rfl,rfl,trivial⟩,m⟩)
   ·have hb52p:=hb52;simp only[fK] at hb52p
    refine bP hs m gC fun a w_ hs m=>?_
    refine xY (.c (.c (.n))) hs m 95 (.bool ((ag.opn.Op.Kind.v==5)&&(e35.Host.v !=ag.self.Host.v))) ?_ ?_
    ·rcases Bool.eq_false_or_eq_true (ag.opn.Op.Kind.v==5) with hb53|hb53
     ·have hb53p:=eq_of_beq hb53
      refine bP hs m (x_ eO (e_ (dV hb52 (aP (r:=.bool ((ag.opn.Op.Kind.v==5)&&(e35.Host.v !=ag.self.Host.v))) rfl rfl rfl (by rw[hb53];rfl))) bR)) fun a w_ hs m=>?_
      exact wpList_nil (aB ⟨hs.ct 1,m⟩)
     ·have hb53p:=ne_of_beq_false hb53
      refine bP hs m (x_ eO (e_ (dV hb52 (aP (r:=.bool ((ag.opn.Op.Kind.v==5)&&(e35.Host.v !=ag.self.Host.v))) rfl rfl rfl (by rw[hb53];rfl))) bR)) fun a w_ hs m=>?_
      exact wpList_nil (aB ⟨hs.ct 1,m⟩)
    rintro a w54 ⟨hs,m⟩
    refine bP hs m eO fun a w_ hs m=>?_
    refine xY (.c (.c (.c (.c (.c (.c (.c (.n)))))))) hs m 103 (.bool (((ag.opn.Op.Kind.v==5)&&(e35.Host.v !=ag.self.Host.v))&&(decide (e35.MAC=ag.opn.Op.Fdb.MAC)))) ?_ ?_
    ·rcases Bool.eq_false_or_eq_true ((ag.opn.Op.Kind.v==5)&&(e35.Host.v !=ag.self.Host.v)) with hb55|hb55
     ·have hb55p:=hb55;simp only[fK] at hb55p
      refine bP hs m (x_ eO (e_ (dV hb55 (cN (mU e35.MAC))) (x_ iA (e_ (dV hb55 (cN (mU ag.opn.Op.Fdb.MAC))) (e_ (dV hb55 (mP (b:=decide (e35.MAC=ag.opn.Op.Fdb.MAC)) rfl rfl aDZ (aAX _) (aAX _) (aKQ e35.MAC ag.opn.Op.Fdb.MAC))) (e_ (dV hb52 (aP (r:=.bool (((ag.opn.Op.Kind.v==5)&&(e35.Host.v !=ag.self.Host.v))&&(decide (e35.MAC=ag.opn.Op.Fdb.MAC)))) rfl rfl rfl (by rw[hb55];rfl))) bR)))))) fun a w_ hs m=>?_
      exact wpList_nil (aB ⟨hs.ct 6,m⟩)
     ·have hb55p:=hb55;simp only[fK] at hb55p
      refine bP hs m (x_ gX (e_ (dV hb52 (aP (r:=.bool (((ag.opn.Op.Kind.v==5)&&(e35.Host.v !=ag.self.Host.v))&&(decide (e35.MAC=ag.opn.Op.Fdb.MAC)))) rfl rfl rfl (by rw[hb55];rfl))) bR)) fun a w_ hs m=>?_
      exact wpList_nil (aB ⟨hs.ct 6,m⟩)
    rintro a w56 ⟨hs,m⟩
    refine bP hs m (e_ (p_ (aP (r:=.bool ((((ag.opn.Op.Kind.v==1)&&(decide (e35.Subnet=ag.opn.Op.Route.Dst))) || (((ag.opn.Op.Kind.v==3)&&(e35.Host.v !=ag.self.Host.v))&&(e35.Subnet.Addr.v==ag.opn.Op.Neigh.IP.v))) || (((ag.opn.Op.Kind.v==5)&&(e35.Host.v !=ag.self.Host.v))&&(decide (e35.MAC=ag.opn.Op.Fdb.MAC))))) rfl rfl rfl (by rw[hb52];rfl))) bR) fun a w_ hs m=>?_
    exact wpList_nil (aB ⟨hs.to ⟨rfl,rfl,rfl,rfl,rfl,rfl,rfl,trivial⟩,m⟩)
  rintro a w57 ⟨hs,m⟩
  refine wpList_nil (aB ?_)
  refine aR hs rfl (fun h58=>?_) (fun h58=>?_)
  ·have h58p:=h58;simp only[fK] at h58p
   refine drL m (a0 (a1 (a1 (a1 (a1 (a1 (a1 (a2 .n)))))))) fun w59 m=>?_
   refine pA hs (m.sub (a0 (a1 (a1 (a1 (a1 (a1 (a1 (a2 .n))))))))) 0 1 2 3 5 6 (h6:=k_ rfl (cN (aO e35.Subnet))) (k:=fun a hs=>?_)
   refine bU (i:=4) (by kernel_rfl) rfl ?_
   refine bP hs m eO fun a w_ hs m=>?_
   refine wpList_nil (aB ⟨(m.sub (a0 (a1 (a1 (a1 (a1 (a1 (a1 (a2 .n))))))))),?_⟩)
   refine bU (i:=7) (by kernel_rfl) rfl ?_
   refine jM 1 (m.sub (a8 (a0 (a0 (a0 (a0 (a0 (a0 (a0 (a0 (a0 .n))))))))))) hs aZK (fun R1 hR ⟨y1,sy,ly⟩ mc=>aJN v30 (mN ag k) e35.Subnet _ R1  (by omega) mc) fun v60 w61 m a hs=>?_
   simp only[iG] at m
   refine wpList_nil (aB ⟨(m.sub (a1 (a2 (a2 (a2 (a2 (a2 (a2 (a2 .n))))))))),?_⟩)
   refine tI hs (m.sub (a1 (a2 (a2 (a2 (a2 (a2 (a2 (a2 .n))))))))) 8 9 (k:=fun a hs=>?_)
   refine bU (i:=10) (by kernel_rfl) rfl ?_
   refine bP hs m (dZ s2 (t:=bR)) fun a w62 hs m=>?_
   refine wpList_nil (aB ⟨(m.sub (a1 (a2 (a2 (a2 (a2 (a2 (a2 (a2 .n))))))))),?_⟩)
   refine dC (by kernel_rfl) (eA (aB ?_))
   refine bT hs m gI fun a w_ hs m=>?_
   rw[(show iB dH (mN ag k) e35.Subnet=mN ag (k+1) from aHZ (by assumption) (by assumption))] at m
   exact⟨ag.view.length-(k+1),by omega,k+1,v60,by omega,rfl,hs.to ⟨rfl,rfl,rfl,rfl,rfl,trivial⟩,m.sub (a2 (a2 (a2 (a2 (a2 (a2 (a2 (a0 (a1 .n)))))))))⟩
  have h58p:=h58;simp only[fK] at h58p
  refine bT hs m lA fun a w_ hs m=>?_
  rw[(show mN ag k=mN ag (k+1) from aHY (by assumption) (by assumption))] at m
  exact⟨ag.view.length-(k+1),by omega,k+1,v30,by omega,rfl,hs.to ⟨rfl,rfl,rfl,rfl,rfl,trivial⟩,m.sub (a1 (a1 (a1 (a1 (a1 (a1 (a1 (a1 (a1 .n)))))))))⟩
 have h28p:=h28;simp only[fK] at h28p
 refine wp_skip ?_
 refine eA (nI hs (vs:=[]) rfl trivial ?_)
 replace m:=(m.sub (a1 (a1 (a1 (a1 (a1 (a1 (a1 (a1 (a0 .n)))))))))).closeAg (p:=pag) (A:=ag)
 rw[(show ag=kH ag er from aM6 (by assumption) (by assumption))] at m
 refine⟨_,rfl,?_,m.sub (a0 .n)⟩
 rfl
theorem aIY (pag:Addr) (ag:hF) (bM:Fx .i64) (aW:fC) (aU:Fx .i64) (aZ:Fx .i64) (bJ:SH) (aJ:List TLease) (cM:SH) (bC:List TEvent) (aY:SH) (aE:List bD) (aX:SH) (aG:List bA) (bE:SH) (aK:List cH) (w0:World) (R:Hh) (dI:RdS R 12 bJ.v (aJ.map aV)) (eQ:RdS R 14 cM.v (bC.map eI)) (dE:RdS R 4 aY.v (aE.map aM)) (dD:RdS R 7 aX.v (aG.map aS)) (dM:RdS R 7 bE.v (aK.map cB)) (m:Hp w0 R [tP pag ag] w0):Calls Tryz.prog 89 ⟨[.pointer (some (bK pag 0)),.agg ⟨sY bM aW aU aZ bJ.v cM.v aY.v aX.v bE.v⟩]⟩ w0 fun e w'=>∃ v,e= .returned v/\(v=(.int .i64 (lV ag bM.v aW.Lease))/\Hp w0 R [tP pag (jU ag bM.v aW.Lease)] w'):=by
 have hol:=tC (h:=ag.self.Host.v) (l:=ag.view)
 have kB:=dI.bd
 have oS:=eQ.bd
 have iX:=dE.bd
 have iW:=dD.bd
 have kC:=dM.bd
 refine enter (n:=94) Tryz.func89 rfl rfl rfl fun a (hs:St 94 [(0,.pointer (some (bK pag 0))),(1,.agg ⟨sY bM aW aU aZ bJ.v cM.v aY.v aX.v bE.v⟩)] a)=>?_
 have mo:=m.openAg r0
 obtain⟨x1,x2,x3,x4,x5,x6,x7,m⟩:=mo
 refine bN ?_
 refine dU (cs:=sY bM aW aU aZ bJ.v cM.v aY.v aX.v bE.v) hs m rfl (by kernel_rfl) rfl fun p8 w9 m a hs=>?_
 refine bP hs m (x_ aMZ (e_ (p_ (cN (aV aW.Lease))) bR)) fun a w_ hs m=>?_
 refine bZ hs m mY rfl fun p10 w11 m a hs=>?_
 refine bP hs m (dZ s0 (t:=hQ)) fun a w12 hs m=>?_
 refine jO (.c (.c (.n))) hs m 60 (bM.v==4) (.bool ((bM.v==4)&&(ag.opn.Kind.v==4))) ?_
 rintro a w14 ⟨hs,m⟩
 refine bP hs m eZ fun a w_ hs m=>?_
 refine aR hs rfl (fun h15=>?_) (fun h15=>?_)
 ·have h15p:=h15;simp only[fK] at h15p
  refine bT hs m (x_ gC (dZ s2 (t:=lA))) fun a w16 hs m=>?_
  refine bH hs (vs:=[.int .i64 0]) rfl ⟨rfl,trivial⟩ ?_
  exact⟨_,rfl,nX ((aIU (by assumption)).1),kM ((aIU (by assumption)).2) (m.sub (a2 (a2 (a2 (a2 (a2 (a2 (a2 (a2 (a0 (a0 .n)))))))))))⟩
 have h15p:=h15;simp only[fK] at h15p
 refine bT hs m gI fun a w_ hs m=>?_
 refine jO (.c (.c (.c (.n)))) hs m 71 (bM.v==111) (.bool ((bM.v==111)&&(!(ag.opn.Kind.v==4)))) ?_
 rintro a w20 ⟨hs,m⟩
 refine bP hs m eZ fun a w_ hs m=>?_
 refine aR hs rfl (fun h21=>?_) (fun h21=>?_)
 ·have h21p:=h21;simp only[fK] at h21p
  refine bT hs m (x_ gC (dZ s2 (t:=lA))) fun a w22 hs m=>?_
  refine bH hs (vs:=[.int .i64 0]) rfl ⟨rfl,trivial⟩ ?_
  exact⟨_,rfl,nX ((aIV (by assumption) (by assumption)).1),kM ((aIV (by assumption) (by assumption)).2) (m.sub (a2 (a2 (a2 (a2 (a2 (a2 (a2 (a2 (a0 (a0 .n)))))))))))⟩
 have h21p:=h21;simp only[fK] at h21p
 refine bT hs m gZ fun a w_ hs m=>?_
 refine aR hs rfl (fun h25=>?_) (fun h25=>?_)
 ·have h25p:=fT h25
  refine bT hs m lA fun a w_ hs m=>?_
  refine bH hs (vs:=[.int .i64 0]) rfl ⟨rfl,trivial⟩ ?_
  exact⟨_,rfl,nX ((aIW (by assumption) (by assumption) (by assumption)).1),kM ((aIW (by assumption) (by assumption) (by assumption)).2) (m.sub (a2 (a2 (a2 (a2 (a2 (a2 (a2 (a2 (a0 (a0 .n)))))))))))⟩
 have h25p:=dJ h25
 refine eE m mo (by kernel_rfl) ?_
 refine kZ hs (k:=fun a hs=>?_)
 refine nG hs (k:=fun a hs=>?_)
 refine qct (.c (.c (.c (.c (.c (.n)))))) hs 93 (.bool ((aW.Lease.Host.v !=ag.self.Host.v) || (!(iR aW.Lease.Subnet)))) ?_ ?_
 ·rcases Bool.eq_false_or_eq_true (aW.Lease.Host.v !=ag.self.Host.v) with hb28|hb28
  ·have hb28p:=fT hb28
   refine xD hs (h5:=q_ (aP (r:=.bool ((aW.Lease.Host.v !=ag.self.Host.v) || (!(iR aW.Lease.Subnet)))) rfl rfl rfl (by rw[hb28];rfl))) (k:=fun a hs=>?_)
   exact wpQuiet_nil (hs.ct 4)
  ·have hb28p:=dJ hb28
   refine sO hs (h2:=kW hb28 (cN (aO aW.Lease.Subnet))) (k:=fun a hs=>?_)
   refine jI hs rfl rfl hb28 rfl rfl aO3 rfl (fun w m=>aBR aW.Lease.Subnet w  ) rfl fun a hs=>?_
   refine sO hs (h2:=q_ (aP (r:=.bool ((aW.Lease.Host.v !=ag.self.Host.v) || (!(iR aW.Lease.Subnet)))) rfl rfl rfl (by rw[hb28];rfl))) (k:=fun a hs=>?_)
   exact wpQuiet_nil (hs.ct 4)
 intro a hs
 refine uZ hs (k:=fun a hs=>?_)
 refine wpQuiet_nil fun w29 m=>?_
 refine aR hs rfl (fun h30=>?_) (fun h30=>?_)
 ·have h30p:=h30;simp only[fK] at h30p
  refine bT hs m gZ fun a w_ hs m=>?_
  refine bH hs (vs:=[.int .i64 162]) rfl ⟨rfl,trivial⟩ ?_
  exact⟨_,rfl,nX ((aIX (by assumption) (by assumption) (by omega) (by assumption)).1),kM ((aIX (by assumption) (by assumption) (by omega) (by assumption)).2) (m.sub (a2 (a2 (a2 (a2 (a2 (a2 (a2 (a2 (a0 (a0 .n)))))))))))⟩
 have h30p:=h30;simp only[fK] at h30p
 refine bT hs m eZ fun a w_ hs m=>?_
 refine cC hs m rfl rfl aO6 rfl (aI5 pag ag _ ⟨x1,x2,x3,x4,x5,x6,x7,(lO r2 _ m),(lO r3 _ m),(m.rdv r4),(m.rdv r5),(m.rdv r6),(m.rdv r7),(m.rdv r8),(m.rdv r9)⟩ ) rfl fun w33 m a hs=>?_
 refine bP hs m eZ fun a w_ hs m=>?_
 refine eE m mo (by kernel_rfl) ?_
 refine nG hs (k:=fun a hs=>?_)
 rcases Bool.eq_false_or_eq_true (decide ((eU ag.self.Host.v ag.view)>=0)) with hb34|hb34
 ·have hb34p:=of_decide_eq_true hb34
  refine xD hs (k:=fun a hs=>?_)
  obtain⟨e35,he36⟩:=bI (l:=ag.view) (i:=(eU ag.self.Host.v ag.view).toNat) (by omega)
  refine rY (c:=aV) (e:=e35) hs m (x:=(.tmp 25)) (ix:=(.tmp 26)) rfl rfl eR fZ r8 (by omega) he36 fun p37 hp38 ok39=>?_
  refine kZ hs (h1:=kW hb34 (ok39 _ _ _ _ _)) (h3:=kW hb34 (cN (aO e35.Subnet))) (h5:=kW hb34 (cN (aO aW.Lease.Subnet))) (h6:=kW hb34 (mP (b:=decide (e35.Subnet=aW.Lease.Subnet)) rfl rfl zE (lB _) (lB _) (sA e35.Subnet aW.Lease.Subnet))) (k:=fun a hs=>?_)
  refine uZ hs (h1:=q_ (aP (r:=.bool (decide (e35.Subnet=aW.Lease.Subnet))) rfl rfl rfl (by rw[hb34];rfl))) (k:=fun a hs=>?_)
  refine wpQuiet_nil fun w40 m=>?_
  refine aR hs rfl (fun h41=>?_) (fun h41=>?_)
  ·have h41p:=of_decide_eq_true h41
   refine drL m (a0 (a0 (a0 (a0 (a0 (a0 (a0 (a0 (a1 .n))))))))) fun w42 m=>?_
   refine pA hs (m.sub (a0 (a0 (a0 (a0 (a0 (a0 (a0 (a0 (a1 .n)))))))))) 0 1 2 3 4 5 (k:=fun a hs=>?_)
   refine kY hs (m.sub (a0 (a0 (a0 (a0 (a0 (a0 (a0 (a0 (a1 .n)))))))))) 6 (k:=fun a hs=>?_)
   refine bU (i:=7) (by kernel_rfl) rfl ?_
   refine rY (c:=aV) (e:=e35) hs m (x:=(.tmp 37)) (ix:=(.tmp 38)) rfl rfl eR fZ r8 (by omega) he36 fun p43 hp44 ok45=>?_
   refine bP hs m (e_ (p_ (ok45 _ _ _ _ _)) bR) fun a w_ hs m=>?_
   refine wpList_nil (aB ⟨(m.sub (a0 (a0 (a0 (a0 (a0 (a0 (a0 (a0 (a1 .n)))))))))),?_⟩)
   refine kY hs (m.sub (a0 (a0 (a0 (a0 (a0 (a0 (a0 (a0 (a1 .n)))))))))) 8 (k:=fun a hs=>?_)
   refine bU (i:=9) (by kernel_rfl) rfl ?_
   refine rV (c:=aV) (e':=(⟨e35.Host,e35.Subnet,e35.Pub,e35.MAC,aW.Lease.Until,e35.Rev⟩:TLease)) (vs:=[.int .i64 aW.Lease.Until.v]) hs m rfl rfl r8 hp44 he36 ty2 rfl rfl rfl rfl rfl fun w46 m=>?_
   replace m:Hp w0 R [Sv 12 48 x6.v ((ag.view.set ((eU ag.self.Host.v ag.view).toNat) (⟨e35.Host,e35.Subnet,e35.Pub,e35.MAC,aW.Lease.Until,e35.Rev⟩:TLease)).map aV),Bx p10 48 (aV aW.Lease),Bx p8 77 (sY bM aW aU aZ bJ.v cM.v aY.v aX.v bE.v),Bx pag 135 (cAg ag.self x2.v ag.opn ag.read x3.v x4.v x5.v x6.v ag.cursor ag.stale x7.v ag.degraded ag.granted ag.waiting ag.wish ag.renewed ag.quiet),Bx x1 63 [.pointer (some (bK pag 0))],Sv 2 138 x2.v ((iI pag x1:List (List Value)).map id),Sv 4 51 x3.v (ag.Routes.map aM),Sv 7 54 x4.v (ag.Neighs.map aS),Sv 7 56 x5.v (ag.Fdbs.map cB),Sv 2 44 x7.v (ag.skipped.map aO)] w46:=m
   refine wpList_nil (aB ⟨(m.sub (a1 (a1 (a1 (a1 (a1 (a1 (a1 (a1 (a1 .n)))))))))),?_⟩)
   refine dC (by kernel_rfl) (aB ?_)
   refine bT hs m gC fun a w_ hs m=>?_
   refine aR hs rfl (fun h47=>?_) (fun h47=>?_)
   ·have h47p:=eq_of_beq h47
    refine drL m (a0 (a0 (a0 (a1 (a1 (a1 (a1 (a1 (a1 .n))))))))) fun w48 m=>?_
    refine pA hs (m.sub (a0 (a0 (a0 (a1 (a1 (a1 (a1 (a1 (a1 .n)))))))))) 0 1 2 3 4 5 (h6:=k_ rfl (cN (aO aW.Lease.Subnet))) (k:=fun a hs=>?_)
    refine tI hs (m.sub (a0 (a0 (a0 (a1 (a1 (a1 (a1 (a1 (a1 .n)))))))))) 6 7 (k:=fun a hs=>?_)
    refine bU (i:=8) (by kernel_rfl) rfl ?_
    refine bP hs m (dZ s3 (t:=bR)) fun a w49 hs m=>?_
    refine wpList_nil (aB ⟨(m.sub (a0 (a0 (a0 (a1 (a1 (a1 (a1 (a1 (a1 .n)))))))))),?_⟩)
    refine tI hs (m.sub (a0 (a0 (a0 (a1 (a1 (a1 (a1 (a1 (a1 .n)))))))))) 9 10 (k:=fun a hs=>?_)
    refine bU (i:=11) (by kernel_rfl) rfl ?_
    refine bP hs m (dZ s3 (t:=bR)) fun a w50 hs m=>?_
    refine wpList_nil (aB ⟨(m.sub (a0 (a0 (a0 (a1 (a1 (a1 (a1 (a1 (a1 .n)))))))))),?_⟩)
    refine dC (by kernel_rfl) (eA (aB ?_))
    refine bT hs m gI fun a w_ hs m=>?_
    refine bH hs (vs:=[.int .i64 0]) rfl ⟨rfl,trivial⟩ ?_
    exact⟨_,rfl,nX ((vT (by assumption) (by assumption) (by omega) (by assumption) (aP5 (by omega) (by assumption) (by assumption)) (by assumption)).1),kM ((vT (by assumption) (by assumption) (by omega) (by assumption) (aP5 (by omega) (by assumption) (by assumption)) (by assumption)).2) (m.sub (a3 (a3 (a3 (a3 (a3 (a3 (a0 (a2 (a0 (a0 .n)))))))))))⟩
   have h47p:=ne_of_beq_false h47
   refine bT hs m lA fun a w_ hs m=>?_
   refine bH hs (vs:=[.int .i64 0]) rfl ⟨rfl,trivial⟩ ?_
   exact⟨_,rfl,nX ((vU (by assumption) (by assumption) (by omega) (by assumption) (aP5 (by omega) (by assumption) (by assumption)) (by assumption)).1),kM ((vU (by assumption) (by assumption) (by omega) (by assumption) (aP5 (by omega) (by assumption) (by assumption)) (by assumption)).2) (m.sub (a3 (a3 (a3 (a3 (a3 (a3 (a0 (a2 (a0 (a0 .n)))))))))))⟩
  have h41p:=of_decide_eq_false h41
  refine bT hs m gX fun a w_ hs m=>?_
  refine aR hs rfl (fun h55=>?_) (fun h55=>?_)
  ·have h55p:=eq_of_beq h55
   refine drL m (a0 (a0 (a1 (a1 (a1 (a1 (a1 (a1 (a1 .n))))))))) fun w56 m=>?_
   refine pA hs (m.sub (a0 (a0 (a1 (a1 (a1 (a1 (a1 (a1 (a1 .n)))))))))) 0 1 2 3 4 5 (h6:=k_ rfl (cN (aO aW.Lease.Subnet))) (k:=fun a hs=>?_)
   refine tI hs (m.sub (a0 (a0 (a1 (a1 (a1 (a1 (a1 (a1 (a1 .n)))))))))) 6 7 (k:=fun a hs=>?_)
   refine bU (i:=8) (by kernel_rfl) rfl ?_
   refine bP hs m (dZ s2 (t:=bR)) fun a w57 hs m=>?_
   refine wpList_nil (aB ⟨(m.sub (a0 (a0 (a1 (a1 (a1 (a1 (a1 (a1 (a1 .n)))))))))),?_⟩)
   refine tI hs (m.sub (a0 (a0 (a1 (a1 (a1 (a1 (a1 (a1 (a1 .n)))))))))) 9 10 (k:=fun a hs=>?_)
   refine bU (i:=11) (by kernel_rfl) rfl ?_
   refine bP hs m (dZ s2 (t:=bR)) fun a w58 hs m=>?_
   refine wpList_nil (aB ⟨(m.sub (a0 (a0 (a1 (a1 (a1 (a1 (a1 (a1 (a1 .n)))))))))),?_⟩)
   refine dC (by kernel_rfl) (eA (aB ?_))
   refine bT hs m gI fun a w_ hs m=>?_
   refine bH hs (vs:=[.int .i64 0]) rfl ⟨rfl,trivial⟩ ?_
   exact⟨_,rfl,nX ((vT (by assumption) (by assumption) (by omega) (by assumption) (aI2 (by assumption) (by assumption)) (by assumption)).1),kM ((vT (by assumption) (by assumption) (by omega) (by assumption) (aI2 (by assumption) (by assumption)) (by assumption)).2) (m.sub (a2 (a2 (a2 (a2 (a2 (a2 (a2 (a2 (a0 (a0 .n)))))))))))⟩
  have h55p:=ne_of_beq_false h55
  refine bT hs m lA fun a w_ hs m=>?_
  refine bH hs (vs:=[.int .i64 0]) rfl ⟨rfl,trivial⟩ ?_
  exact⟨_,rfl,nX ((vU (by assumption) (by assumption) (by omega) (by assumption) (aI2 (by assumption) (by assumption)) (by assumption)).1),kM ((vU (by assumption) (by assumption) (by omega) (by assumption) (aI2 (by assumption) (by assumption)) (by assumption)).2) (m.sub (a2 (a2 (a2 (a2 (a2 (a2 (a2 (a2 (a0 (a0 .n)))))))))))⟩
 ·have hb34p:=of_decide_eq_false hb34
  refine kZ hs (k:=fun a hs=>?_)
  refine kZ hs (h6:=q_ (aP (r:=.bool false) rfl rfl rfl (by rw[hb34];rfl))) (k:=fun a hs=>?_)
  refine wpQuiet_nil fun w63 m=>?_
  refine bT hs m gZ fun a w_ hs m=>?_
  refine aR hs rfl (fun h65=>?_) (fun h65=>?_)
  ·have h65p:=eq_of_beq h65
   refine drL m (a0 (a0 (a1 (a1 (a1 (a1 (a1 (a1 (a1 .n))))))))) fun w66 m=>?_
   refine pA hs (m.sub (a0 (a0 (a1 (a1 (a1 (a1 (a1 (a1 (a1 .n)))))))))) 0 1 2 3 4 5 (h6:=k_ rfl (cN (aO aW.Lease.Subnet))) (k:=fun a hs=>?_)
   refine tI hs (m.sub (a0 (a0 (a1 (a1 (a1 (a1 (a1 (a1 (a1 .n)))))))))) 6 7 (k:=fun a hs=>?_)
   refine bU (i:=8) (by kernel_rfl) rfl ?_
   refine bP hs m (dZ s2 (t:=bR)) fun a w67 hs m=>?_
   refine wpList_nil (aB ⟨(m.sub (a0 (a0 (a1 (a1 (a1 (a1 (a1 (a1 (a1 .n)))))))))),?_⟩)
   refine tI hs (m.sub (a0 (a0 (a1 (a1 (a1 (a1 (a1 (a1 (a1 .n)))))))))) 9 10 (k:=fun a hs=>?_)
   refine bU (i:=11) (by kernel_rfl) rfl ?_
   refine bP hs m (dZ s2 (t:=bR)) fun a w68 hs m=>?_
   refine wpList_nil (aB ⟨(m.sub (a0 (a0 (a1 (a1 (a1 (a1 (a1 (a1 (a1 .n)))))))))),?_⟩)
   refine dC (by kernel_rfl) (eA (aB ?_))
   refine bT hs m gI fun a w_ hs m=>?_
   refine bH hs (vs:=[.int .i64 0]) rfl ⟨rfl,trivial⟩ ?_
   exact⟨_,rfl,nX ((vT (by assumption) (by assumption) (by omega) (by assumption) (aI1 (by omega)) (by assumption)).1),kM ((vT (by assumption) (by assumption) (by omega) (by assumption) (aI1 (by omega)) (by assumption)).2) (m.sub (a2 (a2 (a2 (a2 (a2 (a2 (a2 (a2 (a0 (a0 .n)))))))))))⟩
  have h65p:=ne_of_beq_false h65
  refine bT hs m lA fun a w_ hs m=>?_
  refine bH hs (vs:=[.int .i64 0]) rfl ⟨rfl,trivial⟩ ?_
  exact⟨_,rfl,nX ((vU (by assumption) (by assumption) (by omega) (by assumption) (aI1 (by omega)) (by assumption)).1),kM ((vU (by assumption) (by assumption) (by omega) (by assumption) (aI1 (by omega)) (by assumption)).2) (m.sub (a2 (a2 (a2 (a2 (a2 (a2 (a2 (a2 (a0 (a0 .n)))))))))))⟩
theorem aOB (pag:Addr) (ag:hF) (bM:Fx .i64) (aW:fC) (aU:Fx .i64) (aZ:Fx .i64) (bJ:SH) (aJ:List TLease) (cM:SH) (bC:List TEvent) (aY:SH) (aE:List bD) (aX:SH) (aG:List bA) (bE:SH) (aK:List cH) (w0:World) (R:Hh) (dI:RdS R 12 bJ.v (aJ.map aV)) (eQ:RdS R 14 cM.v (bC.map eI)) (dE:RdS R 4 aY.v (aE.map aM)) (dD:RdS R 7 aX.v (aG.map aS)) (dM:RdS R 7 bE.v (aK.map cB)) (B0:ag.view.length<=2000000000) (B1:ag.Routes.length<=2000000000) (B2:ag.Neighs.length<=2000000000) (B3:ag.Fdbs.length<=2000000000) (B4:ag.skipped.length<=2000000000000) (B5:bC.length<=2000000000) (m:Hp w0 R [tP pag ag] w0):Calls Tryz.prog 90 ⟨[.pointer (some (bK pag 0)),.agg ⟨sY bM aW aU aZ bJ.v cM.v aY.v aX.v bE.v⟩]⟩ w0 fun e w'=>∃ v,e= .returned v/\(v=(.int .i64 (lQ ag bM.v bC))/\Hp w0 R [tP pag (jZ ag bM.v bC)] w'):=by
 have kB:=dI.bd
 have oS:=eQ.bd
 have iX:=dE.bd
 have iW:=dD.bd
 have kC:=dM.bd
 refine enter (n:=90) Tryz.func90 rfl rfl rfl fun a (hs:St 90 [(0,.pointer (some (bK pag 0))),(1,.agg ⟨sY bM aW aU aZ bJ.v cM.v aY.v aX.v bE.v⟩)] a)=>?_
 have mo:=m.openAg r0
 obtain⟨x1,x2,x3,x4,x5,x6,x7,m⟩:=mo
 refine bN ?_
 refine dU (cs:=sY bM aW aU aZ bJ.v cM.v aY.v aX.v bE.v) hs m rfl (by kernel_rfl) rfl fun p8 w9 m a hs=>?_
 refine bP hs m aJ3 fun a w_ hs m=>?_
 refine aR hs rfl (fun h10=>?_) (fun h10=>?_)
 rotate_left
 ·have h10p:=ne_of_beq_false h10
  refine bT hs m gX fun a w_ hs m=>?_
  refine aR hs rfl (fun h11=>?_) (fun h11=>?_)
  ·have h11p:=eq_of_beq h11
   refine wp_skip ?_
   refine aB ?_
   refine lU hs rfl h11 ?_
   refine bT hs m (x_ gC (dZ s1 (t:=hQ))) fun a w13 hs m=>?_
   refine bH hs (vs:=[.int .i64 0]) rfl ⟨rfl,trivial⟩ ?_
   exact⟨_,rfl,nX ((oC (g:=ag) (by omega)).1),kM ((oC (g:=ag) (by omega)).2) (m.sub (a1 (a1 (a1 (a1 (a1 (a1 (a1 (a1 (a0 .n))))))))))⟩
  have h11p:=ne_of_beq_false h11
  refine bT hs m gI fun a w_ hs m=>?_
  refine aR hs rfl (fun h16=>?_) (fun h16=>?_)
  ·have h16p:=eq_of_beq h16
   refine wp_skip ?_
   refine aB ?_
   refine lU hs rfl h16 ?_
   refine bT hs m (x_ gC (dZ s1 (t:=hQ))) fun a w18 hs m=>?_
   refine bH hs (vs:=[.int .i64 0]) rfl ⟨rfl,trivial⟩ ?_
   exact⟨_,rfl,nX ((oC (g:=ag) (by omega)).1),kM ((oC (g:=ag) (by omega)).2) (m.sub (a1 (a1 (a1 (a1 (a1 (a1 (a1 (a1 (a0 .n))))))))))⟩
  have h16p:=ne_of_beq_false h16
  refine bT hs m gI fun a w_ hs m=>?_
  refine aR hs rfl (fun h21=>?_) (fun h21=>?_)
  ·have h21p:=eq_of_beq h21
   refine wp_skip ?_
   refine aB ?_
   refine lU hs rfl h21 ?_
   refine bT hs m (x_ gC (dZ s1 (t:=hQ))) fun a w23 hs m=>?_
   refine bH hs (vs:=[.int .i64 0]) rfl ⟨rfl,trivial⟩ ?_
   exact⟨_,rfl,nX ((oC (g:=ag) (by omega)).1),kM ((oC (g:=ag) (by omega)).2) (m.sub (a1 (a1 (a1 (a1 (a1 (a1 (a1 (a1 (a0 .n))))))))))⟩
  have h21p:=ne_of_beq_false h21
  refine bT hs m gI fun a w_ hs m=>?_
  refine aR hs rfl (fun h26=>?_) (fun h26=>?_)
  ·have h26p:=eq_of_beq h26
   refine wp_skip ?_
   refine aB ?_
   refine lU hs rfl h26 ?_
   refine bT hs m (x_ gC (dZ s1 (t:=hQ))) fun a w28 hs m=>?_
   refine bH hs (vs:=[.int .i64 0]) rfl ⟨rfl,trivial⟩ ?_
   exact⟨_,rfl,nX ((oC (g:=ag) (by omega)).1),kM ((oC (g:=ag) (by omega)).2) (m.sub (a1 (a1 (a1 (a1 (a1 (a1 (a1 (a1 (a0 .n))))))))))⟩
  have h26p:=ne_of_beq_false h26
  refine bT hs m gI fun a w_ hs m=>?_
  refine aR hs rfl (fun h31=>?_) (fun h31=>?_)
  ·have h31p:=eq_of_beq h31
   refine bT hs m (x_ gC (dZ s1 (t:=hQ))) fun a w32 hs m=>?_
   refine bH hs (vs:=[.int .i64 0]) rfl ⟨rfl,trivial⟩ ?_
   exact⟨_,rfl,nX ((oC (g:=ag) (by omega)).1),kM ((oC (g:=ag) (by omega)).2) (m.sub (a1 (a1 (a1 (a1 (a1 (a1 (a1 (a1 (a0 .n))))))))))⟩
  have h31p:=ne_of_beq_false h31
  refine bT hs m gZ fun a w_ hs m=>?_
  refine bH hs (vs:=[.int .i64 0]) rfl ⟨rfl,trivial⟩ ?_
  exact⟨_,rfl,nX ((aGH (g:=ag) (by omega) (by omega)).1),kM ((aGH (g:=ag) (by omega) (by omega)).2) (m.sub (a1 (a1 (a1 (a1 (a1 (a1 (a1 (a1 (a0 .n))))))))))⟩
 have h10p:=eq_of_beq h10
 refine bT hs m lA fun a w_ hs m=>?_
 refine cC hs m rfl rfl aZL rfl (aSP pag ag cM bC _ ⟨x1,x2,x3,x4,x5,x6,x7,(lO r1 _ m),(lO r2 _ m),(m.rdv r3),(m.rdv r4),(m.rdv r5),(m.rdv r6),(m.rdv r7),(m.rdv r8)⟩ (m.rd eQ) ) rfl fun w37 m a hs=>?_
 refine bP hs m eZ fun a w_ hs m=>?_
 refine aR hs rfl (fun h38=>?_) (fun h38=>?_)
 ·have h38p:=h38;simp only[fK] at h38p
  refine bT hs m gX fun a w_ hs m=>?_
  refine bH hs (vs:=[.int .i64 162]) rfl ⟨rfl,trivial⟩ ?_
  exact⟨_,rfl,nX ((aGF (g:=ag) (by omega) (by assumption)).1),kM ((aGF (g:=ag) (by omega) (by assumption)).2) (m.sub (a1 (a1 (a1 (a1 (a1 (a1 (a1 (a1 (a0 .n))))))))))⟩
 have h38p:=h38;simp only[fK] at h38p
 refine bT hs m (x_ gX (e_ (p_ (bQ m rfl oP (dX eQ))) gC)) fun a w_ hs m=>?_
 replace m:=(m.sub (a1 (a1 (a1 (a1 (a1 (a1 (a1 (a1 (a0 .n)))))))))).closeAg (p:=pag) (A:=ag)
 have q41:ag=(pJ ag bC 0):=by clear hs m;exact aL3
 replace m:=m.swp (q:=tP pag (pJ ag bC 0)) s0 (fun _ e=>by rw[<-q41];exact e)
 refine wp_loop_ghost (fun gn a w=>∃ k:Nat,(k<=bC.length)/\gn=bC.length-k/\St 90 [(0,.pointer (some (bK pag 0))),(26,cM.v),(27,.int .i64 (bC.length:Int)),(28,.int .i64 (k:Int))] a/\Hp w0 R [tP pag (pJ ag bC k)] w) (bC.length-0) ⟨0,by omega,rfl,hs.to ⟨rfl,rfl,rfl,rfl,trivial⟩,m.sub (a0 .n)⟩ ?_
 rintro gn a w42 ⟨k,hk,rfl,hs,m⟩
 have hel:=aL4 (g:=ag) (l:=bC) (k:=k)
 have mo:=m.openAg r0
 obtain⟨x43,x44,x45,x46,x47,x48,x49,m⟩:=mo
 refine bT hs m gI fun a w_ hs m=>?_
 refine aR hs rfl (fun h50=>?_) (fun h50=>?_)
 rotate_left
 ·have h50p:=of_decide_eq_false h50
  refine bT hs m fW fun a w_ hs m=>?_
  refine bH hs (vs:=[.int .i64 0]) rfl ⟨rfl,trivial⟩ ?_
  exact⟨_,rfl,nX ((aGG (g:=ag) (k:=k) (by omega) (by assumption) (by omega)).1),kM ((aGG (g:=ag) (k:=k) (by omega) (by assumption) (by omega)).2) (m.sub (a0 (a0 (a0 (a0 (a0 (a0 (a0 (a0 .n)))))))))⟩
 have h50p:=of_decide_eq_true h50
 refine wp_skip ?_
 refine aB ?_
 refine dG ?_
 refine wp_block ?_
 refine bN ?_
 obtain⟨e53,he54⟩:=bI (l:=bC) (i:=k) (by omega)
 refine kE (c:=eI) (e:=e53) hs m (x:=(.tmp 26)) (ix:=(.tmp 28)) rfl rfl oP oM eQ (by omega) he54 fun p55 hp56 ok57=>?_
 refine bP hs m (e_ (p_ (ok57 _ _ _ _ _)) (e_ (p_ (cN (eI e53))) bR)) fun a w_ hs m=>?_
 refine bZ hs m zN rfl fun p58 w59 m a hs=>?_
 refine bP hs m (dZ s0 (t:=x_ lA (dZ s1 (t:=hQ)))) fun a w61 hs m=>?_
 refine aR hs rfl (fun h62=>?_) (fun h62=>?_)
 ·have h62p:=eq_of_beq h62
  refine vK m (a0 (a1 (a1 (a1 (a1 (a1 (a2 .n))))))) fun w63 m=>?_
  refine pA hs (m.sub (a0 (a1 (a1 (a1 (a1 (a1 (a2 .n)))))))) 0 1 2 3 5 6 (h6:=k_ rfl (cN (aV e53.Lease))) (k:=fun a hs=>?_)
  refine bU (i:=4) (by kernel_rfl) rfl ?_
  refine bP hs m eO fun a w_ hs m=>?_
  refine wpList_nil (aB ⟨(m.sub (a0 (a1 (a1 (a1 (a1 (a1 (a2 .n)))))))),?_⟩)
  refine bU (i:=7) (by kernel_rfl) rfl ?_
  refine jM 1 (m.sub (a7 (a0 (a0 (a0 (a0 (a0 (a0 (a0 (a0 .n)))))))))) hs aZM (fun R1 hR ⟨y1,sy,ly⟩ mc=>aLK x48 ((pJ ag bC k).view) e53.Lease _ R1  (by omega) mc) fun v64 w65 m a hs=>?_
  simp only[iG] at m
  refine wpList_nil (aB ⟨(m.sub (a1 (a2 (a2 (a2 (a2 (a2 (a2 .n)))))))),?_⟩)
  refine tI hs (m.sub (a1 (a2 (a2 (a2 (a2 (a2 (a2 .n)))))))) 8 9 (k:=fun a hs=>?_)
  refine bU (i:=10) (by kernel_rfl) rfl ?_
  refine bP hs m (dZ s2 (t:=bR)) fun a w66 hs m=>?_
  refine wpList_nil (aB ⟨(m.sub (a1 (a2 (a2 (a2 (a2 (a2 (a2 .n)))))))),?_⟩)
  refine dC (by kernel_rfl) (aB ?_)
  refine dG ?_
  refine eE m mo (by kernel_rfl) ?_
  refine kZ hs (k:=fun a hs=>?_)
  refine nG hs (k:=fun a hs=>?_)
  refine wpQuiet_nil fun w67 m=>?_
  refine aR hs rfl (fun h68=>?_) (fun h68=>?_)
  ·have h68p:=eq_of_beq h68
   refine bT hs m (x_ gC (e_ (p_ (cN (aO e53.Lease.Subnet))) (x_ iA (dZ s2 (t:=mT))))) fun a w69 hs m=>?_
   replace m:=(m.sub (a2 (a2 (a2 (a2 (a2 (a2 (a0 (a1 (a0 .n)))))))))).closeAg (p:=pag) (A:=({ (pJ ag bC k) with view:=(iB dL ((pJ ag bC k).view) e53.Lease),cursor:=e53.Rev,wish:=e53.Lease.Subnet }:hF))
   have q70:({ (pJ ag bC k) with view:=(iB dL ((pJ ag bC k).view) e53.Lease),cursor:=e53.Rev,wish:=e53.Lease.Subnet }:hF)=(pJ ag bC (k+1)):=by clear hs m;exact a35 (by assumption) (by omega) (by assumption)
   replace m:=m.swp (q:=tP pag (pJ ag bC (k+1))) s0 (fun _ e=>by rw[<-q70];exact e)
   exact⟨bC.length-(k+1),by omega,k+1,by omega,rfl,hs.to ⟨rfl,rfl,rfl,rfl,trivial⟩,m.sub (a0 .n)⟩
  have h68p:=ne_of_beq_false h68
  refine bT hs m mT fun a w_ hs m=>?_
  replace m:=(m.sub (a2 (a2 (a2 (a2 (a2 (a2 (a0 (a1 (a0 .n)))))))))).closeAg (p:=pag) (A:=({ (pJ ag bC k) with view:=(iB dL ((pJ ag bC k).view) e53.Lease),cursor:=e53.Rev }:hF))
  have q71:({ (pJ ag bC k) with view:=(iB dL ((pJ ag bC k).view) e53.Lease),cursor:=e53.Rev }:hF)=(pJ ag bC (k+1)):=by clear hs m;exact a36 (by assumption) (by omega) (by assumption)
  replace m:=m.swp (q:=tP pag (pJ ag bC (k+1))) s0 (fun _ e=>by rw[<-q71];exact e)
  exact⟨bC.length-(k+1),by omega,k+1,by omega,rfl,hs.to ⟨rfl,rfl,rfl,rfl,trivial⟩,m.sub (a0 .n)⟩
 have h62p:=ne_of_beq_false h62
 refine wp_skip ?_
 refine aB ?_
 refine vK m (a0 (a1 (a1 (a1 (a1 (a1 (a2 .n))))))) fun w72 m=>?_
 refine pA hs (m.sub (a0 (a1 (a1 (a1 (a1 (a1 (a2 .n)))))))) 0 1 2 3 5 6 (h6:=k_ rfl (cN (aV e53.Lease))) (k:=fun a hs=>?_)
 refine bU (i:=4) (by kernel_rfl) rfl ?_
 refine bP hs m eO fun a w_ hs m=>?_
 refine wpList_nil (aB ⟨(m.sub (a0 (a1 (a1 (a1 (a1 (a1 (a2 .n)))))))),?_⟩)
 refine bU (i:=7) (by kernel_rfl) rfl ?_
 refine jM 1 (m.sub (a7 (a0 (a0 (a0 (a0 (a0 (a0 (a0 (a0 .n)))))))))) hs aZN (fun R1 hR ⟨y1,sy,ly⟩ mc=>aH2 x48 ((pJ ag bC k).view) e53.Lease _ R1   mc) fun v73 w74 m a hs=>?_
 simp only[iG] at m
 refine wpList_nil (aB ⟨(m.sub (a1 (a2 (a2 (a2 (a2 (a2 (a2 .n)))))))),?_⟩)
 refine tI hs (m.sub (a1 (a2 (a2 (a2 (a2 (a2 (a2 .n)))))))) 8 9 (k:=fun a hs=>?_)
 refine bU (i:=10) (by kernel_rfl) rfl ?_
 refine bP hs m (dZ s2 (t:=bR)) fun a w75 hs m=>?_
 refine wpList_nil (aB ⟨(m.sub (a1 (a2 (a2 (a2 (a2 (a2 (a2 .n)))))))),?_⟩)
 refine dC (by kernel_rfl) (aB ?_)
 refine vK m (a0 (a0 (a1 (a1 (a1 (a1 (a1 .n))))))) fun w76 m=>?_
 refine pA hs (m.sub (a0 (a0 (a1 (a1 (a1 (a1 (a1 .n)))))))) 0 1 2 3 5 6 (k:=fun a hs=>?_)
 refine kY hs (m.sub (a0 (a0 (a1 (a1 (a1 (a1 (a1 .n)))))))) 7 (h1:=k_ rfl (cN (aO e53.Lease.Subnet))) (k:=fun a hs=>?_)
 refine bU (i:=4) (by kernel_rfl) rfl ?_
 refine bP hs m eO fun a w_ hs m=>?_
 refine wpList_nil (aB ⟨(m.sub (a0 (a0 (a1 (a1 (a1 (a1 (a1 .n)))))))),?_⟩)
 refine bU (i:=8) (by kernel_rfl) rfl ?_
 refine jM 1 (m.sub (a8 (a0 (a0 (a0 (a0 (a0 (a0 (a0 (a0 .n)))))))))) hs aZO (fun R1 hR ⟨y1,sy,ly⟩ mc=>aFI x49 ((pJ ag bC k).skipped) e53.Lease.Subnet _ R1   mc) fun v77 w78 m a hs=>?_
 simp only[iG] at m
 refine wpList_nil (aB ⟨(m.sub (a1 (a1 (a2 (a2 (a2 (a2 (a2 .n)))))))),?_⟩)
 refine tI hs (m.sub (a1 (a1 (a2 (a2 (a2 (a2 (a2 .n)))))))) 9 10 (k:=fun a hs=>?_)
 refine bU (i:=11) (by kernel_rfl) rfl ?_
 refine bP hs m (dZ s3 (t:=bR)) fun a w79 hs m=>?_
 refine wpList_nil (aB ⟨(m.sub (a1 (a1 (a2 (a2 (a2 (a2 (a2 .n)))))))),?_⟩)
 refine dC (by kernel_rfl) (aB ?_)
 refine bT hs m (x_ gC (dZ s3 (t:=lA))) fun a w80 hs m=>?_
 replace m:=(m.sub (a3 (a3 (a3 (a3 (a3 (a3 (a1 (a0 (a0 .n)))))))))).closeAg (p:=pag) (A:=({ (pJ ag bC k) with view:=(fJ dL ((pJ ag bC k).view) e53.Lease),cursor:=e53.Rev,skipped:=(fJ dH ((pJ ag bC k).skipped) e53.Lease.Subnet),waiting:=false }:hF))
 have q81:({ (pJ ag bC k) with view:=(fJ dL ((pJ ag bC k).view) e53.Lease),cursor:=e53.Rev,skipped:=(fJ dH ((pJ ag bC k).skipped) e53.Lease.Subnet),waiting:=false }:hF)=(pJ ag bC (k+1)):=by clear hs m;exact a37 (by assumption) (by assumption)
 replace m:=m.swp (q:=tP pag (pJ ag bC (k+1))) s0 (fun _ e=>by rw[<-q81];exact e)
 exact⟨bC.length-(k+1),by omega,k+1,by omega,rfl,hs.to ⟨rfl,rfl,rfl,rfl,trivial⟩,m.sub (a0 .n)⟩
end Go.Proofs.YtnbpodjbemfpbaaGreat.Fw
set_option linter.all false
set_option maxHeartbeats 4000000
set_option maxRecDepth 100000
namespace Go.Proofs.YtnbpodjbemfpbaaGreat.Fw
open Go
theorem aKO (pag:Addr) (ag:hF) (bM:Fx .i64) (aW:fC) (aU:Fx .i64) (aZ:Fx .i64) (bJ:SH) (aJ:List TLease) (cM:SH) (bC:List TEvent) (aY:SH) (aE:List bD) (aX:SH) (aG:List bA) (bE:SH) (aK:List cH) (w0:World) (R:Hh) (dI:RdS R 12 bJ.v (aJ.map aV)) (eQ:RdS R 14 cM.v (bC.map eI)) (dE:RdS R 4 aY.v (aE.map aM)) (dD:RdS R 7 aX.v (aG.map aS)) (dM:RdS R 7 bE.v (aK.map cB)) (B0:ag.view.length<=2000000000) (B1:ag.Routes.length<=2000000000) (B2:ag.Neighs.length<=2000000000) (B3:ag.Fdbs.length<=2000000000) (B4:ag.skipped.length<=2000000000000) (B5:bC.length<=2000000000) (B6:aJ.length<=2000000000) (B7:aE.length<=2000000000) (B8:aG.length<=2000000000) (B9:aK.length<=2000000000) (m:Hp w0 R [tP pag ag] w0):Calls Tryz.prog 32 ⟨[.pointer (some (bK pag 0)),.agg ⟨sY bM aW aU aZ bJ.v cM.v aY.v aX.v bE.v⟩]⟩ w0 fun e w'=>∃ v,e= .returned v/\(v=(.int .i64 (sW ag (⟨bM,aW,aU,aZ,aJ,bC,aE,aG,aK⟩:pT)))/\Hp w0 R [tP pag (jT ag (⟨bM,aW,aU,aZ,aJ,bC,aE,aG,aK⟩:pT))] w'):=by
 have kB:=dI.bd
 have oS:=eQ.bd
 have iX:=dE.bd
 have iW:=dD.bd
 have kC:=dM.bd
 refine enter (n:=75) Tryz.func32 rfl rfl rfl fun a (hs:St 75 [(0,.pointer (some (bK pag 0))),(1,.agg ⟨sY bM aW aU aZ bJ.v cM.v aY.v aX.v bE.v⟩)] a)=>?_
 have mo:=m.openAg r0
 obtain⟨x1,x2,x3,x4,x5,x6,x7,m⟩:=mo
 refine bN ?_
 refine dU (cs:=sY bM aW aU aZ bJ.v cM.v aY.v aX.v bE.v) hs m rfl (by kernel_rfl) rfl fun p8 w9 m a hs=>?_
 refine bP hs m aU0 fun a w_ hs m=>?_
 refine aR hs rfl (fun h10=>?_) (fun h10=>?_)
 ·have h10p:=eq_of_beq h10
  refine bT hs m gZ fun a w_ hs m=>?_
  refine bH hs (vs:=[.int .i64 160]) rfl ⟨rfl,trivial⟩ ?_
  exact⟨_,rfl,nX (aPF (g:=ag) (r:=⟨bM,aW,aU,aZ,aJ,bC,aE,aG,aK⟩) (by omega)).1,kM (aPF (g:=ag) (r:=⟨bM,aW,aU,aZ,aJ,bC,aE,aG,aK⟩) (by omega)).2 (m.sub (a1 (a1 (a1 (a1 (a1 (a1 (a1 (a1 (a0 .n))))))))))⟩
 have h10p:=ne_of_beq_false h10
 refine bT hs m gI fun a w_ hs m=>?_
 refine aR hs rfl (fun h13=>?_) (fun h13=>?_)
 ·have h13p:=eq_of_beq h13
  refine bT hs m (x_ iA (e_ (p_ (cN (sY bM aW aU aZ bJ.v cM.v aY.v aX.v bE.v))) bR)) fun a w_ hs m=>?_
  replace m:=(m.sub (a1 (a1 (a1 (a1 (a1 (a1 (a1 (a1 (a0 .n)))))))))).closeAg (p:=pag) (A:=ag)
  refine eW 1 (m.sub (a0 (a0 .n))) hs a3U (fun R1 hR ⟨y1,sy,ly⟩ mc=>aPH pag ag bM aW aU aZ bJ aJ cM bC aY aE aX aG bE aK _ R1 (dI.le hR) (eQ.le hR) (dE.le hR) (dD.le hR) (dM.le hR) (by omega) (by omega) (by omega) mc) fun w14 m a hs=>?_
  simp only[iG] at m
  have mo:=m.openAg r0
  obtain⟨x15,x16,x17,x18,x19,x20,x21,m⟩:=mo
  refine bP hs m fW fun a w_ hs m=>?_
  refine aR hs rfl (fun h22=>?_) (fun h22=>?_)
  ·have h22p:=fT h22
   refine bT hs m gZ fun a w_ hs m=>?_
   refine bH hs (vs:=[.int .i64 (tR bM.v aE aG aK)]) rfl ⟨rfl,trivial⟩ ?_
   exact⟨_,rfl,nX (vC (g:=ag) (r:=⟨bM,aW,aU,aZ,aJ,bC,aE,aG,aK⟩) (tk1 (by omega)) (by omega) (by omega)).1,kM (vC (g:=ag) (r:=⟨bM,aW,aU,aZ,aJ,bC,aE,aG,aK⟩) (tk1 (by omega)) (by omega) (by omega)).2 (m.sub (a0 (a0 (a0 (a0 (a0 (a0 (a0 (a0 (a0 .n))))))))))⟩
  have h22p:=dJ h22
  refine bT hs m mT fun a w_ hs m=>?_
  refine jO (.c (.c (.c (.c (.n))))) hs m 64 (((((rJ ag bM.v aE aG aK).opn).Kind).v)==5) (.bool ((((((rJ ag bM.v aE aG aK).opn).Kind).v)==5)&&(bM.v==0))) ?_
  rintro a w26 ⟨hs,m⟩
  refine bP hs m (x_ iA (dZ s0 (t:=x_ gX (e_ (p_ (bW (cs:=eS nB) sU nC rfl (by kernel_rfl))) (x_ iA (dZ s0 (t:=x_ iA (dZ s0 (t:=gZ))))))))) fun a w29 hs m=>?_
  refine bH hs (vs:=[.int .i64 0]) rfl ⟨rfl,trivial⟩ ?_
  exact⟨_,rfl,nX (qT (g:=ag) (r:=⟨bM,aW,aU,aZ,aJ,bC,aE,aG,aK⟩) (tk1 (by omega)) (by omega) (by omega) (qt0 (by omega))).1,kM (qT (g:=ag) (r:=⟨bM,aW,aU,aZ,aJ,bC,aE,aG,aK⟩) (tk1 (by omega)) (by omega) (by omega) (qt0 (by omega))).2 (m.sub (a0 (a0 (a0 (a0 (a0 (a0 (a0 (a0 (a0 .n))))))))))⟩
 have h13p:=ne_of_beq_false h13
 refine bT hs m gI fun a w_ hs m=>?_
 refine aR hs rfl (fun h32=>?_) (fun h32=>?_)
 ·have h32p:=eq_of_beq h32
  refine bT hs m (x_ iA (e_ (p_ (cN (sY bM aW aU aZ bJ.v cM.v aY.v aX.v bE.v))) bR)) fun a w_ hs m=>?_
  replace m:=(m.sub (a1 (a1 (a1 (a1 (a1 (a1 (a1 (a1 (a0 .n)))))))))).closeAg (p:=pag) (A:=ag)
  refine eW 1 (m.sub (a0 (a0 .n))) hs a3V (fun R1 hR ⟨y1,sy,ly⟩ mc=>aN0 pag ag bM aW aU aZ bJ aJ cM bC aY aE aX aG bE aK _ R1 (dI.le hR) (eQ.le hR) (dE.le hR) (dD.le hR) (dM.le hR) (by omega) mc) fun w33 m a hs=>?_
  simp only[iG] at m
  have mo:=m.openAg r0
  obtain⟨x34,x35,x36,x37,x38,x39,x40,m⟩:=mo
  refine bP hs m fW fun a w_ hs m=>?_
  refine aR hs rfl (fun h41=>?_) (fun h41=>?_)
  ·have h41p:=fT h41
   refine bT hs m gZ fun a w_ hs m=>?_
   refine bH hs (vs:=[.int .i64 (sM bM.v aU.v aJ)]) rfl ⟨rfl,trivial⟩ ?_
   exact⟨_,rfl,nX (vC (g:=ag) (r:=⟨bM,aW,aU,aZ,aJ,bC,aE,aG,aK⟩) (tk2 (by omega)) (by omega) (by omega)).1,kM (vC (g:=ag) (r:=⟨bM,aW,aU,aZ,aJ,bC,aE,aG,aK⟩) (tk2 (by omega)) (by omega) (by omega)).2 (m.sub (a0 (a0 (a0 (a0 (a0 (a0 (a0 (a0 (a0 .n))))))))))⟩
  have h41p:=dJ h41
  refine bT hs m mT fun a w_ hs m=>?_
  refine jO (.c (.c (.c (.c (.n))))) hs m 64 (((((qG ag bM.v aU aJ).opn).Kind).v)==5) (.bool ((((((qG ag bM.v aU aJ).opn).Kind).v)==5)&&(bM.v==0))) ?_
  rintro a w45 ⟨hs,m⟩
  refine bP hs m (x_ iA (dZ s0 (t:=x_ gX (e_ (p_ (bW (cs:=eS nB) sU nC rfl (by kernel_rfl))) (x_ iA (dZ s0 (t:=x_ iA (dZ s0 (t:=gZ))))))))) fun a w48 hs m=>?_
  refine bH hs (vs:=[.int .i64 0]) rfl ⟨rfl,trivial⟩ ?_
  exact⟨_,rfl,nX (qT (g:=ag) (r:=⟨bM,aW,aU,aZ,aJ,bC,aE,aG,aK⟩) (tk2 (by omega)) (by omega) (by omega) (qt0 (by omega))).1,kM (qT (g:=ag) (r:=⟨bM,aW,aU,aZ,aJ,bC,aE,aG,aK⟩) (tk2 (by omega)) (by omega) (by omega) (qt0 (by omega))).2 (m.sub (a0 (a0 (a0 (a0 (a0 (a0 (a0 (a0 (a0 .n))))))))))⟩
 have h32p:=ne_of_beq_false h32
 refine bT hs m gI fun a w_ hs m=>?_
 refine aR hs rfl (fun h51=>?_) (fun h51=>?_)
 ·have h51p:=eq_of_beq h51
  refine bT hs m gC fun a w_ hs m=>?_
  replace m:=(m.sub (a1 (a1 (a1 (a1 (a1 (a1 (a1 (a1 (a0 .n)))))))))).closeAg (p:=pag) (A:=ag)
  refine eW 1 (m.sub (a0 (a0 .n))) hs a3W (fun R1 hR ⟨y1,sy,ly⟩ mc=>aM5 pag ag bM.v _ R1  (by omega) (by omega) (by omega) (by omega) (by omega) mc) fun w52 m a hs=>?_
  simp only[iG] at m
  have mo:=m.openAg r0
  obtain⟨x53,x54,x55,x56,x57,x58,x59,m⟩:=mo
  refine bP hs m (x_ gX (e_ (p_ (fB (v:=.bool false) rfl rfl rfl)) aAM)) fun a w_ hs m=>?_
  refine jO (.c (.c (.c (.c (.n))))) hs m 64 (((((kH ag bM.v).opn).Kind).v)==5) (.bool ((((((kH ag bM.v).opn).Kind).v)==5)&&(bM.v==0))) ?_
  rintro a w62 ⟨hs,m⟩
  refine bP hs m (x_ iA (dZ s0 (t:=x_ gX (e_ (p_ (bW (cs:=eS nB) sU nC rfl (by kernel_rfl))) (x_ iA (dZ s0 (t:=x_ iA (dZ s0 (t:=gZ))))))))) fun a w65 hs m=>?_
  refine bH hs (vs:=[.int .i64 0]) rfl ⟨rfl,trivial⟩ ?_
  exact⟨_,rfl,nX (qT (g:=ag) (r:=⟨bM,aW,aU,aZ,aJ,bC,aE,aG,aK⟩) (tk3 (by omega)) (by omega) (by omega) (qt0 (by omega))).1,kM (qT (g:=ag) (r:=⟨bM,aW,aU,aZ,aJ,bC,aE,aG,aK⟩) (tk3 (by omega)) (by omega) (by omega) (qt0 (by omega))).2 (m.sub (a0 (a0 (a0 (a0 (a0 (a0 (a0 (a0 (a0 .n))))))))))⟩
 have h51p:=ne_of_beq_false h51
 refine bT hs m gX fun a w_ hs m=>?_
 refine aR hs rfl (fun h68=>?_) (fun h68=>?_)
 ·have h68p:=eq_of_beq h68
  refine wp_skip ?_
  refine aB ?_
  refine lU hs rfl h68 ?_
  refine bT hs m (x_ iA (e_ (p_ (cN (sY bM aW aU aZ bJ.v cM.v aY.v aX.v bE.v))) bR)) fun a w_ hs m=>?_
  replace m:=(m.sub (a1 (a1 (a1 (a1 (a1 (a1 (a1 (a1 (a0 .n)))))))))).closeAg (p:=pag) (A:=ag)
  refine eW 1 (m.sub (a0 (a0 .n))) hs a0N (fun R1 hR ⟨y1,sy,ly⟩ mc=>aIY pag ag bM aW aU aZ bJ aJ cM bC aY aE aX aG bE aK _ R1 (dI.le hR) (eQ.le hR) (dE.le hR) (dD.le hR) (dM.le hR)  mc) fun w70 m a hs=>?_
  simp only[iG] at m
  have mo:=m.openAg r0
  obtain⟨x71,x72,x73,x74,x75,x76,x77,m⟩:=mo
  refine bP hs m fW fun a w_ hs m=>?_
  refine aR hs rfl (fun h78=>?_) (fun h78=>?_)
  ·have h78p:=fT h78
   refine bT hs m gZ fun a w_ hs m=>?_
   refine bH hs (vs:=[.int .i64 (lV ag bM.v aW.Lease)]) rfl ⟨rfl,trivial⟩ ?_
   exact⟨_,rfl,nX (vC (g:=ag) (r:=⟨bM,aW,aU,aZ,aJ,bC,aE,aG,aK⟩) (tk4 (by omega)) (by omega) (by omega)).1,kM (vC (g:=ag) (r:=⟨bM,aW,aU,aZ,aJ,bC,aE,aG,aK⟩) (tk4 (by omega)) (by omega) (by omega)).2 (m.sub (a0 (a0 (a0 (a0 (a0 (a0 (a0 (a0 (a0 .n))))))))))⟩
  have h78p:=dJ h78
  refine bT hs m mT fun a w_ hs m=>?_
  refine jO (.c (.c (.c (.c (.n))))) hs m 64 (((((jU ag bM.v aW.Lease).opn).Kind).v)==5) (.bool ((((((jU ag bM.v aW.Lease).opn).Kind).v)==5)&&(bM.v==0))) ?_
  rintro a w82 ⟨hs,m⟩
  refine bP hs m (x_ iA (dZ s0 (t:=x_ gX (e_ (p_ (bW (cs:=eS nB) sU nC rfl (by kernel_rfl))) (x_ iA (dZ s0 (t:=x_ iA (dZ s0 (t:=gZ))))))))) fun a w85 hs m=>?_
  refine bH hs (vs:=[.int .i64 0]) rfl ⟨rfl,trivial⟩ ?_
  exact⟨_,rfl,nX (qT (g:=ag) (r:=⟨bM,aW,aU,aZ,aJ,bC,aE,aG,aK⟩) (tk4 (by omega)) (by omega) (by omega) (qt0 (by omega))).1,kM (qT (g:=ag) (r:=⟨bM,aW,aU,aZ,aJ,bC,aE,aG,aK⟩) (tk4 (by omega)) (by omega) (by omega) (qt0 (by omega))).2 (m.sub (a0 (a0 (a0 (a0 (a0 (a0 (a0 (a0 (a0 .n))))))))))⟩
 have h68p:=ne_of_beq_false h68
 refine bT hs m gI fun a w_ hs m=>?_
 refine aR hs rfl (fun h88=>?_) (fun h88=>?_)
 ·have h88p:=eq_of_beq h88
  refine bT hs m (x_ iA (e_ (p_ (cN (sY bM aW aU aZ bJ.v cM.v aY.v aX.v bE.v))) bR)) fun a w_ hs m=>?_
  replace m:=(m.sub (a1 (a1 (a1 (a1 (a1 (a1 (a1 (a1 (a0 .n)))))))))).closeAg (p:=pag) (A:=ag)
  refine eW 1 (m.sub (a0 (a0 .n))) hs a0N (fun R1 hR ⟨y1,sy,ly⟩ mc=>aIY pag ag bM aW aU aZ bJ aJ cM bC aY aE aX aG bE aK _ R1 (dI.le hR) (eQ.le hR) (dE.le hR) (dD.le hR) (dM.le hR)  mc) fun w89 m a hs=>?_
  simp only[iG] at m
  have mo:=m.openAg r0
  obtain⟨x90,x91,x92,x93,x94,x95,x96,m⟩:=mo
  refine bP hs m fW fun a w_ hs m=>?_
  refine aR hs rfl (fun h97=>?_) (fun h97=>?_)
  ·have h97p:=fT h97
   refine bT hs m gZ fun a w_ hs m=>?_
   refine bH hs (vs:=[.int .i64 (lV ag bM.v aW.Lease)]) rfl ⟨rfl,trivial⟩ ?_
   exact⟨_,rfl,nX (vC (g:=ag) (r:=⟨bM,aW,aU,aZ,aJ,bC,aE,aG,aK⟩) (tk4 (by omega)) (by omega) (by omega)).1,kM (vC (g:=ag) (r:=⟨bM,aW,aU,aZ,aJ,bC,aE,aG,aK⟩) (tk4 (by omega)) (by omega) (by omega)).2 (m.sub (a0 (a0 (a0 (a0 (a0 (a0 (a0 (a0 (a0 .n))))))))))⟩
  have h97p:=dJ h97
  refine bT hs m mT fun a w_ hs m=>?_
  refine jO (.c (.c (.c (.c (.n))))) hs m 64 (((((jU ag bM.v aW.Lease).opn).Kind).v)==5) (.bool ((((((jU ag bM.v aW.Lease).opn).Kind).v)==5)&&(bM.v==0))) ?_
  rintro a w101 ⟨hs,m⟩
  refine bP hs m (x_ iA (dZ s0 (t:=x_ gX (e_ (p_ (bW (cs:=eS nB) sU nC rfl (by kernel_rfl))) (x_ iA (dZ s0 (t:=x_ iA (dZ s0 (t:=gZ))))))))) fun a w104 hs m=>?_
  refine bH hs (vs:=[.int .i64 0]) rfl ⟨rfl,trivial⟩ ?_
  exact⟨_,rfl,nX (qT (g:=ag) (r:=⟨bM,aW,aU,aZ,aJ,bC,aE,aG,aK⟩) (tk4 (by omega)) (by omega) (by omega) (qt0 (by omega))).1,kM (qT (g:=ag) (r:=⟨bM,aW,aU,aZ,aJ,bC,aE,aG,aK⟩) (tk4 (by omega)) (by omega) (by omega) (qt0 (by omega))).2 (m.sub (a0 (a0 (a0 (a0 (a0 (a0 (a0 (a0 (a0 .n))))))))))⟩
 have h88p:=ne_of_beq_false h88
 refine bT hs m gI fun a w_ hs m=>?_
 refine aR hs rfl (fun h107=>?_) (fun h107=>?_)
 ·have h107p:=eq_of_beq h107
  refine bT hs m (x_ iA (e_ (p_ (cN (sY bM aW aU aZ bJ.v cM.v aY.v aX.v bE.v))) bR)) fun a w_ hs m=>?_
  replace m:=(m.sub (a1 (a1 (a1 (a1 (a1 (a1 (a1 (a1 (a0 .n)))))))))).closeAg (p:=pag) (A:=ag)
  refine eW 1 (m.sub (a0 (a0 .n))) hs a3X (fun R1 hR ⟨y1,sy,ly⟩ mc=>aOB pag ag bM aW aU aZ bJ aJ cM bC aY aE aX aG bE aK _ R1 (dI.le hR) (eQ.le hR) (dE.le hR) (dD.le hR) (dM.le hR) (by omega) (by omega) (by omega) (by omega) (by omega) (by omega) mc) fun w108 m a hs=>?_
  simp only[iG] at m
  have mo:=m.openAg r0
  obtain⟨x109,x110,x111,x112,x113,x114,x115,m⟩:=mo
  refine bP hs m lA fun a w_ hs m=>?_
  refine xY (.c (.c (.c (.c (.c (.n)))))) hs m 49 (.bool ((bM.v==0)&&((bC.length:Int)==0))) ?_ ?_
  ·rcases Bool.eq_false_or_eq_true (bM.v==0) with hb116|hb116
   ·have hb116p:=eq_of_beq hb116
    refine bP hs m (x_ iA (e_ (dV hb116 (bQ m rfl oP (dX eQ))) iA)) fun a w_ hs m=>?_
    exact nN hs m 4 (by rw[hb116];rfl)
   ·have hb116p:=ne_of_beq_false hb116
    refine bP hs m gI fun a w_ hs m=>?_
    exact nN hs m 4 (by rw[hb116];rfl)
  rintro a w117 ⟨hs,m⟩
  refine bP hs m fW fun a w_ hs m=>?_
  refine aR hs rfl (fun h118=>?_) (fun h118=>?_)
  ·have h118p:=fT h118
   refine bT hs m gZ fun a w_ hs m=>?_
   refine bH hs (vs:=[.int .i64 (lQ ag bM.v bC)]) rfl ⟨rfl,trivial⟩ ?_
   exact⟨_,rfl,nX (vC (g:=ag) (r:=⟨bM,aW,aU,aZ,aJ,bC,aE,aG,aK⟩) (tk6 (by omega)) (by omega) (by omega)).1,kM (vC (g:=ag) (r:=⟨bM,aW,aU,aZ,aJ,bC,aE,aG,aK⟩) (tk6 (by omega)) (by omega) (by omega)).2 (m.sub (a0 (a0 (a0 (a0 (a0 (a0 (a0 (a0 (a0 .n))))))))))⟩
  have h118p:=dJ h118
  refine bT hs m mT fun a w_ hs m=>?_
  refine jO (.c (.c (.c (.c (.n))))) hs m 64 (((((jZ ag bM.v bC).opn).Kind).v)==5) (.bool ((((((jZ ag bM.v bC).opn).Kind).v)==5)&&(bM.v==0))) ?_
  rintro a w122 ⟨hs,m⟩
  refine bP hs m (x_ iA (dZ s0 (t:=x_ gX (e_ (p_ (bW (cs:=eS nB) sU nC rfl (by kernel_rfl))) (x_ iA (dZ s0 (t:=x_ iA (dZ s0 (t:=gZ))))))))) fun a w125 hs m=>?_
  refine bH hs (vs:=[.int .i64 0]) rfl ⟨rfl,trivial⟩ ?_
  exact⟨_,rfl,nX (qT (g:=ag) (r:=⟨bM,aW,aU,aZ,aJ,bC,aE,aG,aK⟩) (tk6 (by omega)) (by omega) (by omega) (qt6 (by omega))).1,kM (qT (g:=ag) (r:=⟨bM,aW,aU,aZ,aJ,bC,aE,aG,aK⟩) (tk6 (by omega)) (by omega) (by omega) (qt6 (by omega))).2 (m.sub (a0 (a0 (a0 (a0 (a0 (a0 (a0 (a0 (a0 .n))))))))))⟩
 have h107p:=ne_of_beq_false h107
 refine bT hs m (x_ gX (e_ (p_ (fB (v:=.bool false) rfl rfl rfl)) aAM)) fun a w_ hs m=>?_
 refine jO (.c (.c (.c (.c (.n))))) hs m 64 (ag.opn.Kind.v==5) (.bool ((ag.opn.Kind.v==5)&&(bM.v==0))) ?_
 rintro a w130 ⟨hs,m⟩
 refine bP hs m (x_ iA (dZ s1 (t:=x_ gX (e_ (p_ (bW (cs:=eS nB) sU nC rfl (by kernel_rfl))) (x_ iA (dZ s1 (t:=x_ iA (dZ s1 (t:=gZ))))))))) fun a w133 hs m=>?_
 refine bH hs (vs:=[.int .i64 0]) rfl ⟨rfl,trivial⟩ ?_
 exact⟨_,rfl,nX (qT (g:=ag) (r:=⟨bM,aW,aU,aZ,aJ,bC,aE,aG,aK⟩) (tkn (by omega) (by omega) (by omega) (by omega) (by omega)) (by omega) (by omega) (qt0 (by omega))).1,kM (qT (g:=ag) (r:=⟨bM,aW,aU,aZ,aJ,bC,aE,aG,aK⟩) (tkn (by omega) (by omega) (by omega) (by omega) (by omega)) (by omega) (by omega) (qt0 (by omega))).2 (m.sub (a1 (a1 (a1 (a1 (a1 (a1 (a1 (a1 (a0 .n))))))))))⟩
end Go.Proofs.YtnbpodjbemfpbaaGreat.Fw
