/-
  Own work: walks and laws, joined by wip/tool/compact.py.
-/
import Derived.Test.YtnbpodjbemfpbaaGreatG15
import Derived.KernelRfl
set_option linter.all false
set_option linter.all false
set_option maxHeartbeats 4000000
set_option maxRecDepth 100000
namespace Go.Proofs.YtnbpodjbemfpbaaGreat.Fw
open Go
theorem aLD (pag:Addr) (ag:gU) (vl:SH) (l:List TEvent) (w0:World) (R:Hh) (hl:RdS R 14 vl.v (l.map eI)) (B0:ag.view.length<=2000000000) (B1:ag.Routes.length<=2000000000) (B2:ag.Neighs.length<=2000000000) (B3:ag.Fdbs.length<=2000000000) (B4:ag.skipped.length<=2000000000000) (B5:l.length<=2000000000) (m:Hp w0 R [sX pag ag] w0):Calls Tryz.prog 161 ⟨[.pointer (some (bK pag 0)),vl.v]⟩ w0 fun e w'=>∃ v,e= .returned v/\(v=(.int .i64 (zJ ag l))/\Hp w0 R [sX pag (wA ag l)] w'):=by
 have lvl:=hl.bd
 refine enter (n:=146) Tryz.func161 rfl rfl rfl fun a (hs:St 146 [(0,.pointer (some (bK pag 0))),(1,vl.v)] a)=>?_
 have mo:=m.openRa r0
 obtain⟨x1,x2,x3,x4,x5,m⟩:=mo
 refine bT hs m (x_ gZ (e_ (p_ (bQ m rfl oP (dX hl))) eZ)) fun a w_ hs m=>?_
 refine aR hs rfl (fun h6=>?_) (fun h6=>?_)
 ·have h6p:=of_decide_eq_true h6
  refine bT hs m gX fun a w_ hs m=>?_
  refine bH hs (vs:=[.int .i64 162]) rfl ⟨rfl,trivial⟩ ?_
  exact⟨_,rfl,nX ((vI (aQU (by omega))).1),jF ((vI (aQU (by omega))).2) (m.sub (a0 (a0 (a0 (a0 (a0 (a0 .n)))))))⟩
 have h6p:=of_decide_eq_false h6
 refine bT hs m aMZ fun a w_ hs m=>?_
 refine wp_loop_ghost (fun gn a w=>∃ k:Nat,∃ z:Fx .i64,(k<=l.length)/\(aAE ag.cursor.v l=aAE z.v (l.drop k))/\(z=zH ag.cursor (l.take k))/\gn=l.length-k/\St 146 [(0,.pointer (some (bK pag 0))),(1,vl.v),(5,.int .i64 z.v),(6,.int .i64 (k:Int))] a/\Hp w0 R [Bx pag 140 (cRa ag.self ag.opn ag.request ag.read x1.v x2.v x3.v x4.v ag.cursor ag.stale x5.v ag.degraded ag.granted ag.waiting ag.wish ag.renewed ag.quiet),Sv 4 51 x1.v (ag.Routes.map aM),Sv 7 54 x2.v (ag.Neighs.map aS),Sv 7 56 x3.v (ag.Fdbs.map cB),Sv 12 48 x4.v (ag.view.map aV),Sv 2 44 x5.v (ag.skipped.map aO)] w) (l.length-0) ⟨0,ag.cursor,by omega,by rfl,by exact aMB,rfl,hs.to ⟨rfl,rfl,rfl,rfl,trivial⟩,m.sub (a0 (a0 (a0 (a0 (a0 (a0 .n))))))⟩ ?_
 rintro gn a w9 ⟨k,z,hk,ho,hz,rfl,hs,m⟩
 have hzb:=Fx.i64 z
 refine bT hs m (x_ gC (e_ (p_ (bQ m rfl oP (dX hl))) eZ)) fun a w_ hs m=>?_
 refine aR hs rfl (fun h10=>?_) (fun h10=>?_)
 rotate_left
 ·have h10p:=of_decide_eq_false h10
  refine bT hs m mT fun a w_ hs m=>?_
  replace m:=(m.sub (a0 (a0 (a0 (a0 (a0 (a0 .n))))))).closeRa (p:=pag) (A:=ag)
  have q11:ag=(eP ag l 0):=by clear hs m;exact aK5
  replace m:=m.swp (q:=sX pag (eP ag l 0)) s0 (fun _ e=>by rw[<-q11];exact e)
  refine wp_loop_ghost (fun gn a w=>∃ k2:Nat,(k2<=l.length)/\gn=l.length-k2/\St 146 [(0,.pointer (some (bK pag 0))),(1,vl.v),(5,.int .i64 z.v),(8,.int .i64 (k2:Int))] a/\Hp w0 R [sX pag (eP ag l k2)] w) (l.length-0) ⟨0,by omega,rfl,hs.to ⟨rfl,rfl,rfl,rfl,trivial⟩,m.sub (a0 .n)⟩ ?_
  rintro gn a w12 ⟨k2,hk2,rfl,hs,m⟩
  have hel:=aMK (a:=ag) (l:=l) (k:=k2)
  have mo:=m.openRa r0
  obtain⟨x13,x14,x15,x16,x17,m⟩:=mo
  refine bT hs m (x_ gC (e_ (p_ (bQ m rfl oP (dX hl))) eZ)) fun a w_ hs m=>?_
  refine aR hs rfl (fun h18=>?_) (fun h18=>?_)
  rotate_left
  ·have h18p:=of_decide_eq_false h18
   refine bT hs m (x_ fW (dZ s0 (t:=gZ))) fun a w19 hs m=>?_
   refine bH hs (vs:=[.int .i64 0]) rfl ⟨rfl,trivial⟩ ?_
   exact⟨_,rfl,nX ((aQZ (a:=ag) (l:=l) (k:=k2) (aQW (by omega) ho (by omega)) (by omega) (hz.trans (congrArg (zH ag.cursor) (List.take_of_length_le (by omega))))).1),jF ((aQZ (a:=ag) (l:=l) (k:=k2) (aQW (by omega) ho (by omega)) (by omega) (hz.trans (congrArg (zH ag.cursor) (List.take_of_length_le (by omega))))).2) (m.sub (a0 (a0 (a0 (a0 (a0 (a0 .n)))))))⟩
  have h18p:=of_decide_eq_true h18
  refine bT hs m gZ fun a w_ hs m=>?_
  obtain⟨e22,he23⟩:=bI (l:=l) (i:=k2) (by omega)
  refine kE (c:=eI) (e:=e22) hs m (x:=(.tmp 75)) (ix:=(.tmp 76)) rfl rfl oP oM hl (by omega) he23 fun p24 hp25 ok26=>?_
  refine bP hs m (e_ (p_ (ok26 _ _ _ _ _)) (x_ eO (e_ (p_ (cN (aV e22.Lease))) bR))) fun a w_ hs m=>?_
  refine bZ hs m mY rfl fun p27 w28 m a hs=>?_
  refine bP hs m (dZ s0 (t:=x_ gI (e_ (p_ (cN (aO e22.Lease.Subnet))) bR))) fun a w29 hs m=>?_
  replace m:=(m.sub (a1 (a1 (a1 (a1 (a1 (a1 (a0 .n)))))))).closeRa (p:=pag) (A:=(eP ag l k2))
  refine eW 1 (m.sub (a0 (a0 .n))) hs aZ9 (fun R1 hR ⟨y1,sy,ly⟩ mc=>aLE pag (eP ag l k2) e22.Lease.Subnet _ R1  (by omega) mc) fun w30 m a hs=>?_
  simp only[iG] at m
  have mo:=m.openRa r0
  obtain⟨x31,x32,x33,x34,x35,m⟩:=mo
  replace m:Hp w0 R [Bx pag 140 (cRa ((eP ag l k2).self) ((eP ag l k2).opn) ((eP ag l k2).request) ((eP ag l k2).read) x31.v x32.v x33.v x34.v ((eP ag l k2).cursor) ((eP ag l k2).stale) x35.v ((eP ag l k2).degraded) ((eP ag l k2).granted) ((eP ag l k2).waiting) ((eP ag l k2).wish) ((eP ag l k2).renewed) ((eP ag l k2).quiet)),Sv 4 51 x31.v (((eP ag l k2).Routes).map aM),Sv 7 54 x32.v (((eP ag l k2).Neighs).map aS),Sv 7 56 x33.v (((eP ag l k2).Fdbs).map cB),Sv 12 48 x34.v ((cV (fun e=>decide (e.Subnet=e22.Lease.Subnet)) ((eP ag l k2).view)).map aV),Sv 2 44 x35.v (((eP ag l k2).skipped).map aO),Bx p27 48 (aV e22.Lease)] w30:=m
  refine bP hs m gI fun a w_ hs m=>?_
  refine kE (c:=eI) (e:=e22) hs m (x:=(.tmp 84)) (ix:=(.tmp 85)) rfl rfl oP oM hl (by omega) he23 fun p36 hp37 ok38=>?_
  refine bP hs m (e_ (p_ (ok38 _ _ _ _ _)) gI) fun a w_ hs m=>?_
  refine aR hs rfl (fun h39=>?_) (fun h39=>?_)
  ·have h39p:=eq_of_beq h39
   refine bT hs m (x_ iA (e_ (p_ (cN (aV e22.Lease))) bR)) fun a w_ hs m=>?_
   replace m:=(m.sub (a0 (a0 (a0 (a0 (a0 (a0 (a0 .n)))))))).closeRa (p:=pag) (A:=({ (eP ag l k2) with view:=(cV (fun e=>decide (e.Subnet=e22.Lease.Subnet)) ((eP ag l k2).view)) }:gU))
   refine eW 1 (m.sub (a0 (a0 .n))) hs a0A (fun R1 hR ⟨y1,sy,ly⟩ mc=>aTB pag ({ (eP ag l k2) with view:=(cV (fun e=>decide (e.Subnet=e22.Lease.Subnet)) ((eP ag l k2).view)) }:gU) e22.Lease _ R1  (by exact Nat.le_trans rT (by omega)) mc) fun w40 m a hs=>?_
   simp only[iG] at m
   have mo:=m.openRa r0
   obtain⟨x41,x42,x43,x44,x45,m⟩:=mo
   replace m:Hp w0 R [Bx pag 140 (cRa ((eP ag l k2).self) ((eP ag l k2).opn) ((eP ag l k2).request) ((eP ag l k2).read) x41.v x42.v x43.v x44.v ((eP ag l k2).cursor) ((eP ag l k2).stale) x45.v ((eP ag l k2).degraded) ((eP ag l k2).granted) ((eP ag l k2).waiting) ((eP ag l k2).wish) ((eP ag l k2).renewed) ((eP ag l k2).quiet)),Sv 4 51 x41.v (((eP ag l k2).Routes).map aM),Sv 7 54 x42.v (((eP ag l k2).Neighs).map aS),Sv 7 56 x43.v (((eP ag l k2).Fdbs).map cB),Sv 12 48 x44.v ((wS e22.Lease (cV (fun e=>decide (e.Subnet=e22.Lease.Subnet)) ((eP ag l k2).view))).map aV),Sv 2 44 x45.v (((eP ag l k2).skipped).map aO),Bx p27 48 (aV e22.Lease)] w40:=m
   refine wpList_nil (aB ?_)
   refine eE m mo (by kernel_rfl) ?_
   refine kZ hs (k:=fun a hs=>?_)
   refine sO hs (k:=fun a hs=>?_)
   refine wpQuiet_nil fun w46 m=>?_
   refine aR hs rfl (fun h47=>?_) (fun h47=>?_)
   ·have h47p:=eq_of_beq h47
    refine bT hs m (x_ eZ (e_ (p_ (cN (aO e22.Lease.Subnet))) (x_ iA (dZ s0 (t:=hQ))))) fun a w48 hs m=>?_
    replace m:=(m.sub (a0 (a0 (a0 (a0 (a0 (a0 (a0 .n)))))))).closeRa (p:=pag) (A:=({ (eP ag l k2) with view:=(wS e22.Lease (cV (fun e=>decide (e.Subnet=e22.Lease.Subnet)) ((eP ag l k2).view))),wish:=e22.Lease.Subnet }:gU))
    have q49:({ (eP ag l k2) with view:=(wS e22.Lease (cV (fun e=>decide (e.Subnet=e22.Lease.Subnet)) ((eP ag l k2).view))),wish:=e22.Lease.Subnet }:gU)=(eP ag l (k2+1)):=by clear hs m;exact a1H (by assumption) (by omega) (by assumption)
    replace m:=m.swp (q:=sX pag (eP ag l (k2+1))) s0 (fun _ e=>by rw[<-q49];exact e)
    exact⟨l.length-(k2+1),by omega,k2+1,by omega,rfl,hs.to ⟨rfl,rfl,rfl,rfl,trivial⟩,m.sub (a0 .n)⟩
   have h47p:=ne_of_beq_false h47
   refine bT hs m hQ fun a w_ hs m=>?_
   replace m:=(m.sub (a0 (a0 (a0 (a0 (a0 (a0 (a0 .n)))))))).closeRa (p:=pag) (A:=({ (eP ag l k2) with view:=(wS e22.Lease (cV (fun e=>decide (e.Subnet=e22.Lease.Subnet)) ((eP ag l k2).view))) }:gU))
   have q50:({ (eP ag l k2) with view:=(wS e22.Lease (cV (fun e=>decide (e.Subnet=e22.Lease.Subnet)) ((eP ag l k2).view))) }:gU)=(eP ag l (k2+1)):=by clear hs m;exact a1I (by assumption) (by omega) (by assumption)
   replace m:=m.swp (q:=sX pag (eP ag l (k2+1))) s0 (fun _ e=>by rw[<-q50];exact e)
   exact⟨l.length-(k2+1),by omega,k2+1,by omega,rfl,hs.to ⟨rfl,rfl,rfl,rfl,trivial⟩,m.sub (a0 .n)⟩
  have h39p:=ne_of_beq_false h39
  refine bT hs m (x_ gC (dZ s0 (t:=nP))) fun a w51 hs m=>?_
  replace m:=m.nilSvM aO 2 44
  rw[(show ([]:List aT)=cV (fun y=>decide (y=e22.Lease.Subnet)) ((eP ag l k2).skipped.take 0) from aA8)] at m
  refine wp_loop_ghost (fun gn a w=>∃ k3:Nat,∃ v52:SH,(k3<=(eP ag l k2).skipped.length)/\gn=(eP ag l k2).skipped.length-k3/\St 146 [(0,.pointer (some (bK pag 0))),(1,vl.v),(5,.int .i64 z.v),(8,.int .i64 (k2:Int)),(9,.pointer (some (bK p27 0))),(10,v52.v),(11,.int .i64 (k3:Int))] a/\Hp w0 R [Bx pag 140 (cRa ((eP ag l k2).self) ((eP ag l k2).opn) ((eP ag l k2).request) ((eP ag l k2).read) x31.v x32.v x33.v x34.v ((eP ag l k2).cursor) ((eP ag l k2).stale) x35.v ((eP ag l k2).degraded) ((eP ag l k2).granted) false ((eP ag l k2).wish) ((eP ag l k2).renewed) ((eP ag l k2).quiet)),Bx p27 48 (aV e22.Lease),Sv 4 51 x31.v (((eP ag l k2).Routes).map aM),Sv 7 54 x32.v (((eP ag l k2).Neighs).map aS),Sv 7 56 x33.v (((eP ag l k2).Fdbs).map cB),Sv 12 48 x34.v ((cV (fun e=>decide (e.Subnet=e22.Lease.Subnet)) ((eP ag l k2).view)).map aV),Sv 2 44 x35.v (((eP ag l k2).skipped).map aO),Sv 2 44 v52.v ((cV (fun y=>decide (y=e22.Lease.Subnet)) ((eP ag l k2).skipped.take k3)).map aO)] w) ((eP ag l k2).skipped.length-0) ⟨0,nilH,by omega,rfl,hs.to ⟨rfl,rfl,rfl,rfl,rfl,rfl,rfl,trivial⟩,m.sub (a1 (a6 (a1 (a1 (a1 (a1 (a1 (a0 .n))))))))⟩ ?_
  rintro gn a w55 ⟨k3,v52,hk3,rfl,hs,m⟩
  have hkl:=xV (g:=(fun y=>decide (y=e22.Lease.Subnet))) (l:=(eP ag l k2).skipped) (k:=k3)
  refine bT hs m (x_ gZ (e_ (p_ (bQ m rfl hY (fV r6))) eZ)) fun a w_ hs m=>?_
  refine aR hs rfl (fun h56=>?_) (fun h56=>?_)
  rotate_left
  ·have h56p:=of_decide_eq_false h56
   refine bT hs m (x_ fW (dZ s0 (t:=hQ))) fun a w57 hs m=>?_
   replace m:=(m.sub (a0 (a1 (a1 (a1 (a1 (a2 (a0 (a0 .n))))))))).closeRa (p:=pag) (A:=({ (eP ag l k2) with view:=(cV (fun e=>decide (e.Subnet=e22.Lease.Subnet)) ((eP ag l k2).view)),skipped:=(cV (fun y=>decide (y=e22.Lease.Subnet)) ((eP ag l k2).skipped.take k3)),waiting:=false }:gU))
   have q58:({ (eP ag l k2) with view:=(cV (fun e=>decide (e.Subnet=e22.Lease.Subnet)) ((eP ag l k2).view)),skipped:=(cV (fun y=>decide (y=e22.Lease.Subnet)) ((eP ag l k2).skipped.take k3)),waiting:=false }:gU)=(eP ag l (k2+1)):=by clear hs m;(rw[aFW (by omega)];exact a1J (by assumption) (by assumption))
   replace m:=m.swp (q:=sX pag (eP ag l (k2+1))) s0 (fun _ e=>by rw[<-q58];exact e)
   exact⟨l.length-(k2+1),by omega,k2+1,by omega,rfl,hs.to ⟨rfl,rfl,rfl,rfl,trivial⟩,m.sub (a0 .n)⟩
  have h56p:=of_decide_eq_true h56
  refine wp_skip ?_
  refine aB ?_
  refine dG ?_
  refine wp_block ?_
  refine eE m mo (by kernel_rfl) ?_
  refine xD hs (k:=fun a hs=>?_)
  obtain⟨e59,he60⟩:=bI (l:=(eP ag l k2).skipped) (i:=k3) (by omega)
  refine rY (c:=aO) (e:=e59) hs m (x:=(.tmp 121)) (ix:=(.tmp 122)) rfl rfl hY jQ r6 (by omega) he60 fun p61 hp62 ok63=>?_
  refine xD hs (h1:=q_ (ok63 _ _ _ _ _)) (h2:=q_ (cN (aO e59))) (h4:=q_ (cN (aO e22.Lease.Subnet))) (h5:=q_ (sS (b:=decide (e59=e22.Lease.Subnet)) rfl rfl zE (lB _) (lB _) (sA e59 e22.Lease.Subnet))) (k:=fun a hs=>?_)
  refine wpQuiet_nil fun w64 m=>?_
  refine aR hs rfl (fun h65=>?_) (fun h65=>?_)
  ·have h65p:=h65;simp only[fK] at h65p
   refine bT hs m gZ fun a w_ hs m=>?_
   refine rY (c:=aO) (e:=e59) hs m (x:=(.tmp 132)) (ix:=(.tmp 133)) rfl rfl hY jQ r6 (by omega) he60 fun p66 hp67 ok68=>?_
   refine bP hs m (e_ (p_ (ok68 _ _ _ _ _)) (e_ (p_ (cN (aO e59))) bR)) fun a w_ hs m=>?_
   refine dK (c:=aO) (ys:=[e59]) hs m hY jQ uM rfl rfl rfl rfl rfl (fun _=>rfl) rfl rfl rfl fun v69 w70 m a hs=>?_
   refine cF (c:=aO) (xs:=cV (fun y=>decide (y=e22.Lease.Subnet)) ((eP ag l k2).skipped.take k3)) (ys:=[e59]) hs m rfl rfl hY aFF jQ uM rfl aFC rfl r8 (m.rdv r0) (fun _=>rfl) (by(simp;omega)) rfl fun v71 w72 m a hs=>?_
   refine bP hs m fW fun a w_ hs m=>?_
   rw[(show (cV (fun y=>decide (y=e22.Lease.Subnet)) ((eP ag l k2).skipped.take k3))++[e59]=cV (fun y=>decide (y=e22.Lease.Subnet)) ((eP ag l k2).skipped.take (k3+1)) from aG5 (by assumption) (by assumption))] at m
   exact⟨(eP ag l k2).skipped.length-(k3+1),by omega,k3+1,v71,by omega,rfl,hs.to ⟨rfl,rfl,rfl,rfl,rfl,rfl,rfl,trivial⟩,m.sub (a2 (a2 (a2 (a2 (a2 (a2 (a2 (a0 .n))))))))⟩
  have h65p:=h65;simp only[fK] at h65p
  refine bT hs m hQ fun a w_ hs m=>?_
  rw[(show cV (fun y=>decide (y=e22.Lease.Subnet)) ((eP ag l k2).skipped.take k3)=cV (fun y=>decide (y=e22.Lease.Subnet)) ((eP ag l k2).skipped.take (k3+1)) from aG4 (by assumption) (by assumption))] at m
  exact⟨(eP ag l k2).skipped.length-(k3+1),by omega,k3+1,v52,by omega,rfl,hs.to ⟨rfl,rfl,rfl,rfl,rfl,rfl,rfl,trivial⟩,m.sub (a0 (a0 (a0 (a0 (a0 (a0 (a0 (a0 .n))))))))⟩
 have h10p:=of_decide_eq_true h10
 refine bT hs m gZ fun a w_ hs m=>?_
 obtain⟨e75,he76⟩:=bI (l:=l) (i:=k) (by omega)
 refine kE (c:=eI) (e:=e75) hs m (x:=(.tmp 25)) (ix:=(.tmp 26)) rfl rfl oP oM hl (by omega) he76 fun p77 hp78 ok79=>?_
 refine bP hs m (e_ (p_ (ok79 _ _ _ _ _)) (x_ iA (e_ (p_ (cN (aO e75.Lease.Subnet))) bR))) fun a w_ hs m=>?_
 refine cC hs m rfl rfl aO4 rfl (yJ e75.Lease.Subnet _  ) rfl fun w80 m a hs=>?_
 refine bP hs m lA fun a w_ hs m=>?_
 rcases Bool.eq_false_or_eq_true (z.v==9223372036854775807) with hb81|hb81
 ·have hb81p:=eq_of_beq hb81
  refine bP hs m (x_ lA (e_ (p_ (aP (r:=.bool true) rfl rfl rfl (by rw[hb81];rfl))) (x_ eZ (e_ (p_ (aP (r:=.bool true) rfl rfl rfl rfl)) (x_ aJ3 (e_ (p_ (aP (r:=.bool true) rfl rfl rfl rfl)) aAM)))))) fun a w_ hs m=>?_
  refine bH hs (vs:=[.int .i64 162]) rfl ⟨rfl,trivial⟩ ?_
  exact⟨_,rfl,nX ((vI (yE (by assumption) (by exact rb1 (by assumption)) ho (by omega))).1),jF ((vI (yE (by assumption) (by exact rb1 (by assumption)) ho (by omega))).2) (m.sub (a0 (a0 (a0 (a0 (a0 (a0 .n)))))))⟩
 ·have hb81p:=ne_of_beq_false hb81
  refine bP hs m iA fun a w_ hs m=>?_
  refine kE (c:=eI) (e:=e75) hs m (x:=(.tmp 35)) (ix:=(.tmp 36)) rfl rfl oP oM hl (by omega) he76 fun p85 hp86 ok87=>?_
  refine bP hs m (e_ (dV hb81 (ok87 _ _ _ _ _)) (x_ gI (e_ (p_ (aP (r:=.bool (e75.Rev.v !=(z.v+1))) rfl rfl rfl (by rw[hb81];rfl))) eO))) fun a w_ hs m=>?_
  rcases Bool.eq_false_or_eq_true (e75.Rev.v !=(z.v+1)) with hb88|hb88
  ·have hb88p:=fT hb88
   refine bP hs m (x_ iA (e_ (p_ (aP (r:=.bool true) rfl rfl rfl (by rw[hb88];rfl))) (x_ aJ3 (e_ (p_ (aP (r:=.bool true) rfl rfl rfl rfl)) aAM)))) fun a w_ hs m=>?_
   refine bH hs (vs:=[.int .i64 162]) rfl ⟨rfl,trivial⟩ ?_
   exact⟨_,rfl,nX ((vI (yE (by assumption) (by exact rb2 (by assumption)) ho (by omega))).1),jF ((vI (yE (by assumption) (by exact rb2 (by assumption)) ho (by omega))).2) (m.sub (a0 (a0 (a0 (a0 (a0 (a0 .n)))))))⟩
  ·have hb88p:=dJ hb88
   refine bP hs m (x_ iA (e_ (p_ (aP (r:=.bool (!(iZ e75.Lease.Subnet))) rfl rfl rfl (by rw[hb88];rfl))) eO)) fun a w_ hs m=>?_
   rcases Bool.eq_false_or_eq_true (!(iZ e75.Lease.Subnet)) with hb92|hb92
   ·have hb92p:=hb92;simp only[fK] at hb92p
    refine bP hs m (x_ aAM (e_ (p_ (aP (r:=.bool true) rfl rfl rfl (by rw[hb92];rfl))) aAM)) fun a w_ hs m=>?_
    refine bH hs (vs:=[.int .i64 162]) rfl ⟨rfl,trivial⟩ ?_
    exact⟨_,rfl,nX ((vI (yE (by assumption) (by exact rb3 (by assumption)) ho (by omega))).1),jF ((vI (yE (by assumption) (by exact rb3 (by assumption)) ho (by omega))).2) (m.sub (a0 (a0 (a0 (a0 (a0 (a0 .n)))))))⟩
   ·have hb92p:=hb92;simp only[fK] at hb92p
    refine bP hs m iA fun a w_ hs m=>?_
    refine kE (c:=eI) (e:=e75) hs m (x:=(.tmp 49)) (ix:=(.tmp 50)) rfl rfl oP oM hl (by omega) he76 fun p96 hp97 ok98=>?_
    refine bP hs m (e_ (dV hb92 (ok98 _ _ _ _ _)) gC) fun a w_ hs m=>?_
    rcases Bool.eq_false_or_eq_true (e75.Kind.v !=1) with hb99|hb99
    ·have hb99p:=fT hb99
     refine bP hs m iA fun a w_ hs m=>?_
     refine kE (c:=eI) (e:=e75) hs m (x:=(.tmp 56)) (ix:=(.tmp 57)) rfl rfl oP oM hl (by omega) he76 fun p100 hp101 ok102=>?_
     refine bP hs m (e_ (dV hb99 (ok102 _ _ _ _ _)) (x_ eZ (e_ (dV hb92 (aP (r:=.bool (e75.Kind.v !=2)) rfl rfl rfl (by rw[hb99];rfl))) (e_ (p_ (aP (r:=.bool (e75.Kind.v !=2)) rfl rfl rfl (by rw[hb92];rfl))) iA)))) fun a w_ hs m=>?_
     refine aR hs rfl (fun h103=>?_) (fun h103=>?_)
     ·have h103p:=fT h103
      refine bT hs m mT fun a w_ hs m=>?_
      refine bH hs (vs:=[.int .i64 162]) rfl ⟨rfl,trivial⟩ ?_
      exact⟨_,rfl,nX ((vI (yE (by assumption) (by exact rb4 (by assumption) (by assumption)) ho (by omega))).1),jF ((vI (yE (by assumption) (by exact rb4 (by assumption) (by assumption)) ho (by omega))).2) (m.sub (a0 (a0 (a0 (a0 (a0 (a0 .n)))))))⟩
     have h103p:=dJ h103
     refine bT hs m gI fun a w_ hs m=>?_
     refine kE (c:=eI) (e:=e75) hs m (x:=(.tmp 64)) (ix:=(.tmp 65)) rfl rfl oP oM hl (by omega) he76 fun p106 hp107 ok108=>?_
     refine bP hs m (e_ (p_ (ok108 _ _ _ _ _)) nP) fun a w_ hs m=>?_
     exact⟨l.length-(k+1),by omega,k+1,e75.Rev,by omega,by exact aQV (by assumption) (by exact rg2 (by assumption) (by assumption) (by assumption) (by assumption)) ho,by exact aG7 (by assumption),rfl,hs.to ⟨rfl,rfl,rfl,rfl,trivial⟩,m.sub (a0 (a0 (a0 (a0 (a0 (a0 .n))))))⟩
    ·have hb99p:=dJ hb99
     refine bP hs m (x_ gX (e_ (dV hb92 (aP (r:=.bool false) rfl rfl rfl (by rw[hb99];rfl))) (e_ (p_ (aP (r:=.bool false) rfl rfl rfl (by rw[hb92];rfl))) lA))) fun a w_ hs m=>?_
     refine kE (c:=eI) (e:=e75) hs m (x:=(.tmp 64)) (ix:=(.tmp 65)) rfl rfl oP oM hl (by omega) he76 fun p110 hp111 ok112=>?_
     refine bP hs m (e_ (p_ (ok112 _ _ _ _ _)) nP) fun a w_ hs m=>?_
     exact⟨l.length-(k+1),by omega,k+1,e75.Rev,by omega,by exact aQV (by assumption) (by exact rg1 (by assumption) (by assumption) (by assumption) (by assumption)) ho,by exact aG7 (by assumption),rfl,hs.to ⟨rfl,rfl,rfl,rfl,trivial⟩,m.sub (a0 (a0 (a0 (a0 (a0 (a0 .n))))))⟩
end Go.Proofs.YtnbpodjbemfpbaaGreat.Fw
set_option linter.all false
set_option maxHeartbeats 4000000
set_option maxRecDepth 100000
namespace Go.Proofs.YtnbpodjbemfpbaaGreat.Fw
open Go
theorem aTI (pag:Addr) (ag:gU) (bM:Fx .i64) (aW:fC) (aU:Fx .i64) (aZ:Fx .i64) (bJ:SH) (aJ:List TLease) (cM:SH) (bC:List TEvent) (aY:SH) (aE:List bD) (aX:SH) (aG:List bA) (bE:SH) (aK:List cH) (w0:World) (R:Hh) (dI:RdS R 12 bJ.v (aJ.map aV)) (eQ:RdS R 14 cM.v (bC.map eI)) (dE:RdS R 4 aY.v (aE.map aM)) (dD:RdS R 7 aX.v (aG.map aS)) (dM:RdS R 7 bE.v (aK.map cB)) (B0:ag.view.length<=2000000000) (B1:ag.Routes.length<=2000000000) (B2:ag.Neighs.length<=2000000000) (B3:ag.Fdbs.length<=2000000000) (B4:ag.skipped.length<=2000000000000) (B5:bC.length<=2000000000) (B6:aJ.length<=2000000000) (B7:aE.length<=2000000000) (B8:aG.length<=2000000000) (B9:aK.length<=2000000000) (m:Hp w0 R [sX pag ag] w0):Calls Tryz.prog 122 ⟨[.pointer (some (bK pag 0)),.agg ⟨sY bM aW aU aZ bJ.v cM.v aY.v aX.v bE.v⟩]⟩ w0 fun e w'=>∃ v,e= .returned v/\(v=(.int .i64 (lY ag (⟨bM,aW,aU,aZ,aJ,bC,aE,aG,aK⟩:pT)))/\Hp w0 R [sX pag (iT ag (⟨bM,aW,aU,aZ,aJ,bC,aE,aG,aK⟩:pT))] w'):=by
 have kB:=dI.bd
 have oS:=eQ.bd
 have iX:=dE.bd
 have iW:=dD.bd
 have kC:=dM.bd
 refine enter (n:=59) Tryz.func122 rfl rfl rfl fun a (hs:St 59 [(0,.pointer (some (bK pag 0))),(1,.agg ⟨sY bM aW aU aZ bJ.v cM.v aY.v aX.v bE.v⟩)] a)=>?_
 have mo:=m.openRa r0
 obtain⟨x1,x2,x3,x4,x5,m⟩:=mo
 refine bN ?_
 refine dU (cs:=sY bM aW aU aZ bJ.v cM.v aY.v aX.v bE.v) hs m rfl (by kernel_rfl) rfl fun p6 w7 m a hs=>?_
 refine bP hs m aYR fun a w_ hs m=>?_
 refine aR hs rfl (fun h8=>?_) (fun h8=>?_)
 ·have h8p:=eq_of_beq h8
  refine bT hs m gX fun a w_ hs m=>?_
  refine aR hs rfl (fun h9=>?_) (fun h9=>?_)
  ·have h9p:=eq_of_beq h9
   refine bT hs m (x_ eZ (e_ (p_ (cN [aY.v,aX.v,bE.v])) bR)) fun a w_ hs m=>?_
   replace m:=(m.sub (a1 (a1 (a1 (a1 (a1 (a1 (a0 .n)))))))).closeRa (p:=pag) (A:=ag)
   refine eW 1 (m.sub (a0 (a0 .n))) hs aZW (fun R1 hR ⟨y1,sy,ly⟩ mc=>aNW pag ag aY aE aX aG bE aK _ R1 (dE.le hR) (dD.le hR) (dM.le hR) (by omega) (by omega) (by omega) mc) fun w10 m a hs=>?_
   simp only[iG] at m
   have mo:=m.openRa r0
   obtain⟨x11,x12,x13,x14,x15,m⟩:=mo
   refine bP hs m gX fun a w_ hs m=>?_
   refine bH hs (vs:=[.int .i64 (vF aE aG aK)]) rfl ⟨rfl,trivial⟩ ?_
   exact⟨_,rfl,nX (rt1 (a:=ag) (r:=⟨bM,aW,aU,aZ,aJ,bC,aE,aG,aK⟩) (by omega) (show bM.v=0 by omega)).1,jF (rt1 (a:=ag) (r:=⟨bM,aW,aU,aZ,aJ,bC,aE,aG,aK⟩) (by omega) (show bM.v=0 by omega)).2 (m.sub (a0 (a0 (a0 (a0 (a0 (a0 (a0 .n))))))))⟩
  have h9p:=ne_of_beq_false h9
  refine bT hs m lA fun a w_ hs m=>?_
  refine bH hs (vs:=[.int .i64 0]) rfl ⟨rfl,trivial⟩ ?_
  exact⟨_,rfl,nX (aX9 (a:=ag) (r:=⟨bM,aW,aU,aZ,aJ,bC,aE,aG,aK⟩) (by omega) (show bM.v≠0 by omega)).1,jF (aX9 (a:=ag) (r:=⟨bM,aW,aU,aZ,aJ,bC,aE,aG,aK⟩) (by omega) (show bM.v≠0 by omega)).2 (m.sub (a1 (a1 (a1 (a1 (a1 (a1 (a0 .n))))))))⟩
 have h8p:=ne_of_beq_false h8
 refine bT hs m gI fun a w_ hs m=>?_
 refine aR hs rfl (fun h20=>?_) (fun h20=>?_)
 ·have h20p:=eq_of_beq h20
  refine bT hs m gX fun a w_ hs m=>?_
  refine aR hs rfl (fun h21=>?_) (fun h21=>?_)
  ·have h21p:=eq_of_beq h21
   refine bT hs m (x_ eZ (e_ (p_ (cN [.int .i64 aU.v,.int .i64 aZ.v,bJ.v])) bR)) fun a w_ hs m=>?_
   replace m:=(m.sub (a1 (a1 (a1 (a1 (a1 (a1 (a0 .n)))))))).closeRa (p:=pag) (A:=ag)
   refine eW 1 (m.sub (a0 (a0 .n))) hs aZX (fun R1 hR ⟨y1,sy,ly⟩ mc=>aK2 pag ag aU aZ bJ aJ _ R1 (dI.le hR) (by omega) mc) fun w22 m a hs=>?_
   simp only[iG] at m
   have mo:=m.openRa r0
   obtain⟨x23,x24,x25,x26,x27,m⟩:=mo
   refine bP hs m gX fun a w_ hs m=>?_
   refine bH hs (vs:=[.int .i64 (uW aU.v aJ)]) rfl ⟨rfl,trivial⟩ ?_
   exact⟨_,rfl,nX (rt2 (a:=ag) (r:=⟨bM,aW,aU,aZ,aJ,bC,aE,aG,aK⟩) (by omega) (show bM.v=0 by omega)).1,jF (rt2 (a:=ag) (r:=⟨bM,aW,aU,aZ,aJ,bC,aE,aG,aK⟩) (by omega) (show bM.v=0 by omega)).2 (m.sub (a0 (a0 (a0 (a0 (a0 (a0 (a0 .n))))))))⟩
  have h21p:=ne_of_beq_false h21
  refine bT hs m lA fun a w_ hs m=>?_
  refine bH hs (vs:=[.int .i64 0]) rfl ⟨rfl,trivial⟩ ?_
  exact⟨_,rfl,nX (aYA (a:=ag) (r:=⟨bM,aW,aU,aZ,aJ,bC,aE,aG,aK⟩) (by omega) (show bM.v≠0 by omega)).1,jF (aYA (a:=ag) (r:=⟨bM,aW,aU,aZ,aJ,bC,aE,aG,aK⟩) (by omega) (show bM.v≠0 by omega)).2 (m.sub (a1 (a1 (a1 (a1 (a1 (a1 (a0 .n))))))))⟩
 have h20p:=ne_of_beq_false h20
 refine bT hs m gI fun a w_ hs m=>?_
 refine aR hs rfl (fun h32=>?_) (fun h32=>?_)
 ·have h32p:=eq_of_beq h32
  refine bT hs m gC fun a w_ hs m=>?_
  replace m:=(m.sub (a1 (a1 (a1 (a1 (a1 (a1 (a0 .n)))))))).closeRa (p:=pag) (A:=ag)
  refine eW 1 (m.sub (a0 (a0 .n))) hs aZY (fun R1 hR ⟨y1,sy,ly⟩ mc=>aK6 pag ag bM.v _ R1  (by omega) (by omega) (by omega) (by omega) (by omega) mc) fun w33 m a hs=>?_
  simp only[iG] at m
  have mo:=m.openRa r0
  obtain⟨x34,x35,x36,x37,x38,m⟩:=mo
  refine bP hs m lA fun a w_ hs m=>?_
  refine bH hs (vs:=[.int .i64 0]) rfl ⟨rfl,trivial⟩ ?_
  exact⟨_,rfl,nX (rt3 (a:=ag) (r:=⟨bM,aW,aU,aZ,aJ,bC,aE,aG,aK⟩) (by omega)).1,jF (rt3 (a:=ag) (r:=⟨bM,aW,aU,aZ,aJ,bC,aE,aG,aK⟩) (by omega)).2 (m.sub (a0 (a0 (a0 (a0 (a0 (a0 (a0 .n))))))))⟩
 have h32p:=ne_of_beq_false h32
 refine bT hs m gX fun a w_ hs m=>?_
 refine aR hs rfl (fun h41=>?_) (fun h41=>?_)
 ·have h41p:=eq_of_beq h41
  refine wp_skip ?_
  refine aB ?_
  refine lU hs rfl h41 ?_
  refine bT hs m (x_ iA (e_ (p_ (cN (sY bM aW aU aZ bJ.v cM.v aY.v aX.v bE.v))) bR)) fun a w_ hs m=>?_
  replace m:=(m.sub (a1 (a1 (a1 (a1 (a1 (a1 (a0 .n)))))))).closeRa (p:=pag) (A:=ag)
  refine eW 1 (m.sub (a0 (a0 .n))) hs aT6 (fun R1 hR ⟨y1,sy,ly⟩ mc=>aF6 pag ag bM aW aU aZ bJ aJ cM bC aY aE aX aG bE aK _ R1 (dI.le hR) (eQ.le hR) (dE.le hR) (dD.le hR) (dM.le hR)  mc) fun w43 m a hs=>?_
  simp only[iG] at m
  have mo:=m.openRa r0
  obtain⟨x44,x45,x46,x47,x48,m⟩:=mo
  refine bP hs m gX fun a w_ hs m=>?_
  refine bH hs (vs:=[.int .i64 (wZ ag bM.v aW.Lease)]) rfl ⟨rfl,trivial⟩ ?_
  exact⟨_,rfl,nX (rt4 (a:=ag) (r:=⟨bM,aW,aU,aZ,aJ,bC,aE,aG,aK⟩) (by omega)).1,jF (rt4 (a:=ag) (r:=⟨bM,aW,aU,aZ,aJ,bC,aE,aG,aK⟩) (by omega)).2 (m.sub (a0 (a0 (a0 (a0 (a0 (a0 (a0 .n))))))))⟩
 have h41p:=ne_of_beq_false h41
 refine bT hs m gI fun a w_ hs m=>?_
 refine aR hs rfl (fun h51=>?_) (fun h51=>?_)
 ·have h51p:=eq_of_beq h51
  refine bT hs m (x_ iA (e_ (p_ (cN (sY bM aW aU aZ bJ.v cM.v aY.v aX.v bE.v))) bR)) fun a w_ hs m=>?_
  replace m:=(m.sub (a1 (a1 (a1 (a1 (a1 (a1 (a0 .n)))))))).closeRa (p:=pag) (A:=ag)
  refine eW 1 (m.sub (a0 (a0 .n))) hs aT6 (fun R1 hR ⟨y1,sy,ly⟩ mc=>aF6 pag ag bM aW aU aZ bJ aJ cM bC aY aE aX aG bE aK _ R1 (dI.le hR) (eQ.le hR) (dE.le hR) (dD.le hR) (dM.le hR)  mc) fun w52 m a hs=>?_
  simp only[iG] at m
  have mo:=m.openRa r0
  obtain⟨x53,x54,x55,x56,x57,m⟩:=mo
  refine bP hs m gX fun a w_ hs m=>?_
  refine bH hs (vs:=[.int .i64 (wZ ag bM.v aW.Lease)]) rfl ⟨rfl,trivial⟩ ?_
  exact⟨_,rfl,nX (rt4 (a:=ag) (r:=⟨bM,aW,aU,aZ,aJ,bC,aE,aG,aK⟩) (by omega)).1,jF (rt4 (a:=ag) (r:=⟨bM,aW,aU,aZ,aJ,bC,aE,aG,aK⟩) (by omega)).2 (m.sub (a0 (a0 (a0 (a0 (a0 (a0 (a0 .n))))))))⟩
 have h51p:=ne_of_beq_false h51
 refine bT hs m gI fun a w_ hs m=>?_
 refine aR hs rfl (fun h60=>?_) (fun h60=>?_)
 ·have h60p:=eq_of_beq h60
  refine bT hs m mT fun a w_ hs m=>?_
  refine aR hs rfl (fun h61=>?_) (fun h61=>?_)
  ·have h61p:=eq_of_beq h61
   refine bT hs m gC fun a w_ hs m=>?_
   replace m:=(m.sub (a1 (a1 (a1 (a1 (a1 (a1 (a0 .n)))))))).closeRa (p:=pag) (A:=ag)
   refine eW 1 (m.sub (a0 (a0 .n))) hs aZ0 (fun R1 hR ⟨y1,sy,ly⟩ mc=>aLD pag ag cM bC _ R1 (eQ.le hR) (by omega) (by omega) (by omega) (by omega) (by omega) (by omega) mc) fun w62 m a hs=>?_
   simp only[iG] at m
   have mo:=m.openRa r0
   obtain⟨x63,x64,x65,x66,x67,m⟩:=mo
   refine bP hs m gZ fun a w_ hs m=>?_
   refine bH hs (vs:=[.int .i64 (zJ ag bC)]) rfl ⟨rfl,trivial⟩ ?_
   exact⟨_,rfl,nX (rt6 (a:=ag) (r:=⟨bM,aW,aU,aZ,aJ,bC,aE,aG,aK⟩) (by omega) (show bM.v=0 by omega)).1,jF (rt6 (a:=ag) (r:=⟨bM,aW,aU,aZ,aJ,bC,aE,aG,aK⟩) (by omega) (show bM.v=0 by omega)).2 (m.sub (a0 (a0 (a0 (a0 (a0 (a0 (a0 .n))))))))⟩
  have h61p:=ne_of_beq_false h61
  refine bT hs m gX fun a w_ hs m=>?_
  refine aR hs rfl (fun h70=>?_) (fun h70=>?_)
  ·have h70p:=eq_of_beq h70
   refine wp_skip ?_
   refine aB ?_
   refine lU hs rfl h70 ?_
   refine bT hs m (x_ gC (dZ s1 (t:=hQ))) fun a w72 hs m=>?_
   refine bH hs (vs:=[.int .i64 0]) rfl ⟨rfl,trivial⟩ ?_
   exact⟨_,rfl,nX (aFH (a:=ag) (r:=⟨bM,aW,aU,aZ,aJ,bC,aE,aG,aK⟩) (by omega) (show bM.v=112\/bM.v=113\/bM.v=140\/bM.v=141\/bM.v=142 by omega)).1,jF (aFH (a:=ag) (r:=⟨bM,aW,aU,aZ,aJ,bC,aE,aG,aK⟩) (by omega) (show bM.v=112\/bM.v=113\/bM.v=140\/bM.v=141\/bM.v=142 by omega)).2 (m.sub (a1 (a1 (a1 (a1 (a1 (a1 (a0 .n))))))))⟩
  have h70p:=ne_of_beq_false h70
  refine bT hs m gI fun a w_ hs m=>?_
  refine aR hs rfl (fun h75=>?_) (fun h75=>?_)
  ·have h75p:=eq_of_beq h75
   refine wp_skip ?_
   refine aB ?_
   refine lU hs rfl h75 ?_
   refine bT hs m (x_ gC (dZ s1 (t:=hQ))) fun a w77 hs m=>?_
   refine bH hs (vs:=[.int .i64 0]) rfl ⟨rfl,trivial⟩ ?_
   exact⟨_,rfl,nX (aFH (a:=ag) (r:=⟨bM,aW,aU,aZ,aJ,bC,aE,aG,aK⟩) (by omega) (show bM.v=112\/bM.v=113\/bM.v=140\/bM.v=141\/bM.v=142 by omega)).1,jF (aFH (a:=ag) (r:=⟨bM,aW,aU,aZ,aJ,bC,aE,aG,aK⟩) (by omega) (show bM.v=112\/bM.v=113\/bM.v=140\/bM.v=141\/bM.v=142 by omega)).2 (m.sub (a1 (a1 (a1 (a1 (a1 (a1 (a0 .n))))))))⟩
  have h75p:=ne_of_beq_false h75
  refine bT hs m gI fun a w_ hs m=>?_
  refine aR hs rfl (fun h80=>?_) (fun h80=>?_)
  ·have h80p:=eq_of_beq h80
   refine wp_skip ?_
   refine aB ?_
   refine lU hs rfl h80 ?_
   refine bT hs m (x_ gC (dZ s1 (t:=hQ))) fun a w82 hs m=>?_
   refine bH hs (vs:=[.int .i64 0]) rfl ⟨rfl,trivial⟩ ?_
   exact⟨_,rfl,nX (aFH (a:=ag) (r:=⟨bM,aW,aU,aZ,aJ,bC,aE,aG,aK⟩) (by omega) (show bM.v=112\/bM.v=113\/bM.v=140\/bM.v=141\/bM.v=142 by omega)).1,jF (aFH (a:=ag) (r:=⟨bM,aW,aU,aZ,aJ,bC,aE,aG,aK⟩) (by omega) (show bM.v=112\/bM.v=113\/bM.v=140\/bM.v=141\/bM.v=142 by omega)).2 (m.sub (a1 (a1 (a1 (a1 (a1 (a1 (a0 .n))))))))⟩
  have h80p:=ne_of_beq_false h80
  refine bT hs m gI fun a w_ hs m=>?_
  refine aR hs rfl (fun h85=>?_) (fun h85=>?_)
  ·have h85p:=eq_of_beq h85
   refine wp_skip ?_
   refine aB ?_
   refine lU hs rfl h85 ?_
   refine bT hs m (x_ gC (dZ s1 (t:=hQ))) fun a w87 hs m=>?_
   refine bH hs (vs:=[.int .i64 0]) rfl ⟨rfl,trivial⟩ ?_
   exact⟨_,rfl,nX (aFH (a:=ag) (r:=⟨bM,aW,aU,aZ,aJ,bC,aE,aG,aK⟩) (by omega) (show bM.v=112\/bM.v=113\/bM.v=140\/bM.v=141\/bM.v=142 by omega)).1,jF (aFH (a:=ag) (r:=⟨bM,aW,aU,aZ,aJ,bC,aE,aG,aK⟩) (by omega) (show bM.v=112\/bM.v=113\/bM.v=140\/bM.v=141\/bM.v=142 by omega)).2 (m.sub (a1 (a1 (a1 (a1 (a1 (a1 (a0 .n))))))))⟩
  have h85p:=ne_of_beq_false h85
  refine bT hs m gI fun a w_ hs m=>?_
  refine aR hs rfl (fun h90=>?_) (fun h90=>?_)
  ·have h90p:=eq_of_beq h90
   refine bT hs m (x_ gC (dZ s1 (t:=hQ))) fun a w91 hs m=>?_
   refine bH hs (vs:=[.int .i64 0]) rfl ⟨rfl,trivial⟩ ?_
   exact⟨_,rfl,nX (aFH (a:=ag) (r:=⟨bM,aW,aU,aZ,aJ,bC,aE,aG,aK⟩) (by omega) (show bM.v=112\/bM.v=113\/bM.v=140\/bM.v=141\/bM.v=142 by omega)).1,jF (aFH (a:=ag) (r:=⟨bM,aW,aU,aZ,aJ,bC,aE,aG,aK⟩) (by omega) (show bM.v=112\/bM.v=113\/bM.v=140\/bM.v=141\/bM.v=142 by omega)).2 (m.sub (a1 (a1 (a1 (a1 (a1 (a1 (a0 .n))))))))⟩
  have h90p:=ne_of_beq_false h90
  refine bT hs m hQ fun a w_ hs m=>?_
  refine bH hs (vs:=[.int .i64 0]) rfl ⟨rfl,trivial⟩ ?_
  exact⟨_,rfl,nX (a1R (a:=ag) (r:=⟨bM,aW,aU,aZ,aJ,bC,aE,aG,aK⟩) (by omega) (show bM.v≠0 by omega) (show bM.v≠112/\bM.v≠113/\bM.v≠140/\bM.v≠141/\bM.v≠142 by omega)).1,jF (a1R (a:=ag) (r:=⟨bM,aW,aU,aZ,aJ,bC,aE,aG,aK⟩) (by omega) (show bM.v≠0 by omega) (show bM.v≠112/\bM.v≠113/\bM.v≠140/\bM.v≠141/\bM.v≠142 by omega)).2 (m.sub (a1 (a1 (a1 (a1 (a1 (a1 (a0 .n))))))))⟩
 have h60p:=ne_of_beq_false h60
 refine bT hs m lA fun a w_ hs m=>?_
 refine bH hs (vs:=[.int .i64 0]) rfl ⟨rfl,trivial⟩ ?_
 exact⟨_,rfl,nX (rtn (a:=ag) (r:=⟨bM,aW,aU,aZ,aJ,bC,aE,aG,aK⟩) (by omega) (by omega) (by omega) (by omega) (by omega)).1,jF (rtn (a:=ag) (r:=⟨bM,aW,aU,aZ,aJ,bC,aE,aG,aK⟩) (by omega) (by omega) (by omega) (by omega) (by omega)).2 (m.sub (a1 (a1 (a1 (a1 (a1 (a1 (a0 .n))))))))⟩
theorem aS4 (pag:Addr) (ag:gU) (bM:Fx .i64) (aW:fC) (aU:Fx .i64) (aZ:Fx .i64) (bJ:SH) (aJ:List TLease) (cM:SH) (bC:List TEvent) (aY:SH) (aE:List bD) (aX:SH) (aG:List bA) (bE:SH) (aK:List cH) (w0:World) (R:Hh) (dI:RdS R 12 bJ.v (aJ.map aV)) (eQ:RdS R 14 cM.v (bC.map eI)) (dE:RdS R 4 aY.v (aE.map aM)) (dD:RdS R 7 aX.v (aG.map aS)) (dM:RdS R 7 bE.v (aK.map cB)) (B0:ag.view.length<=2000000000) (B1:ag.Routes.length<=2000000000) (B2:ag.Neighs.length<=2000000000) (B3:ag.Fdbs.length<=2000000000) (B4:ag.skipped.length<=2000000000000) (B5:bC.length<=2000000000) (B6:aJ.length<=2000000000) (B7:aE.length<=2000000000) (B8:aG.length<=2000000000) (B9:aK.length<=2000000000) (m:Hp w0 R [sX pag ag] w0):Calls Tryz.prog 79 ⟨[.pointer (some (bK pag 0)),.agg ⟨sY bM aW aU aZ bJ.v cM.v aY.v aX.v bE.v⟩]⟩ w0 fun e w'=>∃ v,e= .returned v/\(v=(.int .i64 (uB ag (⟨bM,aW,aU,aZ,aJ,bC,aE,aG,aK⟩:pT)))/\Hp w0 R [sX pag (mG ag (⟨bM,aW,aU,aZ,aJ,bC,aE,aG,aK⟩:pT))] w'):=by
 have kB:=dI.bd
 have oS:=eQ.bd
 have iX:=dE.bd
 have iW:=dD.bd
 have kC:=dM.bd
 refine enter (n:=54) Tryz.func79 rfl rfl rfl fun a (hs:St 54 [(0,.pointer (some (bK pag 0))),(1,.agg ⟨sY bM aW aU aZ bJ.v cM.v aY.v aX.v bE.v⟩)] a)=>?_
 have mo:=m.openRa r0
 obtain⟨x1,x2,x3,x4,x5,m⟩:=mo
 refine bN ?_
 refine dU (cs:=sY bM aW aU aZ bJ.v cM.v aY.v aX.v bE.v) hs m rfl (by kernel_rfl) rfl fun p6 w7 m a hs=>?_
 refine bP hs m nP fun a w_ hs m=>?_
 refine aR hs rfl (fun h8=>?_) (fun h8=>?_)
 ·have h8p:=h8;simp only[fK] at h8p
  refine bT hs m gX fun a w_ hs m=>?_
  refine bH hs (vs:=[.int .i64 160]) rfl ⟨rfl,trivial⟩ ?_
  exact⟨_,rfl,nX ((a1L (a:=ag) (r:=⟨bM,aW,aU,aZ,aJ,bC,aE,aG,aK⟩) (by assumption)).1),jF ((a1L (a:=ag) (r:=⟨bM,aW,aU,aZ,aJ,bC,aE,aG,aK⟩) (by assumption)).2) (m.sub (a1 (a1 (a1 (a1 (a1 (a1 (a0 .n))))))))⟩
 have h8p:=h8;simp only[fK] at h8p
 refine bT hs m (x_ gC (e_ (p_ (cN (sY bM aW aU aZ bJ.v cM.v aY.v aX.v bE.v))) bR)) fun a w_ hs m=>?_
 replace m:=(m.sub (a1 (a1 (a1 (a1 (a1 (a1 (a0 .n)))))))).closeRa (p:=pag) (A:=ag)
 refine eW 1 (m.sub (a0 (a0 .n))) hs aZC (fun R1 hR ⟨y1,sy,ly⟩ mc=>aTI pag ag bM aW aU aZ bJ aJ cM bC aY aE aX aG bE aK _ R1 (dI.le hR) (eQ.le hR) (dE.le hR) (dD.le hR) (dM.le hR) (by omega) (by omega) (by omega) (by omega) (by omega) (by omega) (by omega) (by omega) (by omega) (by omega) mc) fun w11 m a hs=>?_
 simp only[iG] at m
 have mo:=m.openRa r0
 obtain⟨x12,x13,x14,x15,x16,m⟩:=mo
 refine bP hs m hQ fun a w_ hs m=>?_
 refine aR hs rfl (fun h17=>?_) (fun h17=>?_)
 ·have h17p:=fT h17
  refine bT hs m gZ fun a w_ hs m=>?_
  refine bH hs (vs:=[.int .i64 (lY ag (⟨bM,aW,aU,aZ,aJ,bC,aE,aG,aK⟩:pT))]) rfl ⟨rfl,trivial⟩ ?_
  exact⟨_,rfl,nX ((a1M (a:=ag) (r:=⟨bM,aW,aU,aZ,aJ,bC,aE,aG,aK⟩) (by assumption) (by assumption)).1),jF ((a1M (a:=ag) (r:=⟨bM,aW,aU,aZ,aJ,bC,aE,aG,aK⟩) (by assumption) (by assumption)).2) (m.sub (a0 (a0 (a0 (a0 (a0 (a0 (a0 .n))))))))⟩
 have h17p:=dJ h17
 refine bT hs m (x_ gX (dZ s0 (t:=mT))) fun a w20 hs m=>?_
 refine jO (.c (.c (.c (.c (.n))))) hs m 31 (((((iT ag (⟨bM,aW,aU,aZ,aJ,bC,aE,aG,aK⟩:pT)).request).Kind).v)==5) (.bool ((((((iT ag (⟨bM,aW,aU,aZ,aJ,bC,aE,aG,aK⟩:pT)).request).Kind).v)==5)&&(bM.v==0))) ?_
 rintro a w22 ⟨hs,m⟩
 refine bP hs m (x_ iA (dZ s0 (t:=mT))) fun a w23 hs m=>?_
 refine jO (.c (.c (.c (.c (.n))))) hs m 45 (((((iT ag (⟨bM,aW,aU,aZ,aJ,bC,aE,aG,aK⟩:pT)).request).Kind).v)==6) (.bool ((((((iT ag (⟨bM,aW,aU,aZ,aJ,bC,aE,aG,aK⟩:pT)).request).Kind).v)==6)&&(bM.v==0))) ?_
 rintro a w25 ⟨hs,m⟩
 refine bP hs m eO fun a w_ hs m=>?_
 refine xY (.c (.c (.c (.c (.c (.n)))))) hs m 51 (.bool (((((((iT ag (⟨bM,aW,aU,aZ,aJ,bC,aE,aG,aK⟩:pT)).request).Kind).v)==6)&&(bM.v==0))&&((bC.length:Int)==0))) ?_ ?_
 ·rcases Bool.eq_false_or_eq_true ((((((iT ag (⟨bM,aW,aU,aZ,aJ,bC,aE,aG,aK⟩:pT)).request).Kind).v)==6)&&(bM.v==0)) with hb26|hb26
  ·have hb26p:=hb26;simp only[fK] at hb26p
   refine bP hs m (x_ iA (e_ (dV hb26 (bQ m rfl oP (dX eQ))) iA)) fun a w_ hs m=>?_
   exact nN hs m 4 (by rw[hb26];rfl)
  ·have hb26p:=hb26;simp only[fK] at hb26p
   refine bP hs m gI fun a w_ hs m=>?_
   exact nN hs m 4 (by rw[hb26];rfl)
 rintro a w27 ⟨hs,m⟩
 refine bP hs m (x_ iA (dZ s0 (t:=gZ))) fun a w28 hs m=>?_
 refine bH hs (vs:=[.int .i64 0]) rfl ⟨rfl,trivial⟩ ?_
 exact⟨_,rfl,nX ((a1N (a:=ag) (r:=⟨bM,aW,aU,aZ,aJ,bC,aE,aG,aK⟩) (by assumption) (by assumption)).1),jF ((a1N (a:=ag) (r:=⟨bM,aW,aU,aZ,aJ,bC,aE,aG,aK⟩) (by assumption) (by assumption)).2) (m.sub (a0 (a0 (a0 (a0 (a0 (a0 (a0 .n))))))))⟩
end Go.Proofs.YtnbpodjbemfpbaaGreat.Fw
set_option linter.all false
set_option maxHeartbeats 4000000
set_option maxRecDepth 100000
namespace Go.Proofs.YtnbpodjbemfpbaaGreat.Fw
open Go
theorem mS (s:kA) (w0:World) (A1:wJ s=true):iL Tryz.prog 27 [.agg ⟨eB s⟩] (.tuple ⟨[(.pointer none),.int .i64 1]⟩) w0:=by
 refine enter (n:=25) Tryz.func27 rfl rfl rfl fun a (hs:St 25 [(0,.agg ⟨eB s⟩)] a)=>?_
 have m:=Hp.start w0
 refine bN ?_
 refine dU (cs:=eB s) hs m rfl rfl rfl fun p1 w2 m a hs=>?_
 refine bP hs m fW fun a w_ hs m=>?_
 refine jO (.c (.c (.c (.c (.n))))) hs m 11 (decide (s.Host.v<0)) (.bool ((decide (s.Host.v<0)) || (decide (s.Host.v>63)))) ?_
 rintro a w4 ⟨hs,m⟩
 refine bP hs m eO fun a w_ hs m=>?_
 refine jO (.c (.c (.c (.c (.n))))) hs m 16 ((decide (s.Host.v<0)) || (decide (s.Host.v>63))) (.bool (((decide (s.Host.v<0)) || (decide (s.Host.v>63))) || (decide (s.Renew.v<1)))) ?_
 rintro a w6 ⟨hs,m⟩
 refine bP hs m eO fun a w_ hs m=>?_
 refine jO (.c (.c (.c (.c (.n))))) hs m 21 (((decide (s.Host.v<0)) || (decide (s.Host.v>63))) || (decide (s.Renew.v<1))) (.bool ((((decide (s.Host.v<0)) || (decide (s.Host.v>63))) || (decide (s.Renew.v<1))) || (decide (s.Renew.v>1099511627776)))) ?_
 rintro a w8 ⟨hs,m⟩
 refine wpList_nil (aB ?_)
 refine lU hs rfl (by exact A1) ?_
 refine bT hs m gZ fun a w_ hs m=>?_
 refine bH hs (vs:=[(.pointer none),.int .i64 1]) rfl ⟨rfl,rfl,trivial⟩ ?_
 refine⟨?_,m.sub .n⟩
 rfl
theorem pN (s:kA) (w0:World) (A1:wJ s=false):Calls Tryz.prog 27 ⟨[.agg ⟨eB s⟩]⟩ w0 fun e w'=>∃ v,e= .returned v/\(∃ x0:Addr,v=(.tuple ⟨[.pointer (some (bK x0 0)),.int .i64 0]⟩)/\Hp w0 (hh w0) [sX x0 (jV s)] w'):=by
 refine enter (n:=25) Tryz.func27 rfl rfl rfl fun a (hs:St 25 [(0,.agg ⟨eB s⟩)] a)=>?_
 have m:=Hp.start w0
 refine bN ?_
 refine dU (cs:=eB s) hs m rfl rfl rfl fun p1 w2 m a hs=>?_
 refine bP hs m fW fun a w_ hs m=>?_
 refine jO (.c (.c (.c (.c (.n))))) hs m 11 (decide (s.Host.v<0)) (.bool ((decide (s.Host.v<0)) || (decide (s.Host.v>63)))) ?_
 rintro a w4 ⟨hs,m⟩
 refine bP hs m eO fun a w_ hs m=>?_
 refine jO (.c (.c (.c (.c (.n))))) hs m 16 ((decide (s.Host.v<0)) || (decide (s.Host.v>63))) (.bool (((decide (s.Host.v<0)) || (decide (s.Host.v>63))) || (decide (s.Renew.v<1)))) ?_
 rintro a w6 ⟨hs,m⟩
 refine bP hs m eO fun a w_ hs m=>?_
 refine jO (.c (.c (.c (.c (.n))))) hs m 21 (((decide (s.Host.v<0)) || (decide (s.Host.v>63))) || (decide (s.Renew.v<1))) (.bool ((((decide (s.Host.v<0)) || (decide (s.Host.v>63))) || (decide (s.Renew.v<1))) || (decide (s.Renew.v>1099511627776)))) ?_
 rintro a w8 ⟨hs,m⟩
 refine wpList_nil (aB ?_)
 refine bV hs rfl (by exact A1) ?_
 refine bT hs m (x_ eZ (e_ (p_ (cN (eB s))) (e_ (p_ (bW (cs:=cRa s false nB false nilH.v nilH.v nilH.v nilH.v ⟨0,rfl⟩ true nilH.v false ⟨0,rfl⟩ false fM false false) a1U a2L rfl (by kernel_rfl))) bR))) fun a w_ hs m=>?_
 refine dU (cs:=cRa s false nB false nilH.v nilH.v nilH.v nilH.v ⟨0,rfl⟩ true nilH.v false ⟨0,rfl⟩ false fM false false) hs m rfl (by kernel_rfl) rfl fun p10 w11 m a hs=>?_
 refine bP hs m gI fun a w_ hs m=>?_
 refine bH hs (vs:=[.pointer (some (bK p10 0)),.int .i64 0]) rfl ⟨rfl,rfl,trivial⟩ ?_
 replace m:=m.nilSvM aM 4 51
 replace m:=m.nilSvM aS 7 54
 replace m:=m.nilSvM cB 7 56
 replace m:=m.nilSvM aV 12 48
 replace m:=m.nilSvM aO 2 44
 replace m:=(m.sub (a5 (a4 (a3 (a2 (a1 (a0 (a0 .n)))))))).closeRa (p:=p10) (A:=(⟨s,false,nB,false,([]:List bD),([]:List bA),([]:List cH),([]:List TLease),⟨0,rfl⟩,true,([]:List aT),false,⟨0,rfl⟩,false,fM,false,false⟩:gU))
 rw[(show (⟨s,false,nB,false,([]:List bD),([]:List bA),([]:List cH),([]:List TLease),⟨0,rfl⟩,true,([]:List aT),false,⟨0,rfl⟩,false,fM,false,false⟩:gU)=jV s by(rfl))] at m
 refine⟨_,rfl,p10,?_,m.sub (a0 .n)⟩
 rfl
end Go.Proofs.YtnbpodjbemfpbaaGreat.Fw
set_option linter.all false
set_option maxHeartbeats 4000000
set_option maxRecDepth 100000
namespace Go.Proofs.YtnbpodjbemfpbaaGreat.Fw
open Go
theorem aTA (pag:Addr) (ag:gU) (w0:World) (hag:RaR (hh w0) pag ag) (A0:ag.view.length<=8388608) (A1:ag.Routes.length<=8388608) (A2:ag.Neighs.length<=8388608) (A3:ag.Fdbs.length<=8388608) (A4:ag.skipped.length<=2600000000000) (Nd:ag.skipped.Nodup):Calls Tryz.prog 80 ⟨[.pointer (some (bK pag 0))]⟩ w0 fun e w'=>∃ v,e= .returned v/\(∃ x0:SH,∃ x1:SH,∃ x2:SH,∃ x3:SH,∃ x4:SH,v=(.agg ⟨sZ (decide (eU ag.self.Host.v ag.view>=0)) (oN (lK ag)) ag.cursor (aER ag) ag.degraded x0.v x1.v x2.v x3.v x4.v⟩)/\Hp w0 (hh w0) [Sv 12 48 x0.v (ag.view.map aV),Sv 2 44 x1.v ((jN ag.skipped).map aO),Sv 4 51 x2.v (ag.Routes.map aM),Sv 7 54 x3.v (ag.Neighs.map aS),Sv 7 56 x4.v (ag.Fdbs.map cB)] w'):=by
 have hol:=tC (h:=ag.self.Host.v) (l:=ag.view)
 have hsl:=aMR Nd
 refine enter (n:=138) Tryz.func80 rfl rfl rfl fun a (hs:St 138 [(0,.pointer (some (bK pag 0)))] a)=>?_
 have m:=Hp.start w0
 have hag0:=hag
 obtain⟨x1,x2,x3,x4,x5,hx6,hx7,hx8,hx9,hx10,hx11⟩:=hag0
 have lx1:=hx7.bd
 have lx2:=hx8.bd
 have lx3:=hx9.bd
 have lx4:=hx10.bd
 have lx5:=hx11.bd
 refine bN ?_
 refine bZ hs m xI rfl fun p12 w13 m a hs=>?_
 refine wpList_nil (aB ?_)
 refine wK (fun a w=>∃ y14:Addr,∃ y15:SH,∃ y16:SH,∃ y17:SH,∃ y18:SH,St 138 [(0,.pointer (some (bK pag 0))),(2,.pointer (some (bK p12 0))),(3,.pointer (some (bK y14 0)))] a/\Hp w0 (hh w0) [Bx y14 84 (sZ false eG ag.cursor false ag.degraded y18.v nilH.v y15.v y16.v y17.v),Sv 4 51 y15.v (ag.Routes.map aM),Sv 7 54 y16.v (ag.Neighs.map aS),Sv 7 56 y17.v (ag.Fdbs.map cB),Sv 12 48 y18.v (ag.view.map aV),Bx p12 84 (sZ false eG ⟨0,rfl⟩ false false nilH.v nilH.v nilH.v nilH.v nilH.v)] w) ?_ ?_
 ·refine drL m (a0 .n) fun w19 m=>?_
  refine pA hs (m.sub (a0 .n)) 0 1 2 3 4 5 (k:=fun a hs=>?_)
  refine pA hs (m.sub (a0 .n)) 6 7 8 9 10 11 (k:=fun a hs=>?_)
  refine zh4 hs (m.sub (a0 .n)) 13 14 15 16 (h4:=k_ rfl (cN [x1.v,x2.v,x3.v])) (k:=fun a hs=>?_)
  refine kV (i:=12) (j:=19) (by kernel_rfl) rfl rfl ?_ ?_
  ·replace m:=m.nilSvM aV 12 48
   refine cF (c:=aV) (xs:=[]) (ys:=ag.view) hs m rfl rfl eR xF fZ mY rfl vN rfl r0 (m.rd hx10) (fun _=>rfl) (by(simp;omega)) rfl fun v20 w22 m a hs=>?_
   refine wpList_nil (aB ⟨(m.sub (a1 .n)),?_⟩)
   refine kV (i:=17) (j:=19) (by kernel_rfl) rfl rfl ?_ ?_
   ·refine oL m hs aLW (aAW x1 ag.Routes x2 ag.Neighs x3 ag.Fdbs _ (m.rd hx7) (m.rd hx8) (m.rd hx9) (by omega) (by omega) (by omega)) fun v23 v24 v25 w26 m a hs=>?_
    simp only[iG] at m
    refine wpList_nil (aB ⟨(m.sub (a4 .n)),?_⟩)
    refine kY hs (m.sub (a4 .n)) 18 (h1:=k_ rfl (bW (cs:=sZ false eG ag.cursor false ag.degraded v20.v nilH.v v23.v v24.v v25.v) aLN xI rfl (by kernel_rfl))) (k:=fun a hs=>?_)
    refine bU (i:=19) (by kernel_rfl) rfl ?_
    refine bZ hs m xI rfl fun p27 w28 m a hs=>?_
    refine wpList_nil (aB ⟨(m.sub (a5 .n)),?_⟩)
    refine bU (i:=20) (by kernel_rfl) rfl ?_
    refine bP hs m (dZ s0 (t:=bR)) fun a w29 hs m=>?_
    refine wpList_nil (aB ⟨(m.sub (a5 .n)),?_⟩)
    refine dC (by kernel_rfl) (aB ?_)
    exact⟨p27,v23,v24,v25,v20,hs.to ⟨rfl,rfl,rfl,trivial⟩,m.sub (a0 (a0 (a0 (a0 (a0 (a0 .n))))))⟩
   ·refine bZ hs m xI rfl fun p30 w31 m a hs=>?_
    refine wpList_nil (aB ⟨(m.sub (a2 .n)),?_⟩)
    refine bU (i:=17) (by kernel_rfl) rfl ?_
    refine oL m hs aLW (aAW x1 ag.Routes x2 ag.Neighs x3 ag.Fdbs _ (m.rd hx7) (m.rd hx8) (m.rd hx9) (by omega) (by omega) (by omega)) fun v32 v33 v34 w35 m a hs=>?_
    simp only[iG] at m
    refine wpList_nil (aB ⟨(m.sub (a5 .n)),?_⟩)
    refine kY hs (m.sub (a5 .n)) 18 (h1:=k_ rfl (bW (cs:=sZ false eG ag.cursor false ag.degraded v20.v nilH.v v32.v v33.v v34.v) aLN xI rfl (by kernel_rfl))) (k:=fun a hs=>?_)
    refine bU (i:=20) (by kernel_rfl) rfl ?_
    refine bP hs m (dZ s3 (t:=bR)) fun a w36 hs m=>?_
    refine wpList_nil (aB ⟨(m.sub (a5 .n)),?_⟩)
    refine dC (by kernel_rfl) (aB ?_)
    exact⟨p30,v32,v33,v34,v20,hs.to ⟨rfl,rfl,rfl,trivial⟩,m.sub (a3 (a0 (a0 (a0 (a0 (a0 .n))))))⟩
  ·refine bZ hs m xI rfl fun p37 w38 m a hs=>?_
   refine wpList_nil (aB ⟨(m.sub (a1 .n)),?_⟩)
   replace m:=m.nilSvM aV 12 48
   refine bU (i:=12) (by kernel_rfl) rfl ?_
   refine cF (c:=aV) (xs:=[]) (ys:=ag.view) hs m rfl rfl eR xF fZ mY rfl vN rfl r0 (m.rd hx10) (fun _=>rfl) (by(simp;omega)) rfl fun v39 w41 m a hs=>?_
   refine wpList_nil (aB ⟨(m.sub (a2 .n)),?_⟩)
   refine bU (i:=17) (by kernel_rfl) rfl ?_
   refine oL m hs aLW (aAW x1 ag.Routes x2 ag.Neighs x3 ag.Fdbs _ (m.rd hx7) (m.rd hx8) (m.rd hx9) (by omega) (by omega) (by omega)) fun v42 v43 v44 w45 m a hs=>?_
   simp only[iG] at m
   refine wpList_nil (aB ⟨(m.sub (a5 .n)),?_⟩)
   refine kY hs (m.sub (a5 .n)) 18 (h1:=k_ rfl (bW (cs:=sZ false eG ag.cursor false ag.degraded v39.v nilH.v v42.v v43.v v44.v) aLN xI rfl (by kernel_rfl))) (k:=fun a hs=>?_)
   refine bU (i:=20) (by kernel_rfl) rfl ?_
   refine bP hs m (dZ s4 (t:=bR)) fun a w46 hs m=>?_
   refine wpList_nil (aB ⟨(m.sub (a5 .n)),?_⟩)
   refine dC (by kernel_rfl) (aB ?_)
   exact⟨p37,v42,v43,v44,v39,hs.to ⟨rfl,rfl,rfl,trivial⟩,m.sub (a4 (a0 (a0 (a0 (a0 (a0 .n))))))⟩
 rintro a w47 ⟨y14,y15,y16,y17,y18,hs,m⟩
 refine bT hs m iA fun a w_ hs m=>?_
 refine cC hs m rfl rfl aLX rfl (aHR pag ag _ (hag.le m.frame) ) rfl fun w48 m a hs=>?_
 refine bP hs m hQ fun a w_ hs m=>?_
 refine aR hs rfl (fun h49=>?_) (fun h49=>?_)
 ·have h49p:=of_decide_eq_true h49
  refine bT hs m (x_ iA (dZ s0 (t:=lA))) fun a w50 hs m=>?_
  obtain⟨e51,he52⟩:=bI (l:=ag.view) (i:=(eU ag.self.Host.v ag.view).toNat) (by omega)
  refine kE (c:=aV) (e:=e51) hs m (x:=(.tmp 37)) (ix:=(.tmp 38)) rfl rfl eR fZ hx10 (by omega) he52 fun p53 hp54 ok55=>?_
  refine bP hs m (e_ (p_ (ok55 _ _ _ _ _)) (e_ (p_ (cN (aV e51))) (x_ eO (dZ s0 (t:=gC))))) fun a w56 hs m=>?_
  replace m:=m.nilSvM aO 2 44
  rw[(show ([]:List aT)=((jN ag.skipped).take 0) by(rfl))] at m
  refine wp_loop_ghost (fun gn a w=>∃ n:Nat,∃ v57:SH,(n<=ag.skipped.length)/\(((jN ag.skipped).take n).length=n)/\gn=ag.skipped.length-n/\St 138 [(0,.pointer (some (bK pag 0))),(2,.pointer (some (bK p12 0))),(3,.pointer (some (bK y14 0)))] a/\Hp w0 (hh w0) [Bx p12 84 (sZ false eG ⟨0,rfl⟩ false false nilH.v nilH.v nilH.v nilH.v nilH.v),Bx y14 84 (sZ true e51 ag.cursor false ag.degraded y18.v v57.v y15.v y16.v y17.v),Sv 12 48 y18.v (ag.view.map aV),Sv 4 51 y15.v (ag.Routes.map aM),Sv 7 54 y16.v (ag.Neighs.map aS),Sv 7 56 y17.v (ag.Fdbs.map cB),Sv 2 44 v57.v (((jN ag.skipped).take n).map aO)] w) (ag.skipped.length-0) ⟨0,nilH,by omega,by rfl,rfl,hs.to ⟨rfl,rfl,rfl,trivial⟩,m.sub (a6 (a1 (a4 (a1 (a1 (a1 (a0 .n)))))))⟩ ?_
  rintro gn a w60 ⟨n,v57,hn,hln,rfl,hs,m⟩
  refine dG ?_
  refine eE m mo (by kernel_rfl) ?_
  refine kZ hs (h3:=q_ (bQ m rfl hY (fV r6))) (k:=fun a hs=>?_)
  refine nG hs (h2:=q_ (bQ m rfl hY (dX hx11))) (k:=fun a hs=>?_)
  refine wpQuiet_nil fun w61 m=>?_
  refine aR hs rfl (fun h62=>?_) (fun h62=>?_)
  rotate_left
  ·have h62p:=of_decide_eq_false h62
   refine bT hs m gZ fun a w_ hs m=>?_
   refine jS m hs aO0 (aAF pag ag _ (hag.le m.frame) (by omega) (by omega) (by omega) (by omega)) fun v63 w64 m a hs=>?_
   simp only[iG] at m
   refine bP hs m hQ fun a w_ hs m=>?_
   refine xY (.c (.c (.c (.c (.c (.c (.n))))))) hs m 124 (.bool (ag.read&&(!ag.stale))) ?_ ?_
   ·rcases Bool.eq_false_or_eq_true ag.read with hb65|hb65
    ·refine bP hs m gX fun a w_ hs m=>?_
     exact nN hs m 5 (by rw[hb65];rfl)
    ·refine bP hs m gX fun a w_ hs m=>?_
     exact nN hs m 5 (by rw[hb65];rfl)
   rintro a w66 ⟨hs,m⟩
   refine bP hs m eO fun a w_ hs m=>?_
   refine xY (.c (.c (.c (.c (.n))))) hs m 129 (.bool ((ag.read&&(!ag.stale))&&(((fO ag).length:Int)==0))) ?_ ?_
   ·rcases Bool.eq_false_or_eq_true (ag.read&&(!ag.stale)) with hb67|hb67
    ·have hb67p:=hb67;simp only[fK] at hb67p
     refine bP hs m (x_ eO (e_ (dV hb67 (bQ m rfl oO (fV r0))) iA)) fun a w_ hs m=>?_
     exact nN hs m 3 (by rw[hb67];rfl)
    ·have hb67p:=hb67;simp only[fK] at hb67p
     refine bP hs m gC fun a w_ hs m=>?_
     exact nN hs m 3 (by rw[hb67];rfl)
   rintro a w68 ⟨hs,m⟩
   refine bP hs m eO fun a w_ hs m=>?_
   refine jO (.c (.c (.c (.c (.c (.n)))))) hs m 135 ((ag.read&&(!ag.stale))&&(((fO ag).length:Int)==0)) (.bool (((ag.read&&(!ag.stale))&&(((fO ag).length:Int)==0))&&ag.quiet)) ?_
   rintro a w70 ⟨hs,m⟩
   refine bP hs m (x_ eO (dZ s2 (t:=x_ eZ (e_ (p_ (cN (sZ true e51 ag.cursor (((ag.read&&(!ag.stale))&&(((fO ag).length:Int)==0))&&ag.quiet) ag.degraded y18.v v57.v y15.v y16.v y17.v))) (dZ s1 (t:=eZ)))))) fun a w72 hs m=>?_
   refine bH hs (vs:=[.agg ⟨sZ true e51 ag.cursor (((ag.read&&(!ag.stale))&&(((fO ag).length:Int)==0))&&ag.quiet) ag.degraded y18.v v57.v y15.v y16.v y17.v⟩]) rfl ⟨cZ (cs:=sZ true e51 ag.cursor (((ag.read&&(!ag.stale))&&(((fO ag).length:Int)==0))&&ag.quiet) ag.degraded y18.v v57.v y15.v y16.v y17.v) m rfl aTL r1 rfl,trivial⟩ ?_
   rw[(show ((jN ag.skipped).take n)=jN ag.skipped from List.take_of_length_le (by omega))] at m
   refine⟨_,rfl,y18,v57,y15,y16,y17,?_,m.sub (a3 (a6 (a3 (a3 (a3 .n)))))⟩
   have q74:(true:Bool)=decide (eU ag.self.Host.v ag.view>=0):=by clear hs m;exact(decide_eq_true (by omega)).symm
   have q75:(e51:TLease)=oN (lK ag):=by clear hs m;exact a2F (g:=lK ag) (show 0<=eU ag.self.Host.v ag.view by omega) (by assumption)
   have q76:(((ag.read&&(!ag.stale))&&(((fO ag).length:Int)==0))&&ag.quiet:Bool)=aER ag:=by clear hs m;rfl
   (rw[q74,q75,q76];rfl)
  have h62p:=of_decide_eq_true h62
  refine bT hs m aBW fun a w_ hs m=>?_
  refine wp_loop_ghost (fun gn a w=>∃ j:Nat,∃ kk:Int,(j<=ag.skipped.length)/\(kk=rH ag.skipped ((jN ag.skipped).take n) j)/\gn=ag.skipped.length-j/\St 138 [(0,.pointer (some (bK pag 0))),(2,.pointer (some (bK p12 0))),(3,.pointer (some (bK y14 0))),(5,.int .i64 kk),(6,.int .i64 (j:Int))] a/\Hp w0 (hh w0) [Bx p12 84 (sZ false eG ⟨0,rfl⟩ false false nilH.v nilH.v nilH.v nilH.v nilH.v),Bx y14 84 (sZ true e51 ag.cursor false ag.degraded y18.v v57.v y15.v y16.v y17.v),Sv 12 48 y18.v (ag.view.map aV),Sv 2 44 v57.v (((jN ag.skipped).take n).map aO),Sv 4 51 y15.v (ag.Routes.map aM),Sv 7 54 y16.v (ag.Neighs.map aS),Sv 7 56 y17.v (ag.Fdbs.map cB)] w) (ag.skipped.length-0) ⟨0,(-1),by omega,by exact aLG,rfl,hs.to ⟨rfl,rfl,rfl,rfl,rfl,trivial⟩,m.sub (a0 (a0 (a0 (a3 (a0 (a0 (a0 .n)))))))⟩ ?_
  rintro gn a w77 ⟨j,kk,hj,hkk,rfl,hs,m⟩
  have hsk:=aCH (s:=ag.skipped) (L:=((jN ag.skipped).take n)) (j:=j)
  have hsn:=aQ1 hkk Nd (by omega)
  refine bT hs m (x_ gZ (e_ (p_ (bQ m rfl hY (dX hx11))) eZ)) fun a w_ hs m=>?_
  refine aR hs rfl (fun h78=>?_) (fun h78=>?_)
  rotate_left
  ·have h78p:=of_decide_eq_false h78
   refine wp_exit ?_
   refine eK (eK (lL (?_)))
   refine aB ?_
   refine drL m (a0 (a1 (a2 (a2 (a2 .n))))) fun w79 m=>?_
   refine pA hs (m.sub (a0 (a1 (a2 (a2 (a2 .n)))))) 0 2 3 4 5 6 (k:=fun a hs=>?_)
   obtain⟨e80,he81⟩:=bI (l:=ag.skipped) (i:=kk.toNat) (by omega)
   refine kE (c:=aO) (e:=e80) hs (m.sub (a0 (a1 (a2 (a2 (a2 .n)))))) (x:=(.tmp 105)) (ix:=(.tmp 106)) rfl rfl hY jQ hx11 (by omega) he81 fun p82 hp83 ok84=>?_
   refine tI hs (m.sub (a0 (a1 (a2 (a2 (a2 .n)))))) 7 8 (h1:=k_ rfl (ok84 _ _ _ _ _)) (h2:=k_ rfl (cN (aO e80))) (k:=fun a hs=>?_)
   refine kV (i:=1) (j:=9) (by kernel_rfl) rfl rfl ?_ ?_
   ·refine bP hs m eO fun a w_ hs m=>?_
    refine wpList_nil (aB ⟨(m.sub (a0 (a1 (a2 (a2 (a2 .n)))))),?_⟩)
    refine bU (i:=9) (by kernel_rfl) rfl ?_
    refine dK (c:=aO) (ys:=[e80]) hs m hY jQ uM rfl rfl rfl rfl rfl (fun _=>rfl) rfl rfl rfl fun v85 w86 m a hs=>?_
    refine wpList_nil (aB ⟨(m.sub (a1 (a2 (a3 (a3 (a3 .n)))))),?_⟩)
    refine bU (i:=10) (by kernel_rfl) rfl ?_
    refine cF (c:=aO) (xs:=((jN ag.skipped).take n)) (ys:=[e80]) hs m rfl rfl hY aFF jQ uM rfl aFC rfl r4 (m.rdv r0) (fun _=>rfl) (by(simp;omega)) rfl fun v87 w88 m a hs=>?_
    refine wpList_nil (aB ⟨(m.sub (a2 (a3 (a3 (a3 (a3 .n)))))),?_⟩)
    refine kY hs (m.sub (a2 (a3 (a3 (a3 (a3 .n)))))) 11 (k:=fun a hs=>?_)
    refine bU (i:=12) (by kernel_rfl) rfl ?_
    refine bP hs m (dZ s3 (t:=bR)) fun a w89 hs m=>?_
    refine wpList_nil (aB ⟨(m.sub (a2 (a3 (a3 (a3 (a3 .n)))))),?_⟩)
    refine dC (by kernel_rfl) (eA (aB ?_))
    rw[(show ((jN ag.skipped).take n)++[e80]=((jN ag.skipped).take (n+1)) by((exact aDE (j:=j) Nd (by omega) (by omega) (by rw[<-hkk];assumption))))] at m
    exact⟨ag.skipped.length-(n+1),by omega,n+1,v87,by omega,by(simp;omega),rfl,hs.to ⟨rfl,rfl,rfl,trivial⟩,m.sub (a2 (a2 (a2 (a2 (a2 (a2 (a0 .n)))))))⟩
   ·refine dK (c:=aO) (ys:=[e80]) hs m hY jQ uM rfl rfl rfl rfl rfl (fun _=>rfl) rfl rfl rfl fun v91 w92 m a hs=>?_
    refine wpList_nil (aB ⟨(m.sub (a1 (a2 (a3 (a3 (a3 .n)))))),?_⟩)
    refine bU (i:=1) (by kernel_rfl) rfl ?_
    refine bP hs m eO fun a w_ hs m=>?_
    refine wpList_nil (aB ⟨(m.sub (a1 (a2 (a3 (a3 (a3 .n)))))),?_⟩)
    refine bU (i:=10) (by kernel_rfl) rfl ?_
    refine cF (c:=aO) (xs:=((jN ag.skipped).take n)) (ys:=[e80]) hs m rfl rfl hY aFF jQ uM rfl aFC rfl r4 (m.rdv r0) (fun _=>rfl) (by(simp;omega)) rfl fun v93 w94 m a hs=>?_
    refine wpList_nil (aB ⟨(m.sub (a2 (a3 (a3 (a3 (a3 .n)))))),?_⟩)
    refine kY hs (m.sub (a2 (a3 (a3 (a3 (a3 .n)))))) 11 (k:=fun a hs=>?_)
    refine bU (i:=12) (by kernel_rfl) rfl ?_
    refine bP hs m (dZ s3 (t:=bR)) fun a w95 hs m=>?_
    refine wpList_nil (aB ⟨(m.sub (a2 (a3 (a3 (a3 (a3 .n)))))),?_⟩)
    refine dC (by kernel_rfl) (eA (aB ?_))
    rw[(show ((jN ag.skipped).take n)++[e80]=((jN ag.skipped).take (n+1)) by((exact aDE (j:=j) Nd (by omega) (by omega) (by rw[<-hkk];assumption))))] at m
    exact⟨ag.skipped.length-(n+1),by omega,n+1,v93,by omega,by(simp;omega),rfl,hs.to ⟨rfl,rfl,rfl,trivial⟩,m.sub (a2 (a2 (a2 (a2 (a2 (a2 (a0 .n)))))))⟩
  have h78p:=of_decide_eq_true h78
  refine bT hs m fW fun a w_ hs m=>?_
  obtain⟨e97,he98⟩:=bI (l:=ag.skipped) (i:=j) (by omega)
  refine kE (c:=aO) (e:=e97) hs m (x:=(.tmp 63)) (ix:=(.tmp 64)) rfl rfl hY jQ hx11 (by omega) he98 fun p99 hp100 ok101=>?_
  refine bP hs m (e_ (p_ (ok101 _ _ _ _ _)) (e_ (p_ (cN (aO e97))) bR)) fun a w_ hs m=>?_
  refine bZ hs m uM rfl fun p102 w103 m a hs=>?_
  refine bP hs m (dZ s0 (t:=iA)) fun a w104 hs m=>?_
  refine eE m mo (by kernel_rfl) ?_
  refine xD hs (h3:=q_ (bQ m rfl hY (fV r4))) (k:=fun a hs=>?_)
  refine oU (.c (.c (.c (.c (.c (.c (.c (.c (.c (.c (.c (.n)))))))))))) (fun a=>St 138 [(0,.pointer (some (bK pag 0))),(2,.pointer (some (bK p12 0))),(3,.pointer (some (bK y14 0))),(5,.int .i64 kk),(6,.int .i64 (j:Int)),(7,.pointer (some (bK p102 0))),(82,.bool (((((jN ag.skipped).take n).length:Int)==0) || (cL ((((jN ag.skipped).take n)[((((jN ag.skipped).take n).length:Int)-1).toNat]?).getD fM) e97)))] a) ?_ ?_
  ·rcases Bool.eq_false_or_eq_true ((((jN ag.skipped).take n).length:Int)==0) with hb105|hb105
   ·have hb105p:=eq_of_beq hb105
    refine kZ hs (k:=fun a hs=>?_)
    refine xD hs (h5:=q_ (aP (r:=.bool (((((jN ag.skipped).take n).length:Int)==0) || (cL ((((jN ag.skipped).take n)[((((jN ag.skipped).take n).length:Int)-1).toNat]?).getD fM) e97))) rfl rfl rfl (by rw[hb105];rfl))) (k:=fun a hs=>?_)
    exact wpQuiet_nil (hs.to ⟨rfl,rfl,rfl,rfl,rfl,rfl,rfl,trivial⟩)
   ·have hb105p:=ne_of_beq_false hb105
    refine kZ hs (h5:=kW hb105 (bQ m rfl hY (fV r4))) (k:=fun a hs=>?_)
    obtain⟨e106,he107⟩:=bI (l:=((jN ag.skipped).take n)) (i:=((((jN ag.skipped).take n).length:Int)-1).toNat) (by omega)
    refine rY (c:=aO) (e:=e106) hs m (x:=(.tmp 73)) (ix:=(.tmp 77)) rfl rfl hY jQ r4 (by omega) he107 fun p108 hp109 ok110=>?_
    refine nG hs (h1:=kW hb105 (ok110 _ _ _ _ _)) (h2:=kW hb105 (cN (aO e106))) (h3:=kW hb105 (cN (aO e97))) (k:=fun a hs=>?_)
    refine jI hs rfl rfl hb105 rfl rfl aCO rfl (fun w m=>uS e106 e97 w  ) rfl fun a hs=>?_
    refine uZ hs (h1:=q_ (aP (r:=.bool (((((jN ag.skipped).take n).length:Int)==0) || (cL ((((jN ag.skipped).take n)[((((jN ag.skipped).take n).length:Int)-1).toNat]?).getD fM) e97))) rfl rfl rfl (by(try rw[he107]);rw[hb105];rfl))) (k:=fun a hs=>?_)
    exact wpQuiet_nil (hs.to ⟨rfl,rfl,rfl,rfl,rfl,rfl,rfl,trivial⟩)
  intro a hs
  refine uZ hs (k:=fun a hs=>?_)
  refine wpQuiet_nil fun w111 m=>?_
  refine eE m mo (by kernel_rfl) ?_
  refine sO hs (k:=fun a hs=>?_)
  refine oU (.c (.c (.c (.c (.c (.c (.c (.c (.c (.c (.c (.c (.c (.c (.n))))))))))))))) (fun a=>St 138 [(0,.pointer (some (bK pag 0))),(2,.pointer (some (bK p12 0))),(3,.pointer (some (bK y14 0))),(5,.int .i64 kk),(6,.int .i64 (j:Int)),(98,.bool ((((((jN ag.skipped).take n).length:Int)==0) || (cL ((((jN ag.skipped).take n)[((((jN ag.skipped).take n).length:Int)-1).toNat]?).getD fM) e97))&&((decide (kk<0)) || (cL e97 ((ag.skipped[kk.toNat]?).getD fM)))))] a) ?_ ?_
  ·rcases Bool.eq_false_or_eq_true (((((jN ag.skipped).take n).length:Int)==0) || (cL ((((jN ag.skipped).take n)[((((jN ag.skipped).take n).length:Int)-1).toNat]?).getD fM) e97)) with hb112|hb112
   ·have hb112p:=hb112;simp only[fK] at hb112p
    refine nG hs (k:=fun a hs=>?_)
    refine oU (.c (.c (.c (.c (.c (.c (.c (.c (.c (.c (.n))))))))))) (fun a=>St 138 [(0,.pointer (some (bK pag 0))),(2,.pointer (some (bK p12 0))),(3,.pointer (some (bK y14 0))),(5,.int .i64 kk),(6,.int .i64 (j:Int)),(84,.bool (((((jN ag.skipped).take n).length:Int)==0) || (cL ((((jN ag.skipped).take n)[((((jN ag.skipped).take n).length:Int)-1).toNat]?).getD fM) e97))),(85,.int .i64 kk),(86,.bool (decide (kk<0))),(87,.bool (decide (kk<0))),(97,.bool ((decide (kk<0)) || (cL e97 ((ag.skipped[kk.toNat]?).getD fM))))] a) ?_ ?_
    ·rcases Bool.eq_false_or_eq_true (decide (kk<0)) with hb113|hb113
     ·have hb113p:=of_decide_eq_true hb113
      refine kZ hs (k:=fun a hs=>?_)
      refine vJ hs (h4:=kW hb112 (aP (r:=.bool ((decide (kk<0)) || (cL e97 ((ag.skipped[kk.toNat]?).getD fM)))) rfl rfl rfl (by rw[hb113];rfl))) (k:=fun a hs=>?_)
      exact wpQuiet_nil (hs.to ⟨rfl,rfl,rfl,rfl,rfl,rfl,rfl,rfl,rfl,rfl,trivial⟩)
     ·have hb113p:=of_decide_eq_false hb113
      refine kZ hs (h1:=kW hb113 (cN (aO e97))) (k:=fun a hs=>?_)
      obtain⟨e114,he115⟩:=bI (l:=ag.skipped) (i:=kk.toNat) (by omega)
      refine kE (c:=aO) (e:=e114) hs m (x:=(.tmp 92)) (ix:=(.tmp 93)) rfl rfl hY jQ hx11 (by omega) he115 fun p116 hp117 ok118=>?_
      refine sO hs (h1:=kW hb113 (ok118 _ _ _ _ _)) (h2:=kW hb113 (cN (aO e114))) (k:=fun a hs=>?_)
      refine jI hs rfl rfl hb113 rfl rfl aCO rfl (fun w m=>uS e97 e114 w  ) rfl fun a hs=>?_
      refine uZ hs (h1:=kW hb112 (aP (r:=.bool ((decide (kk<0)) || (cL e97 ((ag.skipped[kk.toNat]?).getD fM)))) rfl rfl rfl (by(try rw[he115]);rw[hb113];rfl))) (k:=fun a hs=>?_)
      exact wpQuiet_nil (hs.to ⟨rfl,rfl,rfl,rfl,rfl,rfl,rfl,rfl,rfl,rfl,trivial⟩)
    intro a hs
    refine uZ hs (h1:=q_ (aP (r:=.bool ((((((jN ag.skipped).take n).length:Int)==0) || (cL ((((jN ag.skipped).take n)[((((jN ag.skipped).take n).length:Int)-1).toNat]?).getD fM) e97))&&((decide (kk<0)) || (cL e97 ((ag.skipped[kk.toNat]?).getD fM))))) rfl rfl rfl (by rw[hb112];rfl))) (k:=fun a hs=>?_)
    exact wpQuiet_nil (hs.to ⟨rfl,rfl,rfl,rfl,rfl,rfl,trivial⟩)
   ·have hb112p:=hb112;simp only[fK] at hb112p
    refine kZ hs (k:=fun a hs=>?_)
    refine kZ hs (k:=fun a hs=>?_)
    refine sO hs (h2:=q_ (aP (r:=.bool ((((((jN ag.skipped).take n).length:Int)==0) || (cL ((((jN ag.skipped).take n)[((((jN ag.skipped).take n).length:Int)-1).toNat]?).getD fM) e97))&&((decide (kk<0)) || (cL e97 ((ag.skipped[kk.toNat]?).getD fM))))) rfl rfl rfl (by rw[hb112];rfl))) (k:=fun a hs=>?_)
    exact wpQuiet_nil (hs.to ⟨rfl,rfl,rfl,rfl,rfl,rfl,trivial⟩)
  intro a hs
  refine wpQuiet_nil fun w119 m=>?_
  refine aR hs rfl (fun h120=>?_) (fun h120=>?_)
  ·have h120p:=h120;simp only[fK] at h120p
   refine bT hs m nP fun a w_ hs m=>?_
   exact⟨ag.skipped.length-(j+1),by omega,j+1,(j:Int),by omega,by(exact aLI (by assumption) (by rw[<-hkk];assumption)),rfl,hs.to ⟨rfl,rfl,rfl,rfl,rfl,trivial⟩,m.sub (a1 (a1 (a1 (a1 (a1 (a1 (a1 .n)))))))⟩
  have h120p:=h120;simp only[fK] at h120p
  refine bT hs m hQ fun a w_ hs m=>?_
  exact⟨ag.skipped.length-(j+1),by omega,j+1,kk,by omega,by(exact hkk.trans (aLH (by assumption) (by rw[<-hkk];assumption))),rfl,hs.to ⟨rfl,rfl,rfl,rfl,rfl,trivial⟩,m.sub (a1 (a1 (a1 (a1 (a1 (a1 (a1 .n)))))))⟩
 have h49p:=of_decide_eq_false h49
 refine wp_skip ?_
 refine aB ?_
 refine dG ?_
 refine wp_block ?_
 replace m:=m.nilSvM aO 2 44
 rw[(show ([]:List aT)=((jN ag.skipped).take 0) by(rfl))] at m
 refine wp_loop_ghost (fun gn a w=>∃ n:Nat,∃ v121:SH,(n<=ag.skipped.length)/\(((jN ag.skipped).take n).length=n)/\gn=ag.skipped.length-n/\St 138 [(0,.pointer (some (bK pag 0))),(2,.pointer (some (bK p12 0))),(3,.pointer (some (bK y14 0)))] a/\Hp w0 (hh w0) [Bx p12 84 (sZ false eG ⟨0,rfl⟩ false false nilH.v nilH.v nilH.v nilH.v nilH.v),Bx y14 84 (sZ false eG ag.cursor false ag.degraded y18.v v121.v y15.v y16.v y17.v),Sv 12 48 y18.v (ag.view.map aV),Sv 4 51 y15.v (ag.Routes.map aM),Sv 7 54 y16.v (ag.Neighs.map aS),Sv 7 56 y17.v (ag.Fdbs.map cB),Sv 2 44 v121.v (((jN ag.skipped).take n).map aO)] w) (ag.skipped.length-0) ⟨0,nilH,by omega,by rfl,rfl,hs.to ⟨rfl,rfl,rfl,trivial⟩,m.sub (a6 (a1 (a4 (a1 (a1 (a1 (a0 .n)))))))⟩ ?_
 rintro gn a w124 ⟨n,v121,hn,hln,rfl,hs,m⟩
 refine dG ?_
 refine eE m mo (by kernel_rfl) ?_
 refine kZ hs (h3:=q_ (bQ m rfl hY (fV r6))) (k:=fun a hs=>?_)
 refine nG hs (h2:=q_ (bQ m rfl hY (dX hx11))) (k:=fun a hs=>?_)
 refine wpQuiet_nil fun w125 m=>?_
 refine aR hs rfl (fun h126=>?_) (fun h126=>?_)
 rotate_left
 ·have h126p:=of_decide_eq_false h126
  refine bT hs m gZ fun a w_ hs m=>?_
  refine jS m hs aO0 (aAF pag ag _ (hag.le m.frame) (by omega) (by omega) (by omega) (by omega)) fun v127 w128 m a hs=>?_
  simp only[iG] at m
  refine bP hs m hQ fun a w_ hs m=>?_
  refine xY (.c (.c (.c (.c (.c (.c (.n))))))) hs m 124 (.bool (ag.read&&(!ag.stale))) ?_ ?_
  ·rcases Bool.eq_false_or_eq_true ag.read with hb129|hb129
   ·refine bP hs m gX fun a w_ hs m=>?_
    exact nN hs m 5 (by rw[hb129];rfl)
   ·refine bP hs m gX fun a w_ hs m=>?_
    exact nN hs m 5 (by rw[hb129];rfl)
  rintro a w130 ⟨hs,m⟩
  refine bP hs m eO fun a w_ hs m=>?_
  refine xY (.c (.c (.c (.c (.n))))) hs m 129 (.bool ((ag.read&&(!ag.stale))&&(((fO ag).length:Int)==0))) ?_ ?_
  ·rcases Bool.eq_false_or_eq_true (ag.read&&(!ag.stale)) with hb131|hb131
   ·have hb131p:=hb131;simp only[fK] at hb131p
    refine bP hs m (x_ eO (e_ (dV hb131 (bQ m rfl oO (fV r0))) iA)) fun a w_ hs m=>?_
    exact nN hs m 3 (by rw[hb131];rfl)
   ·have hb131p:=hb131;simp only[fK] at hb131p
    refine bP hs m gC fun a w_ hs m=>?_
    exact nN hs m 3 (by rw[hb131];rfl)
  rintro a w132 ⟨hs,m⟩
  refine bP hs m eO fun a w_ hs m=>?_
  refine jO (.c (.c (.c (.c (.c (.n)))))) hs m 135 ((ag.read&&(!ag.stale))&&(((fO ag).length:Int)==0)) (.bool (((ag.read&&(!ag.stale))&&(((fO ag).length:Int)==0))&&ag.quiet)) ?_
  rintro a w134 ⟨hs,m⟩
  refine bP hs m (x_ eO (dZ s2 (t:=x_ eZ (e_ (p_ (cN (sZ false eG ag.cursor (((ag.read&&(!ag.stale))&&(((fO ag).length:Int)==0))&&ag.quiet) ag.degraded y18.v v121.v y15.v y16.v y17.v))) (dZ s1 (t:=eZ)))))) fun a w136 hs m=>?_
  refine bH hs (vs:=[.agg ⟨sZ false eG ag.cursor (((ag.read&&(!ag.stale))&&(((fO ag).length:Int)==0))&&ag.quiet) ag.degraded y18.v v121.v y15.v y16.v y17.v⟩]) rfl ⟨cZ (cs:=sZ false eG ag.cursor (((ag.read&&(!ag.stale))&&(((fO ag).length:Int)==0))&&ag.quiet) ag.degraded y18.v v121.v y15.v y16.v y17.v) m rfl aTL r1 rfl,trivial⟩ ?_
  rw[(show ((jN ag.skipped).take n)=jN ag.skipped from List.take_of_length_le (by omega))] at m
  refine⟨_,rfl,y18,v121,y15,y16,y17,?_,m.sub (a3 (a6 (a3 (a3 (a3 .n)))))⟩
  have q138:(false:Bool)=decide (eU ag.self.Host.v ag.view>=0):=by clear hs m;exact(decide_eq_false (by omega)).symm
  have q139:(eG:TLease)=oN (lK ag):=by clear hs m;exact a2E (g:=lK ag) (show eU ag.self.Host.v ag.view<0 by omega)
  have q140:(((ag.read&&(!ag.stale))&&(((fO ag).length:Int)==0))&&ag.quiet:Bool)=aER ag:=by clear hs m;rfl
  (rw[q138,q139,q140];rfl)
 have h126p:=of_decide_eq_true h126
 refine bT hs m aBW fun a w_ hs m=>?_
 refine wp_loop_ghost (fun gn a w=>∃ j:Nat,∃ kk:Int,(j<=ag.skipped.length)/\(kk=rH ag.skipped ((jN ag.skipped).take n) j)/\gn=ag.skipped.length-j/\St 138 [(0,.pointer (some (bK pag 0))),(2,.pointer (some (bK p12 0))),(3,.pointer (some (bK y14 0))),(5,.int .i64 kk),(6,.int .i64 (j:Int))] a/\Hp w0 (hh w0) [Bx p12 84 (sZ false eG ⟨0,rfl⟩ false false nilH.v nilH.v nilH.v nilH.v nilH.v),Bx y14 84 (sZ false eG ag.cursor false ag.degraded y18.v v121.v y15.v y16.v y17.v),Sv 12 48 y18.v (ag.view.map aV),Sv 2 44 v121.v (((jN ag.skipped).take n).map aO),Sv 4 51 y15.v (ag.Routes.map aM),Sv 7 54 y16.v (ag.Neighs.map aS),Sv 7 56 y17.v (ag.Fdbs.map cB)] w) (ag.skipped.length-0) ⟨0,(-1),by omega,by exact aLG,rfl,hs.to ⟨rfl,rfl,rfl,rfl,rfl,trivial⟩,m.sub (a0 (a0 (a0 (a3 (a0 (a0 (a0 .n)))))))⟩ ?_
 rintro gn a w141 ⟨j,kk,hj,hkk,rfl,hs,m⟩
 have hsk:=aCH (s:=ag.skipped) (L:=((jN ag.skipped).take n)) (j:=j)
 have hsn:=aQ1 hkk Nd (by omega)
 refine bT hs m (x_ gZ (e_ (p_ (bQ m rfl hY (dX hx11))) eZ)) fun a w_ hs m=>?_
 refine aR hs rfl (fun h142=>?_) (fun h142=>?_)
 rotate_left
 ·have h142p:=of_decide_eq_false h142
  refine wp_exit ?_
  refine eK (eK (lL (?_)))
  refine aB ?_
  refine drL m (a0 (a1 (a2 (a2 (a2 .n))))) fun w143 m=>?_
  refine pA hs (m.sub (a0 (a1 (a2 (a2 (a2 .n)))))) 0 2 3 4 5 6 (k:=fun a hs=>?_)
  obtain⟨e144,he145⟩:=bI (l:=ag.skipped) (i:=kk.toNat) (by omega)
  refine kE (c:=aO) (e:=e144) hs (m.sub (a0 (a1 (a2 (a2 (a2 .n)))))) (x:=(.tmp 105)) (ix:=(.tmp 106)) rfl rfl hY jQ hx11 (by omega) he145 fun p146 hp147 ok148=>?_
  refine tI hs (m.sub (a0 (a1 (a2 (a2 (a2 .n)))))) 7 8 (h1:=k_ rfl (ok148 _ _ _ _ _)) (h2:=k_ rfl (cN (aO e144))) (k:=fun a hs=>?_)
  refine kV (i:=1) (j:=9) (by kernel_rfl) rfl rfl ?_ ?_
  ·refine bP hs m eO fun a w_ hs m=>?_
   refine wpList_nil (aB ⟨(m.sub (a0 (a1 (a2 (a2 (a2 .n)))))),?_⟩)
   refine bU (i:=9) (by kernel_rfl) rfl ?_
   refine dK (c:=aO) (ys:=[e144]) hs m hY jQ uM rfl rfl rfl rfl rfl (fun _=>rfl) rfl rfl rfl fun v149 w150 m a hs=>?_
   refine wpList_nil (aB ⟨(m.sub (a1 (a2 (a3 (a3 (a3 .n)))))),?_⟩)
   refine bU (i:=10) (by kernel_rfl) rfl ?_
   refine cF (c:=aO) (xs:=((jN ag.skipped).take n)) (ys:=[e144]) hs m rfl rfl hY aFF jQ uM rfl aFC rfl r4 (m.rdv r0) (fun _=>rfl) (by(simp;omega)) rfl fun v151 w152 m a hs=>?_
   refine wpList_nil (aB ⟨(m.sub (a2 (a3 (a3 (a3 (a3 .n)))))),?_⟩)
   refine kY hs (m.sub (a2 (a3 (a3 (a3 (a3 .n)))))) 11 (k:=fun a hs=>?_)
   refine bU (i:=12) (by kernel_rfl) rfl ?_
   refine bP hs m (dZ s3 (t:=bR)) fun a w153 hs m=>?_
   refine wpList_nil (aB ⟨(m.sub (a2 (a3 (a3 (a3 (a3 .n)))))),?_⟩)
   refine dC (by kernel_rfl) (eA (aB ?_))
   rw[(show ((jN ag.skipped).take n)++[e144]=((jN ag.skipped).take (n+1)) by((exact aDE (j:=j) Nd (by omega) (by omega) (by rw[<-hkk];assumption))))] at m
   exact⟨ag.skipped.length-(n+1),by omega,n+1,v151,by omega,by(simp;omega),rfl,hs.to ⟨rfl,rfl,rfl,trivial⟩,m.sub (a2 (a2 (a2 (a2 (a2 (a2 (a0 .n)))))))⟩
  ·refine dK (c:=aO) (ys:=[e144]) hs m hY jQ uM rfl rfl rfl rfl rfl (fun _=>rfl) rfl rfl rfl fun v155 w156 m a hs=>?_
   refine wpList_nil (aB ⟨(m.sub (a1 (a2 (a3 (a3 (a3 .n)))))),?_⟩)
   refine bU (i:=1) (by kernel_rfl) rfl ?_
   refine bP hs m eO fun a w_ hs m=>?_
   refine wpList_nil (aB ⟨(m.sub (a1 (a2 (a3 (a3 (a3 .n)))))),?_⟩)
   refine bU (i:=10) (by kernel_rfl) rfl ?_
   refine cF (c:=aO) (xs:=((jN ag.skipped).take n)) (ys:=[e144]) hs m rfl rfl hY aFF jQ uM rfl aFC rfl r4 (m.rdv r0) (fun _=>rfl) (by(simp;omega)) rfl fun v157 w158 m a hs=>?_
   refine wpList_nil (aB ⟨(m.sub (a2 (a3 (a3 (a3 (a3 .n)))))),?_⟩)
   refine kY hs (m.sub (a2 (a3 (a3 (a3 (a3 .n)))))) 11 (k:=fun a hs=>?_)
   refine bU (i:=12) (by kernel_rfl) rfl ?_
   refine bP hs m (dZ s3 (t:=bR)) fun a w159 hs m=>?_
   refine wpList_nil (aB ⟨(m.sub (a2 (a3 (a3 (a3 (a3 .n)))))),?_⟩)
   refine dC (by kernel_rfl) (eA (aB ?_))
   rw[(show ((jN ag.skipped).take n)++[e144]=((jN ag.skipped).take (n+1)) by((exact aDE (j:=j) Nd (by omega) (by omega) (by rw[<-hkk];assumption))))] at m
   exact⟨ag.skipped.length-(n+1),by omega,n+1,v157,by omega,by(simp;omega),rfl,hs.to ⟨rfl,rfl,rfl,trivial⟩,m.sub (a2 (a2 (a2 (a2 (a2 (a2 (a0 .n)))))))⟩
 have h142p:=of_decide_eq_true h142
 refine bT hs m fW fun a w_ hs m=>?_
 obtain⟨e161,he162⟩:=bI (l:=ag.skipped) (i:=j) (by omega)
 refine kE (c:=aO) (e:=e161) hs m (x:=(.tmp 63)) (ix:=(.tmp 64)) rfl rfl hY jQ hx11 (by omega) he162 fun p163 hp164 ok165=>?_
 refine bP hs m (e_ (p_ (ok165 _ _ _ _ _)) (e_ (p_ (cN (aO e161))) bR)) fun a w_ hs m=>?_
 refine bZ hs m uM rfl fun p166 w167 m a hs=>?_
 refine bP hs m (dZ s0 (t:=iA)) fun a w168 hs m=>?_
 refine eE m mo (by kernel_rfl) ?_
 refine xD hs (h3:=q_ (bQ m rfl hY (fV r4))) (k:=fun a hs=>?_)
 refine oU (.c (.c (.c (.c (.c (.c (.c (.c (.c (.c (.c (.n)))))))))))) (fun a=>St 138 [(0,.pointer (some (bK pag 0))),(2,.pointer (some (bK p12 0))),(3,.pointer (some (bK y14 0))),(5,.int .i64 kk),(6,.int .i64 (j:Int)),(7,.pointer (some (bK p166 0))),(82,.bool (((((jN ag.skipped).take n).length:Int)==0) || (cL ((((jN ag.skipped).take n)[((((jN ag.skipped).take n).length:Int)-1).toNat]?).getD fM) e161)))] a) ?_ ?_
 ·rcases Bool.eq_false_or_eq_true ((((jN ag.skipped).take n).length:Int)==0) with hb169|hb169
  ·have hb169p:=eq_of_beq hb169
   refine kZ hs (k:=fun a hs=>?_)
   refine xD hs (h5:=q_ (aP (r:=.bool (((((jN ag.skipped).take n).length:Int)==0) || (cL ((((jN ag.skipped).take n)[((((jN ag.skipped).take n).length:Int)-1).toNat]?).getD fM) e161))) rfl rfl rfl (by rw[hb169];rfl))) (k:=fun a hs=>?_)
   exact wpQuiet_nil (hs.to ⟨rfl,rfl,rfl,rfl,rfl,rfl,rfl,trivial⟩)
  ·have hb169p:=ne_of_beq_false hb169
   refine kZ hs (h5:=kW hb169 (bQ m rfl hY (fV r4))) (k:=fun a hs=>?_)
   obtain⟨e170,he171⟩:=bI (l:=((jN ag.skipped).take n)) (i:=((((jN ag.skipped).take n).length:Int)-1).toNat) (by omega)
   refine rY (c:=aO) (e:=e170) hs m (x:=(.tmp 73)) (ix:=(.tmp 77)) rfl rfl hY jQ r4 (by omega) he171 fun p172 hp173 ok174=>?_
   refine nG hs (h1:=kW hb169 (ok174 _ _ _ _ _)) (h2:=kW hb169 (cN (aO e170))) (h3:=kW hb169 (cN (aO e161))) (k:=fun a hs=>?_)
   refine jI hs rfl rfl hb169 rfl rfl aCO rfl (fun w m=>uS e170 e161 w  ) rfl fun a hs=>?_
   refine uZ hs (h1:=q_ (aP (r:=.bool (((((jN ag.skipped).take n).length:Int)==0) || (cL ((((jN ag.skipped).take n)[((((jN ag.skipped).take n).length:Int)-1).toNat]?).getD fM) e161))) rfl rfl rfl (by(try rw[he171]);rw[hb169];rfl))) (k:=fun a hs=>?_)
   exact wpQuiet_nil (hs.to ⟨rfl,rfl,rfl,rfl,rfl,rfl,rfl,trivial⟩)
 intro a hs
 refine uZ hs (k:=fun a hs=>?_)
 refine wpQuiet_nil fun w175 m=>?_
 refine eE m mo (by kernel_rfl) ?_
 refine sO hs (k:=fun a hs=>?_)
 refine oU (.c (.c (.c (.c (.c (.c (.c (.c (.c (.c (.c (.c (.c (.c (.n))))))))))))))) (fun a=>St 138 [(0,.pointer (some (bK pag 0))),(2,.pointer (some (bK p12 0))),(3,.pointer (some (bK y14 0))),(5,.int .i64 kk),(6,.int .i64 (j:Int)),(98,.bool ((((((jN ag.skipped).take n).length:Int)==0) || (cL ((((jN ag.skipped).take n)[((((jN ag.skipped).take n).length:Int)-1).toNat]?).getD fM) e161))&&((decide (kk<0)) || (cL e161 ((ag.skipped[kk.toNat]?).getD fM)))))] a) ?_ ?_
 ·rcases Bool.eq_false_or_eq_true (((((jN ag.skipped).take n).length:Int)==0) || (cL ((((jN ag.skipped).take n)[((((jN ag.skipped).take n).length:Int)-1).toNat]?).getD fM) e161)) with hb176|hb176
  ·have hb176p:=hb176;simp only[fK] at hb176p
   refine nG hs (k:=fun a hs=>?_)
   refine oU (.c (.c (.c (.c (.c (.c (.c (.c (.c (.c (.n))))))))))) (fun a=>St 138 [(0,.pointer (some (bK pag 0))),(2,.pointer (some (bK p12 0))),(3,.pointer (some (bK y14 0))),(5,.int .i64 kk),(6,.int .i64 (j:Int)),(84,.bool (((((jN ag.skipped).take n).length:Int)==0) || (cL ((((jN ag.skipped).take n)[((((jN ag.skipped).take n).length:Int)-1).toNat]?).getD fM) e161))),(85,.int .i64 kk),(86,.bool (decide (kk<0))),(87,.bool (decide (kk<0))),(97,.bool ((decide (kk<0)) || (cL e161 ((ag.skipped[kk.toNat]?).getD fM))))] a) ?_ ?_
   ·rcases Bool.eq_false_or_eq_true (decide (kk<0)) with hb177|hb177
    ·have hb177p:=of_decide_eq_true hb177
     refine kZ hs (k:=fun a hs=>?_)
     refine vJ hs (h4:=kW hb176 (aP (r:=.bool ((decide (kk<0)) || (cL e161 ((ag.skipped[kk.toNat]?).getD fM)))) rfl rfl rfl (by rw[hb177];rfl))) (k:=fun a hs=>?_)
     exact wpQuiet_nil (hs.to ⟨rfl,rfl,rfl,rfl,rfl,rfl,rfl,rfl,rfl,rfl,trivial⟩)
    ·have hb177p:=of_decide_eq_false hb177
     refine kZ hs (h1:=kW hb177 (cN (aO e161))) (k:=fun a hs=>?_)
     obtain⟨e178,he179⟩:=bI (l:=ag.skipped) (i:=kk.toNat) (by omega)
     refine kE (c:=aO) (e:=e178) hs m (x:=(.tmp 92)) (ix:=(.tmp 93)) rfl rfl hY jQ hx11 (by omega) he179 fun p180 hp181 ok182=>?_
     refine sO hs (h1:=kW hb177 (ok182 _ _ _ _ _)) (h2:=kW hb177 (cN (aO e178))) (k:=fun a hs=>?_)
     refine jI hs rfl rfl hb177 rfl rfl aCO rfl (fun w m=>uS e161 e178 w  ) rfl fun a hs=>?_
     refine uZ hs (h1:=kW hb176 (aP (r:=.bool ((decide (kk<0)) || (cL e161 ((ag.skipped[kk.toNat]?).getD fM)))) rfl rfl rfl (by(try rw[he179]);rw[hb177];rfl))) (k:=fun a hs=>?_)
     exact wpQuiet_nil (hs.to ⟨rfl,rfl,rfl,rfl,rfl,rfl,rfl,rfl,rfl,rfl,trivial⟩)
   intro a hs
   refine uZ hs (h1:=q_ (aP (r:=.bool ((((((jN ag.skipped).take n).length:Int)==0) || (cL ((((jN ag.skipped).take n)[((((jN ag.skipped).take n).length:Int)-1).toNat]?).getD fM) e161))&&((decide (kk<0)) || (cL e161 ((ag.skipped[kk.toNat]?).getD fM))))) rfl rfl rfl (by rw[hb176];rfl))) (k:=fun a hs=>?_)
   exact wpQuiet_nil (hs.to ⟨rfl,rfl,rfl,rfl,rfl,rfl,trivial⟩)
  ·have hb176p:=hb176;simp only[fK] at hb176p
   refine kZ hs (k:=fun a hs=>?_)
   refine kZ hs (k:=fun a hs=>?_)
   refine sO hs (h2:=q_ (aP (r:=.bool ((((((jN ag.skipped).take n).length:Int)==0) || (cL ((((jN ag.skipped).take n)[((((jN ag.skipped).take n).length:Int)-1).toNat]?).getD fM) e161))&&((decide (kk<0)) || (cL e161 ((ag.skipped[kk.toNat]?).getD fM))))) rfl rfl rfl (by rw[hb176];rfl))) (k:=fun a hs=>?_)
   exact wpQuiet_nil (hs.to ⟨rfl,rfl,rfl,rfl,rfl,rfl,trivial⟩)
 intro a hs
 refine wpQuiet_nil fun w183 m=>?_
 refine aR hs rfl (fun h184=>?_) (fun h184=>?_)
 ·have h184p:=h184;simp only[fK] at h184p
  refine bT hs m nP fun a w_ hs m=>?_
  exact⟨ag.skipped.length-(j+1),by omega,j+1,(j:Int),by omega,by(exact aLI (by assumption) (by rw[<-hkk];assumption)),rfl,hs.to ⟨rfl,rfl,rfl,rfl,rfl,trivial⟩,m.sub (a1 (a1 (a1 (a1 (a1 (a1 (a1 .n)))))))⟩
 have h184p:=h184;simp only[fK] at h184p
 refine bT hs m hQ fun a w_ hs m=>?_
 exact⟨ag.skipped.length-(j+1),by omega,j+1,kk,by omega,by(exact hkk.trans (aLH (by assumption) (by rw[<-hkk];assumption))),rfl,hs.to ⟨rfl,rfl,rfl,rfl,rfl,trivial⟩,m.sub (a1 (a1 (a1 (a1 (a1 (a1 (a1 .n)))))))⟩
end Go.Proofs.YtnbpodjbemfpbaaGreat.Fw
