/-
  Own work: walks and laws, joined by wip/tool/compact.py.
-/
import Derived.Test.YtnbpodjbemfpbaaGreatG16
import Derived.KernelRfl
set_option linter.all false
set_option linter.all false
set_option maxHeartbeats 4000000
set_option maxRecDepth 100000
namespace Go.Proofs.YtnbpodjbemfpbaaGreat.Fw
open Go
theorem vD (vl:SH) (l:List TEvent) (w0:World) (hl:RdS (hh w0) 14 vl.v (l.map eI)) (hb:l.length<=1048576):Calls Tryz.prog 119 ⟨[vl.v]⟩ w0 fun e w'=>∃ v,e= .returned v/\(∃ x0:SH,v=(x0.v)/\Hp w0 (hh w0) [Sv 14 161 x0.v ((kD l 70).map eI)] w'):=by
 have lvl:=hl.bd
 refine enter (n:=18) Tryz.func119 rfl rfl rfl fun a (hs:St 18 [(0,vl.v)] a)=>?_
 have m:=Hp.start w0
 refine bT hs m gX fun a w_ hs m=>?_
 replace m:=m.nilSvM eI 14 161
 refine cF (c:=eI) (xs:=[]) (ys:=l) hs m rfl rfl oP aSR oM zN rfl aFN rfl r0 (m.rd hl) (fun _=>rfl) (by(simp;omega)) rfl fun v1 w3 m a hs=>?_
 refine bP hs m hQ fun a w_ hs m=>?_
 rw[(show l=kD l 0 from aS9)] at m
 refine wp_loop_ghost (fun gn a w=>∃ k:Nat,∃ v4:SH,(k<=70)/\gn=70-k/\St 18 [(3,v4.v),(4,.int .i64 (k:Int))] a/\Hp w0 (hh w0) [Sv 14 161 v4.v ((kD l k).map eI)] w) (70-0) ⟨0,v1,by omega,rfl,hs.to ⟨rfl,rfl,trivial⟩,m.sub (a0 .n)⟩ ?_
 rintro gn a w6 ⟨k,v4,hk,rfl,hs,m⟩
 have hr:=aF7 (l:=l) (k:=k)
 refine bT hs m gX fun a w_ hs m=>?_
 refine aR hs rfl (fun h7=>?_) (fun h7=>?_)
 rotate_left
 ·have h7p:=of_decide_eq_false h7
  refine bT hs m mT fun a w_ hs m=>?_
  refine bH hs (vs:=[v4.v]) rfl ⟨rfl,trivial⟩ ?_
  rw[(show kD l k=kD l 70 from aNX (by omega))] at m
  refine⟨_,rfl,v4,?_,m.sub (a0 .n)⟩
  rfl
 have h7p:=of_decide_eq_true h7
 refine bT hs m (x_ lA (e_ (p_ (bW (cs:=eI (⟨⟨0,rfl⟩,⟨201+(k:Int),cJ (by omega) (by omega)⟩,eG⟩:TEvent)) aUS zN rfl (by kernel_rfl))) bR)) fun a w_ hs m=>?_
 refine dK (c:=eI) (ys:=[(⟨⟨0,rfl⟩,⟨201+(k:Int),cJ (by omega) (by omega)⟩,eG⟩:TEvent)]) hs m oP oM zN rfl rfl rfl rfl rfl (fun _=>rfl) rfl rfl rfl fun v9 w10 m a hs=>?_
 refine cF (c:=eI) (xs:=kD l k) (ys:=[(⟨⟨0,rfl⟩,⟨201+(k:Int),cJ (by omega) (by omega)⟩,eG⟩:TEvent)]) hs m rfl rfl oP aSR oM zN rfl aFN rfl r1 (m.rdv r0) (fun _=>rfl) (by(simp;omega)) rfl fun v11 w12 m a hs=>?_
 refine bP hs m fW fun a w_ hs m=>?_
 rw[(show (kD l k)++[(⟨⟨0,rfl⟩,⟨201+(k:Int),cJ (by omega) (by omega)⟩,eG⟩:TEvent)]=kD l (k+1) from aLA (by omega))] at m
 exact⟨70-(k+1),by omega,k+1,v11,by omega,rfl,hs.to ⟨rfl,rfl,trivial⟩,m.sub (a0 .n)⟩
theorem aHU (vx:SH) (x:List TEvent) (vy:SH) (y:List TEvent) (w0:World) (hx:RdS (hh w0) 14 vx.v (x.map eI)) (hy:RdS (hh w0) 14 vy.v (y.map eI)):iL Tryz.prog 121 [vx.v,vy.v] (.bool (decide (x=y))) w0:=by
 have lvx:=hx.bd
 have lvy:=hy.bd
 refine enter (n:=26) Tryz.func121 rfl rfl rfl fun a (hs:St 26 [(0,vx.v),(1,vy.v)] a)=>?_
 have m:=Hp.start w0
 refine bT hs m (x_ gZ (e_ (p_ (bQ m rfl oP (dX hx))) (x_ eO (e_ (p_ (bQ m rfl oP (dX hy))) eZ)))) fun a w_ hs m=>?_
 refine aR hs rfl (fun h1=>?_) (fun h1=>?_)
 ·have h1p:=fT h1
  refine bT hs m gX fun a w_ hs m=>?_
  refine bH hs (vs:=[.bool false]) rfl ⟨rfl,trivial⟩ ?_
  exact⟨by rw[(show (false:Bool)=decide (x=y) from aEY (by assumption))];rfl,m.sub .n⟩
 have h1p:=dJ h1
 refine bT hs m lA fun a w_ hs m=>?_
 refine wp_loop_ghost (fun gn a w=>∃ k:Nat,(k<=x.length)/\(x.take k=y.take k)/\gn=x.length-k/\St 26 [(0,vx.v),(1,vy.v),(5,.int .i64 (k:Int))] a/\Hp w0 (hh w0) [] w) (x.length-0) ⟨0,by omega,by simp,rfl,hs.to ⟨rfl,rfl,rfl,trivial⟩,m.sub .n⟩ ?_
 rintro gn a w3 ⟨k,hk,ht,rfl,hs,m⟩
 refine bT hs m (x_ gC (e_ (p_ (bQ m rfl oP (dX hx))) eZ)) fun a w_ hs m=>?_
 refine aR hs rfl (fun h4=>?_) (fun h4=>?_)
 rotate_left
 ·have h4p:=of_decide_eq_false h4
  refine bT hs m fW fun a w_ hs m=>?_
  refine bH hs (vs:=[.bool true]) rfl ⟨rfl,trivial⟩ ?_
  exact⟨by rw[(show (true:Bool)=decide (x=y) from yH (by assumption) (by omega) ht)];rfl,m.sub .n⟩
 have h4p:=of_decide_eq_true h4
 refine wp_skip ?_
 refine aB ?_
 refine dG ?_
 refine wp_block ?_
 refine eE m mo (by kernel_rfl) ?_
 refine sO hs (k:=fun a hs=>?_)
 obtain⟨e6,he7⟩:=bI (l:=x) (i:=k) (by omega)
 refine kE (c:=eI) (e:=e6) hs m (x:=(.tmp 17)) (ix:=(.tmp 18)) rfl rfl oP oM hx (by omega) he7 fun p8 hp9 ok10=>?_
 refine vJ hs (h1:=q_ (ok10 _ _ _ _ _)) (h2:=q_ (cN (eI e6))) (k:=fun a hs=>?_)
 obtain⟨e11,he12⟩:=bI (l:=y) (i:=k) (by omega)
 refine kE (c:=eI) (e:=e11) hs m (x:=(.tmp 21)) (ix:=(.tmp 22)) rfl rfl oP oM hy (by omega) he12 fun p13 hp14 ok15=>?_
 refine nG hs (h1:=q_ (ok15 _ _ _ _ _)) (h2:=q_ (cN (eI e11))) (h3:=q_ (sS (b:=decide (e6=e11)) rfl rfl aVV (aPJ _) (aPJ _) (aW4 e6 e11))) (k:=fun a hs=>?_)
 refine wpQuiet_nil fun w16 m=>?_
 refine aR hs rfl (fun h17=>?_) (fun h17=>?_)
 ·have h17p:=h17;simp only[fK] at h17p
  refine bT hs m fW fun a w_ hs m=>?_
  refine bH hs (vs:=[.bool false]) rfl ⟨rfl,trivial⟩ ?_
  exact⟨by rw[(show (false:Bool)=decide (x=y) from wC (by assumption) (by assumption) (by assumption))];rfl,m.sub .n⟩
 have h17p:=h17;simp only[fK] at h17p
 refine bT hs m hQ fun a w_ hs m=>?_
 exact⟨x.length-(k+1),by omega,k+1,by omega,by exact wD ht (by assumption) (by assumption) (by assumption),rfl,hs.to ⟨rfl,rfl,rfl,trivial⟩,m.sub .n⟩
theorem aC9 (w0:World):Calls Tryz.prog 28 ⟨[]⟩ w0 fun e w'=>∃ v,e= .returned v/\(∃ x0:Addr,v=(.pointer (some (bK x0 0)))/\Hp w0 (hh w0) [PcP x0 (⟨[],[],[],[],[]⟩:PcM)] w'):=by
 refine enter (n:=11) Tryz.func28 rfl rfl rfl fun a (hs:St 11 [] a)=>?_
 have m:=Hp.start w0
 refine bT hs m gC fun a w_ hs m=>?_
 refine wK (fun a w=>∃ y1:Addr,∃ y2:SH,∃ y3:SH,∃ y4:SH,St 11 [(1,.pointer (some (bK y1 0)))] a/\Hp w0 (hh w0) [Bx y1 29 [y4.v,y3.v,y2.v],Sv 7 56 y2.v (([]:List cH).map cB),Sv 7 54 y3.v (([]:List bA).map aS),Sv 4 51 y4.v (([]:List bD).map aM)] w) ?_ ?_
 ·refine aCN (Hp w0 (hh w0) []) m mo fun w5 m=>?_
  refine aW2 (i:=0) (j:=1) (l:=2) (r:=4) (by kernel_rfl) rfl rfl rfl rfl ?_ ?_ ?_ ?_
  ·refine eL (c:=aM) (cap:=1000) hs m rfl rfl eY gG kK qN rfl rfl rfl fun v6 w7 m a hs=>?_
   refine wpList_nil (aB ⟨(m.sub .n),?_⟩)
   refine aG1 (i:=1) (j:=2) (l:=4) (by kernel_rfl) rfl rfl rfl ?_ ?_ ?_
   ·refine eL (c:=aS) (cap:=1000) hs m rfl rfl fP gQ lW qO rfl rfl rfl fun v8 w9 m a hs=>?_
    refine wpList_nil (aB ⟨(m.sub .n),?_⟩)
    refine kV (i:=2) (j:=4) (by kernel_rfl) rfl rfl ?_ ?_
    ·refine eL (c:=cB) (cap:=1000) hs m rfl rfl fQ gS lS qP rfl rfl rfl fun v10 w11 m a hs=>?_
     refine wpList_nil (aB ⟨(m.sub .n),?_⟩)
     refine kY hs (m.sub .n) 3 (h1:=k_ rfl (bW (cs:=[v6.v,v8.v,v10.v]) rI jL rfl rfl)) (k:=fun a hs=>?_)
     refine bU (i:=4) (by kernel_rfl) rfl ?_
     refine bZ hs m jL rfl fun p12 w13 m a hs=>?_
     refine wpList_nil (aB ⟨(m.sub .n),?_⟩)
     refine bU (i:=5) (by kernel_rfl) rfl ?_
     refine bP hs m (dZ s0 (t:=bR)) fun a w14 hs m=>?_
     refine wpList_nil (aB ⟨(m.sub .n),?_⟩)
     refine dC (by kernel_rfl) (aB ?_)
     exact⟨p12,v10,v8,v6,hs.to ⟨rfl,trivial⟩,m.sub (a0 (a0 (a0 (a0 .n))))⟩
    ·refine bZ hs m jL rfl fun p15 w16 m a hs=>?_
     refine wpList_nil (aB ⟨(m.sub .n),?_⟩)
     refine bU (i:=2) (by kernel_rfl) rfl ?_
     refine eL (c:=cB) (cap:=1000) hs m rfl rfl fQ gS lS qP rfl rfl rfl fun v17 w18 m a hs=>?_
     refine wpList_nil (aB ⟨(m.sub .n),?_⟩)
     refine kY hs (m.sub .n) 3 (h1:=k_ rfl (bW (cs:=[v6.v,v8.v,v17.v]) rI jL rfl rfl)) (k:=fun a hs=>?_)
     refine bU (i:=5) (by kernel_rfl) rfl ?_
     refine bP hs m (dZ s1 (t:=bR)) fun a w19 hs m=>?_
     refine wpList_nil (aB ⟨(m.sub .n),?_⟩)
     refine dC (by kernel_rfl) (aB ?_)
     exact⟨p15,v17,v8,v6,hs.to ⟨rfl,trivial⟩,m.sub (a1 (a0 (a0 (a0 .n))))⟩
   ·refine eL (c:=cB) (cap:=1000) hs m rfl rfl fQ gS lS qP rfl rfl rfl fun v20 w21 m a hs=>?_
    refine wpList_nil (aB ⟨(m.sub .n),?_⟩)
    refine kV (i:=1) (j:=4) (by kernel_rfl) rfl rfl ?_ ?_
    ·refine eL (c:=aS) (cap:=1000) hs m rfl rfl fP gQ lW qO rfl rfl rfl fun v22 w23 m a hs=>?_
     refine wpList_nil (aB ⟨(m.sub .n),?_⟩)
     refine kY hs (m.sub .n) 3 (h1:=k_ rfl (bW (cs:=[v6.v,v22.v,v20.v]) rI jL rfl rfl)) (k:=fun a hs=>?_)
     refine bU (i:=4) (by kernel_rfl) rfl ?_
     refine bZ hs m jL rfl fun p24 w25 m a hs=>?_
     refine wpList_nil (aB ⟨(m.sub .n),?_⟩)
     refine bU (i:=5) (by kernel_rfl) rfl ?_
     refine bP hs m (dZ s0 (t:=bR)) fun a w26 hs m=>?_
     refine wpList_nil (aB ⟨(m.sub .n),?_⟩)
     refine dC (by kernel_rfl) (aB ?_)
     exact⟨p24,v20,v22,v6,hs.to ⟨rfl,trivial⟩,m.sub (a0 (a1 (a0 (a0 .n))))⟩
    ·refine bZ hs m jL rfl fun p27 w28 m a hs=>?_
     refine wpList_nil (aB ⟨(m.sub .n),?_⟩)
     refine bU (i:=1) (by kernel_rfl) rfl ?_
     refine eL (c:=aS) (cap:=1000) hs m rfl rfl fP gQ lW qO rfl rfl rfl fun v29 w30 m a hs=>?_
     refine wpList_nil (aB ⟨(m.sub .n),?_⟩)
     refine kY hs (m.sub .n) 3 (h1:=k_ rfl (bW (cs:=[v6.v,v29.v,v20.v]) rI jL rfl rfl)) (k:=fun a hs=>?_)
     refine bU (i:=5) (by kernel_rfl) rfl ?_
     refine bP hs m (dZ s1 (t:=bR)) fun a w31 hs m=>?_
     refine wpList_nil (aB ⟨(m.sub .n),?_⟩)
     refine dC (by kernel_rfl) (aB ?_)
     exact⟨p27,v20,v29,v6,hs.to ⟨rfl,trivial⟩,m.sub (a1 (a1 (a0 (a0 .n))))⟩
   ·refine bZ hs m jL rfl fun p32 w33 m a hs=>?_
    refine wpList_nil (aB ⟨(m.sub .n),?_⟩)
    refine kV (i:=1) (j:=2) (by kernel_rfl) rfl rfl ?_ ?_
    ·refine eL (c:=aS) (cap:=1000) hs m rfl rfl fP gQ lW qO rfl rfl rfl fun v34 w35 m a hs=>?_
     refine wpList_nil (aB ⟨(m.sub .n),?_⟩)
     refine bU (i:=2) (by kernel_rfl) rfl ?_
     refine eL (c:=cB) (cap:=1000) hs m rfl rfl fQ gS lS qP rfl rfl rfl fun v36 w37 m a hs=>?_
     refine wpList_nil (aB ⟨(m.sub .n),?_⟩)
     refine kY hs (m.sub .n) 3 (h1:=k_ rfl (bW (cs:=[v6.v,v34.v,v36.v]) rI jL rfl rfl)) (k:=fun a hs=>?_)
     refine bU (i:=5) (by kernel_rfl) rfl ?_
     refine bP hs m (dZ s2 (t:=bR)) fun a w38 hs m=>?_
     refine wpList_nil (aB ⟨(m.sub .n),?_⟩)
     refine dC (by kernel_rfl) (aB ?_)
     exact⟨p32,v36,v34,v6,hs.to ⟨rfl,trivial⟩,m.sub (a2 (a0 (a0 (a0 .n))))⟩
    ·refine eL (c:=cB) (cap:=1000) hs m rfl rfl fQ gS lS qP rfl rfl rfl fun v39 w40 m a hs=>?_
     refine wpList_nil (aB ⟨(m.sub .n),?_⟩)
     refine bU (i:=1) (by kernel_rfl) rfl ?_
     refine eL (c:=aS) (cap:=1000) hs m rfl rfl fP gQ lW qO rfl rfl rfl fun v41 w42 m a hs=>?_
     refine wpList_nil (aB ⟨(m.sub .n),?_⟩)
     refine kY hs (m.sub .n) 3 (h1:=k_ rfl (bW (cs:=[v6.v,v41.v,v39.v]) rI jL rfl rfl)) (k:=fun a hs=>?_)
     refine bU (i:=5) (by kernel_rfl) rfl ?_
     refine bP hs m (dZ s2 (t:=bR)) fun a w43 hs m=>?_
     refine wpList_nil (aB ⟨(m.sub .n),?_⟩)
     refine dC (by kernel_rfl) (aB ?_)
     exact⟨p32,v39,v41,v6,hs.to ⟨rfl,trivial⟩,m.sub (a2 (a1 (a0 (a0 .n))))⟩
  ·refine eL (c:=aS) (cap:=1000) hs m rfl rfl fP gQ lW qO rfl rfl rfl fun v44 w45 m a hs=>?_
   refine wpList_nil (aB ⟨(m.sub .n),?_⟩)
   refine aG1 (i:=0) (j:=2) (l:=4) (by kernel_rfl) rfl rfl rfl ?_ ?_ ?_
   ·refine eL (c:=aM) (cap:=1000) hs m rfl rfl eY gG kK qN rfl rfl rfl fun v46 w47 m a hs=>?_
    refine wpList_nil (aB ⟨(m.sub .n),?_⟩)
    refine kV (i:=2) (j:=4) (by kernel_rfl) rfl rfl ?_ ?_
    ·refine eL (c:=cB) (cap:=1000) hs m rfl rfl fQ gS lS qP rfl rfl rfl fun v48 w49 m a hs=>?_
     refine wpList_nil (aB ⟨(m.sub .n),?_⟩)
     refine kY hs (m.sub .n) 3 (h1:=k_ rfl (bW (cs:=[v46.v,v44.v,v48.v]) rI jL rfl rfl)) (k:=fun a hs=>?_)
     refine bU (i:=4) (by kernel_rfl) rfl ?_
     refine bZ hs m jL rfl fun p50 w51 m a hs=>?_
     refine wpList_nil (aB ⟨(m.sub .n),?_⟩)
     refine bU (i:=5) (by kernel_rfl) rfl ?_
     refine bP hs m (dZ s0 (t:=bR)) fun a w52 hs m=>?_
     refine wpList_nil (aB ⟨(m.sub .n),?_⟩)
     refine dC (by kernel_rfl) (aB ?_)
     exact⟨p50,v48,v44,v46,hs.to ⟨rfl,trivial⟩,m.sub (a0 (a0 (a1 (a0 .n))))⟩
    ·refine bZ hs m jL rfl fun p53 w54 m a hs=>?_
     refine wpList_nil (aB ⟨(m.sub .n),?_⟩)
     refine bU (i:=2) (by kernel_rfl) rfl ?_
     refine eL (c:=cB) (cap:=1000) hs m rfl rfl fQ gS lS qP rfl rfl rfl fun v55 w56 m a hs=>?_
     refine wpList_nil (aB ⟨(m.sub .n),?_⟩)
     refine kY hs (m.sub .n) 3 (h1:=k_ rfl (bW (cs:=[v46.v,v44.v,v55.v]) rI jL rfl rfl)) (k:=fun a hs=>?_)
     refine bU (i:=5) (by kernel_rfl) rfl ?_
     refine bP hs m (dZ s1 (t:=bR)) fun a w57 hs m=>?_
     refine wpList_nil (aB ⟨(m.sub .n),?_⟩)
     refine dC (by kernel_rfl) (aB ?_)
     exact⟨p53,v55,v44,v46,hs.to ⟨rfl,trivial⟩,m.sub (a1 (a0 (a1 (a0 .n))))⟩
   ·refine eL (c:=cB) (cap:=1000) hs m rfl rfl fQ gS lS qP rfl rfl rfl fun v58 w59 m a hs=>?_
    refine wpList_nil (aB ⟨(m.sub .n),?_⟩)
    refine kV (i:=0) (j:=4) (by kernel_rfl) rfl rfl ?_ ?_
    ·refine eL (c:=aM) (cap:=1000) hs m rfl rfl eY gG kK qN rfl rfl rfl fun v60 w61 m a hs=>?_
     refine wpList_nil (aB ⟨(m.sub .n),?_⟩)
     refine kY hs (m.sub .n) 3 (h1:=k_ rfl (bW (cs:=[v60.v,v44.v,v58.v]) rI jL rfl rfl)) (k:=fun a hs=>?_)
     refine bU (i:=4) (by kernel_rfl) rfl ?_
     refine bZ hs m jL rfl fun p62 w63 m a hs=>?_
     refine wpList_nil (aB ⟨(m.sub .n),?_⟩)
     refine bU (i:=5) (by kernel_rfl) rfl ?_
     refine bP hs m (dZ s0 (t:=bR)) fun a w64 hs m=>?_
     refine wpList_nil (aB ⟨(m.sub .n),?_⟩)
     refine dC (by kernel_rfl) (aB ?_)
     exact⟨p62,v58,v44,v60,hs.to ⟨rfl,trivial⟩,m.sub (a0 (a1 (a1 (a0 .n))))⟩
    ·refine bZ hs m jL rfl fun p65 w66 m a hs=>?_
     refine wpList_nil (aB ⟨(m.sub .n),?_⟩)
     refine bU (i:=0) (by kernel_rfl) rfl ?_
     refine eL (c:=aM) (cap:=1000) hs m rfl rfl eY gG kK qN rfl rfl rfl fun v67 w68 m a hs=>?_
     refine wpList_nil (aB ⟨(m.sub .n),?_⟩)
     refine kY hs (m.sub .n) 3 (h1:=k_ rfl (bW (cs:=[v67.v,v44.v,v58.v]) rI jL rfl rfl)) (k:=fun a hs=>?_)
     refine bU (i:=5) (by kernel_rfl) rfl ?_
     refine bP hs m (dZ s1 (t:=bR)) fun a w69 hs m=>?_
     refine wpList_nil (aB ⟨(m.sub .n),?_⟩)
     refine dC (by kernel_rfl) (aB ?_)
     exact⟨p65,v58,v44,v67,hs.to ⟨rfl,trivial⟩,m.sub (a1 (a1 (a1 (a0 .n))))⟩
   ·refine bZ hs m jL rfl fun p70 w71 m a hs=>?_
    refine wpList_nil (aB ⟨(m.sub .n),?_⟩)
    refine kV (i:=0) (j:=2) (by kernel_rfl) rfl rfl ?_ ?_
    ·refine eL (c:=aM) (cap:=1000) hs m rfl rfl eY gG kK qN rfl rfl rfl fun v72 w73 m a hs=>?_
     refine wpList_nil (aB ⟨(m.sub .n),?_⟩)
     refine bU (i:=2) (by kernel_rfl) rfl ?_
     refine eL (c:=cB) (cap:=1000) hs m rfl rfl fQ gS lS qP rfl rfl rfl fun v74 w75 m a hs=>?_
     refine wpList_nil (aB ⟨(m.sub .n),?_⟩)
     refine kY hs (m.sub .n) 3 (h1:=k_ rfl (bW (cs:=[v72.v,v44.v,v74.v]) rI jL rfl rfl)) (k:=fun a hs=>?_)
     refine bU (i:=5) (by kernel_rfl) rfl ?_
     refine bP hs m (dZ s2 (t:=bR)) fun a w76 hs m=>?_
     refine wpList_nil (aB ⟨(m.sub .n),?_⟩)
     refine dC (by kernel_rfl) (aB ?_)
     exact⟨p70,v74,v44,v72,hs.to ⟨rfl,trivial⟩,m.sub (a2 (a0 (a1 (a0 .n))))⟩
    ·refine eL (c:=cB) (cap:=1000) hs m rfl rfl fQ gS lS qP rfl rfl rfl fun v77 w78 m a hs=>?_
     refine wpList_nil (aB ⟨(m.sub .n),?_⟩)
     refine bU (i:=0) (by kernel_rfl) rfl ?_
     refine eL (c:=aM) (cap:=1000) hs m rfl rfl eY gG kK qN rfl rfl rfl fun v79 w80 m a hs=>?_
     refine wpList_nil (aB ⟨(m.sub .n),?_⟩)
     refine kY hs (m.sub .n) 3 (h1:=k_ rfl (bW (cs:=[v79.v,v44.v,v77.v]) rI jL rfl rfl)) (k:=fun a hs=>?_)
     refine bU (i:=5) (by kernel_rfl) rfl ?_
     refine bP hs m (dZ s2 (t:=bR)) fun a w81 hs m=>?_
     refine wpList_nil (aB ⟨(m.sub .n),?_⟩)
     refine dC (by kernel_rfl) (aB ?_)
     exact⟨p70,v77,v44,v79,hs.to ⟨rfl,trivial⟩,m.sub (a2 (a1 (a1 (a0 .n))))⟩
  ·refine eL (c:=cB) (cap:=1000) hs m rfl rfl fQ gS lS qP rfl rfl rfl fun v82 w83 m a hs=>?_
   refine wpList_nil (aB ⟨(m.sub .n),?_⟩)
   refine aG1 (i:=0) (j:=1) (l:=4) (by kernel_rfl) rfl rfl rfl ?_ ?_ ?_
   ·refine eL (c:=aM) (cap:=1000) hs m rfl rfl eY gG kK qN rfl rfl rfl fun v84 w85 m a hs=>?_
    refine wpList_nil (aB ⟨(m.sub .n),?_⟩)
    refine kV (i:=1) (j:=4) (by kernel_rfl) rfl rfl ?_ ?_
    ·refine eL (c:=aS) (cap:=1000) hs m rfl rfl fP gQ lW qO rfl rfl rfl fun v86 w87 m a hs=>?_
     refine wpList_nil (aB ⟨(m.sub .n),?_⟩)
     refine kY hs (m.sub .n) 3 (h1:=k_ rfl (bW (cs:=[v84.v,v86.v,v82.v]) rI jL rfl rfl)) (k:=fun a hs=>?_)
     refine bU (i:=4) (by kernel_rfl) rfl ?_
     refine bZ hs m jL rfl fun p88 w89 m a hs=>?_
     refine wpList_nil (aB ⟨(m.sub .n),?_⟩)
     refine bU (i:=5) (by kernel_rfl) rfl ?_
     refine bP hs m (dZ s0 (t:=bR)) fun a w90 hs m=>?_
     refine wpList_nil (aB ⟨(m.sub .n),?_⟩)
     refine dC (by kernel_rfl) (aB ?_)
     exact⟨p88,v82,v86,v84,hs.to ⟨rfl,trivial⟩,m.sub (a0 (a2 (a0 (a0 .n))))⟩
    ·refine bZ hs m jL rfl fun p91 w92 m a hs=>?_
     refine wpList_nil (aB ⟨(m.sub .n),?_⟩)
     refine bU (i:=1) (by kernel_rfl) rfl ?_
     refine eL (c:=aS) (cap:=1000) hs m rfl rfl fP gQ lW qO rfl rfl rfl fun v93 w94 m a hs=>?_
     refine wpList_nil (aB ⟨(m.sub .n),?_⟩)
     refine kY hs (m.sub .n) 3 (h1:=k_ rfl (bW (cs:=[v84.v,v93.v,v82.v]) rI jL rfl rfl)) (k:=fun a hs=>?_)
     refine bU (i:=5) (by kernel_rfl) rfl ?_
     refine bP hs m (dZ s1 (t:=bR)) fun a w95 hs m=>?_
     refine wpList_nil (aB ⟨(m.sub .n),?_⟩)
     refine dC (by kernel_rfl) (aB ?_)
     exact⟨p91,v82,v93,v84,hs.to ⟨rfl,trivial⟩,m.sub (a1 (a2 (a0 (a0 .n))))⟩
   ·refine eL (c:=aS) (cap:=1000) hs m rfl rfl fP gQ lW qO rfl rfl rfl fun v96 w97 m a hs=>?_
    refine wpList_nil (aB ⟨(m.sub .n),?_⟩)
    refine kV (i:=0) (j:=4) (by kernel_rfl) rfl rfl ?_ ?_
    ·refine eL (c:=aM) (cap:=1000) hs m rfl rfl eY gG kK qN rfl rfl rfl fun v98 w99 m a hs=>?_
     refine wpList_nil (aB ⟨(m.sub .n),?_⟩)
     refine kY hs (m.sub .n) 3 (h1:=k_ rfl (bW (cs:=[v98.v,v96.v,v82.v]) rI jL rfl rfl)) (k:=fun a hs=>?_)
     refine bU (i:=4) (by kernel_rfl) rfl ?_
     refine bZ hs m jL rfl fun p100 w101 m a hs=>?_
     refine wpList_nil (aB ⟨(m.sub .n),?_⟩)
     refine bU (i:=5) (by kernel_rfl) rfl ?_
     refine bP hs m (dZ s0 (t:=bR)) fun a w102 hs m=>?_
     refine wpList_nil (aB ⟨(m.sub .n),?_⟩)
     refine dC (by kernel_rfl) (aB ?_)
     exact⟨p100,v82,v96,v98,hs.to ⟨rfl,trivial⟩,m.sub (a0 (a2 (a1 (a0 .n))))⟩
    ·refine bZ hs m jL rfl fun p103 w104 m a hs=>?_
     refine wpList_nil (aB ⟨(m.sub .n),?_⟩)
     refine bU (i:=0) (by kernel_rfl) rfl ?_
     refine eL (c:=aM) (cap:=1000) hs m rfl rfl eY gG kK qN rfl rfl rfl fun v105 w106 m a hs=>?_
     refine wpList_nil (aB ⟨(m.sub .n),?_⟩)
     refine kY hs (m.sub .n) 3 (h1:=k_ rfl (bW (cs:=[v105.v,v96.v,v82.v]) rI jL rfl rfl)) (k:=fun a hs=>?_)
     refine bU (i:=5) (by kernel_rfl) rfl ?_
     refine bP hs m (dZ s1 (t:=bR)) fun a w107 hs m=>?_
     refine wpList_nil (aB ⟨(m.sub .n),?_⟩)
     refine dC (by kernel_rfl) (aB ?_)
     exact⟨p103,v82,v96,v105,hs.to ⟨rfl,trivial⟩,m.sub (a1 (a2 (a1 (a0 .n))))⟩
   ·refine bZ hs m jL rfl fun p108 w109 m a hs=>?_
    refine wpList_nil (aB ⟨(m.sub .n),?_⟩)
    refine kV (i:=0) (j:=1) (by kernel_rfl) rfl rfl ?_ ?_
    ·refine eL (c:=aM) (cap:=1000) hs m rfl rfl eY gG kK qN rfl rfl rfl fun v110 w111 m a hs=>?_
     refine wpList_nil (aB ⟨(m.sub .n),?_⟩)
     refine bU (i:=1) (by kernel_rfl) rfl ?_
     refine eL (c:=aS) (cap:=1000) hs m rfl rfl fP gQ lW qO rfl rfl rfl fun v112 w113 m a hs=>?_
     refine wpList_nil (aB ⟨(m.sub .n),?_⟩)
     refine kY hs (m.sub .n) 3 (h1:=k_ rfl (bW (cs:=[v110.v,v112.v,v82.v]) rI jL rfl rfl)) (k:=fun a hs=>?_)
     refine bU (i:=5) (by kernel_rfl) rfl ?_
     refine bP hs m (dZ s2 (t:=bR)) fun a w114 hs m=>?_
     refine wpList_nil (aB ⟨(m.sub .n),?_⟩)
     refine dC (by kernel_rfl) (aB ?_)
     exact⟨p108,v82,v112,v110,hs.to ⟨rfl,trivial⟩,m.sub (a2 (a2 (a0 (a0 .n))))⟩
    ·refine eL (c:=aS) (cap:=1000) hs m rfl rfl fP gQ lW qO rfl rfl rfl fun v115 w116 m a hs=>?_
     refine wpList_nil (aB ⟨(m.sub .n),?_⟩)
     refine bU (i:=0) (by kernel_rfl) rfl ?_
     refine eL (c:=aM) (cap:=1000) hs m rfl rfl eY gG kK qN rfl rfl rfl fun v117 w118 m a hs=>?_
     refine wpList_nil (aB ⟨(m.sub .n),?_⟩)
     refine kY hs (m.sub .n) 3 (h1:=k_ rfl (bW (cs:=[v117.v,v115.v,v82.v]) rI jL rfl rfl)) (k:=fun a hs=>?_)
     refine bU (i:=5) (by kernel_rfl) rfl ?_
     refine bP hs m (dZ s2 (t:=bR)) fun a w119 hs m=>?_
     refine wpList_nil (aB ⟨(m.sub .n),?_⟩)
     refine dC (by kernel_rfl) (aB ?_)
     exact⟨p108,v82,v115,v117,hs.to ⟨rfl,trivial⟩,m.sub (a2 (a2 (a1 (a0 .n))))⟩
  ·refine bZ hs m jL rfl fun p120 w121 m a hs=>?_
   refine wpList_nil (aB ⟨(m.sub .n),?_⟩)
   refine aG1 (i:=0) (j:=1) (l:=2) (by kernel_rfl) rfl rfl rfl ?_ ?_ ?_
   ·refine eL (c:=aM) (cap:=1000) hs m rfl rfl eY gG kK qN rfl rfl rfl fun v122 w123 m a hs=>?_
    refine wpList_nil (aB ⟨(m.sub .n),?_⟩)
    refine kV (i:=1) (j:=2) (by kernel_rfl) rfl rfl ?_ ?_
    ·refine eL (c:=aS) (cap:=1000) hs m rfl rfl fP gQ lW qO rfl rfl rfl fun v124 w125 m a hs=>?_
     refine wpList_nil (aB ⟨(m.sub .n),?_⟩)
     refine bU (i:=2) (by kernel_rfl) rfl ?_
     refine eL (c:=cB) (cap:=1000) hs m rfl rfl fQ gS lS qP rfl rfl rfl fun v126 w127 m a hs=>?_
     refine wpList_nil (aB ⟨(m.sub .n),?_⟩)
     refine kY hs (m.sub .n) 3 (h1:=k_ rfl (bW (cs:=[v122.v,v124.v,v126.v]) rI jL rfl rfl)) (k:=fun a hs=>?_)
     refine bU (i:=5) (by kernel_rfl) rfl ?_
     refine bP hs m (dZ s3 (t:=bR)) fun a w128 hs m=>?_
     refine wpList_nil (aB ⟨(m.sub .n),?_⟩)
     refine dC (by kernel_rfl) (aB ?_)
     exact⟨p120,v126,v124,v122,hs.to ⟨rfl,trivial⟩,m.sub (a3 (a0 (a0 (a0 .n))))⟩
    ·refine eL (c:=cB) (cap:=1000) hs m rfl rfl fQ gS lS qP rfl rfl rfl fun v129 w130 m a hs=>?_
     refine wpList_nil (aB ⟨(m.sub .n),?_⟩)
     refine bU (i:=1) (by kernel_rfl) rfl ?_
     refine eL (c:=aS) (cap:=1000) hs m rfl rfl fP gQ lW qO rfl rfl rfl fun v131 w132 m a hs=>?_
     refine wpList_nil (aB ⟨(m.sub .n),?_⟩)
     refine kY hs (m.sub .n) 3 (h1:=k_ rfl (bW (cs:=[v122.v,v131.v,v129.v]) rI jL rfl rfl)) (k:=fun a hs=>?_)
     refine bU (i:=5) (by kernel_rfl) rfl ?_
     refine bP hs m (dZ s3 (t:=bR)) fun a w133 hs m=>?_
     refine wpList_nil (aB ⟨(m.sub .n),?_⟩)
     refine dC (by kernel_rfl) (aB ?_)
     exact⟨p120,v129,v131,v122,hs.to ⟨rfl,trivial⟩,m.sub (a3 (a1 (a0 (a0 .n))))⟩
   ·refine eL (c:=aS) (cap:=1000) hs m rfl rfl fP gQ lW qO rfl rfl rfl fun v134 w135 m a hs=>?_
    refine wpList_nil (aB ⟨(m.sub .n),?_⟩)
    refine kV (i:=0) (j:=2) (by kernel_rfl) rfl rfl ?_ ?_
    ·refine eL (c:=aM) (cap:=1000) hs m rfl rfl eY gG kK qN rfl rfl rfl fun v136 w137 m a hs=>?_
     refine wpList_nil (aB ⟨(m.sub .n),?_⟩)
     refine bU (i:=2) (by kernel_rfl) rfl ?_
     refine eL (c:=cB) (cap:=1000) hs m rfl rfl fQ gS lS qP rfl rfl rfl fun v138 w139 m a hs=>?_
     refine wpList_nil (aB ⟨(m.sub .n),?_⟩)
     refine kY hs (m.sub .n) 3 (h1:=k_ rfl (bW (cs:=[v136.v,v134.v,v138.v]) rI jL rfl rfl)) (k:=fun a hs=>?_)
     refine bU (i:=5) (by kernel_rfl) rfl ?_
     refine bP hs m (dZ s3 (t:=bR)) fun a w140 hs m=>?_
     refine wpList_nil (aB ⟨(m.sub .n),?_⟩)
     refine dC (by kernel_rfl) (aB ?_)
     exact⟨p120,v138,v134,v136,hs.to ⟨rfl,trivial⟩,m.sub (a3 (a0 (a1 (a0 .n))))⟩
    ·refine eL (c:=cB) (cap:=1000) hs m rfl rfl fQ gS lS qP rfl rfl rfl fun v141 w142 m a hs=>?_
     refine wpList_nil (aB ⟨(m.sub .n),?_⟩)
     refine bU (i:=0) (by kernel_rfl) rfl ?_
     refine eL (c:=aM) (cap:=1000) hs m rfl rfl eY gG kK qN rfl rfl rfl fun v143 w144 m a hs=>?_
     refine wpList_nil (aB ⟨(m.sub .n),?_⟩)
     refine kY hs (m.sub .n) 3 (h1:=k_ rfl (bW (cs:=[v143.v,v134.v,v141.v]) rI jL rfl rfl)) (k:=fun a hs=>?_)
     refine bU (i:=5) (by kernel_rfl) rfl ?_
     refine bP hs m (dZ s3 (t:=bR)) fun a w145 hs m=>?_
     refine wpList_nil (aB ⟨(m.sub .n),?_⟩)
     refine dC (by kernel_rfl) (aB ?_)
     exact⟨p120,v141,v134,v143,hs.to ⟨rfl,trivial⟩,m.sub (a3 (a1 (a1 (a0 .n))))⟩
   ·refine eL (c:=cB) (cap:=1000) hs m rfl rfl fQ gS lS qP rfl rfl rfl fun v146 w147 m a hs=>?_
    refine wpList_nil (aB ⟨(m.sub .n),?_⟩)
    refine kV (i:=0) (j:=1) (by kernel_rfl) rfl rfl ?_ ?_
    ·refine eL (c:=aM) (cap:=1000) hs m rfl rfl eY gG kK qN rfl rfl rfl fun v148 w149 m a hs=>?_
     refine wpList_nil (aB ⟨(m.sub .n),?_⟩)
     refine bU (i:=1) (by kernel_rfl) rfl ?_
     refine eL (c:=aS) (cap:=1000) hs m rfl rfl fP gQ lW qO rfl rfl rfl fun v150 w151 m a hs=>?_
     refine wpList_nil (aB ⟨(m.sub .n),?_⟩)
     refine kY hs (m.sub .n) 3 (h1:=k_ rfl (bW (cs:=[v148.v,v150.v,v146.v]) rI jL rfl rfl)) (k:=fun a hs=>?_)
     refine bU (i:=5) (by kernel_rfl) rfl ?_
     refine bP hs m (dZ s3 (t:=bR)) fun a w152 hs m=>?_
     refine wpList_nil (aB ⟨(m.sub .n),?_⟩)
     refine dC (by kernel_rfl) (aB ?_)
     exact⟨p120,v146,v150,v148,hs.to ⟨rfl,trivial⟩,m.sub (a3 (a2 (a0 (a0 .n))))⟩
    ·refine eL (c:=aS) (cap:=1000) hs m rfl rfl fP gQ lW qO rfl rfl rfl fun v153 w154 m a hs=>?_
     refine wpList_nil (aB ⟨(m.sub .n),?_⟩)
     refine bU (i:=0) (by kernel_rfl) rfl ?_
     refine eL (c:=aM) (cap:=1000) hs m rfl rfl eY gG kK qN rfl rfl rfl fun v155 w156 m a hs=>?_
     refine wpList_nil (aB ⟨(m.sub .n),?_⟩)
     refine kY hs (m.sub .n) 3 (h1:=k_ rfl (bW (cs:=[v155.v,v153.v,v146.v]) rI jL rfl rfl)) (k:=fun a hs=>?_)
     refine bU (i:=5) (by kernel_rfl) rfl ?_
     refine bP hs m (dZ s3 (t:=bR)) fun a w157 hs m=>?_
     refine wpList_nil (aB ⟨(m.sub .n),?_⟩)
     refine dC (by kernel_rfl) (aB ?_)
     exact⟨p120,v146,v153,v155,hs.to ⟨rfl,trivial⟩,m.sub (a3 (a2 (a1 (a0 .n))))⟩
 rintro a w158 ⟨y1,y2,y3,y4,hs,m⟩
 refine wK (fun a w=>∃ y159:Addr,∃ y160:SH,∃ y161:SH,St 11 [(0,.pointer (some (bK y159 0)))] a/\Hp w0 (hh w0) [Bx y159 142 (cPc y161.v y160.v y4.v y3.v y2.v),Sv 14 161 y160.v (([]:List TEvent).map eI),Sv 12 48 y161.v (([]:List TLease).map aV),Bx y1 29 [y4.v,y3.v,y2.v],Sv 7 56 y2.v (([]:List cH).map cB),Sv 7 54 y3.v (([]:List bA).map aS),Sv 4 51 y4.v (([]:List bD).map aM)] w) ?_ ?_
 ·refine drL m (a0 (a0 (a0 (a0 .n)))) fun w162 m=>?_
  refine kY hs (m.sub (a0 (a0 (a0 (a0 .n))))) 2 (h1:=k_ rfl (cN [y4.v,y3.v,y2.v])) (k:=fun a hs=>?_)
  refine kV (i:=0) (j:=1) (by kernel_rfl) rfl rfl ?_ ?_
  ·refine eL (c:=aV) (cap:=1000) hs m rfl rfl eR fZ mY vN rfl rfl rfl fun v163 w164 m a hs=>?_
   refine wpList_nil (aB ⟨(m.sub (a1 (a1 (a1 (a1 .n))))),?_⟩)
   refine bU (i:=1) (by kernel_rfl) rfl ?_
   refine eL (c:=eI) (cap:=1000) hs m rfl rfl oP oM zN aFN rfl rfl rfl fun v165 w166 m a hs=>?_
   refine wpList_nil (aB ⟨(m.sub (a2 (a2 (a2 (a2 .n))))),?_⟩)
   refine kY hs (m.sub (a2 (a2 (a2 (a2 .n))))) 3 (h1:=k_ rfl (bW (cs:=cPc v163.v v165.v y4.v y3.v y2.v) aUR aUZ rfl rfl)) (k:=fun a hs=>?_)
   refine bU (i:=4) (by kernel_rfl) rfl ?_
   refine dU (cs:=cPc v163.v v165.v y4.v y3.v y2.v) hs m rfl rfl rfl fun p167 w168 m a hs=>?_
   refine wpList_nil (aB ⟨(m.sub (a3 (a3 (a3 (a3 .n))))),?_⟩)
   refine kY hs (m.sub (a3 (a3 (a3 (a3 .n))))) 5 (k:=fun a hs=>?_)
   refine dC (by kernel_rfl) (aB ?_)
   exact⟨p167,v165,v163,hs.to ⟨rfl,trivial⟩,m.sub (a0 (a0 (a0 (a0 (a0 (a0 (a0 .n)))))))⟩
  ·refine eL (c:=eI) (cap:=1000) hs m rfl rfl oP oM zN aFN rfl rfl rfl fun v169 w170 m a hs=>?_
   refine wpList_nil (aB ⟨(m.sub (a1 (a1 (a1 (a1 .n))))),?_⟩)
   refine bU (i:=0) (by kernel_rfl) rfl ?_
   refine eL (c:=aV) (cap:=1000) hs m rfl rfl eR fZ mY vN rfl rfl rfl fun v171 w172 m a hs=>?_
   refine wpList_nil (aB ⟨(m.sub (a2 (a2 (a2 (a2 .n))))),?_⟩)
   refine kY hs (m.sub (a2 (a2 (a2 (a2 .n))))) 3 (h1:=k_ rfl (bW (cs:=cPc v171.v v169.v y4.v y3.v y2.v) aUR aUZ rfl rfl)) (k:=fun a hs=>?_)
   refine bU (i:=4) (by kernel_rfl) rfl ?_
   refine dU (cs:=cPc v171.v v169.v y4.v y3.v y2.v) hs m rfl rfl rfl fun p173 w174 m a hs=>?_
   refine wpList_nil (aB ⟨(m.sub (a3 (a3 (a3 (a3 .n))))),?_⟩)
   refine kY hs (m.sub (a3 (a3 (a3 (a3 .n))))) 5 (k:=fun a hs=>?_)
   refine dC (by kernel_rfl) (aB ?_)
   exact⟨p173,v169,v171,hs.to ⟨rfl,trivial⟩,m.sub (a0 (a1 (a0 (a0 (a0 (a0 (a0 .n)))))))⟩
 rintro a w175 ⟨y159,y160,y161,hs,m⟩
 refine wp_ret ?_
 refine bH hs (vs:=[.pointer (some (bK y159 0))]) rfl ⟨rfl,trivial⟩ ?_
 replace m:=(m.sub (a0 (a1 (a0 (a3 (a2 (a1 (a0 .n)))))))).closePc (p:=y159) (A:=(⟨([]:List TLease),([]:List TEvent),([]:List bD),([]:List bA),([]:List cH)⟩:PcM))
 rw[(show (⟨([]:List TLease),([]:List TEvent),([]:List bD),([]:List bA),([]:List cH)⟩:PcM)=(⟨[],[],[],[],[]⟩:PcM) by(rfl))] at m
 refine⟨_,rfl,y159,?_,m.sub (a0 .n)⟩
 rfl
end Go.Proofs.YtnbpodjbemfpbaaGreat.Fw
set_option linter.all false
set_option maxHeartbeats 4000000
set_option maxRecDepth 100000
namespace Go.Proofs.YtnbpodjbemfpbaaGreat.Fw
open Go
theorem aYI (ppl:Addr) (pl:PcM) (pag:Addr) (ag:hF) (bM:Fx .i64) (aW:fC) (aU:Fx .i64) (aZ:Fx .i64) (bJ:SH) (aJ:List TLease) (cM:SH) (bC:List TEvent) (aY:SH) (aE:List bD) (aX:SH) (aG:List bA) (bE:SH) (aK:List cH) (w0:World) (R:Hh) (dI:RdS R 12 bJ.v (aJ.map aV)) (eQ:RdS R 14 cM.v (bC.map eI)) (dE:RdS R 4 aY.v (aE.map aM)) (dD:RdS R 7 aX.v (aG.map aS)) (dM:RdS R 7 bE.v (aK.map cB)) (B0:ag.view.length<=2000000000) (B1:ag.Routes.length<=2000000000) (B2:ag.Neighs.length<=2000000000) (B3:ag.Fdbs.length<=2000000000) (B4:ag.skipped.length<=2000000000000) (S0:aJ.length<=1048576) (S1:bC.length<=1048576) (S2:aE.length<=1048576) (S3:aG.length<=1048576) (S4:aK.length<=1048576) (m:Hp w0 R [PcP ppl pl,tP pag ag] w0):Calls Tryz.prog 78 ⟨[.pointer (some (bK ppl 0)),.pointer (some (bK pag 0)),.agg ⟨sY bM aW aU aZ bJ.v cM.v aY.v aX.v bE.v⟩]⟩ w0 fun e w'=>∃ v,e= .returned v/\(v=(.tuple ⟨[.int .i64 (sW ag (⟨bM,aW,aU,aZ,aJ,bC,aE,aG,aK⟩:pT)),.bool true]⟩)/\Hp w0 R [PcP ppl (⟨lN aJ,kD bC 70,dW lG aE 70,dW lF aG 70,dW lE aK 70⟩:PcM),tP pag (jT ag (⟨bM,aW,aU,aZ,aJ,bC,aE,aG,aK⟩:pT))] w'):=by
 have lr0:=aLB aJ
 have lr1:=aF7 (l:=bC) (k:=70)
 have lr2:=tL (mk:=lG) (l:=aE) (k:=70)
 have lr3:=tL (mk:=lF) (l:=aG) (k:=70)
 have lr4:=tL (mk:=lE) (l:=aK) (k:=70)
 have kB:=dI.bd
 have oS:=eQ.bd
 have iX:=dE.bd
 have iW:=dD.bd
 have kC:=dM.bd
 refine enter (n:=96) Tryz.func78 rfl rfl rfl fun a (hs:St 96 [(0,.pointer (some (bK ppl 0))),(1,.pointer (some (bK pag 0))),(2,.agg ⟨sY bM aW aU aZ bJ.v cM.v aY.v aX.v bE.v⟩)] a)=>?_
 have mo:=m.openPc r0
 obtain⟨x1,x2,x3,x4,x5,m⟩:=mo
 refine bN ?_
 refine dU (cs:=sY bM aW aU aZ bJ.v cM.v aY.v aX.v bE.v) hs m rfl (by kernel_rfl) rfl fun p6 w7 m a hs=>?_
 refine bP hs m gC fun a w_ hs m=>?_
 refine wK (fun a w=>∃ y8:SH,St 96 [(0,.pointer (some (bK ppl 0))),(1,.pointer (some (bK pag 0))),(5,.pointer (some (bK p6 0)))] a/\Hp w0 R [Sv 12 48 y8.v ((lN aJ).map aV),Bx p6 77 (sY bM aW aU aZ bJ.v cM.v aY.v aX.v bE.v),Bx ppl 142 (cPc y8.v x2.v x3.v x4.v x5.v),Sv 14 161 x2.v (pl.events.map eI),Sv 4 51 x3.v (pl.Routes.map aM),Sv 7 54 x4.v (pl.Neighs.map aS),Sv 7 56 x5.v (pl.Fdbs.map cB),tP pag ag] w) ?_ ?_
 ·refine drL m (a0 (a2 (a2 (a2 (a2 (a2 .n)))))) fun w9 m=>?_
  refine pA hs (m.sub (a0 (a2 (a2 (a2 (a2 (a2 .n))))))) 0 1 2 3 6 7 (k:=fun a hs=>?_)
  refine kY hs (m.sub (a0 (a2 (a2 (a2 (a2 (a2 .n))))))) 8 (k:=fun a hs=>?_)
  refine kV (i:=4) (j:=9) (by kernel_rfl) rfl rfl ?_ ?_
  ·refine bP hs m eO fun a w_ hs m=>?_
   refine wpList_nil (aB ⟨(m.sub (a0 (a2 (a2 (a2 (a2 (a2 .n))))))),?_⟩)
   have hc10:=((m.rdv r2)).ncapM
   refine kY hs (m.sub (a0 (a2 (a2 (a2 (a2 (a2 .n))))))) 5 (h1:=k_ rfl (cE (i:=0) (j:=0) (c:=x1.c) rfl eR fZ rfl ⟨_,rfl⟩ rfl (fun h=>by cases h) (by omega) (by omega) (by omega))) (k:=fun a hs=>?_)
   rw[mQ] at hs
   refine bU (i:=9) (by kernel_rfl) rfl ?_
   refine jS m hs aVB (vE bJ aJ _ (m.rd dI) (by omega)) fun v11 w12 m a hs=>?_
   simp only[iG] at m
   refine wpList_nil (aB ⟨(m.sub (a1 (a3 (a3 (a3 (a3 (a3 .n))))))),?_⟩)
   replace m:=m.cut0 (c:=aV) (xs:=pl.leases) (x:=x1) s3
   refine bU (i:=10) (by kernel_rfl) rfl ?_
   refine cF (c:=aV) (xs:=[]) (ys:=lN aJ) hs m rfl rfl eR xF fZ mY rfl vN rfl r3 (m.rdv r0) (fun _=>rfl) (by(simp;omega)) rfl fun v13 w14 m a hs=>?_
   refine wpList_nil (aB ⟨(m.sub (a2 (a3 (a3 (a3 (a3 (a3 .n))))))),?_⟩)
   refine tI hs (m.sub (a2 (a3 (a3 (a3 (a3 (a3 .n))))))) 11 12 (k:=fun a hs=>?_)
   refine bU (i:=13) (by kernel_rfl) rfl ?_
   refine bP hs m (dZ s3 (t:=bR)) fun a w15 hs m=>?_
   refine wpList_nil (aB ⟨(m.sub (a2 (a3 (a3 (a3 (a3 (a3 .n))))))),?_⟩)
   refine dC (by kernel_rfl) (aB ?_)
   exact⟨v13,hs.to ⟨rfl,rfl,rfl,trivial⟩,m.sub (a0 (a1 (a1 (a1 (a1 (a1 (a1 (a1 .n))))))))⟩
  ·refine jS m hs aVB (vE bJ aJ _ (m.rd dI) (by omega)) fun v16 w17 m a hs=>?_
   simp only[iG] at m
   refine wpList_nil (aB ⟨(m.sub (a1 (a3 (a3 (a3 (a3 (a3 .n))))))),?_⟩)
   refine bU (i:=4) (by kernel_rfl) rfl ?_
   refine bP hs m eO fun a w_ hs m=>?_
   refine wpList_nil (aB ⟨(m.sub (a1 (a3 (a3 (a3 (a3 (a3 .n))))))),?_⟩)
   have hc18:=((m.rdv r3)).ncapM
   refine kY hs (m.sub (a1 (a3 (a3 (a3 (a3 (a3 .n))))))) 5 (h1:=k_ rfl (cE (i:=0) (j:=0) (c:=x1.c) rfl eR fZ rfl ⟨_,rfl⟩ rfl (fun h=>by cases h) (by omega) (by omega) (by omega))) (k:=fun a hs=>?_)
   rw[mQ] at hs
   replace m:=m.cut0 (c:=aV) (xs:=pl.leases) (x:=x1) s3
   refine bU (i:=10) (by kernel_rfl) rfl ?_
   refine cF (c:=aV) (xs:=[]) (ys:=lN aJ) hs m rfl rfl eR xF fZ mY rfl vN rfl r3 (m.rdv r0) (fun _=>rfl) (by(simp;omega)) rfl fun v19 w20 m a hs=>?_
   refine wpList_nil (aB ⟨(m.sub (a2 (a3 (a3 (a3 (a3 (a3 .n))))))),?_⟩)
   refine tI hs (m.sub (a2 (a3 (a3 (a3 (a3 (a3 .n))))))) 11 12 (k:=fun a hs=>?_)
   refine bU (i:=13) (by kernel_rfl) rfl ?_
   refine bP hs m (dZ s3 (t:=bR)) fun a w21 hs m=>?_
   refine wpList_nil (aB ⟨(m.sub (a2 (a3 (a3 (a3 (a3 (a3 .n))))))),?_⟩)
   refine dC (by kernel_rfl) (aB ?_)
   exact⟨v19,hs.to ⟨rfl,rfl,rfl,trivial⟩,m.sub (a0 (a1 (a1 (a1 (a1 (a1 (a1 (a1 .n))))))))⟩
 rintro a w22 ⟨y8,hs,m⟩
 refine wK (fun a w=>∃ y23:SH,St 96 [(0,.pointer (some (bK ppl 0))),(1,.pointer (some (bK pag 0))),(5,.pointer (some (bK p6 0)))] a/\Hp w0 R [Sv 14 161 y23.v ((kD bC 70).map eI),Sv 12 48 y8.v ((lN aJ).map aV),Bx p6 77 (sY bM aW aU aZ bJ.v cM.v aY.v aX.v bE.v),Bx ppl 142 (cPc y8.v y23.v x3.v x4.v x5.v),Sv 4 51 x3.v (pl.Routes.map aM),Sv 7 54 x4.v (pl.Neighs.map aS),Sv 7 56 x5.v (pl.Fdbs.map cB),tP pag ag] w) ?_ ?_
 ·refine drL m (a0 (a0 (a2 (a2 (a2 (a2 .n)))))) fun w24 m=>?_
  refine pA hs (m.sub (a0 (a0 (a2 (a2 (a2 (a2 .n))))))) 0 1 2 3 6 7 (k:=fun a hs=>?_)
  refine kV (i:=4) (j:=8) (by kernel_rfl) rfl rfl ?_ ?_
  ·refine bP hs m eO fun a w_ hs m=>?_
   refine wpList_nil (aB ⟨(m.sub (a0 (a0 (a2 (a2 (a2 (a2 .n))))))),?_⟩)
   have hc25:=((m.rdv r3)).ncapM
   refine kY hs (m.sub (a0 (a0 (a2 (a2 (a2 (a2 .n))))))) 5 (h1:=k_ rfl (cE (i:=0) (j:=0) (c:=x2.c) rfl oP oM rfl ⟨_,rfl⟩ rfl (fun h=>by cases h) (by omega) (by omega) (by omega))) (k:=fun a hs=>?_)
   rw[mQ] at hs
   refine bU (i:=8) (by kernel_rfl) rfl ?_
   refine jS m hs aOZ (vD cM bC _ (m.rd eQ) (by omega)) fun v26 w27 m a hs=>?_
   simp only[iG] at m
   refine wpList_nil (aB ⟨(m.sub (a1 (a1 (a3 (a3 (a3 (a3 .n))))))),?_⟩)
   replace m:=m.cut0 (c:=eI) (xs:=pl.events) (x:=x2) s4
   refine bU (i:=9) (by kernel_rfl) rfl ?_
   refine cF (c:=eI) (xs:=[]) (ys:=kD bC 70) hs m rfl rfl oP aSR oM zN rfl aFN rfl r4 (m.rdv r0) (fun _=>rfl) (by(simp;omega)) rfl fun v28 w29 m a hs=>?_
   refine wpList_nil (aB ⟨(m.sub (a2 (a2 (a3 (a3 (a3 (a3 .n))))))),?_⟩)
   refine tI hs (m.sub (a2 (a2 (a3 (a3 (a3 (a3 .n))))))) 10 11 (k:=fun a hs=>?_)
   refine bU (i:=12) (by kernel_rfl) rfl ?_
   refine bP hs m (dZ s4 (t:=bR)) fun a w30 hs m=>?_
   refine wpList_nil (aB ⟨(m.sub (a2 (a2 (a3 (a3 (a3 (a3 .n))))))),?_⟩)
   refine dC (by kernel_rfl) (aB ?_)
   exact⟨v28,hs.to ⟨rfl,rfl,rfl,trivial⟩,m.sub (a0 (a1 (a1 (a1 (a1 (a1 (a1 (a1 .n))))))))⟩
  ·refine jS m hs aOZ (vD cM bC _ (m.rd eQ) (by omega)) fun v31 w32 m a hs=>?_
   simp only[iG] at m
   refine wpList_nil (aB ⟨(m.sub (a1 (a1 (a3 (a3 (a3 (a3 .n))))))),?_⟩)
   refine bU (i:=4) (by kernel_rfl) rfl ?_
   refine bP hs m eO fun a w_ hs m=>?_
   refine wpList_nil (aB ⟨(m.sub (a1 (a1 (a3 (a3 (a3 (a3 .n))))))),?_⟩)
   have hc33:=((m.rdv r4)).ncapM
   refine kY hs (m.sub (a1 (a1 (a3 (a3 (a3 (a3 .n))))))) 5 (h1:=k_ rfl (cE (i:=0) (j:=0) (c:=x2.c) rfl oP oM rfl ⟨_,rfl⟩ rfl (fun h=>by cases h) (by omega) (by omega) (by omega))) (k:=fun a hs=>?_)
   rw[mQ] at hs
   replace m:=m.cut0 (c:=eI) (xs:=pl.events) (x:=x2) s4
   refine bU (i:=9) (by kernel_rfl) rfl ?_
   refine cF (c:=eI) (xs:=[]) (ys:=kD bC 70) hs m rfl rfl oP aSR oM zN rfl aFN rfl r4 (m.rdv r0) (fun _=>rfl) (by(simp;omega)) rfl fun v34 w35 m a hs=>?_
   refine wpList_nil (aB ⟨(m.sub (a2 (a2 (a3 (a3 (a3 (a3 .n))))))),?_⟩)
   refine tI hs (m.sub (a2 (a2 (a3 (a3 (a3 (a3 .n))))))) 10 11 (k:=fun a hs=>?_)
   refine bU (i:=12) (by kernel_rfl) rfl ?_
   refine bP hs m (dZ s4 (t:=bR)) fun a w36 hs m=>?_
   refine wpList_nil (aB ⟨(m.sub (a2 (a2 (a3 (a3 (a3 (a3 .n))))))),?_⟩)
   refine dC (by kernel_rfl) (aB ?_)
   exact⟨v34,hs.to ⟨rfl,rfl,rfl,trivial⟩,m.sub (a0 (a1 (a1 (a1 (a1 (a1 (a1 (a1 .n))))))))⟩
 rintro a w37 ⟨y23,hs,m⟩
 refine bT hs m (x_ aYS (e_ (p_ (cN [aY.v,aX.v,bE.v])) bR)) fun a w_ hs m=>?_
 refine xA (us:=[.pointer (some (bK ppl 0)),.agg ⟨[aY.v,aX.v,bE.v]⟩]) (Rc:=fun v w'=>∃ v61:SH,∃ v56:SH,∃ v51:SH,v=(.agg ⟨[v51.v,v56.v,v61.v]⟩)/\Hp w0 R [Sv 7 56 v61.v ((dW lE aK 70).map cB),Sv 7 54 v56.v ((dW lF aG 70).map aS),Sv 4 51 v51.v ((dW lG aE 70).map aM),Sv 14 161 y23.v ((kD bC 70).map eI),Sv 12 48 y8.v ((lN aJ).map aV),Bx p6 77 (sY bM aW aU aZ bJ.v cM.v aY.v aX.v bE.v),Bx ppl 142 (cPc y8.v y23.v v51.v v56.v v61.v),tP pag ag] w') hs rfl rfl aZA rfl (enter (n:=51) Tryz.func120 rfl rfl rfl fun a (hs:St 51 [(0,.pointer (some (bK ppl 0))),(1,.agg ⟨[aY.v,aX.v,bE.v]⟩)] a)=>?_) rfl ?_
 ·refine bN ?_
  refine dU (cs:=[aY.v,aX.v,bE.v]) hs m rfl rfl rfl fun p38 w39 m a hs=>?_
  refine bZ hs m jL rfl fun p40 w41 m a hs=>?_
  refine bP hs m (x_ eZ (e_ (p_ (cN [aY.v,aX.v,bE.v])) bR)) fun a w_ hs m=>?_
  refine oL m hs aZZ (zL aY aE aX aG bE aK _ (m.rd dE) (m.rd dD) (m.rd dM) (by omega) (by omega) (by omega)) fun v42 v43 v44 w45 m a hs=>?_
  simp only[iG] at m
  refine bZ hs m jL rfl fun p46 w47 m a hs=>?_
  refine bP hs m (dZ s0 (t:=iA)) fun a w48 hs m=>?_
  refine vK m (a0 (a0 (a0 (a0 (a0 (a0 (a0 (a0 (a0 (a2 (a2 (a2 .n)))))))))))) fun w49 m=>?_
  refine pA hs (m.sub (a0 (a0 (a0 (a0 (a0 (a0 (a0 (a0 (a0 (a2 (a2 (a2 .n))))))))))))) 0 1 2 3 4 7 (k:=fun a hs=>?_)
  refine kY hs (m.sub (a0 (a0 (a0 (a0 (a0 (a0 (a0 (a0 (a0 (a2 (a2 (a2 .n))))))))))))) 8 (k:=fun a hs=>?_)
  refine bU (i:=5) (by kernel_rfl) rfl ?_
  refine bP hs m eO fun a w_ hs m=>?_
  refine wpList_nil (aB ⟨(m.sub (a0 (a0 (a0 (a0 (a0 (a0 (a0 (a0 (a0 (a2 (a2 (a2 .n))))))))))))),?_⟩)
  have hc50:=((m.rdv r10)).ncapM
  refine kY hs (m.sub (a0 (a0 (a0 (a0 (a0 (a0 (a0 (a0 (a0 (a2 (a2 (a2 .n))))))))))))) 6 (h1:=k_ rfl (cE (i:=0) (j:=0) (c:=x3.c) rfl eY gG rfl ⟨_,rfl⟩ rfl (fun h=>by cases h) (by omega) (by omega) (by omega))) (k:=fun a hs=>?_)
  rw[mQ] at hs
  replace m:=m.cut0 (c:=aM) (xs:=pl.Routes) (x:=x3) s10
  refine bU (i:=9) (by kernel_rfl) rfl ?_
  refine cF (c:=aM) (xs:=[]) (ys:=dW lG aE 70) hs m rfl rfl eY aB6 gG kK rfl qN rfl r10 (m.rdv r1) (fun _=>rfl) (by(simp;omega)) rfl fun v51 w52 m a hs=>?_
  refine wpList_nil (aB ⟨(m.sub (a1 (a1 (a1 (a1 (a1 (a1 (a1 (a1 (a1 (a2 (a2 (a2 .n))))))))))))),?_⟩)
  refine zh3 hs (m.sub (a1 (a1 (a1 (a1 (a1 (a1 (a1 (a1 (a1 (a2 (a2 (a2 .n))))))))))))) 10 11 12 (k:=fun a hs=>?_)
  refine bU (i:=13) (by kernel_rfl) rfl ?_
  refine bP hs m (dZ s10 (t:=bR)) fun a w53 hs m=>?_
  refine wpList_nil (aB ⟨(m.sub (a1 (a1 (a1 (a1 (a1 (a1 (a1 (a1 (a1 (a2 (a2 (a2 .n))))))))))))),?_⟩)
  refine dC (by kernel_rfl) (aB ?_)
  refine vK m (a0 (a0 (a0 (a0 (a0 (a0 (a0 (a0 (a0 (a0 (a2 (a2 .n)))))))))))) fun w54 m=>?_
  refine pA hs (m.sub (a0 (a0 (a0 (a0 (a0 (a0 (a0 (a0 (a0 (a0 (a2 (a2 .n))))))))))))) 0 1 2 3 4 7 (k:=fun a hs=>?_)
  refine kY hs (m.sub (a0 (a0 (a0 (a0 (a0 (a0 (a0 (a0 (a0 (a0 (a2 (a2 .n))))))))))))) 8 (k:=fun a hs=>?_)
  refine bU (i:=5) (by kernel_rfl) rfl ?_
  refine bP hs m eO fun a w_ hs m=>?_
  refine wpList_nil (aB ⟨(m.sub (a0 (a0 (a0 (a0 (a0 (a0 (a0 (a0 (a0 (a0 (a2 (a2 .n))))))))))))),?_⟩)
  have hc55:=((m.rdv r11)).ncapM
  refine kY hs (m.sub (a0 (a0 (a0 (a0 (a0 (a0 (a0 (a0 (a0 (a0 (a2 (a2 .n))))))))))))) 6 (h1:=k_ rfl (cE (i:=0) (j:=0) (c:=x4.c) rfl fP gQ rfl ⟨_,rfl⟩ rfl (fun h=>by cases h) (by omega) (by omega) (by omega))) (k:=fun a hs=>?_)
  rw[mQ] at hs
  replace m:=m.cut0 (c:=aS) (xs:=pl.Neighs) (x:=x4) s11
  refine bU (i:=9) (by kernel_rfl) rfl ?_
  refine cF (c:=aS) (xs:=[]) (ys:=dW lF aG 70) hs m rfl rfl fP aB7 gQ lW rfl qO rfl r11 (m.rdv r3) (fun _=>rfl) (by(simp;omega)) rfl fun v56 w57 m a hs=>?_
  refine wpList_nil (aB ⟨(m.sub (a1 (a1 (a1 (a1 (a1 (a1 (a1 (a1 (a1 (a1 (a2 (a2 .n))))))))))))),?_⟩)
  refine zh3 hs (m.sub (a1 (a1 (a1 (a1 (a1 (a1 (a1 (a1 (a1 (a1 (a2 (a2 .n))))))))))))) 10 11 12 (k:=fun a hs=>?_)
  refine bU (i:=13) (by kernel_rfl) rfl ?_
  refine bP hs m (dZ s11 (t:=bR)) fun a w58 hs m=>?_
  refine wpList_nil (aB ⟨(m.sub (a1 (a1 (a1 (a1 (a1 (a1 (a1 (a1 (a1 (a1 (a2 (a2 .n))))))))))))),?_⟩)
  refine dC (by kernel_rfl) (aB ?_)
  refine vK m (a0 (a0 (a0 (a0 (a0 (a0 (a0 (a0 (a0 (a0 (a0 (a2 .n)))))))))))) fun w59 m=>?_
  refine pA hs (m.sub (a0 (a0 (a0 (a0 (a0 (a0 (a0 (a0 (a0 (a0 (a0 (a2 .n))))))))))))) 0 1 2 3 4 7 (k:=fun a hs=>?_)
  refine kY hs (m.sub (a0 (a0 (a0 (a0 (a0 (a0 (a0 (a0 (a0 (a0 (a0 (a2 .n))))))))))))) 8 (k:=fun a hs=>?_)
  refine bU (i:=5) (by kernel_rfl) rfl ?_
  refine bP hs m eO fun a w_ hs m=>?_
  refine wpList_nil (aB ⟨(m.sub (a0 (a0 (a0 (a0 (a0 (a0 (a0 (a0 (a0 (a0 (a0 (a2 .n))))))))))))),?_⟩)
  have hc60:=((m.rdv r12)).ncapM
  refine kY hs (m.sub (a0 (a0 (a0 (a0 (a0 (a0 (a0 (a0 (a0 (a0 (a0 (a2 .n))))))))))))) 6 (h1:=k_ rfl (cE (i:=0) (j:=0) (c:=x5.c) rfl fQ gS rfl ⟨_,rfl⟩ rfl (fun h=>by cases h) (by omega) (by omega) (by omega))) (k:=fun a hs=>?_)
  rw[mQ] at hs
  replace m:=m.cut0 (c:=cB) (xs:=pl.Fdbs) (x:=x5) s12
  refine bU (i:=9) (by kernel_rfl) rfl ?_
  refine cF (c:=cB) (xs:=[]) (ys:=dW lE aK 70) hs m rfl rfl fQ aB8 gS lS rfl qP rfl r12 (m.rdv r5) (fun _=>rfl) (by(simp;omega)) rfl fun v61 w62 m a hs=>?_
  refine wpList_nil (aB ⟨(m.sub (a1 (a1 (a1 (a1 (a1 (a1 (a1 (a1 (a1 (a1 (a1 (a2 .n))))))))))))),?_⟩)
  refine zh3 hs (m.sub (a1 (a1 (a1 (a1 (a1 (a1 (a1 (a1 (a1 (a1 (a1 (a2 .n))))))))))))) 10 11 12 (k:=fun a hs=>?_)
  refine bU (i:=13) (by kernel_rfl) rfl ?_
  refine bP hs m (dZ s12 (t:=bR)) fun a w63 hs m=>?_
  refine wpList_nil (aB ⟨(m.sub (a1 (a1 (a1 (a1 (a1 (a1 (a1 (a1 (a1 (a1 (a1 (a2 .n))))))))))))),?_⟩)
  refine dC (by kernel_rfl) (aB ?_)
  refine bT hs m (x_ gC (e_ (p_ (cN [v51.v,v56.v,v61.v])) (dZ s7 (t:=eZ)))) fun a w64 hs m=>?_
  refine bH hs (vs:=[.agg ⟨[v51.v,v56.v,v61.v]⟩]) rfl ⟨cZ (cs:=[v51.v,v56.v,v61.v]) m rfl xH r7 rfl,trivial⟩ ?_
  exact⟨_,rfl,v61,v56,v51,rfl,m.sub (a0 (a0 (a0 (a6 (a6 (a6 (a6 (a6 .n))))))))⟩
 rintro _ w65 ⟨v61,v56,v51,rfl,m⟩ a hs
 have hc66:=(m.rdv r0).ncapM
 have hc67:=(m.rdv r1).ncapM
 have hc68:=(m.rdv r2).ncapM
 refine bZ hs m jL rfl fun p69 w70 m a hs=>?_
 refine bP hs m (dZ s0 (t:=x_ eZ (e_ (p_ (cN (sY bM aW aU aZ bJ.v cM.v aY.v aX.v bE.v))) bR))) fun a w71 hs m=>?_
 refine bZ hs m aYM rfl fun p72 w73 m a hs=>?_
 refine bP hs m (dZ s0 (t:=gZ)) fun a w74 hs m=>?_
 refine bP hs m (e_ (p_ (bQ m rfl eR (dX dI))) (x_ eO (e_ (p_ (bQ m rfl eR (fV r6))) bR))) fun a w_ hs m=>?_
 have hc75:=((m.rdv r6)).ncapM
 refine bP hs m (e_ (p_ (cE (i:=0) (j:=aJ.length) (c:=(lN aJ).length) rfl eR fZ rfl ⟨_,rfl⟩ ⟨_,rfl⟩ (fun h=>by cases h) (by omega) (by omega) (by omega))) (x_ iA (dZ s0 (t:=gX)))) fun a w76 hs m=>?_
 refine bP hs m (e_ (p_ (bQ m rfl oP (dX eQ))) (x_ eO (e_ (p_ (bQ m rfl oP (fV r5))) bR))) fun a w_ hs m=>?_
 have hc77:=((m.rdv r5)).ncapM
 refine bP hs m (e_ (p_ (cE (i:=0) (j:=bC.length) (c:=(kD bC 70).length) rfl oP oM rfl ⟨_,rfl⟩ ⟨_,rfl⟩ (fun h=>by cases h) (by omega) (by omega) (by omega))) (x_ eO (dZ s0 (t:=x_ eZ (e_ (p_ (cN [v51.v,v56.v,v61.v])) bR))))) fun a w78 hs m=>?_
 refine cC hs m rfl rfl a3D rfl (a0O v51 (dW lG aE 70) v56 (dW lF aG 70) v61 (dW lE aK 70) _ (m.rdv r4) (m.rdv r3) (m.rdv r2) (by simp [dW]) (by simp [dW]) (by simp [dW])) rfl fun w79 m a hs=>?_
 refine bP hs m (x_ eO (dZ s0 (t:=x_ gC (e_ (p_ (cN (sY bM aW aU aZ ((kX 12 y8 0 aJ.length ((lN aJ).length)).v) ((kX 14 y23 0 bC.length ((kD bC 70).length)).v) ((kX 4 v51 0 ((dW lG aE 70).length-70) (dW lG aE 70).length).v) ((kX 7 v56 0 ((dW lF aG 70).length-70) (dW lF aG 70).length).v) ((kX 7 v61 0 ((dW lE aK 70).length-70) (dW lE aK 70).length).v)))) bR)))) fun a w80 hs m=>?_
 refine eW 1 (m.sub (a9 (a0 (a0 (a0 (a0 (a0 (a0 (a0 (a0 (a0 .n))))))))))) hs aVC (fun R1 hR ⟨y1,sy,ly⟩ mc=>aKO pag ag bM aW aU aZ (kX 12 y8 0 aJ.length ((lN aJ).length)) aJ (kX 14 y23 0 bC.length ((kD bC 70).length)) bC (kX 4 v51 0 ((dW lG aE 70).length-70) (dW lG aE 70).length) aE (kX 7 v56 0 ((dW lF aG 70).length-70) (dW lF aG 70).length) aG (kX 7 v61 0 ((dW lE aK 70).length-70) (dW lE aK 70).length) aK _ R1 ((aCJ sy ly r6).win (lo:=0) (hi:=aJ.length) (mx:=(lN aJ).length) (ys:=aJ) (by omega) (by omega) (by omega) (by omega) (by simp [lN,pI])) ((aCJ sy ly r5).win (lo:=0) (hi:=bC.length) (mx:=(kD bC 70).length) (ys:=bC) (by omega) (by omega) (by omega) (by omega) (by simp [kD])) ((aCJ sy ly r4).win (lo:=0) (hi:=((dW lG aE 70).length-70)) (mx:=(dW lG aE 70).length) (ys:=aE) (by omega) (by omega) (by omega) (by omega) (by simp [dW])) ((aCJ sy ly r3).win (lo:=0) (hi:=((dW lF aG 70).length-70)) (mx:=(dW lF aG 70).length) (ys:=aG) (by omega) (by omega) (by omega) (by omega) (by simp [dW])) ((aCJ sy ly r2).win (lo:=0) (hi:=((dW lE aK 70).length-70)) (mx:=(dW lE aK 70).length) (ys:=aK) (by omega) (by omega) (by omega) (by omega) (by simp [dW])) (by omega) (by omega) (by omega) (by omega) (by omega) (by omega) (by omega) (by omega) (by omega) (by omega) mc) fun w81 m a hs=>?_
 simp only[iG] at m
 refine bP hs m eZ fun a w_ hs m=>?_
 refine vK m (a0 (a0 (a0 (a0 (a0 (a0 (a0 (a0 (a0 (a0 .n)))))))))) fun w82 m=>?_
 refine zh5 hs (m.sub (a0 (a0 (a0 (a0 (a0 (a0 (a0 (a0 (a0 (a0 .n))))))))))) 0 1 2 3 4 (k:=fun a hs=>?_)
 refine bU (i:=5) (by kernel_rfl) rfl ?_
 refine jS m hs aVB (vE bJ aJ _ (m.rd dI) (by omega)) fun v83 w84 m a hs=>?_
 simp only[iG] at m
 refine wpList_nil (aB ⟨(m.sub (a1 (a1 (a1 (a1 (a1 (a1 (a1 (a1 (a1 (a1 .n))))))))))),?_⟩)
 refine bU (i:=6) (by kernel_rfl) rfl ?_
 refine cC hs m rfl rfl aZT rfl (aBN y8 (lN aJ) v83 (lN aJ) _ (m.rdv r8) (m.rdv r0) ) rfl fun w85 m a hs=>?_
 refine wpList_nil (aB ⟨(m.sub (a1 (a1 (a1 (a1 (a1 (a1 (a1 (a1 (a1 (a1 .n))))))))))),?_⟩)
 refine kY hs (m.sub (a1 (a1 (a1 (a1 (a1 (a1 (a1 (a1 (a1 (a1 .n))))))))))) 7 (k:=fun a hs=>?_)
 have hb86:(decide (lN aJ=lN aJ))=true:=by simp
 refine zh3 hs (m.sub (a1 (a1 (a1 (a1 (a1 (a1 (a1 (a1 (a1 (a1 .n))))))))))) 8 9 10 (k:=fun a hs=>?_)
 refine bU (i:=11) (by kernel_rfl) rfl ?_
 refine kU hs rfl rfl hb86 ?_
 refine jS m hs aOZ (vD cM bC _ (m.rd eQ) (by omega)) fun v87 w88 m a hs=>?_
 simp only[iG] at m
 refine wpList_nil (aB ⟨(m.sub (a2 (a2 (a2 (a2 (a2 (a2 (a2 (a2 (a2 (a2 .n))))))))))),?_⟩)
 refine bU (i:=12) (by kernel_rfl) rfl ?_
 refine kU hs rfl rfl hb86 ?_
 refine cC hs m rfl rfl aZB rfl (aHU y23 (kD bC 70) v87 (kD bC 70) _ (m.rdv r8) (m.rdv r0) ) rfl fun w89 m a hs=>?_
 refine wpList_nil (aB ⟨(m.sub (a2 (a2 (a2 (a2 (a2 (a2 (a2 (a2 (a2 (a2 .n))))))))))),?_⟩)
 refine tI hs (m.sub (a2 (a2 (a2 (a2 (a2 (a2 (a2 (a2 (a2 (a2 .n))))))))))) 13 14 (h1:=k_ rfl (aP (r:=.bool (decide (kD bC 70=kD bC 70))) rfl rfl rfl (by rw[hb86];rfl))) (k:=fun a hs=>?_)
 have hb90:(decide (kD bC 70=kD bC 70))=true:=by simp
 refine zh3 hs (m.sub (a2 (a2 (a2 (a2 (a2 (a2 (a2 (a2 (a2 (a2 .n))))))))))) 15 16 17 (h1:=kg_ rfl hb90 (cN [v51.v,v56.v,v61.v])) (h3:=kg_ rfl hb90 (cN [aY.v,aX.v,bE.v])) (k:=fun a hs=>?_)
 refine bU (i:=18) (by kernel_rfl) rfl ?_
 refine kU hs rfl rfl hb90 ?_
 refine oL m hs aZZ (zL aY aE aX aG bE aK _ (m.rd dE) (m.rd dD) (m.rd dM) (by omega) (by omega) (by omega)) fun v91 v92 v93 w94 m a hs=>?_
 simp only[iG] at m
 refine wpList_nil (aB ⟨(m.sub (a5 (a5 (a5 (a5 (a5 (a5 (a5 (a5 (a5 (a5 .n))))))))))),?_⟩)
 refine bU (i:=19) (by kernel_rfl) rfl ?_
 refine kU hs rfl rfl hb90 ?_
 refine cC hs m rfl rfl aZP rfl (aBO v51 (dW lG aE 70) v56 (dW lF aG 70) v61 (dW lE aK 70) v91 (dW lG aE 70) v92 (dW lF aG 70) v93 (dW lE aK 70) _ (m.rdv r10) (m.rdv r9) (m.rdv r8) (m.rdv r0) (m.rdv r1) (m.rdv r2) ) rfl fun w95 m a hs=>?_
 refine wpList_nil (aB ⟨(m.sub (a5 (a5 (a5 (a5 (a5 (a5 (a5 (a5 (a5 (a5 .n))))))))))),?_⟩)
 refine zh3 hs (m.sub (a5 (a5 (a5 (a5 (a5 (a5 (a5 (a5 (a5 (a5 .n))))))))))) 20 21 22 (h1:=k_ rfl (aP (r:=.bool (decide ((dW lG aE 70)=(dW lG aE 70)/\(dW lF aG 70)=(dW lF aG 70)/\(dW lE aK 70)=(dW lE aK 70)))) rfl rfl rfl (by rw[hb90];rfl))) (k:=fun a hs=>?_)
 refine dC (by kernel_rfl) (aB ?_)
 refine wp_ret ?_
 refine bH hs (vs:=[.int .i64 (sW ag (⟨bM,aW,aU,aZ,aJ,bC,aE,aG,aK⟩:pT)),.bool (decide ((dW lG aE 70)=(dW lG aE 70)/\(dW lF aG 70)=(dW lF aG 70)/\(dW lE aK 70)=(dW lE aK 70)))]) rfl ⟨rfl,rfl,trivial⟩ ?_
 replace m:=(m.sub (a14 (a12 (a11 (a10 (a9 (a8 (a0 (a0 (a0 (a0 (a0 (a0 (a0 (a0 (a0 .n)))))))))))))))).closePc (p:=ppl) (A:=(⟨(lN aJ),(kD bC 70),(dW lG aE 70),(dW lF aG 70),(dW lE aK 70)⟩:PcM))
 rw[(show (⟨(lN aJ),(kD bC 70),(dW lG aE 70),(dW lF aG 70),(dW lE aK 70)⟩:PcM)=(⟨lN aJ,kD bC 70,dW lG aE 70,dW lF aG 70,dW lE aK 70⟩:PcM) by(rfl))] at m
 exact⟨_,rfl,by rw[(show (decide ((dW lG aE 70)=(dW lG aE 70)/\(dW lF aG 70)=(dW lF aG 70)/\(dW lE aK 70)=(dW lE aK 70)):Bool)=true by(simp))];rfl,m.sub (a0 (a5 .n))⟩
end Go.Proofs.YtnbpodjbemfpbaaGreat.Fw
set_option linter.all false
set_option maxHeartbeats 4000000
set_option maxRecDepth 100000
namespace Go.Proofs.YtnbpodjbemfpbaaGreat.Fw
open Go
theorem lI (ppl:Addr) (pl:PcM) (pag:Addr) (ag:hF) (prf:Addr) (rf:gU) (gD:Fx .i64) (qK:Fx .i64) (jC:Fx .i64) (gL:Fx .i64) (eC:fC) (dP:Fx .i64) (dO:Fx .i64) (jJ:SH) (cX:List TLease) (nO:SH) (eJ:List TEvent) (iO:SH) (cP:List bD) (iN:SH) (cO:List bA) (jK:SH) (cY:List cH) (w0:World) (R:Hh) (rQ:RdS R 12 jJ.v (cX.map aV)) (xQ:RdS R 14 nO.v (eJ.map eI)) (pV:RdS R 4 iO.v (cP.map aM)) (pU:RdS R 7 iN.v (cO.map aS)) (rS:RdS R 7 jK.v (cY.map cB)) (hI:ag=iV rf) (hV:Inv rf) (B0:rf.view.length<=8388608) (B1:rf.Routes.length<=8388608) (B2:rf.Neighs.length<=8388608) (B3:rf.Fdbs.length<=8388608) (B4:rf.skipped.length<=1099511627776) (S0:cX.length<=1048576) (S1:eJ.length<=1048576) (S2:cP.length<=1048576) (S3:cO.length<=1048576) (S4:cY.length<=1048576) (m:Hp w0 R [PcP ppl pl,tP pag ag,sX prf rf] w0):Calls Tryz.prog 29 ⟨[.pointer (some (bK ppl 0)),.pointer (some (bK pag 0)),.pointer (some (bK prf 0)),.agg ⟨sV gD qK jC gL eC dP dO jJ.v nO.v iO.v iN.v jK.v⟩]⟩ w0 fun e w'=>∃ v,e= .returned v/\(v=(.bool true)/\Hp w0 R [PcP ppl (uV pl (⟨gD,qK,jC,gL,eC,dP,dO,cX,eJ,cP,cO,cY⟩:yN)),tP pag (iV (gP rf (⟨gD,qK,jC,gL,eC,dP,dO,cX,eJ,cP,cO,cY⟩:yN))),sX prf (gP rf (⟨gD,qK,jC,gL,eC,dP,dO,cX,eJ,cP,cO,cY⟩:yN))] w'):=by
 have g0:ag.view.length=rf.view.length:=by rw[hI]
 have g1:ag.Routes.length=rf.Routes.length:=by rw[hI]
 have g2:ag.Neighs.length=rf.Neighs.length:=by rw[hI]
 have g3:ag.Fdbs.length=rf.Fdbs.length:=by rw[hI]
 have g4:ag.skipped.length<=rf.skipped.length:=by rw[hI];exact aLL
 have aMC:=rQ.bd
 have aSN:=xQ.bd
 have aJ0:=pV.bd
 have aJZ:=pU.bd
 have aMD:=rS.bd
 refine enter (n:=60) Tryz.func29 rfl rfl rfl fun a (hs:St 60 [(0,.pointer (some (bK ppl 0))),(1,.pointer (some (bK pag 0))),(2,.pointer (some (bK prf 0))),(3,.agg ⟨sV gD qK jC gL eC dP dO jJ.v nO.v iO.v iN.v jK.v⟩)] a)=>?_
 refine bN ?_
 refine dU (cs:=sV gD qK jC gL eC dP dO jJ.v nO.v iO.v iN.v jK.v) hs m rfl (by kernel_rfl) rfl fun p1 w2 m a hs=>?_
 refine bP hs m aJ3 fun a w_ hs m=>?_
 refine aR hs rfl (fun h3=>?_) (fun h3=>?_)
 ·have h3p:=eq_of_beq h3
  refine bT hs m gC fun a w_ hs m=>?_
  refine eW 1 (m.sub (a2 (a0 (a0 (a0 .n))))) hs aR1 (fun R1 hR ⟨y1,sy,ly⟩ mc=>aHB pag ag jC.v _ R1  (by omega) (by omega) (by omega) (by omega) mc) fun w4 m a hs=>?_
  simp only[iG] at m
  refine bZ hs m nC rfl fun p5 w6 m a hs=>?_
  refine bP hs m (dZ s0 (t:=gX)) fun a w7 hs m=>?_
  refine eW 1 (m.sub (a4 (a0 (a0 (a0 (a0 .n)))))) hs a3Q (fun R1 hR ⟨y1,sy,ly⟩ mc=>aS8 prf rf jC.v _ R1  (by omega) (by omega) (by omega) (by omega) mc) fun w8 m a hs=>?_
  simp only[iG] at m
  refine bZ hs m nC rfl fun p9 w10 m a hs=>?_
  refine bP hs m (dZ s0 (t:=x_ eZ (e_ (p_ (cN (eS (iM ag jC.v)))) (e_ (p_ (cN (eS (oK rf jC.v)))) (e_ (p_ (mP (b:=decide (iM ag jC.v=oK rf jC.v)) rfl rfl a0V (a0W _) (a0W _) (a4A (iM ag jC.v) (oK rf jC.v)))) gX))))) fun a w11 hs m=>?_
  refine bH hs (vs:=[.bool (decide (iM ag jC.v=oK rf jC.v))]) rfl ⟨rfl,trivial⟩ ?_
  have q12:pl=uV pl (⟨gD,qK,jC,gL,eC,dP,dO,cX,eJ,cP,cO,cY⟩:yN):=by clear hs m;exact(pl1 (g:=ag) (a:=rf) (p:=pl) (o:=⟨gD,qK,jC,gL,eC,dP,dO,cX,eJ,cP,cO,cY⟩) hI hV (show gD.v=1 by omega)).2.2
  replace m:=m.swp (q:=PcP ppl (uV pl (⟨gD,qK,jC,gL,eC,dP,dO,cX,eJ,cP,cO,cY⟩:yN))) s5 (fun _ e=>by rw[<-q12];exact e)
  rw[(show jB ag jC.v=iV (gP rf (⟨gD,qK,jC,gL,eC,dP,dO,cX,eJ,cP,cO,cY⟩:yN)) from (pl1 (g:=ag) (a:=rf) (p:=pl) (o:=⟨gD,qK,jC,gL,eC,dP,dO,cX,eJ,cP,cO,cY⟩) hI hV (show gD.v=1 by omega)).1)] at m
  rw[(show rA rf jC.v=gP rf (⟨gD,qK,jC,gL,eC,dP,dO,cX,eJ,cP,cO,cY⟩:yN) from (pl1 (g:=ag) (a:=rf) (p:=pl) (o:=⟨gD,qK,jC,gL,eC,dP,dO,cX,eJ,cP,cO,cY⟩) hI hV (show gD.v=1 by omega)).2.1)] at m
  exact⟨_,rfl,by rw[(show (decide (iM ag jC.v=oK rf jC.v):Bool)=true from a4I hI hV)];rfl,m.sub (a5 (a3 (a1 .n)))⟩
 have h3p:=ne_of_beq_false h3
 refine bT hs m gI fun a w_ hs m=>?_
 refine aR hs rfl (fun h16=>?_) (fun h16=>?_)
 ·have h16p:=eq_of_beq h16
  refine bT hs m (x_ gC (e_ (p_ (cN (sY gL eC dP dO jJ.v nO.v iO.v iN.v jK.v))) bR)) fun a w_ hs m=>?_
  refine eW 2 (m.sub (a1 (a1 (a0 (a0 .n))))) hs a3R (fun R1 hR ⟨y1,sy,ly⟩ mc=>aYI ppl pl pag ag gL eC dP dO jJ cX nO eJ iO cP iN cO jK cY _ R1 (rQ.le hR) (xQ.le hR) (pV.le hR) (pU.le hR) (rS.le hR) (by omega) (by omega) (by omega) (by omega) (by omega) (by omega) (by omega) (by omega) (by omega) (by omega) mc) fun w17 m a hs=>?_
  simp only[iG] at m
  refine bP hs m (x_ fW (e_ (p_ (cN (sY gL eC dP dO jJ.v nO.v iO.v iN.v jK.v))) bR)) fun a w_ hs m=>?_
  refine eW 1 (m.sub (a3 (a0 (a0 (a0 .n))))) hs a3S (fun R1 hR ⟨y1,sy,ly⟩ mc=>aS4 prf rf gL eC dP dO jJ cX nO eJ iO cP iN cO jK cY _ R1 (rQ.le hR) (xQ.le hR) (pV.le hR) (pU.le hR) (rS.le hR) (by omega) (by omega) (by omega) (by omega) (by omega) (by omega) (by omega) (by omega) (by omega) (by omega) mc) fun w18 m a hs=>?_
  simp only[iG] at m
  refine bP hs m lA fun a w_ hs m=>?_
  have hb19:((sW ag (⟨gL,eC,dP,dO,cX,eJ,cP,cO,cY⟩:pT))==(uB rf (⟨gL,eC,dP,dO,cX,eJ,cP,cO,cY⟩:pT)))=true:=by rw[hI,(aDY hV _).1];simp
  refine bP hs m (x_ eO (e_ (p_ (aP (r:=.bool true) rfl rfl rfl (by rw[hb19];rfl))) gX)) fun a w_ hs m=>?_
  refine bH hs (vs:=[.bool true]) rfl ⟨rfl,trivial⟩ ?_
  rw[(show (⟨lN cX,kD eJ 70,dW lG cP 70,dW lF cO 70,dW lE cY 70⟩:PcM)=uV pl (⟨gD,qK,jC,gL,eC,dP,dO,cX,eJ,cP,cO,cY⟩:yN) from (pl2 (g:=ag) (a:=rf) (p:=pl) (o:=⟨gD,qK,jC,gL,eC,dP,dO,cX,eJ,cP,cO,cY⟩) hI hV (show gD.v=2 by omega)).2.2)] at m
  rw[(show jT ag (⟨gL,eC,dP,dO,cX,eJ,cP,cO,cY⟩:pT)=iV (gP rf (⟨gD,qK,jC,gL,eC,dP,dO,cX,eJ,cP,cO,cY⟩:yN)) from (pl2 (g:=ag) (a:=rf) (p:=pl) (o:=⟨gD,qK,jC,gL,eC,dP,dO,cX,eJ,cP,cO,cY⟩) hI hV (show gD.v=2 by omega)).1)] at m
  rw[(show mG rf (⟨gL,eC,dP,dO,cX,eJ,cP,cO,cY⟩:pT)=gP rf (⟨gD,qK,jC,gL,eC,dP,dO,cX,eJ,cP,cO,cY⟩:yN) from (pl2 (g:=ag) (a:=rf) (p:=pl) (o:=⟨gD,qK,jC,gL,eC,dP,dO,cX,eJ,cP,cO,cY⟩) hI hV (show gD.v=2 by omega)).2.1)] at m
  refine⟨_,rfl,?_,m.sub (a1 (a1 (a0 .n)))⟩
  rfl
 have h16p:=ne_of_beq_false h16
 refine bT hs m gI fun a w_ hs m=>?_
 refine aR hs rfl (fun h23=>?_) (fun h23=>?_)
 ·have h23p:=eq_of_beq h23
  refine bT hs m iA fun a w_ hs m=>?_
  refine aLY m hs a3F (aYJ pag ag _ (m.rdAg r2) (by omega) (by omega) (by omega) (by omega) (by omega)) fun v24 v25 v26 v27 v28 w29 m a hs=>?_
  simp only[iG] at m
  refine bZ hs m xI rfl fun p30 w31 m a hs=>?_
  refine bP hs m (dZ s0 (t:=gC)) fun a w32 hs m=>?_
  refine aLY m hs a3T (aTA prf rf _ (m.rdRa r9) (by omega) (by omega) (by omega) (by omega) (by omega) (by exact hV.nd)) fun v33 v34 v35 v36 v37 w38 m a hs=>?_
  simp only[iG] at m
  refine bZ hs m xI rfl fun p39 w40 m a hs=>?_
  refine bP hs m (dZ s0 (t:=x_ eZ (e_ (p_ (cN (sZ (decide (eU ag.self.Host.v ag.view>=0)) (oN ag) ag.cursor (aAL ag) ag.degraded v24.v v25.v v26.v v27.v v28.v))) (e_ (p_ (cN (sZ (decide (eU rf.self.Host.v rf.view>=0)) (oN (lK rf)) rf.cursor (aER rf) rf.degraded v33.v v34.v v35.v v36.v v37.v))) bR)))) fun a w41 hs m=>?_
  refine cC hs m rfl rfl a3G rfl (aLF (decide (eU ag.self.Host.v ag.view>=0)) (oN ag) ag.cursor (aAL ag) ag.degraded v24 ag.view v25 ag.skipped v26 ag.Routes v27 ag.Neighs v28 ag.Fdbs (decide (eU rf.self.Host.v rf.view>=0)) (oN (lK rf)) rf.cursor (aER rf) rf.degraded v33 rf.view v34 (jN rf.skipped) v35 rf.Routes v36 rf.Neighs v37 rf.Fdbs _ (m.rdv r7) (m.rdv r8) (m.rdv r9) (m.rdv r10) (m.rdv r11) (m.rdv r1) (m.rdv r2) (m.rdv r3) (m.rdv r4) (m.rdv r5) (by rw[hI]) (by(rw[hI];rfl)) (by rw[hI]) (by(rw[hI];exact sync_img.symm)) (by rw[hI]) (by rw[hI]) (by rw[hI]) (by rw[hI]) (by rw[hI]) (by rw[hI])) rfl fun w42 m a hs=>?_
  refine bP hs m gX fun a w_ hs m=>?_
  refine bH hs (vs:=[.bool true]) rfl ⟨rfl,trivial⟩ ?_
  have q43:pl=uV pl (⟨gD,qK,jC,gL,eC,dP,dO,cX,eJ,cP,cO,cY⟩:yN):=by clear hs m;exact(pl3 (g:=ag) (a:=rf) (p:=pl) (o:=⟨gD,qK,jC,gL,eC,dP,dO,cX,eJ,cP,cO,cY⟩) hI (show gD.v≠1 by omega) (show gD.v≠2 by omega)).2.2
  replace m:=m.swp (q:=PcP ppl (uV pl (⟨gD,qK,jC,gL,eC,dP,dO,cX,eJ,cP,cO,cY⟩:yN))) s13 (fun _ e=>by rw[<-q43];exact e)
  have q44:ag=iV (gP rf (⟨gD,qK,jC,gL,eC,dP,dO,cX,eJ,cP,cO,cY⟩:yN)):=by clear hs m;exact(pl3 (g:=ag) (a:=rf) (p:=pl) (o:=⟨gD,qK,jC,gL,eC,dP,dO,cX,eJ,cP,cO,cY⟩) hI (show gD.v≠1 by omega) (show gD.v≠2 by omega)).1
  replace m:=m.swp (q:=tP pag (iV (gP rf (⟨gD,qK,jC,gL,eC,dP,dO,cX,eJ,cP,cO,cY⟩:yN)))) s14 (fun _ e=>by rw[<-q44];exact e)
  have q45:rf=gP rf (⟨gD,qK,jC,gL,eC,dP,dO,cX,eJ,cP,cO,cY⟩:yN):=by clear hs m;exact(pl3 (g:=ag) (a:=rf) (p:=pl) (o:=⟨gD,qK,jC,gL,eC,dP,dO,cX,eJ,cP,cO,cY⟩) hI (show gD.v≠1 by omega) (show gD.v≠2 by omega)).2.1
  replace m:=m.swp (q:=sX prf (gP rf (⟨gD,qK,jC,gL,eC,dP,dO,cX,eJ,cP,cO,cY⟩:yN))) s15 (fun _ e=>by rw[<-q45];exact e)
  refine⟨_,rfl,?_,m.sub (a13 (a13 (a13 .n)))⟩
  rfl
 have h23p:=ne_of_beq_false h23
 refine bT hs m lA fun a w_ hs m=>?_
 refine bH hs (vs:=[.bool true]) rfl ⟨rfl,trivial⟩ ?_
 have q46:pl=uV pl (⟨gD,qK,jC,gL,eC,dP,dO,cX,eJ,cP,cO,cY⟩:yN):=by clear hs m;exact(pl3 (g:=ag) (a:=rf) (p:=pl) (o:=⟨gD,qK,jC,gL,eC,dP,dO,cX,eJ,cP,cO,cY⟩) hI (show gD.v≠1 by omega) (show gD.v≠2 by omega)).2.2
 replace m:=m.swp (q:=PcP ppl (uV pl (⟨gD,qK,jC,gL,eC,dP,dO,cX,eJ,cP,cO,cY⟩:yN))) s1 (fun _ e=>by rw[<-q46];exact e)
 rw[(show ag=iV (gP rf (⟨gD,qK,jC,gL,eC,dP,dO,cX,eJ,cP,cO,cY⟩:yN)) from (pl3 (g:=ag) (a:=rf) (p:=pl) (o:=⟨gD,qK,jC,gL,eC,dP,dO,cX,eJ,cP,cO,cY⟩) hI (show gD.v≠1 by omega) (show gD.v≠2 by omega)).1)] at m
 have q48:rf=gP rf (⟨gD,qK,jC,gL,eC,dP,dO,cX,eJ,cP,cO,cY⟩:yN):=by clear hs m;exact(pl3 (g:=ag) (a:=rf) (p:=pl) (o:=⟨gD,qK,jC,gL,eC,dP,dO,cX,eJ,cP,cO,cY⟩) hI (show gD.v≠1 by omega) (show gD.v≠2 by omega)).2.1
 replace m:=m.swp (q:=sX prf (gP rf (⟨gD,qK,jC,gL,eC,dP,dO,cX,eJ,cP,cO,cY⟩:yN))) s3 (fun _ e=>by rw[<-q48];exact e)
 refine⟨_,rfl,?_,m.sub (a1 (a1 (a1 .n)))⟩
 rfl
end Go.Proofs.YtnbpodjbemfpbaaGreat.Fw
