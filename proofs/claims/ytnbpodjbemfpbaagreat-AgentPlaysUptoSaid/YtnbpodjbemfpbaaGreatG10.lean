/-
  Own work: walks and laws, joined by wip/tool/compact.py.
-/
import Derived.Test.YtnbpodjbemfpbaaGreatG9
import Derived.KernelRfl
set_option linter.all false
set_option linter.all false
set_option maxHeartbeats 4000000
set_option maxRecDepth 100000
namespace Go.Proofs.YtnbpodjbemfpbaaGreat.Fw
open Go
theorem aD5 (bG:SH) (aQ:List bD) (bF:SH) (aN:List bA) (bX:SH) (bO:List cH) (q:bD) (w0:World) (dT:RdS (hh w0) 4 bG.v (aQ.map aM)) (dY:RdS (hh w0) 7 bF.v (aN.map aS)) (fG:RdS (hh w0) 7 bX.v (bO.map cB)):iL Tryz.prog 65 [.agg ⟨[bG.v,bF.v,bX.v]⟩,.agg ⟨aM q⟩] (.bool (decide (q ∈ aQ))) w0:=by
 have jE:=dT.bd
 have jD:=dY.bd
 have mD:=fG.bd
 refine enter (n:=20) Tryz.func65 rfl rfl rfl fun a (hs:St 20 [(0,.agg ⟨[bG.v,bF.v,bX.v]⟩),(1,.agg ⟨aM q⟩)] a)=>?_
 have m:=Hp.start w0
 refine bN ?_
 refine dU (cs:=[bG.v,bF.v,bX.v]) hs m rfl rfl rfl fun p1 w2 m a hs=>?_
 refine dU (cs:=aM q) hs m rfl rfl rfl fun p3 w4 m a hs=>?_
 refine bP hs m hQ fun a w_ hs m=>?_
 refine wp_loop_ghost (fun gn a w=>∃ k:Nat,(k<=aQ.length)/\(q ∉ aQ.take k)/\gn=aQ.length-k/\St 20 [(2,.pointer (some (bK p1 0))),(3,.pointer (some (bK p3 0))),(5,.int .i64 (k:Int))] a/\Hp w0 (hh w0) [Bx p1 29 [bG.v,bF.v,bX.v],Bx p3 51 (aM q)] w) (aQ.length-0) ⟨0,by omega,by simp,rfl,hs.to ⟨rfl,rfl,rfl,trivial⟩,m.sub (a1 (a0 .n))⟩ ?_
 rintro gn a w5 ⟨k,hk,hn,rfl,hs,m⟩
 refine bT hs m (x_ gI (e_ (p_ (bQ m rfl eY (dX dT))) eZ)) fun a w_ hs m=>?_
 refine aR hs rfl (fun h6=>?_) (fun h6=>?_)
 rotate_left
 ·have h6p:=of_decide_eq_false h6
  refine bT hs m fW fun a w_ hs m=>?_
  refine bH hs (vs:=[.bool false]) rfl ⟨rfl,trivial⟩ ?_
  exact⟨by rw[(show (false:Bool)=decide (q ∈ aQ) from aL6 (by omega) hn)];rfl,m.sub .n⟩
 have h6p:=of_decide_eq_true h6
 refine wp_skip ?_
 refine aB ?_
 refine dG ?_
 refine wp_block ?_
 refine eE m mo (by kernel_rfl) ?_
 refine nG hs (k:=fun a hs=>?_)
 obtain⟨e8,he9⟩:=bI (l:=aQ) (i:=k) (by omega)
 refine kE (c:=aM) (e:=e8) hs m (x:=(.tmp 14)) (ix:=(.tmp 15)) rfl rfl eY gG dT (by omega) he9 fun p10 hp11 ok12=>?_
 refine vJ hs (h1:=q_ (ok12 _ _ _ _ _)) (h2:=q_ (cN (aM e8))) (h3:=q_ (cN (aM q))) (h4:=q_ (mP (b:=decide (e8=q)) rfl rfl aL1 (xN _) (xN _) (aG2 e8 q))) (k:=fun a hs=>?_)
 refine wpQuiet_nil fun w13 m=>?_
 refine aR hs rfl (fun h14=>?_) (fun h14=>?_)
 ·have h14p:=of_decide_eq_true h14
  refine bT hs m fW fun a w_ hs m=>?_
  refine bH hs (vs:=[.bool true]) rfl ⟨rfl,trivial⟩ ?_
  exact⟨by rw[(show (true:Bool)=decide (q ∈ aQ) from aL7 (by assumption) (by assumption))];rfl,m.sub .n⟩
 have h14p:=of_decide_eq_false h14
 refine bT hs m hQ fun a w_ hs m=>?_
 exact⟨aQ.length-(k+1),by omega,k+1,by omega,by exact aAZ hn (by assumption) (by assumption),rfl,hs.to ⟨rfl,rfl,rfl,trivial⟩,m.sub (a0 (a0 .n))⟩
theorem aD4 (bG:SH) (aQ:List bD) (bF:SH) (aN:List bA) (bX:SH) (bO:List cH) (q:bA) (w0:World) (dT:RdS (hh w0) 4 bG.v (aQ.map aM)) (dY:RdS (hh w0) 7 bF.v (aN.map aS)) (fG:RdS (hh w0) 7 bX.v (bO.map cB)):iL Tryz.prog 63 [.agg ⟨[bG.v,bF.v,bX.v]⟩,.agg ⟨aS q⟩] (.bool (decide (q ∈ aN))) w0:=by
 have jE:=dT.bd
 have jD:=dY.bd
 have mD:=fG.bd
 refine enter (n:=20) Tryz.func63 rfl rfl rfl fun a (hs:St 20 [(0,.agg ⟨[bG.v,bF.v,bX.v]⟩),(1,.agg ⟨aS q⟩)] a)=>?_
 have m:=Hp.start w0
 refine bN ?_
 refine dU (cs:=[bG.v,bF.v,bX.v]) hs m rfl rfl rfl fun p1 w2 m a hs=>?_
 refine dU (cs:=aS q) hs m rfl rfl rfl fun p3 w4 m a hs=>?_
 refine bP hs m hQ fun a w_ hs m=>?_
 refine wp_loop_ghost (fun gn a w=>∃ k:Nat,(k<=aN.length)/\(q ∉ aN.take k)/\gn=aN.length-k/\St 20 [(2,.pointer (some (bK p1 0))),(3,.pointer (some (bK p3 0))),(5,.int .i64 (k:Int))] a/\Hp w0 (hh w0) [Bx p1 29 [bG.v,bF.v,bX.v],Bx p3 54 (aS q)] w) (aN.length-0) ⟨0,by omega,by simp,rfl,hs.to ⟨rfl,rfl,rfl,trivial⟩,m.sub (a1 (a0 .n))⟩ ?_
 rintro gn a w5 ⟨k,hk,hn,rfl,hs,m⟩
 refine bT hs m (x_ gI (e_ (p_ (bQ m rfl fP (dX dY))) eZ)) fun a w_ hs m=>?_
 refine aR hs rfl (fun h6=>?_) (fun h6=>?_)
 rotate_left
 ·have h6p:=of_decide_eq_false h6
  refine bT hs m fW fun a w_ hs m=>?_
  refine bH hs (vs:=[.bool false]) rfl ⟨rfl,trivial⟩ ?_
  exact⟨by rw[(show (false:Bool)=decide (q ∈ aN) from aL6 (by omega) hn)];rfl,m.sub .n⟩
 have h6p:=of_decide_eq_true h6
 refine wp_skip ?_
 refine aB ?_
 refine dG ?_
 refine wp_block ?_
 refine eE m mo (by kernel_rfl) ?_
 refine nG hs (k:=fun a hs=>?_)
 obtain⟨e8,he9⟩:=bI (l:=aN) (i:=k) (by omega)
 refine kE (c:=aS) (e:=e8) hs m (x:=(.tmp 14)) (ix:=(.tmp 15)) rfl rfl fP gQ dY (by omega) he9 fun p10 hp11 ok12=>?_
 refine vJ hs (h1:=q_ (ok12 _ _ _ _ _)) (h2:=q_ (cN (aS e8))) (h3:=q_ (cN (aS q))) (h4:=q_ (mP (b:=decide (e8=q)) rfl rfl aPI (aB2 _) (aB2 _) (aKR e8 q))) (k:=fun a hs=>?_)
 refine wpQuiet_nil fun w13 m=>?_
 refine aR hs rfl (fun h14=>?_) (fun h14=>?_)
 ·have h14p:=of_decide_eq_true h14
  refine bT hs m fW fun a w_ hs m=>?_
  refine bH hs (vs:=[.bool true]) rfl ⟨rfl,trivial⟩ ?_
  exact⟨by rw[(show (true:Bool)=decide (q ∈ aN) from aL7 (by assumption) (by assumption))];rfl,m.sub .n⟩
 have h14p:=of_decide_eq_false h14
 refine bT hs m hQ fun a w_ hs m=>?_
 exact⟨aN.length-(k+1),by omega,k+1,by omega,by exact aAZ hn (by assumption) (by assumption),rfl,hs.to ⟨rfl,rfl,rfl,trivial⟩,m.sub (a0 (a0 .n))⟩
theorem aIO (bG:SH) (aQ:List bD) (bF:SH) (aN:List bA) (bX:SH) (bO:List cH) (q:cH) (w0:World) (dT:RdS (hh w0) 4 bG.v (aQ.map aM)) (dY:RdS (hh w0) 7 bF.v (aN.map aS)) (fG:RdS (hh w0) 7 bX.v (bO.map cB)):iL Tryz.prog 64 [.agg ⟨[bG.v,bF.v,bX.v]⟩,.agg ⟨cB q⟩] (.bool (decide (q ∈ bO))) w0:=by
 have jE:=dT.bd
 have jD:=dY.bd
 have mD:=fG.bd
 refine enter (n:=20) Tryz.func64 rfl rfl rfl fun a (hs:St 20 [(0,.agg ⟨[bG.v,bF.v,bX.v]⟩),(1,.agg ⟨cB q⟩)] a)=>?_
 have m:=Hp.start w0
 refine bN ?_
 refine dU (cs:=[bG.v,bF.v,bX.v]) hs m rfl rfl rfl fun p1 w2 m a hs=>?_
 refine dU (cs:=cB q) hs m rfl rfl rfl fun p3 w4 m a hs=>?_
 refine bP hs m hQ fun a w_ hs m=>?_
 refine wp_loop_ghost (fun gn a w=>∃ k:Nat,(k<=bO.length)/\(q ∉ bO.take k)/\gn=bO.length-k/\St 20 [(2,.pointer (some (bK p1 0))),(3,.pointer (some (bK p3 0))),(5,.int .i64 (k:Int))] a/\Hp w0 (hh w0) [Bx p1 29 [bG.v,bF.v,bX.v],Bx p3 56 (cB q)] w) (bO.length-0) ⟨0,by omega,by simp,rfl,hs.to ⟨rfl,rfl,rfl,trivial⟩,m.sub (a1 (a0 .n))⟩ ?_
 rintro gn a w5 ⟨k,hk,hn,rfl,hs,m⟩
 refine bT hs m (x_ gI (e_ (p_ (bQ m rfl fQ (dX fG))) eZ)) fun a w_ hs m=>?_
 refine aR hs rfl (fun h6=>?_) (fun h6=>?_)
 rotate_left
 ·have h6p:=of_decide_eq_false h6
  refine bT hs m fW fun a w_ hs m=>?_
  refine bH hs (vs:=[.bool false]) rfl ⟨rfl,trivial⟩ ?_
  exact⟨by rw[(show (false:Bool)=decide (q ∈ bO) from aL6 (by omega) hn)];rfl,m.sub .n⟩
 have h6p:=of_decide_eq_true h6
 refine wp_skip ?_
 refine aB ?_
 refine dG ?_
 refine wp_block ?_
 refine eE m mo (by kernel_rfl) ?_
 refine nG hs (k:=fun a hs=>?_)
 obtain⟨e8,he9⟩:=bI (l:=bO) (i:=k) (by omega)
 refine kE (c:=cB) (e:=e8) hs m (x:=(.tmp 14)) (ix:=(.tmp 15)) rfl rfl fQ gS fG (by omega) he9 fun p10 hp11 ok12=>?_
 refine vJ hs (h1:=q_ (ok12 _ _ _ _ _)) (h2:=q_ (cN (cB e8))) (h3:=q_ (cN (cB q))) (h4:=q_ (mP (b:=decide (e8=q)) rfl rfl aL2 (aII _) (aII _) (aSE e8 q))) (k:=fun a hs=>?_)
 refine wpQuiet_nil fun w13 m=>?_
 refine aR hs rfl (fun h14=>?_) (fun h14=>?_)
 ·have h14p:=of_decide_eq_true h14
  refine bT hs m fW fun a w_ hs m=>?_
  refine bH hs (vs:=[.bool true]) rfl ⟨rfl,trivial⟩ ?_
  exact⟨by rw[(show (true:Bool)=decide (q ∈ bO) from aL7 (by assumption) (by assumption))];rfl,m.sub .n⟩
 have h14p:=of_decide_eq_false h14
 refine bT hs m hQ fun a w_ hs m=>?_
 exact⟨bO.length-(k+1),by omega,k+1,by omega,by exact aAZ hn (by assumption) (by assumption),rfl,hs.to ⟨rfl,rfl,rfl,trivial⟩,m.sub (a0 (a0 .n))⟩
theorem aRG (bG:SH) (aQ:List bD) (bF:SH) (aN:List bA) (bX:SH) (bO:List cH) (r:bD) (w0:World) (dT:RdS (hh w0) 4 bG.v (aQ.map aM)) (dY:RdS (hh w0) 7 bF.v (aN.map aS)) (fG:RdS (hh w0) 7 bX.v (bO.map cB)):iL Tryz.prog 116 [.agg ⟨[bG.v,bF.v,bX.v]⟩,.agg ⟨aM r⟩] (.agg ⟨eF (oB aN bO r)⟩) w0:=by
 have jE:=dT.bd
 have jD:=dY.bd
 have mD:=fG.bd
 refine enter (n:=60) Tryz.func116 rfl rfl rfl fun a (hs:St 60 [(0,.agg ⟨[bG.v,bF.v,bX.v]⟩),(1,.agg ⟨aM r⟩)] a)=>?_
 have m:=Hp.start w0
 refine bN ?_
 refine dU (cs:=[bG.v,bF.v,bX.v]) hs m rfl rfl rfl fun p1 w2 m a hs=>?_
 refine dU (cs:=aM r) hs m rfl rfl rfl fun p3 w4 m a hs=>?_
 refine bZ hs m aMY rfl fun p5 w6 m a hs=>?_
 refine wpList_nil (aB ?_)
 refine bN ?_
 refine bZ hs m aMY rfl fun p7 w8 m a hs=>?_
 refine bP hs m lA fun a w_ hs m=>?_
 have q9:(⟨(⟨⟨0,rfl⟩,(⟨⟨0,rfl⟩,⟨0,rfl⟩,⟨0,rfl⟩,⟨0,rfl⟩,⟨0,rfl⟩,⟨0,rfl⟩⟩:cK)⟩:bA),(⟨(⟨⟨0,rfl⟩,⟨0,rfl⟩,⟨0,rfl⟩,⟨0,rfl⟩,⟨0,rfl⟩,⟨0,rfl⟩⟩:cK),⟨0,rfl⟩⟩:cH),⟨0,rfl⟩⟩:Tweftref16_Way)=(iQ r (aN.take 0)):=by exact aTP
 replace m:=m.swp (q:=Bx p7 187 (eF (iQ r (aN.take 0)))) s0 (fun _ e=>by rw[<-q9];exact e)
 refine wp_loop_ghost (fun gn a w=>∃ k:Nat,(k<=aN.length)/\gn=aN.length-k/\St 60 [(2,.pointer (some (bK p1 0))),(3,.pointer (some (bK p3 0))),(4,.pointer (some (bK p5 0))),(5,.pointer (some (bK p7 0))),(6,.int .i64 (k:Int))] a/\Hp w0 (hh w0) [Bx p1 29 [bG.v,bF.v,bX.v],Bx p3 51 (aM r),Bx p5 187 (eF (⟨(⟨⟨0,rfl⟩,(⟨⟨0,rfl⟩,⟨0,rfl⟩,⟨0,rfl⟩,⟨0,rfl⟩,⟨0,rfl⟩,⟨0,rfl⟩⟩:cK)⟩:bA),(⟨(⟨⟨0,rfl⟩,⟨0,rfl⟩,⟨0,rfl⟩,⟨0,rfl⟩,⟨0,rfl⟩,⟨0,rfl⟩⟩:cK),⟨0,rfl⟩⟩:cH),⟨0,rfl⟩⟩:Tweftref16_Way)),Bx p7 187 (eF (iQ r (aN.take k)))] w) (aN.length-0) ⟨0,by omega,rfl,hs.to ⟨rfl,rfl,rfl,rfl,rfl,trivial⟩,m.sub (a3 (a2 (a1 (a0 .n))))⟩ ?_
 rintro gn a w10 ⟨k,hk,rfl,hs,m⟩
 refine bT hs m (x_ gI (e_ (p_ (bQ m rfl fP (dX dY))) eZ)) fun a w_ hs m=>?_
 refine aR hs rfl (fun h11=>?_) (fun h11=>?_)
 rotate_left
 ·have h11p:=of_decide_eq_false h11
  refine bT hs m nP fun a w_ hs m=>?_
  refine aR hs rfl (fun h12=>?_) (fun h12=>?_)
  ·have h12p:=eq_of_beq h12
   refine bT hs m (x_ eO (e_ (p_ (cN (eF (iQ r (aN.take k))))) (dZ s2 (t:=gC)))) fun a w13 hs m=>?_
   refine bH hs (vs:=[.agg ⟨eF (iQ r (aN.take k))⟩]) rfl ⟨cZ (cs:=eF (iQ r (aN.take k))) m rfl aUW r2 rfl,trivial⟩ ?_
   exact⟨by rw[(show ((iQ r (aN.take k)):Tweftref16_Way)=oB aN bO r from aTS (k:=k) (by assumption) (by omega))];rfl,m.sub .n⟩
  have h12p:=ne_of_beq_false h12
  refine bT hs m lA fun a w_ hs m=>?_
  rw[show aN.take k=aN from List.take_of_length_le (by omega)] at *
  have q15:(iQ r aN)=(mX (iQ r aN) (bO.take 0)):=by exact aTM
  replace m:=m.swp (q:=Bx p7 187 (eF (mX (iQ r aN) (bO.take 0)))) s3 (fun _ e=>by rw[<-q15];exact e)
  refine wp_loop_ghost (fun gn a w=>∃ k2:Nat,(k2<=bO.length)/\gn=bO.length-k2/\St 60 [(2,.pointer (some (bK p1 0))),(4,.pointer (some (bK p5 0))),(5,.pointer (some (bK p7 0))),(7,.int .i64 (k2:Int))] a/\Hp w0 (hh w0) [Bx p1 29 [bG.v,bF.v,bX.v],Bx p5 187 (eF (⟨(⟨⟨0,rfl⟩,(⟨⟨0,rfl⟩,⟨0,rfl⟩,⟨0,rfl⟩,⟨0,rfl⟩,⟨0,rfl⟩,⟨0,rfl⟩⟩:cK)⟩:bA),(⟨(⟨⟨0,rfl⟩,⟨0,rfl⟩,⟨0,rfl⟩,⟨0,rfl⟩,⟨0,rfl⟩,⟨0,rfl⟩⟩:cK),⟨0,rfl⟩⟩:cH),⟨0,rfl⟩⟩:Tweftref16_Way)),Bx p7 187 (eF (mX (iQ r aN) (bO.take k2)))] w) (bO.length-0) ⟨0,by omega,rfl,hs.to ⟨rfl,rfl,rfl,rfl,trivial⟩,m.sub (a0 (a1 (a1 .n)))⟩ ?_
  rintro gn a w16 ⟨k2,hk,rfl,hs,m⟩
  refine bT hs m (x_ gI (e_ (p_ (bQ m rfl fQ (dX fG))) eZ)) fun a w_ hs m=>?_
  refine aR hs rfl (fun h17=>?_) (fun h17=>?_)
  rotate_left
  ·have h17p:=of_decide_eq_false h17
   refine bT hs m (x_ gX (e_ (p_ (cN (eF (mX (iQ r aN) (bO.take k2))))) (dZ s1 (t:=eZ)))) fun a w18 hs m=>?_
   refine bH hs (vs:=[.agg ⟨eF (mX (iQ r aN) (bO.take k2))⟩]) rfl ⟨cZ (cs:=eF (mX (iQ r aN) (bO.take k2))) m rfl aUW r1 rfl,trivial⟩ ?_
   exact⟨by rw[(show ((mX (iQ r aN) (bO.take k2)):Tweftref16_Way)=oB aN bO r from aTT (by assumption) (by omega))];rfl,m.sub .n⟩
  have h17p:=of_decide_eq_true h17
  refine wp_skip ?_
  refine aB ?_
  refine dG ?_
  refine wp_block ?_
  refine eE m mo (by kernel_rfl) ?_
  refine nG hs (k:=fun a hs=>?_)
  obtain⟨e20,he21⟩:=bI (l:=bO) (i:=k2) (by omega)
  refine kE (c:=cB) (e:=e20) hs m (x:=(.tmp 43)) (ix:=(.tmp 44)) rfl rfl fQ gS fG (by omega) he21 fun p22 hp23 ok24=>?_
  refine kZ hs (h1:=q_ (ok24 _ _ _ _ _)) (h3:=q_ (cN (mU e20.MAC))) (h6:=q_ (cN (mU (((mX (iQ r aN) (bO.take k2)).N).MAC)))) (k:=fun a hs=>?_)
  refine uZ hs (h1:=q_ (mP (b:=decide (e20.MAC=((mX (iQ r aN) (bO.take k2)).N).MAC)) rfl rfl aDZ (aAX _) (aAX _) (aKQ e20.MAC (((mX (iQ r aN) (bO.take k2)).N).MAC)))) (k:=fun a hs=>?_)
  refine wpQuiet_nil fun w25 m=>?_
  refine aR hs rfl (fun h26=>?_) (fun h26=>?_)
  ·have h26p:=of_decide_eq_true h26
   refine bT hs m gC fun a w_ hs m=>?_
   refine kE (c:=cB) (e:=e20) hs m (x:=(.tmp 53)) (ix:=(.tmp 54)) rfl rfl fQ gS fG (by omega) he21 fun p27 hp28 ok29=>?_
   refine bP hs m (e_ (p_ (ok29 _ _ _ _ _)) (e_ (p_ (cN (cB e20))) (x_ eO (dZ s2 (t:=x_ gC (dZ s2 (t:=hQ))))))) fun a w31 hs m=>?_
   have q32:(⟨(mX (iQ r aN) (bO.take k2)).N,e20,⟨2,rfl⟩⟩:Tweftref16_Way)=(mX (iQ r aN) (bO.take (k2+1))):=by exact aTO (by assumption) (by assumption)
   replace m:=m.swp (q:=Bx p7 187 (eF (mX (iQ r aN) (bO.take (k2+1))))) s2 (fun _ e=>by rw[<-q32];exact e)
   exact⟨bO.length-(k2+1),by omega,k2+1,by omega,rfl,hs.to ⟨rfl,rfl,rfl,rfl,trivial⟩,m.sub (a0 (a0 (a0 .n)))⟩
  have h26p:=of_decide_eq_false h26
  refine bT hs m hQ fun a w_ hs m=>?_
  have q33:(mX (iQ r aN) (bO.take k2))=(mX (iQ r aN) (bO.take (k2+1))):=by exact aTN (by assumption) (by assumption)
  replace m:=m.swp (q:=Bx p7 187 (eF (mX (iQ r aN) (bO.take (k2+1))))) s2 (fun _ e=>by rw[<-q33];exact e)
  exact⟨bO.length-(k2+1),by omega,k2+1,by omega,rfl,hs.to ⟨rfl,rfl,rfl,rfl,trivial⟩,m.sub (a0 (a0 (a0 .n)))⟩
 have h11p:=of_decide_eq_true h11
 refine wp_skip ?_
 refine aB ?_
 refine dG ?_
 refine wp_block ?_
 refine eE m mo (by kernel_rfl) ?_
 refine nG hs (k:=fun a hs=>?_)
 obtain⟨e34,he35⟩:=bI (l:=aN) (i:=k) (by omega)
 refine kE (c:=aS) (e:=e34) hs m (x:=(.tmp 16)) (ix:=(.tmp 17)) rfl rfl fP gQ dY (by omega) he35 fun p36 hp37 ok38=>?_
 refine kZ hs (h1:=q_ (ok38 _ _ _ _ _)) (k:=fun a hs=>?_)
 refine wpQuiet_nil fun w39 m=>?_
 refine aR hs rfl (fun h40=>?_) (fun h40=>?_)
 ·have h40p:=eq_of_beq h40
  refine bT hs m gC fun a w_ hs m=>?_
  refine kE (c:=aS) (e:=e34) hs m (x:=(.tmp 25)) (ix:=(.tmp 26)) rfl rfl fP gQ dY (by omega) he35 fun p41 hp42 ok43=>?_
  refine bP hs m (e_ (p_ (ok43 _ _ _ _ _)) (e_ (p_ (cN (aS e34))) (x_ eO (dZ s3 (t:=x_ gC (dZ s3 (t:=hQ))))))) fun a w45 hs m=>?_
  have q46:(⟨e34,(iQ r (aN.take k)).F,⟨1,rfl⟩⟩:Tweftref16_Way)=(iQ r (aN.take (k+1))):=by exact aTR (by assumption) (by assumption)
  replace m:=m.swp (q:=Bx p7 187 (eF (iQ r (aN.take (k+1))))) s3 (fun _ e=>by rw[<-q46];exact e)
  exact⟨aN.length-(k+1),by omega,k+1,by omega,rfl,hs.to ⟨rfl,rfl,rfl,rfl,rfl,trivial⟩,m.sub (a0 (a0 (a0 (a0 .n))))⟩
 have h40p:=ne_of_beq_false h40
 refine bT hs m hQ fun a w_ hs m=>?_
 have q47:(iQ r (aN.take k))=(iQ r (aN.take (k+1))):=by exact aTQ (by assumption) (by assumption)
 replace m:=m.swp (q:=Bx p7 187 (eF (iQ r (aN.take (k+1))))) s3 (fun _ e=>by rw[<-q47];exact e)
 exact⟨aN.length-(k+1),by omega,k+1,by omega,rfl,hs.to ⟨rfl,rfl,rfl,rfl,rfl,trivial⟩,m.sub (a0 (a0 (a0 (a0 .n))))⟩
theorem aE1 (cQ:SH) (aF:List bD) (cT:SH) (aA:List bA) (dQ:SH) (aH:List cH) (cS:SH) (aD:List bD) (cU:SH) (aC:List bA) (dS:SH) (aI:List cH) (r:bD) (w0:World) (fF:RdS (hh w0) 4 cQ.v (aF.map aM)) (fN:RdS (hh w0) 7 cT.v (aA.map aS)) (hU:RdS (hh w0) 7 dQ.v (aH.map cB)) (fS:RdS (hh w0) 4 cS.v (aD.map aM)) (fR:RdS (hh w0) 7 cU.v (aC.map aS)) (iH:RdS (hh w0) 7 dS.v (aI.map cB)):iL Tryz.prog 62 [.agg ⟨[cQ.v,cT.v,dQ.v]⟩,.agg ⟨[cS.v,cU.v,dS.v]⟩,.agg ⟨aM r⟩] (.bool (cD aA aH aD aC aI r)) w0:=by
 have wU:=fF.bd
 have wT:=fN.bd
 have aBC:=hU.bd
 have wW:=fS.bd
 have wV:=fR.bd
 have aBD:=iH.bd
 refine enter (n:=26) Tryz.func62 rfl rfl rfl fun a (hs:St 26 [(0,.agg ⟨[cQ.v,cT.v,dQ.v]⟩),(1,.agg ⟨[cS.v,cU.v,dS.v]⟩),(2,.agg ⟨aM r⟩)] a)=>?_
 have m:=Hp.start w0
 refine bN ?_
 refine dU (cs:=[cQ.v,cT.v,dQ.v]) hs m rfl rfl rfl fun p1 w2 m a hs=>?_
 refine dU (cs:=[cS.v,cU.v,dS.v]) hs m rfl rfl rfl fun p3 w4 m a hs=>?_
 refine dU (cs:=aM r) hs m rfl rfl rfl fun p5 w6 m a hs=>?_
 refine bP hs m (x_ gC (e_ (p_ (cN [cS.v,cU.v,dS.v])) (e_ (p_ (cN (aM r))) bR))) fun a w_ hs m=>?_
 refine cC hs m rfl rfl a0M rfl (aD5 cS aD cU aC dS aI r _ (m.rd fS) (m.rd fR) (m.rd iH) ) rfl fun w7 m a hs=>?_
 refine bP hs m hQ fun a w_ hs m=>?_
 refine aR hs rfl (fun h8=>?_) (fun h8=>?_)
 ·have h8p:=h8;simp only[fK] at h8p
  refine bT hs m gX fun a w_ hs m=>?_
  refine bH hs (vs:=[.bool false]) rfl ⟨rfl,trivial⟩ ?_
  exact⟨by rw[(show (false:Bool)=cD aA aH aD aC aI r by(simp_all [cD]))];rfl,m.sub .n⟩
 have h8p:=h8;simp only[fK] at h8p
 refine bT hs m lA fun a w_ hs m=>?_
 refine aR hs rfl (fun h10=>?_) (fun h10=>?_)
 ·refine bT hs m gX fun a w_ hs m=>?_
  refine bH hs (vs:=[.bool true]) rfl ⟨rfl,trivial⟩ ?_
  exact⟨by rw[(show (true:Bool)=cD aA aH aD aC aI r by(simp_all [cD]))];rfl,m.sub .n⟩
 refine bT hs m (x_ eZ (e_ (p_ (cN [cQ.v,cT.v,dQ.v])) (e_ (p_ (cN (aM r))) bR))) fun a w_ hs m=>?_
 refine cC hs m rfl rfl aT4 rfl (aRG cQ aF cT aA dQ aH r _ (m.rd fF) (m.rd fN) (m.rd hU) ) rfl fun w12 m a hs=>?_
 refine bZ hs m aMY rfl fun p13 w14 m a hs=>?_
 refine bP hs m (dZ s0 (t:=x_ eZ (e_ (p_ (cN [cS.v,cU.v,dS.v])) (e_ (p_ (cN (aM r))) bR)))) fun a w15 hs m=>?_
 refine cC hs m rfl rfl aT4 rfl (aRG cS aD cU aC dS aI r _ (m.rd fS) (m.rd fR) (m.rd iH) ) rfl fun w16 m a hs=>?_
 refine bZ hs m aMY rfl fun p17 w18 m a hs=>?_
 refine bP hs m (dZ s0 (t:=x_ eZ (e_ (p_ (cN (eF (oB aA aH r)))) (e_ (p_ (cN (eF (oB aC aI r)))) (e_ (p_ (mP (b:=decide (oB aA aH r=oB aC aI r)) rfl rfl aVX (xP _) (xP _) (aD9 (oB aA aH r) (oB aC aI r)))) gC))))) fun a w19 hs m=>?_
 refine bH hs (vs:=[.bool (decide (oB aA aH r=oB aC aI r))]) rfl ⟨rfl,trivial⟩ ?_
 exact⟨by rw[(show (decide (oB aA aH r=oB aC aI r):Bool)=cD aA aH aD aC aI r by(simp_all [cD]))];rfl,m.sub .n⟩
theorem aB9 (bG:SH) (aQ:List bD) (bF:SH) (aN:List bA) (bX:SH) (bO:List cH) (w0:World) (dT:RdS (hh w0) 4 bG.v (aQ.map aM)) (dY:RdS (hh w0) 7 bF.v (aN.map aS)) (fG:RdS (hh w0) 7 bX.v (bO.map cB)):iL Tryz.prog 61 [.agg ⟨[bG.v,bF.v,bX.v]⟩] (.bool (fU aQ aN bO)) w0:=by
 have jE:=dT.bd
 have jD:=dY.bd
 have mD:=fG.bd
 refine enter (n:=92) Tryz.func61 rfl rfl rfl fun a (hs:St 92 [(0,.agg ⟨[bG.v,bF.v,bX.v]⟩)] a)=>?_
 have m:=Hp.start w0
 refine bN ?_
 refine dU (cs:=[bG.v,bF.v,bX.v]) hs m rfl rfl rfl fun p1 w2 m a hs=>?_
 refine bP hs m hQ fun a w_ hs m=>?_
 refine wp_loop_ghost (fun gn a w=>∃ k:Nat,(k<=aQ.length)/\(0<=k)/\(pC (sI aQ) k=true)/\gn=aQ.length+1-k/\St 92 [(1,.pointer (some (bK p1 0))),(3,.int .i64 (k:Int))] a/\Hp w0 (hh w0) [Bx p1 29 [bG.v,bF.v,bX.v]] w) (aQ.length+1-0) ⟨0,by omega,by omega,by rfl,rfl,hs.to ⟨rfl,rfl,trivial⟩,m.sub (a0 .n)⟩ ?_
 rintro gn a w3 ⟨k,hk,h1,ho,rfl,hs,m⟩
 refine bT hs m (x_ gI (e_ (p_ (bQ m rfl eY (dX dT))) eZ)) fun a w_ hs m=>?_
 refine aR hs rfl (fun h4=>?_) (fun h4=>?_)
 rotate_left
 ·have h4p:=of_decide_eq_false h4
  refine bT hs m mT fun a w_ hs m=>?_
  have hR:pC (sI aQ) aQ.length=true:=aC7 (by omega) ho
  clear ho hk h1
  refine wp_loop_ghost (fun gn a w=>∃ k:Nat,(k<=aN.length\/k=1)/\(1<=k)/\(pC (aG3 aN) k=true)/\gn=aN.length+1-k/\St 92 [(1,.pointer (some (bK p1 0))),(5,.int .i64 (k:Int))] a/\Hp w0 (hh w0) [Bx p1 29 [bG.v,bF.v,bX.v]] w) (aN.length+1-1) ⟨1,by omega,by omega,by rfl,rfl,hs.to ⟨rfl,rfl,trivial⟩,m.sub (a0 .n)⟩ ?_
  rintro gn a w5 ⟨k,hk,h1,ho,rfl,hs,m⟩
  refine bT hs m (x_ gI (e_ (p_ (bQ m rfl fP (dX dY))) eZ)) fun a w_ hs m=>?_
  refine aR hs rfl (fun h6=>?_) (fun h6=>?_)
  rotate_left
  ·have h6p:=of_decide_eq_false h6
   refine bT hs m mT fun a w_ hs m=>?_
   have hN:pC (aG3 aN) aN.length=true:=aC7 (by omega) ho
   clear ho hk h1
   refine wp_loop_ghost (fun gn a w=>∃ k:Nat,(k<=bO.length\/k=1)/\(1<=k)/\(pC (aJW bO) k=true)/\gn=bO.length+1-k/\St 92 [(1,.pointer (some (bK p1 0))),(6,.int .i64 (k:Int))] a/\Hp w0 (hh w0) [Bx p1 29 [bG.v,bF.v,bX.v]] w) (bO.length+1-1) ⟨1,by omega,by omega,by rfl,rfl,hs.to ⟨rfl,rfl,trivial⟩,m.sub (a0 .n)⟩ ?_
   rintro gn a w7 ⟨k,hk,h1,ho,rfl,hs,m⟩
   refine bT hs m (x_ gI (e_ (p_ (bQ m rfl fQ (dX fG))) eZ)) fun a w_ hs m=>?_
   refine aR hs rfl (fun h8=>?_) (fun h8=>?_)
   rotate_left
   ·have h8p:=of_decide_eq_false h8
    refine bT hs m fW fun a w_ hs m=>?_
    refine bH hs (vs:=[.bool true]) rfl ⟨rfl,trivial⟩ ?_
    exact⟨by rw[(show (true:Bool)=fU aQ aN bO from aNP hR hN (aC7 (by omega) ho))];rfl,m.sub .n⟩
   have h8p:=of_decide_eq_true h8
   refine bT hs m hQ fun a w_ hs m=>?_
   obtain⟨e10,he11⟩:=bI (l:=bO) (i:=((k:Int)-1).toNat) (by omega)
   refine kE (c:=cB) (e:=e10) hs m (x:=(.tmp 75)) (ix:=(.tmp 77)) rfl rfl fQ gS fG (by omega) he11 fun p12 hp13 ok14=>?_
   refine bP hs m (e_ (p_ (ok14 _ _ _ _ _)) (x_ eO (e_ (p_ (cN (mU e10.MAC))) bR))) fun a w_ hs m=>?_
   refine cC hs m rfl rfl aLV rfl (aBT e10.MAC _  ) rfl fun w15 m a hs=>?_
   refine bP hs m gZ fun a w_ hs m=>?_
   obtain⟨e16,he17⟩:=bI (l:=bO) (i:=k) (by omega)
   refine kE (c:=cB) (e:=e16) hs m (x:=(.tmp 83)) (ix:=(.tmp 84)) rfl rfl fQ gS fG (by omega) he17 fun p18 hp19 ok20=>?_
   refine bP hs m (e_ (p_ (ok20 _ _ _ _ _)) (x_ eO (e_ (p_ (cN (mU e16.MAC))) bR))) fun a w_ hs m=>?_
   refine cC hs m rfl rfl aLV rfl (aBT e16.MAC _  ) rfl fun w21 m a hs=>?_
   refine bP hs m hQ fun a w_ hs m=>?_
   refine aR hs rfl (fun h22=>?_) (fun h22=>?_)
   ·have h22p:=of_decide_eq_true h22
    refine bT hs m fW fun a w_ hs m=>?_
    refine bH hs (vs:=[.bool false]) rfl ⟨rfl,trivial⟩ ?_
    exact⟨by rw[(show (false:Bool)=fU aQ aN bO by((exact aK1 (k:=k) (by omega) (by rw[aMX (by assumption) (by assumption) (by omega)];exact decide_eq_false (by omega)))))];rfl,m.sub .n⟩
   have h22p:=of_decide_eq_false h22
   refine bT hs m hQ fun a w_ hs m=>?_
   exact⟨bO.length+1-(k+1),by omega,k+1,by omega,by omega,by exact nH ho (by rw[aMX (by assumption) (by assumption) (by omega)];exact decide_eq_true (by omega)),rfl,hs.to ⟨rfl,rfl,trivial⟩,m.sub (a0 .n)⟩
  have h6p:=of_decide_eq_true h6
  refine wp_skip ?_
  refine aB ?_
  refine dG ?_
  refine wp_block ?_
  refine eE m mo (by kernel_rfl) ?_
  refine vJ hs (k:=fun a hs=>?_)
  obtain⟨e24,he25⟩:=bI (l:=aN) (i:=((k:Int)-1).toNat) (by omega)
  refine kE (c:=aS) (e:=e24) hs m (x:=(.tmp 54)) (ix:=(.tmp 56)) rfl rfl fP gQ dY (by omega) he25 fun p26 hp27 ok28=>?_
  refine kZ hs (h1:=q_ (ok28 _ _ _ _ _)) (k:=fun a hs=>?_)
  obtain⟨e29,he30⟩:=bI (l:=aN) (i:=k) (by omega)
  refine kE (c:=aS) (e:=e29) hs m (x:=(.tmp 61)) (ix:=(.tmp 62)) rfl rfl fP gQ dY (by omega) he30 fun p31 hp32 ok33=>?_
  refine vJ hs (h1:=q_ (ok33 _ _ _ _ _)) (k:=fun a hs=>?_)
  refine wpQuiet_nil fun w34 m=>?_
  refine aR hs rfl (fun h35=>?_) (fun h35=>?_)
  ·have h35p:=of_decide_eq_true h35
   refine bT hs m fW fun a w_ hs m=>?_
   refine bH hs (vs:=[.bool false]) rfl ⟨rfl,trivial⟩ ?_
   exact⟨by rw[(show (false:Bool)=fU aQ aN bO by((exact aK0 (k:=k) (by omega) (by rw[aL9 (by assumption) (by assumption) (by omega)];exact decide_eq_false (by omega)))))];rfl,m.sub .n⟩
  have h35p:=of_decide_eq_false h35
  refine bT hs m hQ fun a w_ hs m=>?_
  exact⟨aN.length+1-(k+1),by omega,k+1,by omega,by omega,by exact nH ho (by rw[aL9 (by assumption) (by assumption) (by omega)];exact decide_eq_true (by omega)),rfl,hs.to ⟨rfl,rfl,trivial⟩,m.sub (a0 .n)⟩
 have h4p:=of_decide_eq_true h4
 refine bT hs m lA fun a w_ hs m=>?_
 obtain⟨e37,he38⟩:=bI (l:=aQ) (i:=k) (by omega)
 refine kE (c:=aM) (e:=e37) hs m (x:=(.tmp 17)) (ix:=(.tmp 18)) rfl rfl eY gG dT (by omega) he38 fun p39 hp40 ok41=>?_
 refine bP hs m (e_ (p_ (ok41 _ _ _ _ _)) (x_ eO (e_ (p_ (cN (aO e37.Dst))) bR))) fun a w_ hs m=>?_
 refine cC hs m rfl rfl aO4 rfl (yJ e37.Dst _  ) rfl fun w42 m a hs=>?_
 refine bP hs m eZ fun a w_ hs m=>?_
 refine eE m mo (by kernel_rfl) ?_
 refine nG hs (k:=fun a hs=>?_)
 rcases Bool.eq_false_or_eq_true (!(iZ e37.Dst)) with hb43|hb43
 ·have hb43p:=hb43;simp only[fK] at hb43p
  refine kZ hs (k:=fun a hs=>?_)
  refine kZ hs (k:=fun a hs=>?_)
  refine kZ hs (k:=fun a hs=>?_)
  refine sO hs (h2:=q_ (aP (r:=.bool true) rfl rfl rfl (by rw[hb43];rfl))) (k:=fun a hs=>?_)
  refine wpQuiet_nil fun w44 m=>?_
  refine bT hs m mT fun a w_ hs m=>?_
  refine bH hs (vs:=[.bool false]) rfl ⟨rfl,trivial⟩ ?_
  exact⟨by rw[(show (false:Bool)=fU aQ aN bO from aEM (k:=k) (by omega) (aSY (by assumption) (by assumption)))];rfl,m.sub .n⟩
 ·have hb43p:=hb43;simp only[fK] at hb43p
  refine nG hs (k:=fun a hs=>?_)
  rcases Bool.eq_false_or_eq_true (decide ((k:Int)>0)) with hb47|hb47
  ·have hb47p:=of_decide_eq_true hb47
   refine vJ hs (k:=fun a hs=>?_)
   obtain⟨e48,he49⟩:=bI (l:=aQ) (i:=((k:Int)-1).toNat) (by omega)
   refine kE (c:=aM) (e:=e48) hs m (x:=(.tmp 30)) (ix:=(.tmp 32)) rfl rfl eY gG dT (by omega) he49 fun p50 hp51 ok52=>?_
   refine kZ hs (h1:=kW hb47 (ok52 _ _ _ _ _)) (h3:=kW hb47 (cN (aO e48.Dst))) (k:=fun a hs=>?_)
   refine kE (c:=aM) (e:=e37) hs m (x:=(.tmp 37)) (ix:=(.tmp 38)) rfl rfl eY gG dT (by omega) he38 fun p53 hp54 ok55=>?_
   refine nG hs (h1:=kW hb47 (ok55 _ _ _ _ _)) (h3:=kW hb47 (cN (aO e37.Dst))) (k:=fun a hs=>?_)
   refine jI hs rfl rfl hb47 rfl rfl aCO rfl (fun w m=>uS e48.Dst e37.Dst w  ) rfl fun a hs=>?_
   refine nG hs (h2:=kW hb43 (aP (r:=.bool (!(cL e48.Dst e37.Dst))) rfl rfl rfl (by rw[hb47];rfl))) (h3:=q_ (aP (r:=.bool (!(cL e48.Dst e37.Dst))) rfl rfl rfl (by rw[hb43];rfl))) (k:=fun a hs=>?_)
   refine wpQuiet_nil fun w56 m=>?_
   refine aR hs rfl (fun h57=>?_) (fun h57=>?_)
   ·have h57p:=h57;simp only[fK] at h57p
    refine bT hs m fW fun a w_ hs m=>?_
    refine bH hs (vs:=[.bool false]) rfl ⟨rfl,trivial⟩ ?_
    exact⟨by rw[(show (false:Bool)=fU aQ aN bO from aEM (k:=k) (by omega) (aSX (by assumption) (by assumption) (by assumption) (by assumption)))];rfl,m.sub .n⟩
   have h57p:=h57;simp only[fK] at h57p
   refine bT hs m hQ fun a w_ hs m=>?_
   exact⟨aQ.length+1-(k+1),by omega,k+1,by omega,by omega,by exact nH ho (aQJ (by assumption) (by assumption) (by assumption) (by assumption) (by assumption)),rfl,hs.to ⟨rfl,rfl,trivial⟩,m.sub (a0 .n)⟩
  ·have hb47p:=of_decide_eq_false hb47
   refine kZ hs (k:=fun a hs=>?_)
   refine kZ hs (k:=fun a hs=>?_)
   refine xD hs (h4:=kW hb43 (aP (r:=.bool false) rfl rfl rfl (by rw[hb47];rfl))) (h5:=q_ (aP (r:=.bool false) rfl rfl rfl (by rw[hb43];rfl))) (k:=fun a hs=>?_)
   refine wpQuiet_nil fun w59 m=>?_
   refine bT hs m fW fun a w_ hs m=>?_
   exact⟨aQ.length+1-(k+1),by omega,k+1,by omega,by omega,by exact nH ho (aQI (by assumption) (by assumption) (by assumption)),rfl,hs.to ⟨rfl,rfl,trivial⟩,m.sub (a0 .n)⟩
end Go.Proofs.YtnbpodjbemfpbaaGreat.Fw
set_option linter.all false
set_option maxHeartbeats 4000000
set_option maxRecDepth 100000
namespace Go.Proofs.YtnbpodjbemfpbaaGreat.Fw
open Go
theorem aVU (cQ:SH) (aF:List bD) (cT:SH) (aA:List bA) (dQ:SH) (aH:List cH) (cS:SH) (aD:List bD) (cU:SH) (aC:List bA) (dS:SH) (aI:List cH) (w0:World) (fF:RdS (hh w0) 4 cQ.v (aF.map aM)) (fN:RdS (hh w0) 7 cT.v (aA.map aS)) (hU:RdS (hh w0) 7 dQ.v (aH.map cB)) (fS:RdS (hh w0) 4 cS.v (aD.map aM)) (fR:RdS (hh w0) 7 cU.v (aC.map aS)) (iH:RdS (hh w0) 7 dS.v (aI.map cB)) (A0:aF.length<=16777216) (A1:aA.length<=16777216) (A2:aH.length<=16777216) (A3:aD.length<=16777216) (A4:aC.length<=16777216) (A5:aI.length<=16777216):Calls Tryz.prog 17 ⟨[.agg ⟨[cQ.v,cT.v,dQ.v]⟩,.agg ⟨[cS.v,cU.v,dS.v]⟩]⟩ w0 fun e w'=>∃ v,e= .returned v/\(∃ x0:SH,v=(.tuple ⟨[x0.v,.int .i64 (aDX aF aA aH aD aC aI)]⟩)/\Hp w0 (hh w0) [Sv 19 58 x0.v ((xC aF aA aH aD aC aI).map mO)] w'):=by
 have wU:=fF.bd
 have wT:=fN.bd
 have aBC:=hU.bd
 have wW:=fS.bd
 have wV:=fR.bd
 have aBD:=iH.bd
 refine enter (n:=151) Tryz.func17 rfl rfl rfl fun a (hs:St 151 [(0,.agg ⟨[cQ.v,cT.v,dQ.v]⟩),(1,.agg ⟨[cS.v,cU.v,dS.v]⟩)] a)=>?_
 have m:=Hp.start w0
 refine bN ?_
 refine dU (cs:=[cQ.v,cT.v,dQ.v]) hs m rfl rfl rfl fun p1 w2 m a hs=>?_
 refine dU (cs:=[cS.v,cU.v,dS.v]) hs m rfl rfl rfl fun p3 w4 m a hs=>?_
 refine bP hs m (x_ gX (e_ (p_ (cN [cQ.v,cT.v,dQ.v])) bR)) fun a w_ hs m=>?_
 refine cC hs m rfl rfl aVI rfl (aB5 cQ aF cT aA dQ aH _ (m.rd fF) (m.rd fN) (m.rd hU) ) rfl fun w5 m a hs=>?_
 refine bP hs m iA fun a w_ hs m=>?_
 refine xY (.c (.c (.c (.c (.n))))) hs m 28 (.bool ((!(iD aF aA aH)) || (!(iD aD aC aI)))) ?_ ?_
 ·rcases Bool.eq_false_or_eq_true (!(iD aF aA aH)) with hb6|hb6
  ·have hb6p:=hb6;simp only[fK] at hb6p
   refine bP hs m gC fun a w_ hs m=>?_
   exact nN hs m 3 (by rw[hb6];rfl)
  ·have hb6p:=hb6;simp only[fK] at hb6p
   refine bP hs m (e_ (dV hb6 (cN [cS.v,cU.v,dS.v])) bR) fun a w_ hs m=>?_
   refine sL hs rfl rfl hb6 m rfl rfl aVI rfl (aB5 cS aD cU aC dS aI _ (m.rd fS) (m.rd fR) (m.rd iH) ) rfl fun w7 m a hs=>?_
   refine bP hs m iA fun a w_ hs m=>?_
   exact nN hs m 3 (by rw[hb6];rfl)
 rintro a w8 ⟨hs,m⟩
 refine wpList_nil (aB ?_)
 refine aR hs rfl (fun h9=>?_) (fun h9=>?_)
 ·have h9p:=h9;simp only[fK] at h9p
  refine bT hs m gZ fun a w_ hs m=>?_
  refine bH hs (vs:=[nilH.v,.int .i64 161]) rfl ⟨rfl,rfl,trivial⟩ ?_
  replace m:=m.nilSvM mO 19 58
  rw[(show ([]:List eV)=xC aF aA aH aD aC aI from aNA (by assumption))] at m
  exact⟨_,rfl,nilH,by rw[(show (161:Int)=aDX aF aA aH aD aC aI from aM9 (by assumption))];rfl,m.sub (a0 .n)⟩
 have h9p:=h9;simp only[fK] at h9p
 refine bT hs m (x_ lA (e_ (p_ (yA (cs:=[.bool true,.bool false]) aOR ty4 a2J rfl rfl)) gC)) fun a w_ hs m=>?_
 refine wp_loop_rounds 3 ?_
 refine iF ?_
 refine bT hs m (x_ eO (e_ (p_ (fB (v:=.bool true) rfl rfl rfl)) (x_ hQ (e_ (p_ (aCT (v:=.bool true) rfl rfl aOR ty4 (by omega) (by omega) rfl)) (x_ gX (e_ (p_ (bQ m rfl eY (dX fF))) gC)))))) fun a w_ hs m=>?_
 replace m:=m.nilSvM mO 19 58
 rw[(show ([]:List eV)=([]:List eV)++aL (fun e=>(e.Local==true) && !cG aA aH aD aC aI e) cR (aF.take 0) from pickM_0.symm)] at m
 refine wp_loop_ghost (fun gn a w=>∃ k2t:Nat,∃ v14:SH,(k2t<=aF.length)/\((([]:List eV)++aL (fun e=>(e.Local==true) && !cG aA aH aD aC aI e) cR (aF.take k2t)).length<=0+k2t)/\gn=aF.length-k2t/\St 151 [(2,.pointer (some (bK p1 0))),(3,.pointer (some (bK p3 0))),(6,v14.v),(8,.bool true),(29,.agg ⟨[.bool true,.bool false]⟩),(30,.int .i64 0),(34,cQ.v),(35,.int .i64 (aF.length:Int)),(36,.int .i64 (k2t:Int))] a/\Hp w0 (hh w0) [Bx p1 29 [cQ.v,cT.v,dQ.v],Bx p3 29 [cS.v,cU.v,dS.v],Sv 19 58 v14.v ((([]:List eV)++aL (fun e=>(e.Local==true) && !cG aA aH aD aC aI e) cR (aF.take k2t)).map mO)] w) (aF.length-0) ⟨0,nilH,by omega,by(rw[pickM_0];simp),rfl,hs.to ⟨rfl,rfl,rfl,rfl,rfl,rfl,rfl,rfl,rfl,trivial⟩,m.sub (a2 (a1 (a0 .n)))⟩ ?_
 rintro gn a w17 ⟨k2t,v14,hk,hl,rfl,hs,m⟩
 refine bT hs m gI fun a w_ hs m=>?_
 refine aR hs rfl (fun h18=>?_) (fun h18=>?_)
 rotate_left
 ·have h18p:=of_decide_eq_false h18
  refine bT hs m (x_ gZ (e_ (p_ (fA (r:=1) rfl rfl rfl)) eZ)) fun a w_ hs m=>?_
  refine iF ?_
  refine bT hs m (x_ eO (e_ (p_ (fB (v:=.bool true) rfl rfl rfl)) (x_ hQ (e_ (p_ (aCT (v:=.bool false) rfl rfl aOR ty4 (by omega) (by omega) rfl)) (x_ gX (e_ (p_ (bQ m rfl eY (dX fF))) gC)))))) fun a w_ hs m=>?_
  rw[show aF.take k2t=aF from List.take_of_length_le (by omega)] at m hl
  rw[(show ([]:List eV)++aL (fun e=>(e.Local==true) && !cG aA aH aD aC aI e) cR aF=(([]:List eV)++aL (fun e=>(e.Local==true) && !cG aA aH aD aC aI e) cR aF)++aL (fun e=>(e.Local==false) && !cG aA aH aD aC aI e) cR (aF.take 0) from pickM_0.symm)] at m
  refine wp_loop_ghost (fun gn a w=>∃ k2f:Nat,∃ v20:SH,(k2f<=aF.length)/\(((([]:List eV)++aL (fun e=>(e.Local==true) && !cG aA aH aD aC aI e) cR aF)++aL (fun e=>(e.Local==false) && !cG aA aH aD aC aI e) cR (aF.take k2f)).length<=16777216+k2f)/\gn=aF.length-k2f/\St 151 [(2,.pointer (some (bK p1 0))),(3,.pointer (some (bK p3 0))),(6,v20.v),(8,.bool false),(29,.agg ⟨[.bool true,.bool false]⟩),(30,.int .i64 1),(34,cQ.v),(35,.int .i64 (aF.length:Int)),(36,.int .i64 (k2f:Int))] a/\Hp w0 (hh w0) [Bx p1 29 [cQ.v,cT.v,dQ.v],Bx p3 29 [cS.v,cU.v,dS.v],Sv 19 58 v20.v (((([]:List eV)++aL (fun e=>(e.Local==true) && !cG aA aH aD aC aI e) cR aF)++aL (fun e=>(e.Local==false) && !cG aA aH aD aC aI e) cR (aF.take k2f)).map mO)] w) (aF.length-0) ⟨0,v14,by omega,by(rw[pickM_0];omega),rfl,hs.to ⟨rfl,rfl,rfl,rfl,rfl,rfl,rfl,rfl,rfl,trivial⟩,m.sub (a0 (a0 (a0 .n)))⟩ ?_
  rintro gn a w22 ⟨k2f,v20,hk,hl,rfl,hs,m⟩
  refine bT hs m gI fun a w_ hs m=>?_
  refine aR hs rfl (fun h23=>?_) (fun h23=>?_)
  rotate_left
  ·have h23p:=of_decide_eq_false h23
   refine bT hs m (x_ gZ (e_ (p_ (fA (r:=2) rfl rfl rfl)) eZ)) fun a w_ hs m=>?_
   refine iF ?_
   refine bT hs m (x_ eO (e_ (p_ (fB (v:=.bool false) rfl rfl rfl)) (x_ aBW (e_ (p_ (bQ m rfl fP (dX fN))) gC)))) fun a w_ hs m=>?_
   rw[show aF.take k2f=aF from List.take_of_length_le (by omega)] at m hl
   rw[(show (([]:List eV)++aL (fun e=>(e.Local==true) && !cG aA aH aD aC aI e) cR aF)++aL (fun e=>(e.Local==false) && !cG aA aH aD aC aI e) cR aF=((([]:List eV)++aL (fun e=>(e.Local==true) && !cG aA aH aD aC aI e) cR aF)++aL (fun e=>(e.Local==false) && !cG aA aH aD aC aI e) cR aF)++aL (fun e=>cA bB cW aC e) gJ (aA.take 0) from pickM_0.symm)] at m
   refine wp_loop_ghost (fun gn a w=>∃ k4:Nat,∃ v25:SH,(k4<=aA.length)/\((((([]:List eV)++aL (fun e=>(e.Local==true) && !cG aA aH aD aC aI e) cR aF)++aL (fun e=>(e.Local==false) && !cG aA aH aD aC aI e) cR aF)++aL (fun e=>cA bB cW aC e) gJ (aA.take k4)).length<=33554432+k4)/\gn=aA.length-k4/\St 151 [(2,.pointer (some (bK p1 0))),(3,.pointer (some (bK p3 0))),(6,v25.v),(59,cT.v),(60,.int .i64 (aA.length:Int)),(61,.int .i64 (k4:Int))] a/\Hp w0 (hh w0) [Bx p1 29 [cQ.v,cT.v,dQ.v],Bx p3 29 [cS.v,cU.v,dS.v],Sv 19 58 v25.v ((((([]:List eV)++aL (fun e=>(e.Local==true) && !cG aA aH aD aC aI e) cR aF)++aL (fun e=>(e.Local==false) && !cG aA aH aD aC aI e) cR aF)++aL (fun e=>cA bB cW aC e) gJ (aA.take k4)).map mO)] w) (aA.length-0) ⟨0,v20,by omega,by(rw[pickM_0];omega),rfl,hs.to ⟨rfl,rfl,rfl,rfl,rfl,rfl,trivial⟩,m.sub (a0 (a0 (a0 .n)))⟩ ?_
   rintro gn a w27 ⟨k4,v25,hk,hl,rfl,hs,m⟩
   refine bT hs m gI fun a w_ hs m=>?_
   refine aR hs rfl (fun h28=>?_) (fun h28=>?_)
   rotate_left
   ·have h28p:=of_decide_eq_false h28
    refine bT hs m (x_ hQ (e_ (p_ (bQ m rfl fQ (dX hU))) gC)) fun a w_ hs m=>?_
    rw[show aA.take k4=aA from List.take_of_length_le (by omega)] at m hl
    rw[(show ((([]:List eV)++aL (fun e=>(e.Local==true) && !cG aA aH aD aC aI e) cR aF)++aL (fun e=>(e.Local==false) && !cG aA aH aD aC aI e) cR aF)++aL (fun e=>cA bB cW aC e) gJ aA=(((([]:List eV)++aL (fun e=>(e.Local==true) && !cG aA aH aD aC aI e) cR aF)++aL (fun e=>(e.Local==false) && !cG aA aH aD aC aI e) cR aF)++aL (fun e=>cA bB cW aC e) gJ aA)++aL (fun e=>cA bY gH aI e) iC (aH.take 0) from pickM_0.symm)] at m
    refine wp_loop_ghost (fun gn a w=>∃ k6:Nat,∃ v29:SH,(k6<=aH.length)/\(((((([]:List eV)++aL (fun e=>(e.Local==true) && !cG aA aH aD aC aI e) cR aF)++aL (fun e=>(e.Local==false) && !cG aA aH aD aC aI e) cR aF)++aL (fun e=>cA bB cW aC e) gJ aA)++aL (fun e=>cA bY gH aI e) iC (aH.take k6)).length<=50331648+k6)/\gn=aH.length-k6/\St 151 [(2,.pointer (some (bK p1 0))),(3,.pointer (some (bK p3 0))),(6,v29.v),(76,dQ.v),(77,.int .i64 (aH.length:Int)),(78,.int .i64 (k6:Int))] a/\Hp w0 (hh w0) [Bx p1 29 [cQ.v,cT.v,dQ.v],Bx p3 29 [cS.v,cU.v,dS.v],Sv 19 58 v29.v (((((([]:List eV)++aL (fun e=>(e.Local==true) && !cG aA aH aD aC aI e) cR aF)++aL (fun e=>(e.Local==false) && !cG aA aH aD aC aI e) cR aF)++aL (fun e=>cA bB cW aC e) gJ aA)++aL (fun e=>cA bY gH aI e) iC (aH.take k6)).map mO)] w) (aH.length-0) ⟨0,v25,by omega,by(rw[pickM_0];omega),rfl,hs.to ⟨rfl,rfl,rfl,rfl,rfl,rfl,trivial⟩,m.sub (a0 (a0 (a0 .n)))⟩ ?_
    rintro gn a w31 ⟨k6,v29,hk,hl,rfl,hs,m⟩
    refine bT hs m gI fun a w_ hs m=>?_
    refine aR hs rfl (fun h32=>?_) (fun h32=>?_)
    rotate_left
    ·have h32p:=of_decide_eq_false h32
     refine bT hs m (x_ hQ (e_ (p_ (bQ m rfl fQ (dX iH))) gC)) fun a w_ hs m=>?_
     rw[show aH.take k6=aH from List.take_of_length_le (by omega)] at m hl
     rw[(show (((([]:List eV)++aL (fun e=>(e.Local==true) && !cG aA aH aD aC aI e) cR aF)++aL (fun e=>(e.Local==false) && !cG aA aH aD aC aI e) cR aF)++aL (fun e=>cA bB cW aC e) gJ aA)++aL (fun e=>cA bY gH aI e) iC aH=((((([]:List eV)++aL (fun e=>(e.Local==true) && !cG aA aH aD aC aI e) cR aF)++aL (fun e=>(e.Local==false) && !cG aA aH aD aC aI e) cR aF)++aL (fun e=>cA bB cW aC e) gJ aA)++aL (fun e=>cA bY gH aI e) iC aH)++aL (fun e=>cA bY gH aH e) jX (aI.take 0) from pickM_0.symm)] at m
     refine wp_loop_ghost (fun gn a w=>∃ k8:Nat,∃ v33:SH,(k8<=aI.length)/\((((((([]:List eV)++aL (fun e=>(e.Local==true) && !cG aA aH aD aC aI e) cR aF)++aL (fun e=>(e.Local==false) && !cG aA aH aD aC aI e) cR aF)++aL (fun e=>cA bB cW aC e) gJ aA)++aL (fun e=>cA bY gH aI e) iC aH)++aL (fun e=>cA bY gH aH e) jX (aI.take k8)).length<=67108864+k8)/\gn=aI.length-k8/\St 151 [(2,.pointer (some (bK p1 0))),(3,.pointer (some (bK p3 0))),(6,v33.v),(93,dS.v),(94,.int .i64 (aI.length:Int)),(95,.int .i64 (k8:Int))] a/\Hp w0 (hh w0) [Bx p1 29 [cQ.v,cT.v,dQ.v],Bx p3 29 [cS.v,cU.v,dS.v],Sv 19 58 v33.v ((((((([]:List eV)++aL (fun e=>(e.Local==true) && !cG aA aH aD aC aI e) cR aF)++aL (fun e=>(e.Local==false) && !cG aA aH aD aC aI e) cR aF)++aL (fun e=>cA bB cW aC e) gJ aA)++aL (fun e=>cA bY gH aI e) iC aH)++aL (fun e=>cA bY gH aH e) jX (aI.take k8)).map mO)] w) (aI.length-0) ⟨0,v29,by omega,by(rw[pickM_0];omega),rfl,hs.to ⟨rfl,rfl,rfl,rfl,rfl,rfl,trivial⟩,m.sub (a0 (a0 (a0 .n)))⟩ ?_
     rintro gn a w35 ⟨k8,v33,hk,hl,rfl,hs,m⟩
     refine bT hs m gI fun a w_ hs m=>?_
     refine aR hs rfl (fun h36=>?_) (fun h36=>?_)
     rotate_left
     ·have h36p:=of_decide_eq_false h36
      refine bT hs m (x_ hQ (e_ (p_ (bQ m rfl fP (dX fR))) gC)) fun a w_ hs m=>?_
      rw[show aI.take k8=aI from List.take_of_length_le (by omega)] at m hl
      rw[(show ((((([]:List eV)++aL (fun e=>(e.Local==true) && !cG aA aH aD aC aI e) cR aF)++aL (fun e=>(e.Local==false) && !cG aA aH aD aC aI e) cR aF)++aL (fun e=>cA bB cW aC e) gJ aA)++aL (fun e=>cA bY gH aI e) iC aH)++aL (fun e=>cA bY gH aH e) jX aI=(((((([]:List eV)++aL (fun e=>(e.Local==true) && !cG aA aH aD aC aI e) cR aF)++aL (fun e=>(e.Local==false) && !cG aA aH aD aC aI e) cR aF)++aL (fun e=>cA bB cW aC e) gJ aA)++aL (fun e=>cA bY gH aI e) iC aH)++aL (fun e=>cA bY gH aH e) jX aI)++aL (fun e=>cA bB cW aA e) jH (aC.take 0) from pickM_0.symm)] at m
      refine wp_loop_ghost (fun gn a w=>∃ k10:Nat,∃ v37:SH,(k10<=aC.length)/\(((((((([]:List eV)++aL (fun e=>(e.Local==true) && !cG aA aH aD aC aI e) cR aF)++aL (fun e=>(e.Local==false) && !cG aA aH aD aC aI e) cR aF)++aL (fun e=>cA bB cW aC e) gJ aA)++aL (fun e=>cA bY gH aI e) iC aH)++aL (fun e=>cA bY gH aH e) jX aI)++aL (fun e=>cA bB cW aA e) jH (aC.take k10)).length<=83886080+k10)/\gn=aC.length-k10/\St 151 [(2,.pointer (some (bK p1 0))),(3,.pointer (some (bK p3 0))),(6,v37.v),(110,cU.v),(111,.int .i64 (aC.length:Int)),(112,.int .i64 (k10:Int))] a/\Hp w0 (hh w0) [Bx p1 29 [cQ.v,cT.v,dQ.v],Bx p3 29 [cS.v,cU.v,dS.v],Sv 19 58 v37.v (((((((([]:List eV)++aL (fun e=>(e.Local==true) && !cG aA aH aD aC aI e) cR aF)++aL (fun e=>(e.Local==false) && !cG aA aH aD aC aI e) cR aF)++aL (fun e=>cA bB cW aC e) gJ aA)++aL (fun e=>cA bY gH aI e) iC aH)++aL (fun e=>cA bY gH aH e) jX aI)++aL (fun e=>cA bB cW aA e) jH (aC.take k10)).map mO)] w) (aC.length-0) ⟨0,v33,by omega,by(rw[pickM_0];omega),rfl,hs.to ⟨rfl,rfl,rfl,rfl,rfl,rfl,trivial⟩,m.sub (a0 (a0 (a0 .n)))⟩ ?_
      rintro gn a w39 ⟨k10,v37,hk,hl,rfl,hs,m⟩
      refine bT hs m gI fun a w_ hs m=>?_
      refine aR hs rfl (fun h40=>?_) (fun h40=>?_)
      rotate_left
      ·have h40p:=of_decide_eq_false h40
       refine bT hs m (x_ hQ (e_ (p_ (bQ m rfl eY (dX fS))) gC)) fun a w_ hs m=>?_
       rw[show aC.take k10=aC from List.take_of_length_le (by omega)] at m hl
       rw[(show (((((([]:List eV)++aL (fun e=>(e.Local==true) && !cG aA aH aD aC aI e) cR aF)++aL (fun e=>(e.Local==false) && !cG aA aH aD aC aI e) cR aF)++aL (fun e=>cA bB cW aC e) gJ aA)++aL (fun e=>cA bY gH aI e) iC aH)++aL (fun e=>cA bY gH aH e) jX aI)++aL (fun e=>cA bB cW aA e) jH aC=((((((([]:List eV)++aL (fun e=>(e.Local==true) && !cG aA aH aD aC aI e) cR aF)++aL (fun e=>(e.Local==false) && !cG aA aH aD aC aI e) cR aF)++aL (fun e=>cA bB cW aC e) gJ aA)++aL (fun e=>cA bY gH aI e) iC aH)++aL (fun e=>cA bY gH aH e) jX aI)++aL (fun e=>cA bB cW aA e) jH aC)++aL (fun e=>cA bS gE aF e || !cG aA aH aD aC aI e) uA (aD.take 0) from pickM_0.symm)] at m
       refine wp_loop_ghost (fun gn a w=>∃ k12:Nat,∃ v41:SH,(k12<=aD.length)/\((((((((([]:List eV)++aL (fun e=>(e.Local==true) && !cG aA aH aD aC aI e) cR aF)++aL (fun e=>(e.Local==false) && !cG aA aH aD aC aI e) cR aF)++aL (fun e=>cA bB cW aC e) gJ aA)++aL (fun e=>cA bY gH aI e) iC aH)++aL (fun e=>cA bY gH aH e) jX aI)++aL (fun e=>cA bB cW aA e) jH aC)++aL (fun e=>cA bS gE aF e || !cG aA aH aD aC aI e) uA (aD.take k12)).length<=100663296+k12)/\gn=aD.length-k12/\St 151 [(2,.pointer (some (bK p1 0))),(3,.pointer (some (bK p3 0))),(6,v41.v),(127,cS.v),(128,.int .i64 (aD.length:Int)),(129,.int .i64 (k12:Int))] a/\Hp w0 (hh w0) [Bx p1 29 [cQ.v,cT.v,dQ.v],Bx p3 29 [cS.v,cU.v,dS.v],Sv 19 58 v41.v ((((((((([]:List eV)++aL (fun e=>(e.Local==true) && !cG aA aH aD aC aI e) cR aF)++aL (fun e=>(e.Local==false) && !cG aA aH aD aC aI e) cR aF)++aL (fun e=>cA bB cW aC e) gJ aA)++aL (fun e=>cA bY gH aI e) iC aH)++aL (fun e=>cA bY gH aH e) jX aI)++aL (fun e=>cA bB cW aA e) jH aC)++aL (fun e=>cA bS gE aF e || !cG aA aH aD aC aI e) uA (aD.take k12)).map mO)] w) (aD.length-0) ⟨0,v37,by omega,by(rw[pickM_0];omega),rfl,hs.to ⟨rfl,rfl,rfl,rfl,rfl,rfl,trivial⟩,m.sub (a0 (a0 (a0 .n)))⟩ ?_
       rintro gn a w43 ⟨k12,v41,hk,hl,rfl,hs,m⟩
       refine bT hs m gI fun a w_ hs m=>?_
       refine aR hs rfl (fun h44=>?_) (fun h44=>?_)
       rotate_left
       ·have h44p:=of_decide_eq_false h44
        refine bT hs m nP fun a w_ hs m=>?_
        refine bH hs (vs:=[v41.v,.int .i64 0]) rfl ⟨rfl,rfl,trivial⟩ ?_
        rw[(show ((((((([]:List eV)++aL (fun e=>(e.Local==true) && !cG aA aH aD aC aI e) cR aF)++aL (fun e=>(e.Local==false) && !cG aA aH aD aC aI e) cR aF)++aL (fun e=>cA bB cW aC e) gJ aA)++aL (fun e=>cA bY gH aI e) iC aH)++aL (fun e=>cA bY gH aH e) jX aI)++aL (fun e=>cA bB cW aA e) jH aC)++aL (fun e=>cA bS gE aF e || !cG aA aH aD aC aI e) uA (aD.take k12)=xC aF aA aH aD aC aI from aPD (by assumption) (by omega))] at m
        exact⟨_,rfl,v41,by rw[(show (0:Int)=aDX aF aA aH aD aC aI from aPB (by assumption))];rfl,m.sub (a2 .n)⟩
       have h44p:=of_decide_eq_true h44
       refine wp_skip ?_
       refine aB ?_
       refine dG ?_
       refine wp_block ?_
       refine bN ?_
       obtain⟨e47,he48⟩:=bI (l:=aD) (i:=k12) (by omega)
       refine kE (c:=aM) (e:=e47) hs m (x:=(.tmp 127)) (ix:=(.tmp 129)) rfl rfl eY gG fS (by omega) he48 fun p49 hp50 ok51=>?_
       refine bP hs m (e_ (p_ (ok51 _ _ _ _ _)) (e_ (p_ (cN (aM e47))) bR)) fun a w_ hs m=>?_
       refine bZ hs m kK rfl fun p52 w53 m a hs=>?_
       refine bP hs m (dZ s0 (t:=x_ gI (e_ (p_ (cN (aM e47))) bR))) fun a w54 hs m=>?_
       refine cC hs m rfl rfl a3J rfl (aG6 cQ aF e47 _ (m.rd fF) ) rfl fun w55 m a hs=>?_
       refine bP hs m eO fun a w_ hs m=>?_
       refine xY (.c (.c (.c (.c (.c (.c (.n))))))) hs m 143 (.bool ((cA bS gE aF e47) || (!(cG aA aH aD aC aI e47)))) ?_ ?_
       ·rcases Bool.eq_false_or_eq_true (cA bS gE aF e47) with hb56|hb56
        ·refine bP hs m gX fun a w_ hs m=>?_
         exact nN hs m 5 (by rw[hb56];rfl)
        ·refine bP hs m (e_ (dV hb56 (cN [cQ.v,cT.v,dQ.v])) (e_ (dV hb56 (cN [cS.v,cU.v,dS.v])) (e_ (dV hb56 (cN (aM e47))) bR))) fun a w_ hs m=>?_
         refine sL hs rfl rfl hb56 m rfl rfl aVJ rfl (aH0 cQ aF cT aA dQ aH cS aD cU aC dS aI e47 _ (m.rd fF) (m.rd fN) (m.rd hU) (m.rd fS) (m.rd fR) (m.rd iH) ) rfl fun w57 m a hs=>?_
         refine bP hs m iA fun a w_ hs m=>?_
         exact nN hs m 5 (by rw[hb56];rfl)
       rintro a w58 ⟨hs,m⟩
       refine wpList_nil (aB ?_)
       refine aR hs rfl (fun h59=>?_) (fun h59=>?_)
       ·have h59p:=h59;simp only[fK] at h59p
        refine bT hs m (x_ iA (e_ (p_ (cN (aM e47))) (e_ (p_ (bW (cs:=mO (⟨⟨1,rfl⟩,e47,(⟨⟨0,rfl⟩,(⟨⟨0,rfl⟩,⟨0,rfl⟩,⟨0,rfl⟩,⟨0,rfl⟩,⟨0,rfl⟩,⟨0,rfl⟩⟩:cK)⟩:bA),(⟨(⟨⟨0,rfl⟩,⟨0,rfl⟩,⟨0,rfl⟩,⟨0,rfl⟩,⟨0,rfl⟩,⟨0,rfl⟩⟩:cK),⟨0,rfl⟩⟩:cH)⟩:eV)) aBP mZ rfl rfl)) bR))) fun a w_ hs m=>?_
        refine dK (c:=mO) (ys:=[(⟨⟨1,rfl⟩,e47,(⟨⟨0,rfl⟩,(⟨⟨0,rfl⟩,⟨0,rfl⟩,⟨0,rfl⟩,⟨0,rfl⟩,⟨0,rfl⟩,⟨0,rfl⟩⟩:cK)⟩:bA),(⟨(⟨⟨0,rfl⟩,⟨0,rfl⟩,⟨0,rfl⟩,⟨0,rfl⟩,⟨0,rfl⟩,⟨0,rfl⟩⟩:cK),⟨0,rfl⟩⟩:cH)⟩:eV)]) hs m oO qL mZ rfl rfl rfl rfl rfl (fun _=>rfl) rfl rfl rfl fun v60 w61 m a hs=>?_
        refine cF (c:=mO) (xs:=((((((([]:List eV)++aL (fun e=>(e.Local==true) && !cG aA aH aD aC aI e) cR aF)++aL (fun e=>(e.Local==false) && !cG aA aH aD aC aI e) cR aF)++aL (fun e=>cA bB cW aC e) gJ aA)++aL (fun e=>cA bY gH aI e) iC aH)++aL (fun e=>cA bY gH aH e) jX aI)++aL (fun e=>cA bB cW aA e) jH aC)++aL (fun e=>cA bS gE aF e || !cG aA aH aD aC aI e) uA (aD.take k12)) (ys:=[(⟨⟨1,rfl⟩,e47,(⟨⟨0,rfl⟩,(⟨⟨0,rfl⟩,⟨0,rfl⟩,⟨0,rfl⟩,⟨0,rfl⟩,⟨0,rfl⟩,⟨0,rfl⟩⟩:cK)⟩:bA),(⟨(⟨⟨0,rfl⟩,⟨0,rfl⟩,⟨0,rfl⟩,⟨0,rfl⟩,⟨0,rfl⟩,⟨0,rfl⟩⟩:cK),⟨0,rfl⟩⟩:cH)⟩:eV)]) hs m rfl rfl oO aBG qL mZ rfl aAU rfl r4 (m.rdv r0) (fun _=>rfl) (by(simp only[List.length_cons,List.length_nil];omega)) rfl fun v62 w63 m a hs=>?_
        refine bP hs m hQ fun a w_ hs m=>?_
        rw[(show ((((((([]:List eV)++aL (fun e=>(e.Local==true) && !cG aA aH aD aC aI e) cR aF)++aL (fun e=>(e.Local==false) && !cG aA aH aD aC aI e) cR aF)++aL (fun e=>cA bB cW aC e) gJ aA)++aL (fun e=>cA bY gH aI e) iC aH)++aL (fun e=>cA bY gH aH e) jX aI)++aL (fun e=>cA bB cW aA e) jH aC)++aL (fun e=>cA bS gE aF e || !cG aA aH aD aC aI e) uA (aD.take k12)++[(⟨⟨1,rfl⟩,e47,(⟨⟨0,rfl⟩,(⟨⟨0,rfl⟩,⟨0,rfl⟩,⟨0,rfl⟩,⟨0,rfl⟩,⟨0,rfl⟩,⟨0,rfl⟩⟩:cK)⟩:bA),(⟨(⟨⟨0,rfl⟩,⟨0,rfl⟩,⟨0,rfl⟩,⟨0,rfl⟩,⟨0,rfl⟩,⟨0,rfl⟩⟩:cK),⟨0,rfl⟩⟩:cH)⟩:eV)]=((((((([]:List eV)++aL (fun e=>(e.Local==true) && !cG aA aH aD aC aI e) cR aF)++aL (fun e=>(e.Local==false) && !cG aA aH aD aC aI e) cR aF)++aL (fun e=>cA bB cW aC e) gJ aA)++aL (fun e=>cA bY gH aI e) iC aH)++aL (fun e=>cA bY gH aH e) jX aI)++aL (fun e=>cA bB cW aA e) jH aC)++aL (fun e=>cA bS gE aF e || !cG aA aH aD aC aI e) uA (aD.take (k12+1)) from nS (by assumption) (by assumption))] at m
        exact⟨aD.length-(k12+1),by omega,k12+1,v62,by omega,by exact Nat.le_trans gA (by omega),rfl,hs.to ⟨rfl,rfl,rfl,rfl,rfl,rfl,trivial⟩,m.sub (a3 (a3 (a0 .n)))⟩
       have h59p:=h59;simp only[fK] at h59p
       refine bT hs m lA fun a w_ hs m=>?_
       rw[(show ((((((([]:List eV)++aL (fun e=>(e.Local==true) && !cG aA aH aD aC aI e) cR aF)++aL (fun e=>(e.Local==false) && !cG aA aH aD aC aI e) cR aF)++aL (fun e=>cA bB cW aC e) gJ aA)++aL (fun e=>cA bY gH aI e) iC aH)++aL (fun e=>cA bY gH aH e) jX aI)++aL (fun e=>cA bB cW aA e) jH aC)++aL (fun e=>cA bS gE aF e || !cG aA aH aD aC aI e) uA (aD.take k12)=((((((([]:List eV)++aL (fun e=>(e.Local==true) && !cG aA aH aD aC aI e) cR aF)++aL (fun e=>(e.Local==false) && !cG aA aH aD aC aI e) cR aF)++aL (fun e=>cA bB cW aC e) gJ aA)++aL (fun e=>cA bY gH aI e) iC aH)++aL (fun e=>cA bY gH aH e) jX aI)++aL (fun e=>cA bB cW aA e) jH aC)++aL (fun e=>cA bS gE aF e || !cG aA aH aD aC aI e) uA (aD.take (k12+1)) from nR (by assumption) (by assumption))] at m
       exact⟨aD.length-(k12+1),by omega,k12+1,v41,by omega,by exact Nat.le_trans gA (by omega),rfl,hs.to ⟨rfl,rfl,rfl,rfl,rfl,rfl,trivial⟩,m.sub (a1 (a1 (a1 .n)))⟩
      have h40p:=of_decide_eq_true h40
      refine wp_skip ?_
      refine aB ?_
      refine dG ?_
      refine wp_block ?_
      refine bN ?_
      obtain⟨e66,he67⟩:=bI (l:=aC) (i:=k10) (by omega)
      refine kE (c:=aS) (e:=e66) hs m (x:=(.tmp 110)) (ix:=(.tmp 112)) rfl rfl fP gQ fR (by omega) he67 fun p68 hp69 ok70=>?_
      refine bP hs m (e_ (p_ (ok70 _ _ _ _ _)) (e_ (p_ (cN (aS e66))) bR)) fun a w_ hs m=>?_
      refine bZ hs m lW rfl fun p71 w72 m a hs=>?_
      refine bP hs m (dZ s0 (t:=x_ gI (e_ (p_ (cN (aS e66))) bR))) fun a w73 hs m=>?_
      refine cC hs m rfl rfl a0I rfl (aA9 cT aA e66 _ (m.rd fN) ) rfl fun w74 m a hs=>?_
      refine wpList_nil (aB ?_)
      refine aR hs rfl (fun h75=>?_) (fun h75=>?_)
      ·refine bT hs m (x_ iA (e_ (p_ (cN (aS e66))) (e_ (p_ (bW (cs:=mO (⟨⟨3,rfl⟩,(⟨(⟨⟨0,rfl⟩,⟨0,rfl⟩⟩:aT),⟨0,rfl⟩,false⟩:bD),e66,(⟨(⟨⟨0,rfl⟩,⟨0,rfl⟩,⟨0,rfl⟩,⟨0,rfl⟩,⟨0,rfl⟩,⟨0,rfl⟩⟩:cK),⟨0,rfl⟩⟩:cH)⟩:eV)) aBP mZ rfl rfl)) bR))) fun a w_ hs m=>?_
       refine dK (c:=mO) (ys:=[(⟨⟨3,rfl⟩,(⟨(⟨⟨0,rfl⟩,⟨0,rfl⟩⟩:aT),⟨0,rfl⟩,false⟩:bD),e66,(⟨(⟨⟨0,rfl⟩,⟨0,rfl⟩,⟨0,rfl⟩,⟨0,rfl⟩,⟨0,rfl⟩,⟨0,rfl⟩⟩:cK),⟨0,rfl⟩⟩:cH)⟩:eV)]) hs m oO qL mZ rfl rfl rfl rfl rfl (fun _=>rfl) rfl rfl rfl fun v76 w77 m a hs=>?_
       refine cF (c:=mO) (xs:=(((((([]:List eV)++aL (fun e=>(e.Local==true) && !cG aA aH aD aC aI e) cR aF)++aL (fun e=>(e.Local==false) && !cG aA aH aD aC aI e) cR aF)++aL (fun e=>cA bB cW aC e) gJ aA)++aL (fun e=>cA bY gH aI e) iC aH)++aL (fun e=>cA bY gH aH e) jX aI)++aL (fun e=>cA bB cW aA e) jH (aC.take k10)) (ys:=[(⟨⟨3,rfl⟩,(⟨(⟨⟨0,rfl⟩,⟨0,rfl⟩⟩:aT),⟨0,rfl⟩,false⟩:bD),e66,(⟨(⟨⟨0,rfl⟩,⟨0,rfl⟩,⟨0,rfl⟩,⟨0,rfl⟩,⟨0,rfl⟩,⟨0,rfl⟩⟩:cK),⟨0,rfl⟩⟩:cH)⟩:eV)]) hs m rfl rfl oO aBG qL mZ rfl aAU rfl r4 (m.rdv r0) (fun _=>rfl) (by(simp only[List.length_cons,List.length_nil];omega)) rfl fun v78 w79 m a hs=>?_
       refine bP hs m hQ fun a w_ hs m=>?_
       rw[(show (((((([]:List eV)++aL (fun e=>(e.Local==true) && !cG aA aH aD aC aI e) cR aF)++aL (fun e=>(e.Local==false) && !cG aA aH aD aC aI e) cR aF)++aL (fun e=>cA bB cW aC e) gJ aA)++aL (fun e=>cA bY gH aI e) iC aH)++aL (fun e=>cA bY gH aH e) jX aI)++aL (fun e=>cA bB cW aA e) jH (aC.take k10)++[(⟨⟨3,rfl⟩,(⟨(⟨⟨0,rfl⟩,⟨0,rfl⟩⟩:aT),⟨0,rfl⟩,false⟩:bD),e66,(⟨(⟨⟨0,rfl⟩,⟨0,rfl⟩,⟨0,rfl⟩,⟨0,rfl⟩,⟨0,rfl⟩,⟨0,rfl⟩⟩:cK),⟨0,rfl⟩⟩:cH)⟩:eV)]=(((((([]:List eV)++aL (fun e=>(e.Local==true) && !cG aA aH aD aC aI e) cR aF)++aL (fun e=>(e.Local==false) && !cG aA aH aD aC aI e) cR aF)++aL (fun e=>cA bB cW aC e) gJ aA)++aL (fun e=>cA bY gH aI e) iC aH)++aL (fun e=>cA bY gH aH e) jX aI)++aL (fun e=>cA bB cW aA e) jH (aC.take (k10+1)) from nS (by assumption) (by assumption))] at m
       exact⟨aC.length-(k10+1),by omega,k10+1,v78,by omega,by exact Nat.le_trans gA (by omega),rfl,hs.to ⟨rfl,rfl,rfl,rfl,rfl,rfl,trivial⟩,m.sub (a3 (a3 (a0 .n)))⟩
      refine bT hs m lA fun a w_ hs m=>?_
      rw[(show (((((([]:List eV)++aL (fun e=>(e.Local==true) && !cG aA aH aD aC aI e) cR aF)++aL (fun e=>(e.Local==false) && !cG aA aH aD aC aI e) cR aF)++aL (fun e=>cA bB cW aC e) gJ aA)++aL (fun e=>cA bY gH aI e) iC aH)++aL (fun e=>cA bY gH aH e) jX aI)++aL (fun e=>cA bB cW aA e) jH (aC.take k10)=(((((([]:List eV)++aL (fun e=>(e.Local==true) && !cG aA aH aD aC aI e) cR aF)++aL (fun e=>(e.Local==false) && !cG aA aH aD aC aI e) cR aF)++aL (fun e=>cA bB cW aC e) gJ aA)++aL (fun e=>cA bY gH aI e) iC aH)++aL (fun e=>cA bY gH aH e) jX aI)++aL (fun e=>cA bB cW aA e) jH (aC.take (k10+1)) from nR (by assumption) (by assumption))] at m
      exact⟨aC.length-(k10+1),by omega,k10+1,v37,by omega,by exact Nat.le_trans gA (by omega),rfl,hs.to ⟨rfl,rfl,rfl,rfl,rfl,rfl,trivial⟩,m.sub (a1 (a1 (a1 .n)))⟩
     have h36p:=of_decide_eq_true h36
     refine wp_skip ?_
     refine aB ?_
     refine dG ?_
     refine wp_block ?_
     refine bN ?_
     obtain⟨e82,he83⟩:=bI (l:=aI) (i:=k8) (by omega)
     refine kE (c:=cB) (e:=e82) hs m (x:=(.tmp 93)) (ix:=(.tmp 95)) rfl rfl fQ gS iH (by omega) he83 fun p84 hp85 ok86=>?_
     refine bP hs m (e_ (p_ (ok86 _ _ _ _ _)) (e_ (p_ (cN (cB e82))) bR)) fun a w_ hs m=>?_
     refine bZ hs m lS rfl fun p87 w88 m a hs=>?_
     refine bP hs m (dZ s0 (t:=x_ gI (e_ (p_ (cN (cB e82))) bR))) fun a w89 hs m=>?_
     refine cC hs m rfl rfl a0J rfl (aED dQ aH e82 _ (m.rd hU) ) rfl fun w90 m a hs=>?_
     refine wpList_nil (aB ?_)
     refine aR hs rfl (fun h91=>?_) (fun h91=>?_)
     ·refine bT hs m (x_ iA (e_ (p_ (cN (cB e82))) (e_ (p_ (bW (cs:=mO (⟨⟨5,rfl⟩,(⟨(⟨⟨0,rfl⟩,⟨0,rfl⟩⟩:aT),⟨0,rfl⟩,false⟩:bD),(⟨⟨0,rfl⟩,(⟨⟨0,rfl⟩,⟨0,rfl⟩,⟨0,rfl⟩,⟨0,rfl⟩,⟨0,rfl⟩,⟨0,rfl⟩⟩:cK)⟩:bA),e82⟩:eV)) aBP mZ rfl rfl)) bR))) fun a w_ hs m=>?_
      refine dK (c:=mO) (ys:=[(⟨⟨5,rfl⟩,(⟨(⟨⟨0,rfl⟩,⟨0,rfl⟩⟩:aT),⟨0,rfl⟩,false⟩:bD),(⟨⟨0,rfl⟩,(⟨⟨0,rfl⟩,⟨0,rfl⟩,⟨0,rfl⟩,⟨0,rfl⟩,⟨0,rfl⟩,⟨0,rfl⟩⟩:cK)⟩:bA),e82⟩:eV)]) hs m oO qL mZ rfl rfl rfl rfl rfl (fun _=>rfl) rfl rfl rfl fun v92 w93 m a hs=>?_
      refine cF (c:=mO) (xs:=((((([]:List eV)++aL (fun e=>(e.Local==true) && !cG aA aH aD aC aI e) cR aF)++aL (fun e=>(e.Local==false) && !cG aA aH aD aC aI e) cR aF)++aL (fun e=>cA bB cW aC e) gJ aA)++aL (fun e=>cA bY gH aI e) iC aH)++aL (fun e=>cA bY gH aH e) jX (aI.take k8)) (ys:=[(⟨⟨5,rfl⟩,(⟨(⟨⟨0,rfl⟩,⟨0,rfl⟩⟩:aT),⟨0,rfl⟩,false⟩:bD),(⟨⟨0,rfl⟩,(⟨⟨0,rfl⟩,⟨0,rfl⟩,⟨0,rfl⟩,⟨0,rfl⟩,⟨0,rfl⟩,⟨0,rfl⟩⟩:cK)⟩:bA),e82⟩:eV)]) hs m rfl rfl oO aBG qL mZ rfl aAU rfl r4 (m.rdv r0) (fun _=>rfl) (by(simp only[List.length_cons,List.length_nil];omega)) rfl fun v94 w95 m a hs=>?_
      refine bP hs m hQ fun a w_ hs m=>?_
      rw[(show ((((([]:List eV)++aL (fun e=>(e.Local==true) && !cG aA aH aD aC aI e) cR aF)++aL (fun e=>(e.Local==false) && !cG aA aH aD aC aI e) cR aF)++aL (fun e=>cA bB cW aC e) gJ aA)++aL (fun e=>cA bY gH aI e) iC aH)++aL (fun e=>cA bY gH aH e) jX (aI.take k8)++[(⟨⟨5,rfl⟩,(⟨(⟨⟨0,rfl⟩,⟨0,rfl⟩⟩:aT),⟨0,rfl⟩,false⟩:bD),(⟨⟨0,rfl⟩,(⟨⟨0,rfl⟩,⟨0,rfl⟩,⟨0,rfl⟩,⟨0,rfl⟩,⟨0,rfl⟩,⟨0,rfl⟩⟩:cK)⟩:bA),e82⟩:eV)]=((((([]:List eV)++aL (fun e=>(e.Local==true) && !cG aA aH aD aC aI e) cR aF)++aL (fun e=>(e.Local==false) && !cG aA aH aD aC aI e) cR aF)++aL (fun e=>cA bB cW aC e) gJ aA)++aL (fun e=>cA bY gH aI e) iC aH)++aL (fun e=>cA bY gH aH e) jX (aI.take (k8+1)) from nS (by assumption) (by assumption))] at m
      exact⟨aI.length-(k8+1),by omega,k8+1,v94,by omega,by exact Nat.le_trans gA (by omega),rfl,hs.to ⟨rfl,rfl,rfl,rfl,rfl,rfl,trivial⟩,m.sub (a3 (a3 (a0 .n)))⟩
     refine bT hs m lA fun a w_ hs m=>?_
     rw[(show ((((([]:List eV)++aL (fun e=>(e.Local==true) && !cG aA aH aD aC aI e) cR aF)++aL (fun e=>(e.Local==false) && !cG aA aH aD aC aI e) cR aF)++aL (fun e=>cA bB cW aC e) gJ aA)++aL (fun e=>cA bY gH aI e) iC aH)++aL (fun e=>cA bY gH aH e) jX (aI.take k8)=((((([]:List eV)++aL (fun e=>(e.Local==true) && !cG aA aH aD aC aI e) cR aF)++aL (fun e=>(e.Local==false) && !cG aA aH aD aC aI e) cR aF)++aL (fun e=>cA bB cW aC e) gJ aA)++aL (fun e=>cA bY gH aI e) iC aH)++aL (fun e=>cA bY gH aH e) jX (aI.take (k8+1)) from nR (by assumption) (by assumption))] at m
     exact⟨aI.length-(k8+1),by omega,k8+1,v33,by omega,by exact Nat.le_trans gA (by omega),rfl,hs.to ⟨rfl,rfl,rfl,rfl,rfl,rfl,trivial⟩,m.sub (a1 (a1 (a1 .n)))⟩
    have h32p:=of_decide_eq_true h32
    refine wp_skip ?_
    refine aB ?_
    refine dG ?_
    refine wp_block ?_
    refine bN ?_
    obtain⟨e98,he99⟩:=bI (l:=aH) (i:=k6) (by omega)
    refine kE (c:=cB) (e:=e98) hs m (x:=(.tmp 76)) (ix:=(.tmp 78)) rfl rfl fQ gS hU (by omega) he99 fun p100 hp101 ok102=>?_
    refine bP hs m (e_ (p_ (ok102 _ _ _ _ _)) (e_ (p_ (cN (cB e98))) bR)) fun a w_ hs m=>?_
    refine bZ hs m lS rfl fun p103 w104 m a hs=>?_
    refine bP hs m (dZ s0 (t:=x_ gI (e_ (p_ (cN (cB e98))) bR))) fun a w105 hs m=>?_
    refine cC hs m rfl rfl a0J rfl (aED dS aI e98 _ (m.rd iH) ) rfl fun w106 m a hs=>?_
    refine wpList_nil (aB ?_)
    refine aR hs rfl (fun h107=>?_) (fun h107=>?_)
    ·refine bT hs m (x_ iA (e_ (p_ (cN (cB e98))) (e_ (p_ (bW (cs:=mO (⟨⟨6,rfl⟩,(⟨(⟨⟨0,rfl⟩,⟨0,rfl⟩⟩:aT),⟨0,rfl⟩,false⟩:bD),(⟨⟨0,rfl⟩,(⟨⟨0,rfl⟩,⟨0,rfl⟩,⟨0,rfl⟩,⟨0,rfl⟩,⟨0,rfl⟩,⟨0,rfl⟩⟩:cK)⟩:bA),e98⟩:eV)) aBP mZ rfl rfl)) bR))) fun a w_ hs m=>?_
     refine dK (c:=mO) (ys:=[(⟨⟨6,rfl⟩,(⟨(⟨⟨0,rfl⟩,⟨0,rfl⟩⟩:aT),⟨0,rfl⟩,false⟩:bD),(⟨⟨0,rfl⟩,(⟨⟨0,rfl⟩,⟨0,rfl⟩,⟨0,rfl⟩,⟨0,rfl⟩,⟨0,rfl⟩,⟨0,rfl⟩⟩:cK)⟩:bA),e98⟩:eV)]) hs m oO qL mZ rfl rfl rfl rfl rfl (fun _=>rfl) rfl rfl rfl fun v108 w109 m a hs=>?_
     refine cF (c:=mO) (xs:=(((([]:List eV)++aL (fun e=>(e.Local==true) && !cG aA aH aD aC aI e) cR aF)++aL (fun e=>(e.Local==false) && !cG aA aH aD aC aI e) cR aF)++aL (fun e=>cA bB cW aC e) gJ aA)++aL (fun e=>cA bY gH aI e) iC (aH.take k6)) (ys:=[(⟨⟨6,rfl⟩,(⟨(⟨⟨0,rfl⟩,⟨0,rfl⟩⟩:aT),⟨0,rfl⟩,false⟩:bD),(⟨⟨0,rfl⟩,(⟨⟨0,rfl⟩,⟨0,rfl⟩,⟨0,rfl⟩,⟨0,rfl⟩,⟨0,rfl⟩,⟨0,rfl⟩⟩:cK)⟩:bA),e98⟩:eV)]) hs m rfl rfl oO aBG qL mZ rfl aAU rfl r4 (m.rdv r0) (fun _=>rfl) (by(simp only[List.length_cons,List.length_nil];omega)) rfl fun v110 w111 m a hs=>?_
     refine bP hs m hQ fun a w_ hs m=>?_
     rw[(show (((([]:List eV)++aL (fun e=>(e.Local==true) && !cG aA aH aD aC aI e) cR aF)++aL (fun e=>(e.Local==false) && !cG aA aH aD aC aI e) cR aF)++aL (fun e=>cA bB cW aC e) gJ aA)++aL (fun e=>cA bY gH aI e) iC (aH.take k6)++[(⟨⟨6,rfl⟩,(⟨(⟨⟨0,rfl⟩,⟨0,rfl⟩⟩:aT),⟨0,rfl⟩,false⟩:bD),(⟨⟨0,rfl⟩,(⟨⟨0,rfl⟩,⟨0,rfl⟩,⟨0,rfl⟩,⟨0,rfl⟩,⟨0,rfl⟩,⟨0,rfl⟩⟩:cK)⟩:bA),e98⟩:eV)]=(((([]:List eV)++aL (fun e=>(e.Local==true) && !cG aA aH aD aC aI e) cR aF)++aL (fun e=>(e.Local==false) && !cG aA aH aD aC aI e) cR aF)++aL (fun e=>cA bB cW aC e) gJ aA)++aL (fun e=>cA bY gH aI e) iC (aH.take (k6+1)) from nS (by assumption) (by assumption))] at m
     exact⟨aH.length-(k6+1),by omega,k6+1,v110,by omega,by exact Nat.le_trans gA (by omega),rfl,hs.to ⟨rfl,rfl,rfl,rfl,rfl,rfl,trivial⟩,m.sub (a3 (a3 (a0 .n)))⟩
    refine bT hs m lA fun a w_ hs m=>?_
    rw[(show (((([]:List eV)++aL (fun e=>(e.Local==true) && !cG aA aH aD aC aI e) cR aF)++aL (fun e=>(e.Local==false) && !cG aA aH aD aC aI e) cR aF)++aL (fun e=>cA bB cW aC e) gJ aA)++aL (fun e=>cA bY gH aI e) iC (aH.take k6)=(((([]:List eV)++aL (fun e=>(e.Local==true) && !cG aA aH aD aC aI e) cR aF)++aL (fun e=>(e.Local==false) && !cG aA aH aD aC aI e) cR aF)++aL (fun e=>cA bB cW aC e) gJ aA)++aL (fun e=>cA bY gH aI e) iC (aH.take (k6+1)) from nR (by assumption) (by assumption))] at m
    exact⟨aH.length-(k6+1),by omega,k6+1,v29,by omega,by exact Nat.le_trans gA (by omega),rfl,hs.to ⟨rfl,rfl,rfl,rfl,rfl,rfl,trivial⟩,m.sub (a1 (a1 (a1 .n)))⟩
   have h28p:=of_decide_eq_true h28
   refine wp_skip ?_
   refine aB ?_
   refine dG ?_
   refine wp_block ?_
   refine bN ?_
   obtain⟨e114,he115⟩:=bI (l:=aA) (i:=k4) (by omega)
   refine kE (c:=aS) (e:=e114) hs m (x:=(.tmp 59)) (ix:=(.tmp 61)) rfl rfl fP gQ fN (by omega) he115 fun p116 hp117 ok118=>?_
   refine bP hs m (e_ (p_ (ok118 _ _ _ _ _)) (e_ (p_ (cN (aS e114))) bR)) fun a w_ hs m=>?_
   refine bZ hs m lW rfl fun p119 w120 m a hs=>?_
   refine bP hs m (dZ s0 (t:=x_ gI (e_ (p_ (cN (aS e114))) bR))) fun a w121 hs m=>?_
   refine cC hs m rfl rfl a0I rfl (aA9 cU aC e114 _ (m.rd fR) ) rfl fun w122 m a hs=>?_
   refine wpList_nil (aB ?_)
   refine aR hs rfl (fun h123=>?_) (fun h123=>?_)
   ·refine bT hs m (x_ iA (e_ (p_ (cN (aS e114))) (e_ (p_ (bW (cs:=mO (⟨⟨4,rfl⟩,(⟨(⟨⟨0,rfl⟩,⟨0,rfl⟩⟩:aT),⟨0,rfl⟩,false⟩:bD),e114,(⟨(⟨⟨0,rfl⟩,⟨0,rfl⟩,⟨0,rfl⟩,⟨0,rfl⟩,⟨0,rfl⟩,⟨0,rfl⟩⟩:cK),⟨0,rfl⟩⟩:cH)⟩:eV)) aBP mZ rfl rfl)) bR))) fun a w_ hs m=>?_
    refine dK (c:=mO) (ys:=[(⟨⟨4,rfl⟩,(⟨(⟨⟨0,rfl⟩,⟨0,rfl⟩⟩:aT),⟨0,rfl⟩,false⟩:bD),e114,(⟨(⟨⟨0,rfl⟩,⟨0,rfl⟩,⟨0,rfl⟩,⟨0,rfl⟩,⟨0,rfl⟩,⟨0,rfl⟩⟩:cK),⟨0,rfl⟩⟩:cH)⟩:eV)]) hs m oO qL mZ rfl rfl rfl rfl rfl (fun _=>rfl) rfl rfl rfl fun v124 w125 m a hs=>?_
    refine cF (c:=mO) (xs:=((([]:List eV)++aL (fun e=>(e.Local==true) && !cG aA aH aD aC aI e) cR aF)++aL (fun e=>(e.Local==false) && !cG aA aH aD aC aI e) cR aF)++aL (fun e=>cA bB cW aC e) gJ (aA.take k4)) (ys:=[(⟨⟨4,rfl⟩,(⟨(⟨⟨0,rfl⟩,⟨0,rfl⟩⟩:aT),⟨0,rfl⟩,false⟩:bD),e114,(⟨(⟨⟨0,rfl⟩,⟨0,rfl⟩,⟨0,rfl⟩,⟨0,rfl⟩,⟨0,rfl⟩,⟨0,rfl⟩⟩:cK),⟨0,rfl⟩⟩:cH)⟩:eV)]) hs m rfl rfl oO aBG qL mZ rfl aAU rfl r4 (m.rdv r0) (fun _=>rfl) (by(simp only[List.length_cons,List.length_nil];omega)) rfl fun v126 w127 m a hs=>?_
    refine bP hs m hQ fun a w_ hs m=>?_
    rw[(show ((([]:List eV)++aL (fun e=>(e.Local==true) && !cG aA aH aD aC aI e) cR aF)++aL (fun e=>(e.Local==false) && !cG aA aH aD aC aI e) cR aF)++aL (fun e=>cA bB cW aC e) gJ (aA.take k4)++[(⟨⟨4,rfl⟩,(⟨(⟨⟨0,rfl⟩,⟨0,rfl⟩⟩:aT),⟨0,rfl⟩,false⟩:bD),e114,(⟨(⟨⟨0,rfl⟩,⟨0,rfl⟩,⟨0,rfl⟩,⟨0,rfl⟩,⟨0,rfl⟩,⟨0,rfl⟩⟩:cK),⟨0,rfl⟩⟩:cH)⟩:eV)]=((([]:List eV)++aL (fun e=>(e.Local==true) && !cG aA aH aD aC aI e) cR aF)++aL (fun e=>(e.Local==false) && !cG aA aH aD aC aI e) cR aF)++aL (fun e=>cA bB cW aC e) gJ (aA.take (k4+1)) from nS (by assumption) (by assumption))] at m
    exact⟨aA.length-(k4+1),by omega,k4+1,v126,by omega,by exact Nat.le_trans gA (by omega),rfl,hs.to ⟨rfl,rfl,rfl,rfl,rfl,rfl,trivial⟩,m.sub (a3 (a3 (a0 .n)))⟩
   refine bT hs m lA fun a w_ hs m=>?_
   rw[(show ((([]:List eV)++aL (fun e=>(e.Local==true) && !cG aA aH aD aC aI e) cR aF)++aL (fun e=>(e.Local==false) && !cG aA aH aD aC aI e) cR aF)++aL (fun e=>cA bB cW aC e) gJ (aA.take k4)=((([]:List eV)++aL (fun e=>(e.Local==true) && !cG aA aH aD aC aI e) cR aF)++aL (fun e=>(e.Local==false) && !cG aA aH aD aC aI e) cR aF)++aL (fun e=>cA bB cW aC e) gJ (aA.take (k4+1)) from nR (by assumption) (by assumption))] at m
   exact⟨aA.length-(k4+1),by omega,k4+1,v25,by omega,by exact Nat.le_trans gA (by omega),rfl,hs.to ⟨rfl,rfl,rfl,rfl,rfl,rfl,trivial⟩,m.sub (a1 (a1 (a1 .n)))⟩
  have h23p:=of_decide_eq_true h23
  refine wp_skip ?_
  refine aB ?_
  refine dG ?_
  refine wp_block ?_
  refine bN ?_
  obtain⟨e130,he131⟩:=bI (l:=aF) (i:=k2f) (by omega)
  refine kE (c:=aM) (e:=e130) hs m (x:=(.tmp 34)) (ix:=(.tmp 36)) rfl rfl eY gG fF (by omega) he131 fun p132 hp133 ok134=>?_
  refine bP hs m (e_ (p_ (ok134 _ _ _ _ _)) (e_ (p_ (cN (aM e130))) bR)) fun a w_ hs m=>?_
  refine bZ hs m kK rfl fun p135 w136 m a hs=>?_
  refine bP hs m (dZ s0 (t:=x_ gX (e_ (p_ (oJ rfl rfl zM)) eO))) fun a w137 hs m=>?_
  refine xY (.c (.c (.c (.c (.c (.c (.n))))))) hs m 50 (.bool ((e130.Local==false)&&(!(cG aA aH aD aC aI e130)))) ?_ ?_
  ·rcases Bool.eq_false_or_eq_true (e130.Local==false) with hb138|hb138
   ·have hb138p:=eq_of_beq hb138
    refine bP hs m (e_ (dV hb138 (cN [cQ.v,cT.v,dQ.v])) (e_ (dV hb138 (cN [cS.v,cU.v,dS.v])) (e_ (dV hb138 (cN (aM e130))) bR))) fun a w_ hs m=>?_
    refine sL hs rfl rfl hb138 m rfl rfl aVJ rfl (aH0 cQ aF cT aA dQ aH cS aD cU aC dS aI e130 _ (m.rd fF) (m.rd fN) (m.rd hU) (m.rd fS) (m.rd fR) (m.rd iH) ) rfl fun w139 m a hs=>?_
    refine bP hs m iA fun a w_ hs m=>?_
    exact nN hs m 5 (by rw[hb138];rfl)
   ·have hb138p:=ne_of_beq_false hb138
    refine bP hs m gX fun a w_ hs m=>?_
    exact nN hs m 5 (by rw[hb138];rfl)
  rintro a w140 ⟨hs,m⟩
  refine wpList_nil (aB ?_)
  refine aR hs rfl (fun h141=>?_) (fun h141=>?_)
  ·have h141p:=h141;simp only[fK] at h141p
   refine bT hs m (x_ iA (e_ (p_ (cN (aM e130))) (e_ (p_ (bW (cs:=mO (⟨⟨2,rfl⟩,e130,(⟨⟨0,rfl⟩,(⟨⟨0,rfl⟩,⟨0,rfl⟩,⟨0,rfl⟩,⟨0,rfl⟩,⟨0,rfl⟩,⟨0,rfl⟩⟩:cK)⟩:bA),(⟨(⟨⟨0,rfl⟩,⟨0,rfl⟩,⟨0,rfl⟩,⟨0,rfl⟩,⟨0,rfl⟩,⟨0,rfl⟩⟩:cK),⟨0,rfl⟩⟩:cH)⟩:eV)) aBP mZ rfl rfl)) bR))) fun a w_ hs m=>?_
   refine dK (c:=mO) (ys:=[(⟨⟨2,rfl⟩,e130,(⟨⟨0,rfl⟩,(⟨⟨0,rfl⟩,⟨0,rfl⟩,⟨0,rfl⟩,⟨0,rfl⟩,⟨0,rfl⟩,⟨0,rfl⟩⟩:cK)⟩:bA),(⟨(⟨⟨0,rfl⟩,⟨0,rfl⟩,⟨0,rfl⟩,⟨0,rfl⟩,⟨0,rfl⟩,⟨0,rfl⟩⟩:cK),⟨0,rfl⟩⟩:cH)⟩:eV)]) hs m oO qL mZ rfl rfl rfl rfl rfl (fun _=>rfl) rfl rfl rfl fun v142 w143 m a hs=>?_
   refine cF (c:=mO) (xs:=(([]:List eV)++aL (fun e=>(e.Local==true) && !cG aA aH aD aC aI e) cR aF)++aL (fun e=>(e.Local==false) && !cG aA aH aD aC aI e) cR (aF.take k2f)) (ys:=[(⟨⟨2,rfl⟩,e130,(⟨⟨0,rfl⟩,(⟨⟨0,rfl⟩,⟨0,rfl⟩,⟨0,rfl⟩,⟨0,rfl⟩,⟨0,rfl⟩,⟨0,rfl⟩⟩:cK)⟩:bA),(⟨(⟨⟨0,rfl⟩,⟨0,rfl⟩,⟨0,rfl⟩,⟨0,rfl⟩,⟨0,rfl⟩,⟨0,rfl⟩⟩:cK),⟨0,rfl⟩⟩:cH)⟩:eV)]) hs m rfl rfl oO aBG qL mZ rfl aAU rfl r4 (m.rdv r0) (fun _=>rfl) (by(simp only[List.length_cons,List.length_nil];omega)) rfl fun v144 w145 m a hs=>?_
   refine bP hs m hQ fun a w_ hs m=>?_
   rw[(show (([]:List eV)++aL (fun e=>(e.Local==true) && !cG aA aH aD aC aI e) cR aF)++aL (fun e=>(e.Local==false) && !cG aA aH aD aC aI e) cR (aF.take k2f)++[(⟨⟨2,rfl⟩,e130,(⟨⟨0,rfl⟩,(⟨⟨0,rfl⟩,⟨0,rfl⟩,⟨0,rfl⟩,⟨0,rfl⟩,⟨0,rfl⟩,⟨0,rfl⟩⟩:cK)⟩:bA),(⟨(⟨⟨0,rfl⟩,⟨0,rfl⟩,⟨0,rfl⟩,⟨0,rfl⟩,⟨0,rfl⟩,⟨0,rfl⟩⟩:cK),⟨0,rfl⟩⟩:cH)⟩:eV)]=(([]:List eV)++aL (fun e=>(e.Local==true) && !cG aA aH aD aC aI e) cR aF)++aL (fun e=>(e.Local==false) && !cG aA aH aD aC aI e) cR (aF.take (k2f+1)) from nS (by assumption) (by assumption))] at m
   exact⟨aF.length-(k2f+1),by omega,k2f+1,v144,by omega,by exact Nat.le_trans gA (by omega),rfl,hs.to ⟨rfl,rfl,rfl,rfl,rfl,rfl,rfl,rfl,rfl,trivial⟩,m.sub (a3 (a3 (a0 .n)))⟩
  have h141p:=h141;simp only[fK] at h141p
  refine bT hs m lA fun a w_ hs m=>?_
  rw[(show (([]:List eV)++aL (fun e=>(e.Local==true) && !cG aA aH aD aC aI e) cR aF)++aL (fun e=>(e.Local==false) && !cG aA aH aD aC aI e) cR (aF.take k2f)=(([]:List eV)++aL (fun e=>(e.Local==true) && !cG aA aH aD aC aI e) cR aF)++aL (fun e=>(e.Local==false) && !cG aA aH aD aC aI e) cR (aF.take (k2f+1)) from nR (by assumption) (by assumption))] at m
  exact⟨aF.length-(k2f+1),by omega,k2f+1,v20,by omega,by exact Nat.le_trans gA (by omega),rfl,hs.to ⟨rfl,rfl,rfl,rfl,rfl,rfl,rfl,rfl,rfl,trivial⟩,m.sub (a1 (a1 (a1 .n)))⟩
 have h18p:=of_decide_eq_true h18
 refine wp_skip ?_
 refine aB ?_
 refine dG ?_
 refine wp_block ?_
 refine bN ?_
 obtain⟨e148,he149⟩:=bI (l:=aF) (i:=k2t) (by omega)
 refine kE (c:=aM) (e:=e148) hs m (x:=(.tmp 34)) (ix:=(.tmp 36)) rfl rfl eY gG fF (by omega) he149 fun p150 hp151 ok152=>?_
 refine bP hs m (e_ (p_ (ok152 _ _ _ _ _)) (e_ (p_ (cN (aM e148))) bR)) fun a w_ hs m=>?_
 refine bZ hs m kK rfl fun p153 w154 m a hs=>?_
 refine bP hs m (dZ s0 (t:=x_ gX (e_ (p_ (oJ rfl rfl zM)) eO))) fun a w155 hs m=>?_
 refine xY (.c (.c (.c (.c (.c (.c (.n))))))) hs m 50 (.bool ((e148.Local==true)&&(!(cG aA aH aD aC aI e148)))) ?_ ?_
 ·rcases Bool.eq_false_or_eq_true (e148.Local==true) with hb156|hb156
  ·have hb156p:=eq_of_beq hb156
   refine bP hs m (e_ (dV hb156 (cN [cQ.v,cT.v,dQ.v])) (e_ (dV hb156 (cN [cS.v,cU.v,dS.v])) (e_ (dV hb156 (cN (aM e148))) bR))) fun a w_ hs m=>?_
   refine sL hs rfl rfl hb156 m rfl rfl aVJ rfl (aH0 cQ aF cT aA dQ aH cS aD cU aC dS aI e148 _ (m.rd fF) (m.rd fN) (m.rd hU) (m.rd fS) (m.rd fR) (m.rd iH) ) rfl fun w157 m a hs=>?_
   refine bP hs m iA fun a w_ hs m=>?_
   exact nN hs m 5 (by rw[hb156];rfl)
  ·have hb156p:=ne_of_beq_false hb156
   refine bP hs m gX fun a w_ hs m=>?_
   exact nN hs m 5 (by rw[hb156];rfl)
 rintro a w158 ⟨hs,m⟩
 refine wpList_nil (aB ?_)
 refine aR hs rfl (fun h159=>?_) (fun h159=>?_)
 ·have h159p:=h159;simp only[fK] at h159p
  refine bT hs m (x_ iA (e_ (p_ (cN (aM e148))) (e_ (p_ (bW (cs:=mO (⟨⟨2,rfl⟩,e148,(⟨⟨0,rfl⟩,(⟨⟨0,rfl⟩,⟨0,rfl⟩,⟨0,rfl⟩,⟨0,rfl⟩,⟨0,rfl⟩,⟨0,rfl⟩⟩:cK)⟩:bA),(⟨(⟨⟨0,rfl⟩,⟨0,rfl⟩,⟨0,rfl⟩,⟨0,rfl⟩,⟨0,rfl⟩,⟨0,rfl⟩⟩:cK),⟨0,rfl⟩⟩:cH)⟩:eV)) aBP mZ rfl rfl)) bR))) fun a w_ hs m=>?_
  refine dK (c:=mO) (ys:=[(⟨⟨2,rfl⟩,e148,(⟨⟨0,rfl⟩,(⟨⟨0,rfl⟩,⟨0,rfl⟩,⟨0,rfl⟩,⟨0,rfl⟩,⟨0,rfl⟩,⟨0,rfl⟩⟩:cK)⟩:bA),(⟨(⟨⟨0,rfl⟩,⟨0,rfl⟩,⟨0,rfl⟩,⟨0,rfl⟩,⟨0,rfl⟩,⟨0,rfl⟩⟩:cK),⟨0,rfl⟩⟩:cH)⟩:eV)]) hs m oO qL mZ rfl rfl rfl rfl rfl (fun _=>rfl) rfl rfl rfl fun v160 w161 m a hs=>?_
  refine cF (c:=mO) (xs:=([]:List eV)++aL (fun e=>(e.Local==true) && !cG aA aH aD aC aI e) cR (aF.take k2t)) (ys:=[(⟨⟨2,rfl⟩,e148,(⟨⟨0,rfl⟩,(⟨⟨0,rfl⟩,⟨0,rfl⟩,⟨0,rfl⟩,⟨0,rfl⟩,⟨0,rfl⟩,⟨0,rfl⟩⟩:cK)⟩:bA),(⟨(⟨⟨0,rfl⟩,⟨0,rfl⟩,⟨0,rfl⟩,⟨0,rfl⟩,⟨0,rfl⟩,⟨0,rfl⟩⟩:cK),⟨0,rfl⟩⟩:cH)⟩:eV)]) hs m rfl rfl oO aBG qL mZ rfl aAU rfl r4 (m.rdv r0) (fun _=>rfl) (by(simp only[List.length_cons,List.length_nil];omega)) rfl fun v162 w163 m a hs=>?_
  refine bP hs m hQ fun a w_ hs m=>?_
  rw[(show ([]:List eV)++aL (fun e=>(e.Local==true) && !cG aA aH aD aC aI e) cR (aF.take k2t)++[(⟨⟨2,rfl⟩,e148,(⟨⟨0,rfl⟩,(⟨⟨0,rfl⟩,⟨0,rfl⟩,⟨0,rfl⟩,⟨0,rfl⟩,⟨0,rfl⟩,⟨0,rfl⟩⟩:cK)⟩:bA),(⟨(⟨⟨0,rfl⟩,⟨0,rfl⟩,⟨0,rfl⟩,⟨0,rfl⟩,⟨0,rfl⟩,⟨0,rfl⟩⟩:cK),⟨0,rfl⟩⟩:cH)⟩:eV)]=([]:List eV)++aL (fun e=>(e.Local==true) && !cG aA aH aD aC aI e) cR (aF.take (k2t+1)) from nS (by assumption) (by assumption))] at m
  exact⟨aF.length-(k2t+1),by omega,k2t+1,v162,by omega,by exact Nat.le_trans gA (by omega),rfl,hs.to ⟨rfl,rfl,rfl,rfl,rfl,rfl,rfl,rfl,rfl,trivial⟩,m.sub (a3 (a3 (a0 .n)))⟩
 have h159p:=h159;simp only[fK] at h159p
 refine bT hs m lA fun a w_ hs m=>?_
 rw[(show ([]:List eV)++aL (fun e=>(e.Local==true) && !cG aA aH aD aC aI e) cR (aF.take k2t)=([]:List eV)++aL (fun e=>(e.Local==true) && !cG aA aH aD aC aI e) cR (aF.take (k2t+1)) from nR (by assumption) (by assumption))] at m
 exact⟨aF.length-(k2t+1),by omega,k2t+1,v14,by omega,by exact Nat.le_trans gA (by omega),rfl,hs.to ⟨rfl,rfl,rfl,rfl,rfl,rfl,rfl,rfl,rfl,trivial⟩,m.sub (a1 (a1 (a1 .n)))⟩
end Go.Proofs.YtnbpodjbemfpbaaGreat.Fw
