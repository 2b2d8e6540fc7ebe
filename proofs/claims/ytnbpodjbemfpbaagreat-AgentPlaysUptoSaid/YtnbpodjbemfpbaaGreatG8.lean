/-
  Own work: walks and laws, joined by wip/tool/compact.py.
-/
import Derived.Test.YtnbpodjbemfpbaaGreatG7
import Derived.KernelRfl
set_option linter.all false
set_option linter.all false
set_option maxHeartbeats 4000000
set_option maxRecDepth 100000
namespace Go.Proofs.YtnbpodjbemfpbaaGreat.Fw
open Go
theorem a0P:entry Tryz.prog 145 (Extern.SlicesOverlaps.overlaps #[25,25] #[4]):=⟨_,Tryz.func145,by kernel_rfl,by kernel_rfl,by kernel_rfl,by kernel_rfl⟩
theorem a0Q:entry Tryz.prog 149 (Extern.SlicesOverlaps.overlaps #[26,26] #[4]):=⟨_,Tryz.func149,by kernel_rfl,by kernel_rfl,by kernel_rfl,by kernel_rfl⟩
theorem a0R:entry Tryz.prog 152 (Extern.SlicesOverlaps.overlaps #[27,27] #[4]):=⟨_,Tryz.func152,by kernel_rfl,by kernel_rfl,by kernel_rfl,by kernel_rfl⟩
theorem a0T:entry Tryz.prog 183 (Extern.SlicesOverlaps.overlaps #[82,82] #[4]):=⟨_,Tryz.func183,by kernel_rfl,by kernel_rfl,by kernel_rfl,by kernel_rfl⟩
theorem a0U:entry Tryz.prog 185 (Extern.SlicesOverlaps.overlaps #[22,22] #[4]):=⟨_,Tryz.func185,by kernel_rfl,by kernel_rfl,by kernel_rfl,by kernel_rfl⟩
theorem aKV (vx:SH) (x:List bD) (i:Nat) (vy:SH) (y:List bD) (w0:World) (R:Hh) (A1:y.length=1) (A2:i<=x.length) (A3:x.length<=2600000000000) (m:Hp w0 R [Sv 4 51 vx.v (x.map aM),Sv 4 51 vy.v (y.map aM)] w0):Calls Tryz.prog 98 ⟨[vx.v,.int .i64 (i:Int),vy.v]⟩ w0 fun e w'=>∃ v,e= .returned v/\(∃ x0:SH,v=(x0.v)/\Hp w0 R [Sv 4 51 x0.v ((x.take i++y++x.drop i).map aM)] w'):=by
 have cx:=m.ncapM r0
 have cy:=m.ncapM r1
 have lvx:=(m.rdv r0).bd
 have lvy:=(m.rdv r1).bd
 refine enter (n:=95) Tryz.func98 rfl rfl rfl fun a (hs:St 95 [(0,vx.v),(1,.int .i64 (i:Int)),(2,vy.v)] a)=>?_
 refine bT hs m gZ fun a w_ hs m=>?_
 have hc1:=((m.rdv r0)).ncapM
 refine bP hs m (e_ (p_ (cE (i:=i) (j:=x.length) (c:=vx.c) rfl eY gG ⟨_,rfl⟩ (by show _=_;omega) rfl (fun _=>rfl) (by omega) (by omega) (by omega))) (x_ gC (e_ (p_ (bQ m rfl eY (fV r1))) hQ))) fun a w_ hs m=>?_
 refine bV hs rfl (by rw[A1];rfl) ?_
 refine bT hs m (x_ gC (e_ (p_ (bQ m rfl eY (fV r0))) fW)) fun a w_ hs m=>?_
 refine aR hs rfl (fun h3=>?_) (fun h3=>?_)
 ·have h3p:=eq_of_beq h3
  refine bT hs m eZ fun a w_ hs m=>?_
  refine cF (c:=aM) (xs:=x) (ys:=y) hs m rfl rfl eY aB6 gG kK rfl qN rfl r0 (m.rdv r1) (fun _=>rfl) (by omega) rfl fun v4 w5 m a hs=>?_
  refine bP hs m gI fun a w_ hs m=>?_
  refine bH hs (vs:=[v4.v]) rfl ⟨rfl,trivial⟩ ?_
  rw[(show x++y=x.take i++y++x.drop i by((have hi:i=x.length:=by omega);subst hi;simp))] at m
  refine⟨_,rfl,v4,?_,m.sub (a0 .n)⟩
  rfl
 have h3p:=ne_of_beq_false h3
 refine bT hs m (x_ gX (e_ (p_ (fA (r:=((x.length+1:Nat):Int)) rfl rfl (by rw[cJ (by omega) (by omega)];omega))) (x_ eO (e_ (p_ (aEI rfl eY)) eZ)))) fun a w_ hs m=>?_
 refine aR hs rfl (fun h7=>?_) (fun h7=>?_)
 ·have h7p:=of_decide_eq_true h7
  refine bT hs m eZ fun a w_ hs m=>?_
  have hc8:=((m.rdv r0)).ncapM
  refine bP hs m (e_ (p_ (cE (i:=0) (j:=i) (c:=vx.c) rfl eY gG rfl ⟨_,rfl⟩ rfl (fun h=>by cases h) (by omega) (by omega) (by omega))) bR) fun a w_ hs m=>?_
  rw[mQ] at hs
  refine bP hs m (x_ iA (e_ (p_ (fA (r:=((x.length+1:Nat):Int)) rfl rfl (by rw[cJ (by omega) (by omega)];omega))) (x_ eO (e_ (p_ (qX (r:=((x.length+1-i:Nat):Int)) rfl rfl (by rw[cJ (by omega) (by omega)];omega))) bR)))) fun a w_ hs m=>?_
  refine uC (c:=aM) (z0:=(⟨(⟨⟨0,rfl⟩,⟨0,rfl⟩⟩:aT),⟨0,rfl⟩,false⟩:bD)) (xs:=x) (i:=i) (cn:=x.length+1-i) hs m rfl rfl eY zV gG kK rfl rfl qN rfl rfl r0 (by omega) (by omega) (by omega) (by omega) rfl fun v9 w13 hn10 hc11 m a hs=>?_
  have hl12:(x.take i++List.replicate (x.length+1-i) (⟨(⟨⟨0,rfl⟩,⟨0,rfl⟩⟩:aT),⟨0,rfl⟩,false⟩:bD)).length=x.length+1:=by simp;omega
  refine bP hs m gX fun a w_ hs m=>?_
  have hc14:=((m.rdv r0)).ncapM
  refine bP hs m (e_ (p_ (cE (i:=i) (j:=(x.take i++List.replicate (x.length+1-i) (⟨(⟨⟨0,rfl⟩,⟨0,rfl⟩⟩:aT),⟨0,rfl⟩,false⟩:bD)).length) (c:=v9.c) rfl eY gG ⟨_,rfl⟩ (by show _=_;omega) rfl (fun _=>rfl) (by omega) (by omega) (by omega))) eO) fun a w_ hs m=>?_
  have hy15:=(m.rdv r2)
  have hy15n:=hy15.ncapM
  refine lJ (c:=aM) (x:=v9) (xs:=(x.take i++List.replicate (x.length+1-i) (⟨(⟨⟨0,rfl⟩,⟨0,rfl⟩⟩:aT),⟨0,rfl⟩,false⟩:bD))) (es:=y) (lo:=i) (dl:=(x.take i++List.replicate (x.length+1-i) (⟨(⟨⟨0,rfl⟩,⟨0,rfl⟩⟩:aT),⟨0,rfl⟩,false⟩:bD)).length-i) (zs:=((x.take i++List.replicate (x.length+1-i) (⟨(⟨⟨0,rfl⟩,⟨0,rfl⟩⟩:aT),⟨0,rfl⟩,false⟩:bD)).take i++y++(x.take i++List.replicate (x.length+1-i) (⟨(⟨⟨0,rfl⟩,⟨0,rfl⟩⟩:aT),⟨0,rfl⟩,false⟩:bD)).drop (i+y.length))) (N:=x.length+1) hs m rfl rfl eY gG r0 (gM (by omega)) (⟨_,_,_,rfl,by omega,hy15.wln⟩) (fun _=>rfl) (by omega) (by omega) (by omega) (rfl) (by omega) rfl fun w16 m a hs=>?_
  have hl17:((x.take i++List.replicate (x.length+1-i) (⟨(⟨⟨0,rfl⟩,⟨0,rfl⟩⟩:aT),⟨0,rfl⟩,false⟩:bD)).take i++y++(x.take i++List.replicate (x.length+1-i) (⟨(⟨⟨0,rfl⟩,⟨0,rfl⟩⟩:aT),⟨0,rfl⟩,false⟩:bD)).drop (i+y.length)).length=x.length+1:=by simp;omega
  rw[show hG v9 (x.length+1)=v9 from pQ (by omega)] at m
  refine wpList_nil (aB ?_)
  refine vK m (a1 (a1 .n)) fun w18 m=>?_
  refine zh4 hs (m.sub (a1 (a1 .n))) 0 1 2 3 (h4:=k_ rfl (fA (r:=((i+1:Nat):Int)) rfl rfl (by rw[cJ (by omega) (by omega)];omega))) (k:=fun a hs=>?_)
  have hc19:=((m.rdv r0)).ncapM
  refine zh3 hs (m.sub (a1 (a1 .n))) 4 5 6 (h1:=k_ rfl (cE (i:=(i+1)) (j:=((x.take i++List.replicate (x.length+1-i) (⟨(⟨⟨0,rfl⟩,⟨0,rfl⟩⟩:aT),⟨0,rfl⟩,false⟩:bD)).take i++y++(x.take i++List.replicate (x.length+1-i) (⟨(⟨⟨0,rfl⟩,⟨0,rfl⟩⟩:aT),⟨0,rfl⟩,false⟩:bD)).drop (i+y.length)).length) (c:=v9.c) rfl eY gG ⟨_,rfl⟩ (by show _=_;omega) rfl (fun _=>rfl) (by omega) (by omega) (by omega))) (k:=fun a hs=>?_)
  have hc20:=((m.rdv r1)).ncapM
  refine kY hs (m.sub (a1 (a1 .n))) 7 (h1:=k_ rfl (cE (i:=i) (j:=x.length) (c:=vx.c) rfl eY gG ⟨_,rfl⟩ (by show _=_;omega) rfl (fun _=>rfl) (by omega) (by omega) (by omega))) (k:=fun a hs=>?_)
  have hx21:=(m.rdv r1).winS (lo:=i) (by omega) (by omega)
  refine bU (i:=8) (by kernel_rfl) rfl ?_
  refine lJ (c:=aM) (x:=v9) (xs:=((x.take i++List.replicate (x.length+1-i) (⟨(⟨⟨0,rfl⟩,⟨0,rfl⟩⟩:aT),⟨0,rfl⟩,false⟩:bD)).take i++y++(x.take i++List.replicate (x.length+1-i) (⟨(⟨⟨0,rfl⟩,⟨0,rfl⟩⟩:aT),⟨0,rfl⟩,false⟩:bD)).drop (i+y.length))) (es:=x.drop i) (lo:=i+1) (dl:=((x.take i++List.replicate (x.length+1-i) (⟨(⟨⟨0,rfl⟩,⟨0,rfl⟩⟩:aT),⟨0,rfl⟩,false⟩:bD)).take i++y++(x.take i++List.replicate (x.length+1-i) (⟨(⟨⟨0,rfl⟩,⟨0,rfl⟩⟩:aT),⟨0,rfl⟩,false⟩:bD)).drop (i+y.length)).length-(i+1)) (zs:=x.take i++y++x.drop i) (N:=x.length+1) hs m rfl rfl eY gG r0 (gM (by omega)) (⟨_,_,_,gM (by omega),by simp;omega,hx21⟩) (fun _=>rfl) (by omega) (by(simp;omega)) (by(simp;omega)) (aA6 (by omega) A1 rfl) (by simp;omega) rfl fun w22 m a hs=>?_
  rw[show hG v9 (x.length+1)=v9 from pQ (by omega)] at m
  refine wpList_nil (aB ⟨(m.sub (a1 (a1 .n))),?_⟩)
  refine dC (by kernel_rfl) (aB ?_)
  refine bT hs m gZ fun a w_ hs m=>?_
  refine bH hs (vs:=[v9.v]) rfl ⟨rfl,trivial⟩ ?_
  refine⟨_,rfl,v9,?_,m.sub (a0 .n)⟩
  rfl
 have h7p:=of_decide_eq_false h7
 refine bT hs m (x_ gX (e_ (p_ (fA (r:=((x.length+1:Nat):Int)) rfl rfl (by rw[cJ (by omega) (by omega)];omega))) bR)) fun a w_ hs m=>?_
 have hc23:=((m.rdv r0)).ncapM
 refine bP hs m (e_ (p_ (cE (i:=0) (j:=(x.length+1)) (c:=vx.c) rfl eY gG rfl ⟨_,rfl⟩ rfl (fun h=>by cases h) (by omega) (by omega) (by omega))) bR) fun a w_ hs m=>?_
 rw[mQ] at hs
 refine bP hs m (x_ hQ (e_ (p_ (fA (r:=((i+1:Nat):Int)) rfl rfl (by rw[cJ (by omega) (by omega)];omega))) bR)) fun a w_ hs m=>?_
 have hc24:(hG vx (x.length+1)).n=(x.length+1)/\(hG vx (x.length+1)).c=vx.c:=⟨rfl,rfl⟩
 refine bP hs m (e_ (p_ (cE (i:=(i+1)) (j:=(x.length+1)) (c:=(hG vx (x.length+1)).c) rfl eY gG ⟨_,rfl⟩ (by show _=_;omega) rfl (fun _=>rfl) (by omega) (by omega) (by omega))) (e_ (p_ (vW a0P rfl (fun w m=>sJ (x:=vx) (i:=i+1) (j:=x.length+1) eY gG m r1 r0 (by omega)))) gC)) fun a w_ hs m=>?_
 refine vK m (a1 .n) fun w26 m=>?_
 refine zh4 hs (m.sub (a1 .n)) 0 1 2 3 (h4:=k_ rfl (fA (r:=((i+1:Nat):Int)) rfl rfl (by rw[cJ (by omega) (by omega)];omega))) (k:=fun a hs=>?_)
 have hc27:(hG vx (x.length+1)).n=(x.length+1)/\(hG vx (x.length+1)).c=vx.c:=⟨rfl,rfl⟩
 refine zh3 hs (m.sub (a1 .n)) 4 5 6 (h1:=k_ rfl (cE (i:=(i+1)) (j:=(x.length+1)) (c:=(hG vx (x.length+1)).c) rfl eY gG ⟨_,rfl⟩ (by show _=_;omega) rfl (fun _=>rfl) (by omega) (by omega) (by omega))) (k:=fun a hs=>?_)
 have hc28:(hG vx (x.length+1)).n=(x.length+1)/\(hG vx (x.length+1)).c=vx.c:=⟨rfl,rfl⟩
 refine kY hs (m.sub (a1 .n)) 7 (h1:=k_ rfl (cE (i:=i) (j:=(x.length+1)) (c:=(hG vx (x.length+1)).c) rfl eY gG ⟨_,rfl⟩ (by show _=_;omega) rfl (fun _=>rfl) (by omega) (by omega) (by omega))) (k:=fun a hs=>?_)
 have hx29:=(m.rdv r0).winS (lo:=i) (by omega) (by omega)
 refine bU (i:=8) (by kernel_rfl) rfl ?_
 refine lJ (c:=aM) (x:=vx) (xs:=x) (es:=x.drop i) (lo:=i+1) (dl:=x.length+1-(i+1)) (zs:=x.take (i+1)++x.drop i) (N:=x.length+1) hs m rfl rfl eY gG r0 (gM (x:=hG vx (x.length+1)) (by show _<vx.c;omega)) (⟨_,_,_,gM (x:=hG vx (x.length+1)) (by show _<vx.c;omega),by simp;omega,hx29⟩) (fun _=>rfl) (by omega) (by(simp;omega)) (by(simp;omega)) (aDV (by omega)) (by simp;omega) rfl fun w30 m a hs=>?_
 refine wpList_nil (aB ⟨(m.sub (a1 .n)),?_⟩)
 refine dC (by kernel_rfl) (aB ?_)
 refine bT hs m eZ fun a w_ hs m=>?_
 have hc31:(hG vx (x.length+1)).n=(x.length+1)/\(hG vx (x.length+1)).c=vx.c:=⟨rfl,rfl⟩
 refine bP hs m (e_ (p_ (cE (i:=i) (j:=(x.length+1)) (c:=(hG vx (x.length+1)).c) rfl eY gG ⟨_,rfl⟩ (by show _=_;omega) rfl (fun _=>rfl) (by omega) (by omega) (by omega))) eO) fun a w_ hs m=>?_
 have hy32:=(m.rdv r1)
 have hy32n:=hy32.ncapM
 refine lJ (c:=aM) (x:=(hG vx (x.length+1))) (xs:=x.take (i+1)++x.drop i) (es:=y) (lo:=i) (dl:=x.length+1-i) (zs:=x.take i++y++x.drop i) (N:=x.length+1) hs m rfl rfl eY gG r0 (gM (x:=hG vx (x.length+1)) (by show _<vx.c;omega)) (⟨_,_,_,rfl,by omega,hy32.wln⟩) (fun _=>rfl) (by(simp;omega)) (by omega) (by omega) (aD7 (by omega) A1) (by simp;omega) rfl fun w33 m a hs=>?_
 refine bP hs m hQ fun a w_ hs m=>?_
 refine bH hs (vs:=[(hG vx (x.length+1)).v]) rfl ⟨rfl,trivial⟩ ?_
 refine⟨_,rfl,(hG vx (x.length+1)),?_,m.sub (a0 .n)⟩
 rfl
theorem aKU (vx:SH) (x:List bA) (i:Nat) (vy:SH) (y:List bA) (w0:World) (R:Hh) (A1:y.length=1) (A2:i<=x.length) (A3:x.length<=2600000000000) (m:Hp w0 R [Sv 7 54 vx.v (x.map aS),Sv 7 54 vy.v (y.map aS)] w0):Calls Tryz.prog 101 ⟨[vx.v,.int .i64 (i:Int),vy.v]⟩ w0 fun e w'=>∃ v,e= .returned v/\(∃ x0:SH,v=(x0.v)/\Hp w0 R [Sv 7 54 x0.v ((x.take i++y++x.drop i).map aS)] w'):=by
 have cx:=m.ncapM r0
 have cy:=m.ncapM r1
 have lvx:=(m.rdv r0).bd
 have lvy:=(m.rdv r1).bd
 refine enter (n:=95) Tryz.func101 rfl rfl rfl fun a (hs:St 95 [(0,vx.v),(1,.int .i64 (i:Int)),(2,vy.v)] a)=>?_
 refine bT hs m gZ fun a w_ hs m=>?_
 have hc1:=((m.rdv r0)).ncapM
 refine bP hs m (e_ (p_ (cE (i:=i) (j:=x.length) (c:=vx.c) rfl fP gQ ⟨_,rfl⟩ (by show _=_;omega) rfl (fun _=>rfl) (by omega) (by omega) (by omega))) (x_ gC (e_ (p_ (bQ m rfl fP (fV r1))) hQ))) fun a w_ hs m=>?_
 refine bV hs rfl (by rw[A1];rfl) ?_
 refine bT hs m (x_ gC (e_ (p_ (bQ m rfl fP (fV r0))) fW)) fun a w_ hs m=>?_
 refine aR hs rfl (fun h3=>?_) (fun h3=>?_)
 ·have h3p:=eq_of_beq h3
  refine bT hs m eZ fun a w_ hs m=>?_
  refine cF (c:=aS) (xs:=x) (ys:=y) hs m rfl rfl fP aB7 gQ lW rfl qO rfl r0 (m.rdv r1) (fun _=>rfl) (by omega) rfl fun v4 w5 m a hs=>?_
  refine bP hs m gI fun a w_ hs m=>?_
  refine bH hs (vs:=[v4.v]) rfl ⟨rfl,trivial⟩ ?_
  rw[(show x++y=x.take i++y++x.drop i by((have hi:i=x.length:=by omega);subst hi;simp))] at m
  refine⟨_,rfl,v4,?_,m.sub (a0 .n)⟩
  rfl
 have h3p:=ne_of_beq_false h3
 refine bT hs m (x_ gX (e_ (p_ (fA (r:=((x.length+1:Nat):Int)) rfl rfl (by rw[cJ (by omega) (by omega)];omega))) (x_ eO (e_ (p_ (aEI rfl fP)) eZ)))) fun a w_ hs m=>?_
 refine aR hs rfl (fun h7=>?_) (fun h7=>?_)
 ·have h7p:=of_decide_eq_true h7
  refine bT hs m eZ fun a w_ hs m=>?_
  have hc8:=((m.rdv r0)).ncapM
  refine bP hs m (e_ (p_ (cE (i:=0) (j:=i) (c:=vx.c) rfl fP gQ rfl ⟨_,rfl⟩ rfl (fun h=>by cases h) (by omega) (by omega) (by omega))) bR) fun a w_ hs m=>?_
  rw[mQ] at hs
  refine bP hs m (x_ iA (e_ (p_ (fA (r:=((x.length+1:Nat):Int)) rfl rfl (by rw[cJ (by omega) (by omega)];omega))) (x_ eO (e_ (p_ (qX (r:=((x.length+1-i:Nat):Int)) rfl rfl (by rw[cJ (by omega) (by omega)];omega))) bR)))) fun a w_ hs m=>?_
  refine uC (c:=aS) (z0:=(⟨⟨0,rfl⟩,(⟨⟨0,rfl⟩,⟨0,rfl⟩,⟨0,rfl⟩,⟨0,rfl⟩,⟨0,rfl⟩,⟨0,rfl⟩⟩:cK)⟩:bA)) (xs:=x) (i:=i) (cn:=x.length+1-i) hs m rfl rfl fP zV gQ lW rfl rfl qO rfl rfl r0 (by omega) (by omega) (by omega) (by omega) rfl fun v9 w13 hn10 hc11 m a hs=>?_
  have hl12:(x.take i++List.replicate (x.length+1-i) (⟨⟨0,rfl⟩,(⟨⟨0,rfl⟩,⟨0,rfl⟩,⟨0,rfl⟩,⟨0,rfl⟩,⟨0,rfl⟩,⟨0,rfl⟩⟩:cK)⟩:bA)).length=x.length+1:=by simp;omega
  refine bP hs m gX fun a w_ hs m=>?_
  have hc14:=((m.rdv r0)).ncapM
  refine bP hs m (e_ (p_ (cE (i:=i) (j:=(x.take i++List.replicate (x.length+1-i) (⟨⟨0,rfl⟩,(⟨⟨0,rfl⟩,⟨0,rfl⟩,⟨0,rfl⟩,⟨0,rfl⟩,⟨0,rfl⟩,⟨0,rfl⟩⟩:cK)⟩:bA)).length) (c:=v9.c) rfl fP gQ ⟨_,rfl⟩ (by show _=_;omega) rfl (fun _=>rfl) (by omega) (by omega) (by omega))) eO) fun a w_ hs m=>?_
  have hy15:=(m.rdv r2)
  have hy15n:=hy15.ncapM
  refine lJ (c:=aS) (x:=v9) (xs:=(x.take i++List.replicate (x.length+1-i) (⟨⟨0,rfl⟩,(⟨⟨0,rfl⟩,⟨0,rfl⟩,⟨0,rfl⟩,⟨0,rfl⟩,⟨0,rfl⟩,⟨0,rfl⟩⟩:cK)⟩:bA))) (es:=y) (lo:=i) (dl:=(x.take i++List.replicate (x.length+1-i) (⟨⟨0,rfl⟩,(⟨⟨0,rfl⟩,⟨0,rfl⟩,⟨0,rfl⟩,⟨0,rfl⟩,⟨0,rfl⟩,⟨0,rfl⟩⟩:cK)⟩:bA)).length-i) (zs:=((x.take i++List.replicate (x.length+1-i) (⟨⟨0,rfl⟩,(⟨⟨0,rfl⟩,⟨0,rfl⟩,⟨0,rfl⟩,⟨0,rfl⟩,⟨0,rfl⟩,⟨0,rfl⟩⟩:cK)⟩:bA)).take i++y++(x.take i++List.replicate (x.length+1-i) (⟨⟨0,rfl⟩,(⟨⟨0,rfl⟩,⟨0,rfl⟩,⟨0,rfl⟩,⟨0,rfl⟩,⟨0,rfl⟩,⟨0,rfl⟩⟩:cK)⟩:bA)).drop (i+y.length))) (N:=x.length+1) hs m rfl rfl fP gQ r0 (gM (by omega)) (⟨_,_,_,rfl,by omega,hy15.wln⟩) (fun _=>rfl) (by omega) (by omega) (by omega) (rfl) (by omega) rfl fun w16 m a hs=>?_
  have hl17:((x.take i++List.replicate (x.length+1-i) (⟨⟨0,rfl⟩,(⟨⟨0,rfl⟩,⟨0,rfl⟩,⟨0,rfl⟩,⟨0,rfl⟩,⟨0,rfl⟩,⟨0,rfl⟩⟩:cK)⟩:bA)).take i++y++(x.take i++List.replicate (x.length+1-i) (⟨⟨0,rfl⟩,(⟨⟨0,rfl⟩,⟨0,rfl⟩,⟨0,rfl⟩,⟨0,rfl⟩,⟨0,rfl⟩,⟨0,rfl⟩⟩:cK)⟩:bA)).drop (i+y.length)).length=x.length+1:=by simp;omega
  rw[show hG v9 (x.length+1)=v9 from pQ (by omega)] at m
  refine wpList_nil (aB ?_)
  refine vK m (a1 (a1 .n)) fun w18 m=>?_
  refine zh4 hs (m.sub (a1 (a1 .n))) 0 1 2 3 (h4:=k_ rfl (fA (r:=((i+1:Nat):Int)) rfl rfl (by rw[cJ (by omega) (by omega)];omega))) (k:=fun a hs=>?_)
  have hc19:=((m.rdv r0)).ncapM
  refine zh3 hs (m.sub (a1 (a1 .n))) 4 5 6 (h1:=k_ rfl (cE (i:=(i+1)) (j:=((x.take i++List.replicate (x.length+1-i) (⟨⟨0,rfl⟩,(⟨⟨0,rfl⟩,⟨0,rfl⟩,⟨0,rfl⟩,⟨0,rfl⟩,⟨0,rfl⟩,⟨0,rfl⟩⟩:cK)⟩:bA)).take i++y++(x.take i++List.replicate (x.length+1-i) (⟨⟨0,rfl⟩,(⟨⟨0,rfl⟩,⟨0,rfl⟩,⟨0,rfl⟩,⟨0,rfl⟩,⟨0,rfl⟩,⟨0,rfl⟩⟩:cK)⟩:bA)).drop (i+y.length)).length) (c:=v9.c) rfl fP gQ ⟨_,rfl⟩ (by show _=_;omega) rfl (fun _=>rfl) (by omega) (by omega) (by omega))) (k:=fun a hs=>?_)
  have hc20:=((m.rdv r1)).ncapM
  refine kY hs (m.sub (a1 (a1 .n))) 7 (h1:=k_ rfl (cE (i:=i) (j:=x.length) (c:=vx.c) rfl fP gQ ⟨_,rfl⟩ (by show _=_;omega) rfl (fun _=>rfl) (by omega) (by omega) (by omega))) (k:=fun a hs=>?_)
  have hx21:=(m.rdv r1).winS (lo:=i) (by omega) (by omega)
  refine bU (i:=8) (by kernel_rfl) rfl ?_
  refine lJ (c:=aS) (x:=v9) (xs:=((x.take i++List.replicate (x.length+1-i) (⟨⟨0,rfl⟩,(⟨⟨0,rfl⟩,⟨0,rfl⟩,⟨0,rfl⟩,⟨0,rfl⟩,⟨0,rfl⟩,⟨0,rfl⟩⟩:cK)⟩:bA)).take i++y++(x.take i++List.replicate (x.length+1-i) (⟨⟨0,rfl⟩,(⟨⟨0,rfl⟩,⟨0,rfl⟩,⟨0,rfl⟩,⟨0,rfl⟩,⟨0,rfl⟩,⟨0,rfl⟩⟩:cK)⟩:bA)).drop (i+y.length))) (es:=x.drop i) (lo:=i+1) (dl:=((x.take i++List.replicate (x.length+1-i) (⟨⟨0,rfl⟩,(⟨⟨0,rfl⟩,⟨0,rfl⟩,⟨0,rfl⟩,⟨0,rfl⟩,⟨0,rfl⟩,⟨0,rfl⟩⟩:cK)⟩:bA)).take i++y++(x.take i++List.replicate (x.length+1-i) (⟨⟨0,rfl⟩,(⟨⟨0,rfl⟩,⟨0,rfl⟩,⟨0,rfl⟩,⟨0,rfl⟩,⟨0,rfl⟩,⟨0,rfl⟩⟩:cK)⟩:bA)).drop (i+y.length)).length-(i+1)) (zs:=x.take i++y++x.drop i) (N:=x.length+1) hs m rfl rfl fP gQ r0 (gM (by omega)) (⟨_,_,_,gM (by omega),by simp;omega,hx21⟩) (fun _=>rfl) (by omega) (by(simp;omega)) (by(simp;omega)) (aA6 (by omega) A1 rfl) (by simp;omega) rfl fun w22 m a hs=>?_
  rw[show hG v9 (x.length+1)=v9 from pQ (by omega)] at m
  refine wpList_nil (aB ⟨(m.sub (a1 (a1 .n))),?_⟩)
  refine dC (by kernel_rfl) (aB ?_)
  refine bT hs m gZ fun a w_ hs m=>?_
  refine bH hs (vs:=[v9.v]) rfl ⟨rfl,trivial⟩ ?_
  refine⟨_,rfl,v9,?_,m.sub (a0 .n)⟩
  rfl
 have h7p:=of_decide_eq_false h7
 refine bT hs m (x_ gX (e_ (p_ (fA (r:=((x.length+1:Nat):Int)) rfl rfl (by rw[cJ (by omega) (by omega)];omega))) bR)) fun a w_ hs m=>?_
 have hc23:=((m.rdv r0)).ncapM
 refine bP hs m (e_ (p_ (cE (i:=0) (j:=(x.length+1)) (c:=vx.c) rfl fP gQ rfl ⟨_,rfl⟩ rfl (fun h=>by cases h) (by omega) (by omega) (by omega))) bR) fun a w_ hs m=>?_
 rw[mQ] at hs
 refine bP hs m (x_ hQ (e_ (p_ (fA (r:=((i+1:Nat):Int)) rfl rfl (by rw[cJ (by omega) (by omega)];omega))) bR)) fun a w_ hs m=>?_
 have hc24:(hG vx (x.length+1)).n=(x.length+1)/\(hG vx (x.length+1)).c=vx.c:=⟨rfl,rfl⟩
 refine bP hs m (e_ (p_ (cE (i:=(i+1)) (j:=(x.length+1)) (c:=(hG vx (x.length+1)).c) rfl fP gQ ⟨_,rfl⟩ (by show _=_;omega) rfl (fun _=>rfl) (by omega) (by omega) (by omega))) (e_ (p_ (vW a0Q rfl (fun w m=>sJ (x:=vx) (i:=i+1) (j:=x.length+1) fP gQ m r1 r0 (by omega)))) gC)) fun a w_ hs m=>?_
 refine vK m (a1 .n) fun w26 m=>?_
 refine zh4 hs (m.sub (a1 .n)) 0 1 2 3 (h4:=k_ rfl (fA (r:=((i+1:Nat):Int)) rfl rfl (by rw[cJ (by omega) (by omega)];omega))) (k:=fun a hs=>?_)
 have hc27:(hG vx (x.length+1)).n=(x.length+1)/\(hG vx (x.length+1)).c=vx.c:=⟨rfl,rfl⟩
 refine zh3 hs (m.sub (a1 .n)) 4 5 6 (h1:=k_ rfl (cE (i:=(i+1)) (j:=(x.length+1)) (c:=(hG vx (x.length+1)).c) rfl fP gQ ⟨_,rfl⟩ (by show _=_;omega) rfl (fun _=>rfl) (by omega) (by omega) (by omega))) (k:=fun a hs=>?_)
 have hc28:(hG vx (x.length+1)).n=(x.length+1)/\(hG vx (x.length+1)).c=vx.c:=⟨rfl,rfl⟩
 refine kY hs (m.sub (a1 .n)) 7 (h1:=k_ rfl (cE (i:=i) (j:=(x.length+1)) (c:=(hG vx (x.length+1)).c) rfl fP gQ ⟨_,rfl⟩ (by show _=_;omega) rfl (fun _=>rfl) (by omega) (by omega) (by omega))) (k:=fun a hs=>?_)
 have hx29:=(m.rdv r0).winS (lo:=i) (by omega) (by omega)
 refine bU (i:=8) (by kernel_rfl) rfl ?_
 refine lJ (c:=aS) (x:=vx) (xs:=x) (es:=x.drop i) (lo:=i+1) (dl:=x.length+1-(i+1)) (zs:=x.take (i+1)++x.drop i) (N:=x.length+1) hs m rfl rfl fP gQ r0 (gM (x:=hG vx (x.length+1)) (by show _<vx.c;omega)) (⟨_,_,_,gM (x:=hG vx (x.length+1)) (by show _<vx.c;omega),by simp;omega,hx29⟩) (fun _=>rfl) (by omega) (by(simp;omega)) (by(simp;omega)) (aDV (by omega)) (by simp;omega) rfl fun w30 m a hs=>?_
 refine wpList_nil (aB ⟨(m.sub (a1 .n)),?_⟩)
 refine dC (by kernel_rfl) (aB ?_)
 refine bT hs m eZ fun a w_ hs m=>?_
 have hc31:(hG vx (x.length+1)).n=(x.length+1)/\(hG vx (x.length+1)).c=vx.c:=⟨rfl,rfl⟩
 refine bP hs m (e_ (p_ (cE (i:=i) (j:=(x.length+1)) (c:=(hG vx (x.length+1)).c) rfl fP gQ ⟨_,rfl⟩ (by show _=_;omega) rfl (fun _=>rfl) (by omega) (by omega) (by omega))) eO) fun a w_ hs m=>?_
 have hy32:=(m.rdv r1)
 have hy32n:=hy32.ncapM
 refine lJ (c:=aS) (x:=(hG vx (x.length+1))) (xs:=x.take (i+1)++x.drop i) (es:=y) (lo:=i) (dl:=x.length+1-i) (zs:=x.take i++y++x.drop i) (N:=x.length+1) hs m rfl rfl fP gQ r0 (gM (x:=hG vx (x.length+1)) (by show _<vx.c;omega)) (⟨_,_,_,rfl,by omega,hy32.wln⟩) (fun _=>rfl) (by(simp;omega)) (by omega) (by omega) (aD7 (by omega) A1) (by simp;omega) rfl fun w33 m a hs=>?_
 refine bP hs m hQ fun a w_ hs m=>?_
 refine bH hs (vs:=[(hG vx (x.length+1)).v]) rfl ⟨rfl,trivial⟩ ?_
 refine⟨_,rfl,(hG vx (x.length+1)),?_,m.sub (a0 .n)⟩
 rfl
theorem aPT (vx:SH) (x:List cH) (i:Nat) (vy:SH) (y:List cH) (w0:World) (R:Hh) (A1:y.length=1) (A2:i<=x.length) (A3:x.length<=2600000000000) (m:Hp w0 R [Sv 7 56 vx.v (x.map cB),Sv 7 56 vy.v (y.map cB)] w0):Calls Tryz.prog 104 ⟨[vx.v,.int .i64 (i:Int),vy.v]⟩ w0 fun e w'=>∃ v,e= .returned v/\(∃ x0:SH,v=(x0.v)/\Hp w0 R [Sv 7 56 x0.v ((x.take i++y++x.drop i).map cB)] w'):=by
 have cx:=m.ncapM r0
 have cy:=m.ncapM r1
 have lvx:=(m.rdv r0).bd
 have lvy:=(m.rdv r1).bd
 refine enter (n:=95) Tryz.func104 rfl rfl rfl fun a (hs:St 95 [(0,vx.v),(1,.int .i64 (i:Int)),(2,vy.v)] a)=>?_
 refine bT hs m gZ fun a w_ hs m=>?_
 have hc1:=((m.rdv r0)).ncapM
 refine bP hs m (e_ (p_ (cE (i:=i) (j:=x.length) (c:=vx.c) rfl fQ gS ⟨_,rfl⟩ (by show _=_;omega) rfl (fun _=>rfl) (by omega) (by omega) (by omega))) (x_ gC (e_ (p_ (bQ m rfl fQ (fV r1))) hQ))) fun a w_ hs m=>?_
 refine bV hs rfl (by rw[A1];rfl) ?_
 refine bT hs m (x_ gC (e_ (p_ (bQ m rfl fQ (fV r0))) fW)) fun a w_ hs m=>?_
 refine aR hs rfl (fun h3=>?_) (fun h3=>?_)
 ·have h3p:=eq_of_beq h3
  refine bT hs m eZ fun a w_ hs m=>?_
  refine cF (c:=cB) (xs:=x) (ys:=y) hs m rfl rfl fQ aB8 gS lS rfl qP rfl r0 (m.rdv r1) (fun _=>rfl) (by omega) rfl fun v4 w5 m a hs=>?_
  refine bP hs m gI fun a w_ hs m=>?_
  refine bH hs (vs:=[v4.v]) rfl ⟨rfl,trivial⟩ ?_
  rw[(show x++y=x.take i++y++x.drop i by((have hi:i=x.length:=by omega);subst hi;simp))] at m
  refine⟨_,rfl,v4,?_,m.sub (a0 .n)⟩
  rfl
 have h3p:=ne_of_beq_false h3
 refine bT hs m (x_ gX (e_ (p_ (fA (r:=((x.length+1:Nat):Int)) rfl rfl (by rw[cJ (by omega) (by omega)];omega))) (x_ eO (e_ (p_ (aEI rfl fQ)) eZ)))) fun a w_ hs m=>?_
 refine aR hs rfl (fun h7=>?_) (fun h7=>?_)
 ·have h7p:=of_decide_eq_true h7
  refine bT hs m eZ fun a w_ hs m=>?_
  have hc8:=((m.rdv r0)).ncapM
  refine bP hs m (e_ (p_ (cE (i:=0) (j:=i) (c:=vx.c) rfl fQ gS rfl ⟨_,rfl⟩ rfl (fun h=>by cases h) (by omega) (by omega) (by omega))) bR) fun a w_ hs m=>?_
  rw[mQ] at hs
  refine bP hs m (x_ iA (e_ (p_ (fA (r:=((x.length+1:Nat):Int)) rfl rfl (by rw[cJ (by omega) (by omega)];omega))) (x_ eO (e_ (p_ (qX (r:=((x.length+1-i:Nat):Int)) rfl rfl (by rw[cJ (by omega) (by omega)];omega))) bR)))) fun a w_ hs m=>?_
  refine uC (c:=cB) (z0:=(⟨(⟨⟨0,rfl⟩,⟨0,rfl⟩,⟨0,rfl⟩,⟨0,rfl⟩,⟨0,rfl⟩,⟨0,rfl⟩⟩:cK),⟨0,rfl⟩⟩:cH)) (xs:=x) (i:=i) (cn:=x.length+1-i) hs m rfl rfl fQ zV gS lS rfl rfl qP rfl rfl r0 (by omega) (by omega) (by omega) (by omega) rfl fun v9 w13 hn10 hc11 m a hs=>?_
  have hl12:(x.take i++List.replicate (x.length+1-i) (⟨(⟨⟨0,rfl⟩,⟨0,rfl⟩,⟨0,rfl⟩,⟨0,rfl⟩,⟨0,rfl⟩,⟨0,rfl⟩⟩:cK),⟨0,rfl⟩⟩:cH)).length=x.length+1:=by simp;omega
  refine bP hs m gX fun a w_ hs m=>?_
  have hc14:=((m.rdv r0)).ncapM
  refine bP hs m (e_ (p_ (cE (i:=i) (j:=(x.take i++List.replicate (x.length+1-i) (⟨(⟨⟨0,rfl⟩,⟨0,rfl⟩,⟨0,rfl⟩,⟨0,rfl⟩,⟨0,rfl⟩,⟨0,rfl⟩⟩:cK),⟨0,rfl⟩⟩:cH)).length) (c:=v9.c) rfl fQ gS ⟨_,rfl⟩ (by show _=_;omega) rfl (fun _=>rfl) (by omega) (by omega) (by omega))) eO) fun a w_ hs m=>?_
  have hy15:=(m.rdv r2)
  have hy15n:=hy15.ncapM
  refine lJ (c:=cB) (x:=v9) (xs:=(x.take i++List.replicate (x.length+1-i) (⟨(⟨⟨0,rfl⟩,⟨0,rfl⟩,⟨0,rfl⟩,⟨0,rfl⟩,⟨0,rfl⟩,⟨0,rfl⟩⟩:cK),⟨0,rfl⟩⟩:cH))) (es:=y) (lo:=i) (dl:=(x.take i++List.replicate (x.length+1-i) (⟨(⟨⟨0,rfl⟩,⟨0,rfl⟩,⟨0,rfl⟩,⟨0,rfl⟩,⟨0,rfl⟩,⟨0,rfl⟩⟩:cK),⟨0,rfl⟩⟩:cH)).length-i) (zs:=((x.take i++List.replicate (x.length+1-i) (⟨(⟨⟨0,rfl⟩,⟨0,rfl⟩,⟨0,rfl⟩,⟨0,rfl⟩,⟨0,rfl⟩,⟨0,rfl⟩⟩:cK),⟨0,rfl⟩⟩:cH)).take i++y++(x.take i++List.replicate (x.length+1-i) (⟨(⟨⟨0,rfl⟩,⟨0,rfl⟩,⟨0,rfl⟩,⟨0,rfl⟩,⟨0,rfl⟩,⟨0,rfl⟩⟩:cK),⟨0,rfl⟩⟩:cH)).drop (i+y.length))) (N:=x.length+1) hs m rfl rfl fQ gS r0 (gM (by omega)) (⟨_,_,_,rfl,by omega,hy15.wln⟩) (fun _=>rfl) (by omega) (by omega) (by omega) (rfl) (by omega) rfl fun w16 m a hs=>?_
  have hl17:((x.take i++List.replicate (x.length+1-i) (⟨(⟨⟨0,rfl⟩,⟨0,rfl⟩,⟨0,rfl⟩,⟨0,rfl⟩,⟨0,rfl⟩,⟨0,rfl⟩⟩:cK),⟨0,rfl⟩⟩:cH)).take i++y++(x.take i++List.replicate (x.length+1-i) (⟨(⟨⟨0,rfl⟩,⟨0,rfl⟩,⟨0,rfl⟩,⟨0,rfl⟩,⟨0,rfl⟩,⟨0,rfl⟩⟩:cK),⟨0,rfl⟩⟩:cH)).drop (i+y.length)).length=x.length+1:=by simp;omega
  rw[show hG v9 (x.length+1)=v9 from pQ (by omega)] at m
  refine wpList_nil (aB ?_)
  refine vK m (a1 (a1 .n)) fun w18 m=>?_
  refine zh4 hs (m.sub (a1 (a1 .n))) 0 1 2 3 (h4:=k_ rfl (fA (r:=((i+1:Nat):Int)) rfl rfl (by rw[cJ (by omega) (by omega)];omega))) (k:=fun a hs=>?_)
  have hc19:=((m.rdv r0)).ncapM
  refine zh3 hs (m.sub (a1 (a1 .n))) 4 5 6 (h1:=k_ rfl (cE (i:=(i+1)) (j:=((x.take i++List.replicate (x.length+1-i) (⟨(⟨⟨0,rfl⟩,⟨0,rfl⟩,⟨0,rfl⟩,⟨0,rfl⟩,⟨0,rfl⟩,⟨0,rfl⟩⟩:cK),⟨0,rfl⟩⟩:cH)).take i++y++(x.take i++List.replicate (x.length+1-i) (⟨(⟨⟨0,rfl⟩,⟨0,rfl⟩,⟨0,rfl⟩,⟨0,rfl⟩,⟨0,rfl⟩,⟨0,rfl⟩⟩:cK),⟨0,rfl⟩⟩:cH)).drop (i+y.length)).length) (c:=v9.c) rfl fQ gS ⟨_,rfl⟩ (by show _=_;omega) rfl (fun _=>rfl) (by omega) (by omega) (by omega))) (k:=fun a hs=>?_)
  have hc20:=((m.rdv r1)).ncapM
  refine kY hs (m.sub (a1 (a1 .n))) 7 (h1:=k_ rfl (cE (i:=i) (j:=x.length) (c:=vx.c) rfl fQ gS ⟨_,rfl⟩ (by show _=_;omega) rfl (fun _=>rfl) (by omega) (by omega) (by omega))) (k:=fun a hs=>?_)
  have hx21:=(m.rdv r1).winS (lo:=i) (by omega) (by omega)
  refine bU (i:=8) (by kernel_rfl) rfl ?_
  refine lJ (c:=cB) (x:=v9) (xs:=((x.take i++List.replicate (x.length+1-i) (⟨(⟨⟨0,rfl⟩,⟨0,rfl⟩,⟨0,rfl⟩,⟨0,rfl⟩,⟨0,rfl⟩,⟨0,rfl⟩⟩:cK),⟨0,rfl⟩⟩:cH)).take i++y++(x.take i++List.replicate (x.length+1-i) (⟨(⟨⟨0,rfl⟩,⟨0,rfl⟩,⟨0,rfl⟩,⟨0,rfl⟩,⟨0,rfl⟩,⟨0,rfl⟩⟩:cK),⟨0,rfl⟩⟩:cH)).drop (i+y.length))) (es:=x.drop i) (lo:=i+1) (dl:=((x.take i++List.replicate (x.length+1-i) (⟨(⟨⟨0,rfl⟩,⟨0,rfl⟩,⟨0,rfl⟩,⟨0,rfl⟩,⟨0,rfl⟩,⟨0,rfl⟩⟩:cK),⟨0,rfl⟩⟩:cH)).take i++y++(x.take i++List.replicate (x.length+1-i) (⟨(⟨⟨0,rfl⟩,⟨0,rfl⟩,⟨0,rfl⟩,⟨0,rfl⟩,⟨0,rfl⟩,⟨0,rfl⟩⟩:cK),⟨0,rfl⟩⟩:cH)).drop (i+y.length)).length-(i+1)) (zs:=x.take i++y++x.drop i) (N:=x.length+1) hs m rfl rfl fQ gS r0 (gM (by omega)) (⟨_,_,_,gM (by omega),by simp;omega,hx21⟩) (fun _=>rfl) (by omega) (by(simp;omega)) (by(simp;omega)) (aA6 (by omega) A1 rfl) (by simp;omega) rfl fun w22 m a hs=>?_
  rw[show hG v9 (x.length+1)=v9 from pQ (by omega)] at m
  refine wpList_nil (aB ⟨(m.sub (a1 (a1 .n))),?_⟩)
  refine dC (by kernel_rfl) (aB ?_)
  refine bT hs m gZ fun a w_ hs m=>?_
  refine bH hs (vs:=[v9.v]) rfl ⟨rfl,trivial⟩ ?_
  refine⟨_,rfl,v9,?_,m.sub (a0 .n)⟩
  rfl
 have h7p:=of_decide_eq_false h7
 refine bT hs m (x_ gX (e_ (p_ (fA (r:=((x.length+1:Nat):Int)) rfl rfl (by rw[cJ (by omega) (by omega)];omega))) bR)) fun a w_ hs m=>?_
 have hc23:=((m.rdv r0)).ncapM
 refine bP hs m (e_ (p_ (cE (i:=0) (j:=(x.length+1)) (c:=vx.c) rfl fQ gS rfl ⟨_,rfl⟩ rfl (fun h=>by cases h) (by omega) (by omega) (by omega))) bR) fun a w_ hs m=>?_
 rw[mQ] at hs
 refine bP hs m (x_ hQ (e_ (p_ (fA (r:=((i+1:Nat):Int)) rfl rfl (by rw[cJ (by omega) (by omega)];omega))) bR)) fun a w_ hs m=>?_
 have hc24:(hG vx (x.length+1)).n=(x.length+1)/\(hG vx (x.length+1)).c=vx.c:=⟨rfl,rfl⟩
 refine bP hs m (e_ (p_ (cE (i:=(i+1)) (j:=(x.length+1)) (c:=(hG vx (x.length+1)).c) rfl fQ gS ⟨_,rfl⟩ (by show _=_;omega) rfl (fun _=>rfl) (by omega) (by omega) (by omega))) (e_ (p_ (vW a0R rfl (fun w m=>sJ (x:=vx) (i:=i+1) (j:=x.length+1) fQ gS m r1 r0 (by omega)))) gC)) fun a w_ hs m=>?_
 refine vK m (a1 .n) fun w26 m=>?_
 refine zh4 hs (m.sub (a1 .n)) 0 1 2 3 (h4:=k_ rfl (fA (r:=((i+1:Nat):Int)) rfl rfl (by rw[cJ (by omega) (by omega)];omega))) (k:=fun a hs=>?_)
 have hc27:(hG vx (x.length+1)).n=(x.length+1)/\(hG vx (x.length+1)).c=vx.c:=⟨rfl,rfl⟩
 refine zh3 hs (m.sub (a1 .n)) 4 5 6 (h1:=k_ rfl (cE (i:=(i+1)) (j:=(x.length+1)) (c:=(hG vx (x.length+1)).c) rfl fQ gS ⟨_,rfl⟩ (by show _=_;omega) rfl (fun _=>rfl) (by omega) (by omega) (by omega))) (k:=fun a hs=>?_)
 have hc28:(hG vx (x.length+1)).n=(x.length+1)/\(hG vx (x.length+1)).c=vx.c:=⟨rfl,rfl⟩
 refine kY hs (m.sub (a1 .n)) 7 (h1:=k_ rfl (cE (i:=i) (j:=(x.length+1)) (c:=(hG vx (x.length+1)).c) rfl fQ gS ⟨_,rfl⟩ (by show _=_;omega) rfl (fun _=>rfl) (by omega) (by omega) (by omega))) (k:=fun a hs=>?_)
 have hx29:=(m.rdv r0).winS (lo:=i) (by omega) (by omega)
 refine bU (i:=8) (by kernel_rfl) rfl ?_
 refine lJ (c:=cB) (x:=vx) (xs:=x) (es:=x.drop i) (lo:=i+1) (dl:=x.length+1-(i+1)) (zs:=x.take (i+1)++x.drop i) (N:=x.length+1) hs m rfl rfl fQ gS r0 (gM (x:=hG vx (x.length+1)) (by show _<vx.c;omega)) (⟨_,_,_,gM (x:=hG vx (x.length+1)) (by show _<vx.c;omega),by simp;omega,hx29⟩) (fun _=>rfl) (by omega) (by(simp;omega)) (by(simp;omega)) (aDV (by omega)) (by simp;omega) rfl fun w30 m a hs=>?_
 refine wpList_nil (aB ⟨(m.sub (a1 .n)),?_⟩)
 refine dC (by kernel_rfl) (aB ?_)
 refine bT hs m eZ fun a w_ hs m=>?_
 have hc31:(hG vx (x.length+1)).n=(x.length+1)/\(hG vx (x.length+1)).c=vx.c:=⟨rfl,rfl⟩
 refine bP hs m (e_ (p_ (cE (i:=i) (j:=(x.length+1)) (c:=(hG vx (x.length+1)).c) rfl fQ gS ⟨_,rfl⟩ (by show _=_;omega) rfl (fun _=>rfl) (by omega) (by omega) (by omega))) eO) fun a w_ hs m=>?_
 have hy32:=(m.rdv r1)
 have hy32n:=hy32.ncapM
 refine lJ (c:=cB) (x:=(hG vx (x.length+1))) (xs:=x.take (i+1)++x.drop i) (es:=y) (lo:=i) (dl:=x.length+1-i) (zs:=x.take i++y++x.drop i) (N:=x.length+1) hs m rfl rfl fQ gS r0 (gM (x:=hG vx (x.length+1)) (by show _<vx.c;omega)) (⟨_,_,_,rfl,by omega,hy32.wln⟩) (fun _=>rfl) (by(simp;omega)) (by omega) (by omega) (aD7 (by omega) A1) (by simp;omega) rfl fun w33 m a hs=>?_
 refine bP hs m hQ fun a w_ hs m=>?_
 refine bH hs (vs:=[(hG vx (x.length+1)).v]) rfl ⟨rfl,trivial⟩ ?_
 refine⟨_,rfl,(hG vx (x.length+1)),?_,m.sub (a0 .n)⟩
 rfl
theorem aIR (vx:SH) (x:List aT) (i:Nat) (vy:SH) (y:List aT) (w0:World) (R:Hh) (A1:y.length=1) (A2:i<=x.length) (A3:x.length<=2600000000000) (m:Hp w0 R [Sv 2 44 vx.v (x.map aO),Sv 2 44 vy.v (y.map aO)] w0):Calls Tryz.prog 166 ⟨[vx.v,.int .i64 (i:Int),vy.v]⟩ w0 fun e w'=>∃ v,e= .returned v/\(∃ x0:SH,v=(x0.v)/\Hp w0 R [Sv 2 44 x0.v ((x.take i++y++x.drop i).map aO)] w'):=by
 have cx:=m.ncapM r0
 have cy:=m.ncapM r1
 have lvx:=(m.rdv r0).bd
 have lvy:=(m.rdv r1).bd
 refine enter (n:=95) Tryz.func166 rfl rfl rfl fun a (hs:St 95 [(0,vx.v),(1,.int .i64 (i:Int)),(2,vy.v)] a)=>?_
 refine bT hs m gZ fun a w_ hs m=>?_
 have hc1:=((m.rdv r0)).ncapM
 refine bP hs m (e_ (p_ (cE (i:=i) (j:=x.length) (c:=vx.c) rfl hY jQ ⟨_,rfl⟩ (by show _=_;omega) rfl (fun _=>rfl) (by omega) (by omega) (by omega))) (x_ gC (e_ (p_ (bQ m rfl hY (fV r1))) hQ))) fun a w_ hs m=>?_
 refine bV hs rfl (by rw[A1];rfl) ?_
 refine bT hs m (x_ gC (e_ (p_ (bQ m rfl hY (fV r0))) fW)) fun a w_ hs m=>?_
 refine aR hs rfl (fun h3=>?_) (fun h3=>?_)
 ·have h3p:=eq_of_beq h3
  refine bT hs m eZ fun a w_ hs m=>?_
  refine cF (c:=aO) (xs:=x) (ys:=y) hs m rfl rfl hY aFF jQ uM rfl aFC rfl r0 (m.rdv r1) (fun _=>rfl) (by omega) rfl fun v4 w5 m a hs=>?_
  refine bP hs m gI fun a w_ hs m=>?_
  refine bH hs (vs:=[v4.v]) rfl ⟨rfl,trivial⟩ ?_
  rw[(show x++y=x.take i++y++x.drop i by((have hi:i=x.length:=by omega);subst hi;simp))] at m
  refine⟨_,rfl,v4,?_,m.sub (a0 .n)⟩
  rfl
 have h3p:=ne_of_beq_false h3
 refine bT hs m (x_ gX (e_ (p_ (fA (r:=((x.length+1:Nat):Int)) rfl rfl (by rw[cJ (by omega) (by omega)];omega))) (x_ eO (e_ (p_ (aEI rfl hY)) eZ)))) fun a w_ hs m=>?_
 refine aR hs rfl (fun h7=>?_) (fun h7=>?_)
 ·have h7p:=of_decide_eq_true h7
  refine bT hs m eZ fun a w_ hs m=>?_
  have hc8:=((m.rdv r0)).ncapM
  refine bP hs m (e_ (p_ (cE (i:=0) (j:=i) (c:=vx.c) rfl hY jQ rfl ⟨_,rfl⟩ rfl (fun h=>by cases h) (by omega) (by omega) (by omega))) bR) fun a w_ hs m=>?_
  rw[mQ] at hs
  refine bP hs m (x_ iA (e_ (p_ (fA (r:=((x.length+1:Nat):Int)) rfl rfl (by rw[cJ (by omega) (by omega)];omega))) (x_ eO (e_ (p_ (qX (r:=((x.length+1-i:Nat):Int)) rfl rfl (by rw[cJ (by omega) (by omega)];omega))) bR)))) fun a w_ hs m=>?_
  refine uC (c:=aO) (z0:=(⟨⟨0,rfl⟩,⟨0,rfl⟩⟩:aT)) (xs:=x) (i:=i) (cn:=x.length+1-i) hs m rfl rfl hY zV jQ uM rfl rfl aFC rfl rfl r0 (by omega) (by omega) (by omega) (by omega) rfl fun v9 w13 hn10 hc11 m a hs=>?_
  have hl12:(x.take i++List.replicate (x.length+1-i) (⟨⟨0,rfl⟩,⟨0,rfl⟩⟩:aT)).length=x.length+1:=by simp;omega
  refine bP hs m gX fun a w_ hs m=>?_
  have hc14:=((m.rdv r0)).ncapM
  refine bP hs m (e_ (p_ (cE (i:=i) (j:=(x.take i++List.replicate (x.length+1-i) (⟨⟨0,rfl⟩,⟨0,rfl⟩⟩:aT)).length) (c:=v9.c) rfl hY jQ ⟨_,rfl⟩ (by show _=_;omega) rfl (fun _=>rfl) (by omega) (by omega) (by omega))) eO) fun a w_ hs m=>?_
  have hy15:=(m.rdv r2)
  have hy15n:=hy15.ncapM
  refine lJ (c:=aO) (x:=v9) (xs:=(x.take i++List.replicate (x.length+1-i) (⟨⟨0,rfl⟩,⟨0,rfl⟩⟩:aT))) (es:=y) (lo:=i) (dl:=(x.take i++List.replicate (x.length+1-i) (⟨⟨0,rfl⟩,⟨0,rfl⟩⟩:aT)).length-i) (zs:=((x.take i++List.replicate (x.length+1-i) (⟨⟨0,rfl⟩,⟨0,rfl⟩⟩:aT)).take i++y++(x.take i++List.replicate (x.length+1-i) (⟨⟨0,rfl⟩,⟨0,rfl⟩⟩:aT)).drop (i+y.length))) (N:=x.length+1) hs m rfl rfl hY jQ r0 (gM (by omega)) (⟨_,_,_,rfl,by omega,hy15.wln⟩) (fun _=>rfl) (by omega) (by omega) (by omega) (rfl) (by omega) rfl fun w16 m a hs=>?_
  have hl17:((x.take i++List.replicate (x.length+1-i) (⟨⟨0,rfl⟩,⟨0,rfl⟩⟩:aT)).take i++y++(x.take i++List.replicate (x.length+1-i) (⟨⟨0,rfl⟩,⟨0,rfl⟩⟩:aT)).drop (i+y.length)).length=x.length+1:=by simp;omega
  rw[show hG v9 (x.length+1)=v9 from pQ (by omega)] at m
  refine wpList_nil (aB ?_)
  refine vK m (a1 (a1 .n)) fun w18 m=>?_
  refine zh4 hs (m.sub (a1 (a1 .n))) 0 1 2 3 (h4:=k_ rfl (fA (r:=((i+1:Nat):Int)) rfl rfl (by rw[cJ (by omega) (by omega)];omega))) (k:=fun a hs=>?_)
  have hc19:=((m.rdv r0)).ncapM
  refine zh3 hs (m.sub (a1 (a1 .n))) 4 5 6 (h1:=k_ rfl (cE (i:=(i+1)) (j:=((x.take i++List.replicate (x.length+1-i) (⟨⟨0,rfl⟩,⟨0,rfl⟩⟩:aT)).take i++y++(x.take i++List.replicate (x.length+1-i) (⟨⟨0,rfl⟩,⟨0,rfl⟩⟩:aT)).drop (i+y.length)).length) (c:=v9.c) rfl hY jQ ⟨_,rfl⟩ (by show _=_;omega) rfl (fun _=>rfl) (by omega) (by omega) (by omega))) (k:=fun a hs=>?_)
  have hc20:=((m.rdv r1)).ncapM
  refine kY hs (m.sub (a1 (a1 .n))) 7 (h1:=k_ rfl (cE (i:=i) (j:=x.length) (c:=vx.c) rfl hY jQ ⟨_,rfl⟩ (by show _=_;omega) rfl (fun _=>rfl) (by omega) (by omega) (by omega))) (k:=fun a hs=>?_)
  have hx21:=(m.rdv r1).winS (lo:=i) (by omega) (by omega)
  refine bU (i:=8) (by kernel_rfl) rfl ?_
  refine lJ (c:=aO) (x:=v9) (xs:=((x.take i++List.replicate (x.length+1-i) (⟨⟨0,rfl⟩,⟨0,rfl⟩⟩:aT)).take i++y++(x.take i++List.replicate (x.length+1-i) (⟨⟨0,rfl⟩,⟨0,rfl⟩⟩:aT)).drop (i+y.length))) (es:=x.drop i) (lo:=i+1) (dl:=((x.take i++List.replicate (x.length+1-i) (⟨⟨0,rfl⟩,⟨0,rfl⟩⟩:aT)).take i++y++(x.take i++List.replicate (x.length+1-i) (⟨⟨0,rfl⟩,⟨0,rfl⟩⟩:aT)).drop (i+y.length)).length-(i+1)) (zs:=x.take i++y++x.drop i) (N:=x.length+1) hs m rfl rfl hY jQ r0 (gM (by omega)) (⟨_,_,_,gM (by omega),by simp;omega,hx21⟩) (fun _=>rfl) (by omega) (by(simp;omega)) (by(simp;omega)) (aA6 (by omega) A1 rfl) (by simp;omega) rfl fun w22 m a hs=>?_
  rw[show hG v9 (x.length+1)=v9 from pQ (by omega)] at m
  refine wpList_nil (aB ⟨(m.sub (a1 (a1 .n))),?_⟩)
  refine dC (by kernel_rfl) (aB ?_)
  refine bT hs m gZ fun a w_ hs m=>?_
  refine bH hs (vs:=[v9.v]) rfl ⟨rfl,trivial⟩ ?_
  refine⟨_,rfl,v9,?_,m.sub (a0 .n)⟩
  rfl
 have h7p:=of_decide_eq_false h7
 refine bT hs m (x_ gX (e_ (p_ (fA (r:=((x.length+1:Nat):Int)) rfl rfl (by rw[cJ (by omega) (by omega)];omega))) bR)) fun a w_ hs m=>?_
 have hc23:=((m.rdv r0)).ncapM
 refine bP hs m (e_ (p_ (cE (i:=0) (j:=(x.length+1)) (c:=vx.c) rfl hY jQ rfl ⟨_,rfl⟩ rfl (fun h=>by cases h) (by omega) (by omega) (by omega))) bR) fun a w_ hs m=>?_
 rw[mQ] at hs
 refine bP hs m (x_ hQ (e_ (p_ (fA (r:=((i+1:Nat):Int)) rfl rfl (by rw[cJ (by omega) (by omega)];omega))) bR)) fun a w_ hs m=>?_
 have hc24:(hG vx (x.length+1)).n=(x.length+1)/\(hG vx (x.length+1)).c=vx.c:=⟨rfl,rfl⟩
 refine bP hs m (e_ (p_ (cE (i:=(i+1)) (j:=(x.length+1)) (c:=(hG vx (x.length+1)).c) rfl hY jQ ⟨_,rfl⟩ (by show _=_;omega) rfl (fun _=>rfl) (by omega) (by omega) (by omega))) (e_ (p_ (vW a0T rfl (fun w m=>sJ (x:=vx) (i:=i+1) (j:=x.length+1) hY jQ m r1 r0 (by omega)))) gC)) fun a w_ hs m=>?_
 refine vK m (a1 .n) fun w26 m=>?_
 refine zh4 hs (m.sub (a1 .n)) 0 1 2 3 (h4:=k_ rfl (fA (r:=((i+1:Nat):Int)) rfl rfl (by rw[cJ (by omega) (by omega)];omega))) (k:=fun a hs=>?_)
 have hc27:(hG vx (x.length+1)).n=(x.length+1)/\(hG vx (x.length+1)).c=vx.c:=⟨rfl,rfl⟩
 refine zh3 hs (m.sub (a1 .n)) 4 5 6 (h1:=k_ rfl (cE (i:=(i+1)) (j:=(x.length+1)) (c:=(hG vx (x.length+1)).c) rfl hY jQ ⟨_,rfl⟩ (by show _=_;omega) rfl (fun _=>rfl) (by omega) (by omega) (by omega))) (k:=fun a hs=>?_)
 have hc28:(hG vx (x.length+1)).n=(x.length+1)/\(hG vx (x.length+1)).c=vx.c:=⟨rfl,rfl⟩
 refine kY hs (m.sub (a1 .n)) 7 (h1:=k_ rfl (cE (i:=i) (j:=(x.length+1)) (c:=(hG vx (x.length+1)).c) rfl hY jQ ⟨_,rfl⟩ (by show _=_;omega) rfl (fun _=>rfl) (by omega) (by omega) (by omega))) (k:=fun a hs=>?_)
 have hx29:=(m.rdv r0).winS (lo:=i) (by omega) (by omega)
 refine bU (i:=8) (by kernel_rfl) rfl ?_
 refine lJ (c:=aO) (x:=vx) (xs:=x) (es:=x.drop i) (lo:=i+1) (dl:=x.length+1-(i+1)) (zs:=x.take (i+1)++x.drop i) (N:=x.length+1) hs m rfl rfl hY jQ r0 (gM (x:=hG vx (x.length+1)) (by show _<vx.c;omega)) (⟨_,_,_,gM (x:=hG vx (x.length+1)) (by show _<vx.c;omega),by simp;omega,hx29⟩) (fun _=>rfl) (by omega) (by(simp;omega)) (by(simp;omega)) (aDV (by omega)) (by simp;omega) rfl fun w30 m a hs=>?_
 refine wpList_nil (aB ⟨(m.sub (a1 .n)),?_⟩)
 refine dC (by kernel_rfl) (aB ?_)
 refine bT hs m eZ fun a w_ hs m=>?_
 have hc31:(hG vx (x.length+1)).n=(x.length+1)/\(hG vx (x.length+1)).c=vx.c:=⟨rfl,rfl⟩
 refine bP hs m (e_ (p_ (cE (i:=i) (j:=(x.length+1)) (c:=(hG vx (x.length+1)).c) rfl hY jQ ⟨_,rfl⟩ (by show _=_;omega) rfl (fun _=>rfl) (by omega) (by omega) (by omega))) eO) fun a w_ hs m=>?_
 have hy32:=(m.rdv r1)
 have hy32n:=hy32.ncapM
 refine lJ (c:=aO) (x:=(hG vx (x.length+1))) (xs:=x.take (i+1)++x.drop i) (es:=y) (lo:=i) (dl:=x.length+1-i) (zs:=x.take i++y++x.drop i) (N:=x.length+1) hs m rfl rfl hY jQ r0 (gM (x:=hG vx (x.length+1)) (by show _<vx.c;omega)) (⟨_,_,_,rfl,by omega,hy32.wln⟩) (fun _=>rfl) (by(simp;omega)) (by omega) (by omega) (aD7 (by omega) A1) (by simp;omega) rfl fun w33 m a hs=>?_
 refine bP hs m hQ fun a w_ hs m=>?_
 refine bH hs (vs:=[(hG vx (x.length+1)).v]) rfl ⟨rfl,trivial⟩ ?_
 refine⟨_,rfl,(hG vx (x.length+1)),?_,m.sub (a0 .n)⟩
 rfl
theorem aKT (vx:SH) (x:List TLease) (i:Nat) (vy:SH) (y:List TLease) (w0:World) (R:Hh) (A1:y.length=1) (A2:i<=x.length) (A3:x.length<=2500000000000) (m:Hp w0 R [Sv 12 48 vx.v (x.map aV),Sv 12 48 vy.v (y.map aV)] w0):Calls Tryz.prog 168 ⟨[vx.v,.int .i64 (i:Int),vy.v]⟩ w0 fun e w'=>∃ v,e= .returned v/\(∃ x0:SH,v=(x0.v)/\Hp w0 R [Sv 12 48 x0.v ((x.take i++y++x.drop i).map aV)] w'):=by
 have cx:=m.ncapM r0
 have cy:=m.ncapM r1
 have lvx:=(m.rdv r0).bd
 have lvy:=(m.rdv r1).bd
 refine enter (n:=95) Tryz.func168 rfl rfl rfl fun a (hs:St 95 [(0,vx.v),(1,.int .i64 (i:Int)),(2,vy.v)] a)=>?_
 refine bT hs m gZ fun a w_ hs m=>?_
 have hc1:=((m.rdv r0)).ncapM
 refine bP hs m (e_ (p_ (cE (i:=i) (j:=x.length) (c:=vx.c) rfl eR fZ ⟨_,rfl⟩ (by show _=_;omega) rfl (fun _=>rfl) (by omega) (by omega) (by omega))) (x_ gC (e_ (p_ (bQ m rfl eR (fV r1))) hQ))) fun a w_ hs m=>?_
 refine bV hs rfl (by rw[A1];rfl) ?_
 refine bT hs m (x_ gC (e_ (p_ (bQ m rfl eR (fV r0))) fW)) fun a w_ hs m=>?_
 refine aR hs rfl (fun h3=>?_) (fun h3=>?_)
 ·have h3p:=eq_of_beq h3
  refine bT hs m eZ fun a w_ hs m=>?_
  refine cF (c:=aV) (xs:=x) (ys:=y) hs m rfl rfl eR xF fZ mY rfl vN rfl r0 (m.rdv r1) (fun _=>rfl) (by omega) rfl fun v4 w5 m a hs=>?_
  refine bP hs m gI fun a w_ hs m=>?_
  refine bH hs (vs:=[v4.v]) rfl ⟨rfl,trivial⟩ ?_
  rw[(show x++y=x.take i++y++x.drop i by((have hi:i=x.length:=by omega);subst hi;simp))] at m
  refine⟨_,rfl,v4,?_,m.sub (a0 .n)⟩
  rfl
 have h3p:=ne_of_beq_false h3
 refine bT hs m (x_ gX (e_ (p_ (fA (r:=((x.length+1:Nat):Int)) rfl rfl (by rw[cJ (by omega) (by omega)];omega))) (x_ eO (e_ (p_ (aEI rfl eR)) eZ)))) fun a w_ hs m=>?_
 refine aR hs rfl (fun h7=>?_) (fun h7=>?_)
 ·have h7p:=of_decide_eq_true h7
  refine bT hs m eZ fun a w_ hs m=>?_
  have hc8:=((m.rdv r0)).ncapM
  refine bP hs m (e_ (p_ (cE (i:=0) (j:=i) (c:=vx.c) rfl eR fZ rfl ⟨_,rfl⟩ rfl (fun h=>by cases h) (by omega) (by omega) (by omega))) bR) fun a w_ hs m=>?_
  rw[mQ] at hs
  refine bP hs m (x_ iA (e_ (p_ (fA (r:=((x.length+1:Nat):Int)) rfl rfl (by rw[cJ (by omega) (by omega)];omega))) (x_ eO (e_ (p_ (qX (r:=((x.length+1-i:Nat):Int)) rfl rfl (by rw[cJ (by omega) (by omega)];omega))) bR)))) fun a w_ hs m=>?_
  refine uC (c:=aV) (z0:=(⟨⟨0,rfl⟩,(⟨⟨0,rfl⟩,⟨0,rfl⟩⟩:aT),⟨0,rfl⟩,(⟨⟨0,rfl⟩,⟨0,rfl⟩,⟨0,rfl⟩,⟨0,rfl⟩,⟨0,rfl⟩,⟨0,rfl⟩⟩:cK),⟨0,rfl⟩,⟨0,rfl⟩⟩:TLease)) (xs:=x) (i:=i) (cn:=x.length+1-i) hs m rfl rfl eR zV fZ mY rfl rfl vN rfl rfl r0 (by omega) (by omega) (by omega) (by omega) rfl fun v9 w13 hn10 hc11 m a hs=>?_
  have hl12:(x.take i++List.replicate (x.length+1-i) (⟨⟨0,rfl⟩,(⟨⟨0,rfl⟩,⟨0,rfl⟩⟩:aT),⟨0,rfl⟩,(⟨⟨0,rfl⟩,⟨0,rfl⟩,⟨0,rfl⟩,⟨0,rfl⟩,⟨0,rfl⟩,⟨0,rfl⟩⟩:cK),⟨0,rfl⟩,⟨0,rfl⟩⟩:TLease)).length=x.length+1:=by simp;omega
  refine bP hs m gX fun a w_ hs m=>?_
  have hc14:=((m.rdv r0)).ncapM
  refine bP hs m (e_ (p_ (cE (i:=i) (j:=(x.take i++List.replicate (x.length+1-i) (⟨⟨0,rfl⟩,(⟨⟨0,rfl⟩,⟨0,rfl⟩⟩:aT),⟨0,rfl⟩,(⟨⟨0,rfl⟩,⟨0,rfl⟩,⟨0,rfl⟩,⟨0,rfl⟩,⟨0,rfl⟩,⟨0,rfl⟩⟩:cK),⟨0,rfl⟩,⟨0,rfl⟩⟩:TLease)).length) (c:=v9.c) rfl eR fZ ⟨_,rfl⟩ (by show _=_;omega) rfl (fun _=>rfl) (by omega) (by omega) (by omega))) eO) fun a w_ hs m=>?_
  have hy15:=(m.rdv r2)
  have hy15n:=hy15.ncapM
  refine lJ (c:=aV) (x:=v9) (xs:=(x.take i++List.replicate (x.length+1-i) (⟨⟨0,rfl⟩,(⟨⟨0,rfl⟩,⟨0,rfl⟩⟩:aT),⟨0,rfl⟩,(⟨⟨0,rfl⟩,⟨0,rfl⟩,⟨0,rfl⟩,⟨0,rfl⟩,⟨0,rfl⟩,⟨0,rfl⟩⟩:cK),⟨0,rfl⟩,⟨0,rfl⟩⟩:TLease))) (es:=y) (lo:=i) (dl:=(x.take i++List.replicate (x.length+1-i) (⟨⟨0,rfl⟩,(⟨⟨0,rfl⟩,⟨0,rfl⟩⟩:aT),⟨0,rfl⟩,(⟨⟨0,rfl⟩,⟨0,rfl⟩,⟨0,rfl⟩,⟨0,rfl⟩,⟨0,rfl⟩,⟨0,rfl⟩⟩:cK),⟨0,rfl⟩,⟨0,rfl⟩⟩:TLease)).length-i) (zs:=((x.take i++List.replicate (x.length+1-i) (⟨⟨0,rfl⟩,(⟨⟨0,rfl⟩,⟨0,rfl⟩⟩:aT),⟨0,rfl⟩,(⟨⟨0,rfl⟩,⟨0,rfl⟩,⟨0,rfl⟩,⟨0,rfl⟩,⟨0,rfl⟩,⟨0,rfl⟩⟩:cK),⟨0,rfl⟩,⟨0,rfl⟩⟩:TLease)).take i++y++(x.take i++List.replicate (x.length+1-i) (⟨⟨0,rfl⟩,(⟨⟨0,rfl⟩,⟨0,rfl⟩⟩:aT),⟨0,rfl⟩,(⟨⟨0,rfl⟩,⟨0,rfl⟩,⟨0,rfl⟩,⟨0,rfl⟩,⟨0,rfl⟩,⟨0,rfl⟩⟩:cK),⟨0,rfl⟩,⟨0,rfl⟩⟩:TLease)).drop (i+y.length))) (N:=x.length+1) hs m rfl rfl eR fZ r0 (gM (by omega)) (⟨_,_,_,rfl,by omega,hy15.wln⟩) (fun _=>rfl) (by omega) (by omega) (by omega) (rfl) (by omega) rfl fun w16 m a hs=>?_
  have hl17:((x.take i++List.replicate (x.length+1-i) (⟨⟨0,rfl⟩,(⟨⟨0,rfl⟩,⟨0,rfl⟩⟩:aT),⟨0,rfl⟩,(⟨⟨0,rfl⟩,⟨0,rfl⟩,⟨0,rfl⟩,⟨0,rfl⟩,⟨0,rfl⟩,⟨0,rfl⟩⟩:cK),⟨0,rfl⟩,⟨0,rfl⟩⟩:TLease)).take i++y++(x.take i++List.replicate (x.length+1-i) (⟨⟨0,rfl⟩,(⟨⟨0,rfl⟩,⟨0,rfl⟩⟩:aT),⟨0,rfl⟩,(⟨⟨0,rfl⟩,⟨0,rfl⟩,⟨0,rfl⟩,⟨0,rfl⟩,⟨0,rfl⟩,⟨0,rfl⟩⟩:cK),⟨0,rfl⟩,⟨0,rfl⟩⟩:TLease)).drop (i+y.length)).length=x.length+1:=by simp;omega
  rw[show hG v9 (x.length+1)=v9 from pQ (by omega)] at m
  refine wpList_nil (aB ?_)
  refine vK m (a1 (a1 .n)) fun w18 m=>?_
  refine zh4 hs (m.sub (a1 (a1 .n))) 0 1 2 3 (h4:=k_ rfl (fA (r:=((i+1:Nat):Int)) rfl rfl (by rw[cJ (by omega) (by omega)];omega))) (k:=fun a hs=>?_)
  have hc19:=((m.rdv r0)).ncapM
  refine zh3 hs (m.sub (a1 (a1 .n))) 4 5 6 (h1:=k_ rfl (cE (i:=(i+1)) (j:=((x.take i++List.replicate (x.length+1-i) (⟨⟨0,rfl⟩,(⟨⟨0,rfl⟩,⟨0,rfl⟩⟩:aT),⟨0,rfl⟩,(⟨⟨0,rfl⟩,⟨0,rfl⟩,⟨0,rfl⟩,⟨0,rfl⟩,⟨0,rfl⟩,⟨0,rfl⟩⟩:cK),⟨0,rfl⟩,⟨0,rfl⟩⟩:TLease)).take i++y++(x.take i++List.replicate (x.length+1-i) (⟨⟨0,rfl⟩,(⟨⟨0,rfl⟩,⟨0,rfl⟩⟩:aT),⟨0,rfl⟩,(⟨⟨0,rfl⟩,⟨0,rfl⟩,⟨0,rfl⟩,⟨0,rfl⟩,⟨0,rfl⟩,⟨0,rfl⟩⟩:cK),⟨0,rfl⟩,⟨0,rfl⟩⟩:TLease)).drop (i+y.length)).length) (c:=v9.c) rfl eR fZ ⟨_,rfl⟩ (by show _=_;omega) rfl (fun _=>rfl) (by omega) (by omega) (by omega))) (k:=fun a hs=>?_)
  have hc20:=((m.rdv r1)).ncapM
  refine kY hs (m.sub (a1 (a1 .n))) 7 (h1:=k_ rfl (cE (i:=i) (j:=x.length) (c:=vx.c) rfl eR fZ ⟨_,rfl⟩ (by show _=_;omega) rfl (fun _=>rfl) (by omega) (by omega) (by omega))) (k:=fun a hs=>?_)
  have hx21:=(m.rdv r1).winS (lo:=i) (by omega) (by omega)
  refine bU (i:=8) (by kernel_rfl) rfl ?_
  refine lJ (c:=aV) (x:=v9) (xs:=((x.take i++List.replicate (x.length+1-i) (⟨⟨0,rfl⟩,(⟨⟨0,rfl⟩,⟨0,rfl⟩⟩:aT),⟨0,rfl⟩,(⟨⟨0,rfl⟩,⟨0,rfl⟩,⟨0,rfl⟩,⟨0,rfl⟩,⟨0,rfl⟩,⟨0,rfl⟩⟩:cK),⟨0,rfl⟩,⟨0,rfl⟩⟩:TLease)).take i++y++(x.take i++List.replicate (x.length+1-i) (⟨⟨0,rfl⟩,(⟨⟨0,rfl⟩,⟨0,rfl⟩⟩:aT),⟨0,rfl⟩,(⟨⟨0,rfl⟩,⟨0,rfl⟩,⟨0,rfl⟩,⟨0,rfl⟩,⟨0,rfl⟩,⟨0,rfl⟩⟩:cK),⟨0,rfl⟩,⟨0,rfl⟩⟩:TLease)).drop (i+y.length))) (es:=x.drop i) (lo:=i+1) (dl:=((x.take i++List.replicate (x.length+1-i) (⟨⟨0,rfl⟩,(⟨⟨0,rfl⟩,⟨0,rfl⟩⟩:aT),⟨0,rfl⟩,(⟨⟨0,rfl⟩,⟨0,rfl⟩,⟨0,rfl⟩,⟨0,rfl⟩,⟨0,rfl⟩,⟨0,rfl⟩⟩:cK),⟨0,rfl⟩,⟨0,rfl⟩⟩:TLease)).take i++y++(x.take i++List.replicate (x.length+1-i) (⟨⟨0,rfl⟩,(⟨⟨0,rfl⟩,⟨0,rfl⟩⟩:aT),⟨0,rfl⟩,(⟨⟨0,rfl⟩,⟨0,rfl⟩,⟨0,rfl⟩,⟨0,rfl⟩,⟨0,rfl⟩,⟨0,rfl⟩⟩:cK),⟨0,rfl⟩,⟨0,rfl⟩⟩:TLease)).drop (i+y.length)).length-(i+1)) (zs:=x.take i++y++x.drop i) (N:=x.length+1) hs m rfl rfl eR fZ r0 (gM (by omega)) (⟨_,_,_,gM (by omega),by simp;omega,hx21⟩) (fun _=>rfl) (by omega) (by(simp;omega)) (by(simp;omega)) (aA6 (by omega) A1 rfl) (by simp;omega) rfl fun w22 m a hs=>?_
  rw[show hG v9 (x.length+1)=v9 from pQ (by omega)] at m
  refine wpList_nil (aB ⟨(m.sub (a1 (a1 .n))),?_⟩)
  refine dC (by kernel_rfl) (aB ?_)
  refine bT hs m gZ fun a w_ hs m=>?_
  refine bH hs (vs:=[v9.v]) rfl ⟨rfl,trivial⟩ ?_
  refine⟨_,rfl,v9,?_,m.sub (a0 .n)⟩
  rfl
 have h7p:=of_decide_eq_false h7
 refine bT hs m (x_ gX (e_ (p_ (fA (r:=((x.length+1:Nat):Int)) rfl rfl (by rw[cJ (by omega) (by omega)];omega))) bR)) fun a w_ hs m=>?_
 have hc23:=((m.rdv r0)).ncapM
 refine bP hs m (e_ (p_ (cE (i:=0) (j:=(x.length+1)) (c:=vx.c) rfl eR fZ rfl ⟨_,rfl⟩ rfl (fun h=>by cases h) (by omega) (by omega) (by omega))) bR) fun a w_ hs m=>?_
 rw[mQ] at hs
 refine bP hs m (x_ hQ (e_ (p_ (fA (r:=((i+1:Nat):Int)) rfl rfl (by rw[cJ (by omega) (by omega)];omega))) bR)) fun a w_ hs m=>?_
 have hc24:(hG vx (x.length+1)).n=(x.length+1)/\(hG vx (x.length+1)).c=vx.c:=⟨rfl,rfl⟩
 refine bP hs m (e_ (p_ (cE (i:=(i+1)) (j:=(x.length+1)) (c:=(hG vx (x.length+1)).c) rfl eR fZ ⟨_,rfl⟩ (by show _=_;omega) rfl (fun _=>rfl) (by omega) (by omega) (by omega))) (e_ (p_ (vW a0U rfl (fun w m=>sJ (x:=vx) (i:=i+1) (j:=x.length+1) eR fZ m r1 r0 (by omega)))) gC)) fun a w_ hs m=>?_
 refine vK m (a1 .n) fun w26 m=>?_
 refine zh4 hs (m.sub (a1 .n)) 0 1 2 3 (h4:=k_ rfl (fA (r:=((i+1:Nat):Int)) rfl rfl (by rw[cJ (by omega) (by omega)];omega))) (k:=fun a hs=>?_)
 have hc27:(hG vx (x.length+1)).n=(x.length+1)/\(hG vx (x.length+1)).c=vx.c:=⟨rfl,rfl⟩
 refine zh3 hs (m.sub (a1 .n)) 4 5 6 (h1:=k_ rfl (cE (i:=(i+1)) (j:=(x.length+1)) (c:=(hG vx (x.length+1)).c) rfl eR fZ ⟨_,rfl⟩ (by show _=_;omega) rfl (fun _=>rfl) (by omega) (by omega) (by omega))) (k:=fun a hs=>?_)
 have hc28:(hG vx (x.length+1)).n=(x.length+1)/\(hG vx (x.length+1)).c=vx.c:=⟨rfl,rfl⟩
 refine kY hs (m.sub (a1 .n)) 7 (h1:=k_ rfl (cE (i:=i) (j:=(x.length+1)) (c:=(hG vx (x.length+1)).c) rfl eR fZ ⟨_,rfl⟩ (by show _=_;omega) rfl (fun _=>rfl) (by omega) (by omega) (by omega))) (k:=fun a hs=>?_)
 have hx29:=(m.rdv r0).winS (lo:=i) (by omega) (by omega)
 refine bU (i:=8) (by kernel_rfl) rfl ?_
 refine lJ (c:=aV) (x:=vx) (xs:=x) (es:=x.drop i) (lo:=i+1) (dl:=x.length+1-(i+1)) (zs:=x.take (i+1)++x.drop i) (N:=x.length+1) hs m rfl rfl eR fZ r0 (gM (x:=hG vx (x.length+1)) (by show _<vx.c;omega)) (⟨_,_,_,gM (x:=hG vx (x.length+1)) (by show _<vx.c;omega),by simp;omega,hx29⟩) (fun _=>rfl) (by omega) (by(simp;omega)) (by(simp;omega)) (aDV (by omega)) (by simp;omega) rfl fun w30 m a hs=>?_
 refine wpList_nil (aB ⟨(m.sub (a1 .n)),?_⟩)
 refine dC (by kernel_rfl) (aB ?_)
 refine bT hs m eZ fun a w_ hs m=>?_
 have hc31:(hG vx (x.length+1)).n=(x.length+1)/\(hG vx (x.length+1)).c=vx.c:=⟨rfl,rfl⟩
 refine bP hs m (e_ (p_ (cE (i:=i) (j:=(x.length+1)) (c:=(hG vx (x.length+1)).c) rfl eR fZ ⟨_,rfl⟩ (by show _=_;omega) rfl (fun _=>rfl) (by omega) (by omega) (by omega))) eO) fun a w_ hs m=>?_
 have hy32:=(m.rdv r1)
 have hy32n:=hy32.ncapM
 refine lJ (c:=aV) (x:=(hG vx (x.length+1))) (xs:=x.take (i+1)++x.drop i) (es:=y) (lo:=i) (dl:=x.length+1-i) (zs:=x.take i++y++x.drop i) (N:=x.length+1) hs m rfl rfl eR fZ r0 (gM (x:=hG vx (x.length+1)) (by show _<vx.c;omega)) (⟨_,_,_,rfl,by omega,hy32.wln⟩) (fun _=>rfl) (by(simp;omega)) (by omega) (by omega) (aD7 (by omega) A1) (by simp;omega) rfl fun w33 m a hs=>?_
 refine bP hs m hQ fun a w_ hs m=>?_
 refine bH hs (vs:=[(hG vx (x.length+1)).v]) rfl ⟨rfl,trivial⟩ ?_
 refine⟨_,rfl,(hG vx (x.length+1)),?_,m.sub (a0 .n)⟩
 rfl
end Go.Proofs.YtnbpodjbemfpbaaGreat.Fw
set_option linter.all false
set_option maxHeartbeats 4000000
set_option maxRecDepth 100000
namespace Go.Proofs.YtnbpodjbemfpbaaGreat.Fw
open Go
theorem aKL (vx:SH) (x:List bD) (i:Nat) (j:Nat) (w0:World) (R:Hh) (A1:i<j) (A2:j<=x.length) (m:Hp w0 R [Sv 4 51 vx.v (x.map aM)] w0):Calls Tryz.prog 180 ⟨[vx.v,.int .i64 (i:Int),.int .i64 (j:Int)]⟩ w0 fun e w'=>∃ v,e= .returned v/\(∃ x0:SH,v=(x0.v)/\Hp w0 R [Sv 4 51 x0.v ((x.take i++x.drop j).map aM)] w'):=by
 have cx:=m.ncapM r0
 have lvx:=(m.rdv r0).bd
 refine enter (n:=33) Tryz.func180 rfl rfl rfl fun a (hs:St 33 [(0,vx.v),(1,.int .i64 (i:Int)),(2,.int .i64 (j:Int))] a)=>?_
 refine bT hs m (x_ hQ (e_ (p_ (bQ m rfl eY (fV r0))) bR)) fun a w_ hs m=>?_
 have hc1:=((m.rdv r0)).ncapM
 refine bP hs m (e_ (p_ (cE (i:=i) (j:=j) (c:=x.length) rfl eY gG ⟨_,rfl⟩ ⟨_,rfl⟩ ⟨_,rfl⟩ (fun h=>by cases h) (by omega) (by omega) (by omega))) hQ) fun a w_ hs m=>?_
 refine bV hs rfl (by simp;omega) ?_
 refine bT hs m (x_ gC (e_ (p_ (bQ m rfl eY (fV r0))) eZ)) fun a w_ hs m=>?_
 refine vK m .n fun w3 m=>?_
 refine tI hs (m.sub .n) 0 1 (k:=fun a hs=>?_)
 have hc4:=((m.rdv r0)).ncapM
 refine kY hs (m.sub .n) 2 (h1:=k_ rfl (cE (i:=0) (j:=i) (c:=vx.c) rfl eY gG rfl ⟨_,rfl⟩ rfl (fun h=>by cases h) (by omega) (by omega) (by omega))) (k:=fun a hs=>?_)
 rw[mQ] at hs
 refine tI hs (m.sub .n) 3 4 (k:=fun a hs=>?_)
 have hc5:=((m.rdv r0)).ncapM
 refine kY hs (m.sub .n) 5 (h1:=k_ rfl (cE (i:=j) (j:=x.length) (c:=vx.c) rfl eY gG ⟨_,rfl⟩ (by show _=_;omega) rfl (fun _=>rfl) (by omega) (by omega) (by omega))) (k:=fun a hs=>?_)
 have hu6:=((m.rdv r0).win (lo:=j) (hi:=x.length) (mx:=vx.c) (ys:=x.drop j) (by omega) (by omega) (by omega) (by omega) (by simp))
 refine bU (i:=6) (by kernel_rfl) rfl ?_
 replace m:=m.shrinkM (hi:=i) s0 (by omega)
 refine rB (c:=aM) (x:=hG vx i) (xs:=x.take i) (es:=x.drop j) hs m rfl rfl eY aB6 gG r0 hu6 (fun _=>rfl) (by show _<=vx.c;simp;omega) (by simp;omega) rfl fun w8 m a hs=>?_
 rw[aE3] at m hs
 have hl7:(x.take i++x.drop j).length=x.length-(j-i):=by simp;omega
 refine wpList_nil (aB ⟨(m.sub .n),?_⟩)
 refine kY hs (m.sub .n) 7 (k:=fun a hs=>?_)
 refine dC (by kernel_rfl) (aB ?_)
 refine bT hs m (x_ eZ (e_ (p_ (bQ m rfl eY (fV r0))) eO)) fun a w_ hs m=>?_
 have hc9:(hG vx ((x.take i).length+(x.drop j).length)).n=((x.take i).length+(x.drop j).length)/\(hG vx ((x.take i).length+(x.drop j).length)).c=vx.c:=⟨rfl,rfl⟩
 refine bP hs m (e_ (p_ (cE (i:=(x.take i++x.drop j).length) (j:=x.length) (c:=(hG vx ((x.take i).length+(x.drop j).length)).c) rfl eY gG ⟨_,rfl⟩ ⟨_,rfl⟩ rfl (fun h=>by cases h) (by omega) (by omega) (by omega))) bR) fun a w_ hs m=>?_
 refine rC (c:=aM) (x:=hG vx ((x.take i).length+(x.drop j).length)) (xs:=x.take i++x.drop j) (lo:=(x.take i++x.drop j).length) (z:=x.length-(x.take i++x.drop j).length) hs m rfl eY gG kK rfl rfl r0 (gM (x:=hG vx ((x.take i).length+(x.drop j).length)) (by show _<vx.c;omega)) (Nat.le_refl _) (by show _<=vx.c;omega) fun w10 m=>?_
 refine bP hs m lA fun a w_ hs m=>?_
 refine bH hs (vs:=[(hG vx ((x.take i).length+(x.drop j).length)).v]) rfl ⟨rfl,trivial⟩ ?_
 refine⟨_,rfl,(hG vx ((x.take i).length+(x.drop j).length)),?_,m.sub (a0 .n)⟩
 rfl
theorem aKK (vx:SH) (x:List bA) (i:Nat) (j:Nat) (w0:World) (R:Hh) (A1:i<j) (A2:j<=x.length) (m:Hp w0 R [Sv 7 54 vx.v (x.map aS)] w0):Calls Tryz.prog 181 ⟨[vx.v,.int .i64 (i:Int),.int .i64 (j:Int)]⟩ w0 fun e w'=>∃ v,e= .returned v/\(∃ x0:SH,v=(x0.v)/\Hp w0 R [Sv 7 54 x0.v ((x.take i++x.drop j).map aS)] w'):=by
 have cx:=m.ncapM r0
 have lvx:=(m.rdv r0).bd
 refine enter (n:=33) Tryz.func181 rfl rfl rfl fun a (hs:St 33 [(0,vx.v),(1,.int .i64 (i:Int)),(2,.int .i64 (j:Int))] a)=>?_
 refine bT hs m (x_ hQ (e_ (p_ (bQ m rfl fP (fV r0))) bR)) fun a w_ hs m=>?_
 have hc1:=((m.rdv r0)).ncapM
 refine bP hs m (e_ (p_ (cE (i:=i) (j:=j) (c:=x.length) rfl fP gQ ⟨_,rfl⟩ ⟨_,rfl⟩ ⟨_,rfl⟩ (fun h=>by cases h) (by omega) (by omega) (by omega))) hQ) fun a w_ hs m=>?_
 refine bV hs rfl (by simp;omega) ?_
 refine bT hs m (x_ gC (e_ (p_ (bQ m rfl fP (fV r0))) eZ)) fun a w_ hs m=>?_
 refine vK m .n fun w3 m=>?_
 refine tI hs (m.sub .n) 0 1 (k:=fun a hs=>?_)
 have hc4:=((m.rdv r0)).ncapM
 refine kY hs (m.sub .n) 2 (h1:=k_ rfl (cE (i:=0) (j:=i) (c:=vx.c) rfl fP gQ rfl ⟨_,rfl⟩ rfl (fun h=>by cases h) (by omega) (by omega) (by omega))) (k:=fun a hs=>?_)
 rw[mQ] at hs
 refine tI hs (m.sub .n) 3 4 (k:=fun a hs=>?_)
 have hc5:=((m.rdv r0)).ncapM
 refine kY hs (m.sub .n) 5 (h1:=k_ rfl (cE (i:=j) (j:=x.length) (c:=vx.c) rfl fP gQ ⟨_,rfl⟩ (by show _=_;omega) rfl (fun _=>rfl) (by omega) (by omega) (by omega))) (k:=fun a hs=>?_)
 have hu6:=((m.rdv r0).win (lo:=j) (hi:=x.length) (mx:=vx.c) (ys:=x.drop j) (by omega) (by omega) (by omega) (by omega) (by simp))
 refine bU (i:=6) (by kernel_rfl) rfl ?_
 replace m:=m.shrinkM (hi:=i) s0 (by omega)
 refine rB (c:=aS) (x:=hG vx i) (xs:=x.take i) (es:=x.drop j) hs m rfl rfl fP aB7 gQ r0 hu6 (fun _=>rfl) (by show _<=vx.c;simp;omega) (by simp;omega) rfl fun w8 m a hs=>?_
 rw[aE3] at m hs
 have hl7:(x.take i++x.drop j).length=x.length-(j-i):=by simp;omega
 refine wpList_nil (aB ⟨(m.sub .n),?_⟩)
 refine kY hs (m.sub .n) 7 (k:=fun a hs=>?_)
 refine dC (by kernel_rfl) (aB ?_)
 refine bT hs m (x_ eZ (e_ (p_ (bQ m rfl fP (fV r0))) eO)) fun a w_ hs m=>?_
 have hc9:(hG vx ((x.take i).length+(x.drop j).length)).n=((x.take i).length+(x.drop j).length)/\(hG vx ((x.take i).length+(x.drop j).length)).c=vx.c:=⟨rfl,rfl⟩
 refine bP hs m (e_ (p_ (cE (i:=(x.take i++x.drop j).length) (j:=x.length) (c:=(hG vx ((x.take i).length+(x.drop j).length)).c) rfl fP gQ ⟨_,rfl⟩ ⟨_,rfl⟩ rfl (fun h=>by cases h) (by omega) (by omega) (by omega))) bR) fun a w_ hs m=>?_
 refine rC (c:=aS) (x:=hG vx ((x.take i).length+(x.drop j).length)) (xs:=x.take i++x.drop j) (lo:=(x.take i++x.drop j).length) (z:=x.length-(x.take i++x.drop j).length) hs m rfl fP gQ lW rfl rfl r0 (gM (x:=hG vx ((x.take i).length+(x.drop j).length)) (by show _<vx.c;omega)) (Nat.le_refl _) (by show _<=vx.c;omega) fun w10 m=>?_
 refine bP hs m lA fun a w_ hs m=>?_
 refine bH hs (vs:=[(hG vx ((x.take i).length+(x.drop j).length)).v]) rfl ⟨rfl,trivial⟩ ?_
 refine⟨_,rfl,(hG vx ((x.take i).length+(x.drop j).length)),?_,m.sub (a0 .n)⟩
 rfl
theorem aPA (vx:SH) (x:List cH) (i:Nat) (j:Nat) (w0:World) (R:Hh) (A1:i<j) (A2:j<=x.length) (m:Hp w0 R [Sv 7 56 vx.v (x.map cB)] w0):Calls Tryz.prog 182 ⟨[vx.v,.int .i64 (i:Int),.int .i64 (j:Int)]⟩ w0 fun e w'=>∃ v,e= .returned v/\(∃ x0:SH,v=(x0.v)/\Hp w0 R [Sv 7 56 x0.v ((x.take i++x.drop j).map cB)] w'):=by
 have cx:=m.ncapM r0
 have lvx:=(m.rdv r0).bd
 refine enter (n:=33) Tryz.func182 rfl rfl rfl fun a (hs:St 33 [(0,vx.v),(1,.int .i64 (i:Int)),(2,.int .i64 (j:Int))] a)=>?_
 refine bT hs m (x_ hQ (e_ (p_ (bQ m rfl fQ (fV r0))) bR)) fun a w_ hs m=>?_
 have hc1:=((m.rdv r0)).ncapM
 refine bP hs m (e_ (p_ (cE (i:=i) (j:=j) (c:=x.length) rfl fQ gS ⟨_,rfl⟩ ⟨_,rfl⟩ ⟨_,rfl⟩ (fun h=>by cases h) (by omega) (by omega) (by omega))) hQ) fun a w_ hs m=>?_
 refine bV hs rfl (by simp;omega) ?_
 refine bT hs m (x_ gC (e_ (p_ (bQ m rfl fQ (fV r0))) eZ)) fun a w_ hs m=>?_
 refine vK m .n fun w3 m=>?_
 refine tI hs (m.sub .n) 0 1 (k:=fun a hs=>?_)
 have hc4:=((m.rdv r0)).ncapM
 refine kY hs (m.sub .n) 2 (h1:=k_ rfl (cE (i:=0) (j:=i) (c:=vx.c) rfl fQ gS rfl ⟨_,rfl⟩ rfl (fun h=>by cases h) (by omega) (by omega) (by omega))) (k:=fun a hs=>?_)
 rw[mQ] at hs
 refine tI hs (m.sub .n) 3 4 (k:=fun a hs=>?_)
 have hc5:=((m.rdv r0)).ncapM
 refine kY hs (m.sub .n) 5 (h1:=k_ rfl (cE (i:=j) (j:=x.length) (c:=vx.c) rfl fQ gS ⟨_,rfl⟩ (by show _=_;omega) rfl (fun _=>rfl) (by omega) (by omega) (by omega))) (k:=fun a hs=>?_)
 have hu6:=((m.rdv r0).win (lo:=j) (hi:=x.length) (mx:=vx.c) (ys:=x.drop j) (by omega) (by omega) (by omega) (by omega) (by simp))
 refine bU (i:=6) (by kernel_rfl) rfl ?_
 replace m:=m.shrinkM (hi:=i) s0 (by omega)
 refine rB (c:=cB) (x:=hG vx i) (xs:=x.take i) (es:=x.drop j) hs m rfl rfl fQ aB8 gS r0 hu6 (fun _=>rfl) (by show _<=vx.c;simp;omega) (by simp;omega) rfl fun w8 m a hs=>?_
 rw[aE3] at m hs
 have hl7:(x.take i++x.drop j).length=x.length-(j-i):=by simp;omega
 refine wpList_nil (aB ⟨(m.sub .n),?_⟩)
 refine kY hs (m.sub .n) 7 (k:=fun a hs=>?_)
 refine dC (by kernel_rfl) (aB ?_)
 refine bT hs m (x_ eZ (e_ (p_ (bQ m rfl fQ (fV r0))) eO)) fun a w_ hs m=>?_
 have hc9:(hG vx ((x.take i).length+(x.drop j).length)).n=((x.take i).length+(x.drop j).length)/\(hG vx ((x.take i).length+(x.drop j).length)).c=vx.c:=⟨rfl,rfl⟩
 refine bP hs m (e_ (p_ (cE (i:=(x.take i++x.drop j).length) (j:=x.length) (c:=(hG vx ((x.take i).length+(x.drop j).length)).c) rfl fQ gS ⟨_,rfl⟩ ⟨_,rfl⟩ rfl (fun h=>by cases h) (by omega) (by omega) (by omega))) bR) fun a w_ hs m=>?_
 refine rC (c:=cB) (x:=hG vx ((x.take i).length+(x.drop j).length)) (xs:=x.take i++x.drop j) (lo:=(x.take i++x.drop j).length) (z:=x.length-(x.take i++x.drop j).length) hs m rfl fQ gS lS rfl rfl r0 (gM (x:=hG vx ((x.take i).length+(x.drop j).length)) (by show _<vx.c;omega)) (Nat.le_refl _) (by show _<=vx.c;omega) fun w10 m=>?_
 refine bP hs m lA fun a w_ hs m=>?_
 refine bH hs (vs:=[(hG vx ((x.take i).length+(x.drop j).length)).v]) rfl ⟨rfl,trivial⟩ ?_
 refine⟨_,rfl,(hG vx ((x.take i).length+(x.drop j).length)),?_,m.sub (a0 .n)⟩
 rfl
theorem aIH (vx:SH) (x:List aT) (i:Nat) (j:Nat) (w0:World) (R:Hh) (A1:i<j) (A2:j<=x.length) (m:Hp w0 R [Sv 2 44 vx.v (x.map aO)] w0):Calls Tryz.prog 170 ⟨[vx.v,.int .i64 (i:Int),.int .i64 (j:Int)]⟩ w0 fun e w'=>∃ v,e= .returned v/\(∃ x0:SH,v=(x0.v)/\Hp w0 R [Sv 2 44 x0.v ((x.take i++x.drop j).map aO)] w'):=by
 have cx:=m.ncapM r0
 have lvx:=(m.rdv r0).bd
 refine enter (n:=33) Tryz.func170 rfl rfl rfl fun a (hs:St 33 [(0,vx.v),(1,.int .i64 (i:Int)),(2,.int .i64 (j:Int))] a)=>?_
 refine bT hs m (x_ hQ (e_ (p_ (bQ m rfl hY (fV r0))) bR)) fun a w_ hs m=>?_
 have hc1:=((m.rdv r0)).ncapM
 refine bP hs m (e_ (p_ (cE (i:=i) (j:=j) (c:=x.length) rfl hY jQ ⟨_,rfl⟩ ⟨_,rfl⟩ ⟨_,rfl⟩ (fun h=>by cases h) (by omega) (by omega) (by omega))) hQ) fun a w_ hs m=>?_
 refine bV hs rfl (by simp;omega) ?_
 refine bT hs m (x_ gC (e_ (p_ (bQ m rfl hY (fV r0))) eZ)) fun a w_ hs m=>?_
 refine vK m .n fun w3 m=>?_
 refine tI hs (m.sub .n) 0 1 (k:=fun a hs=>?_)
 have hc4:=((m.rdv r0)).ncapM
 refine kY hs (m.sub .n) 2 (h1:=k_ rfl (cE (i:=0) (j:=i) (c:=vx.c) rfl hY jQ rfl ⟨_,rfl⟩ rfl (fun h=>by cases h) (by omega) (by omega) (by omega))) (k:=fun a hs=>?_)
 rw[mQ] at hs
 refine tI hs (m.sub .n) 3 4 (k:=fun a hs=>?_)
 have hc5:=((m.rdv r0)).ncapM
 refine kY hs (m.sub .n) 5 (h1:=k_ rfl (cE (i:=j) (j:=x.length) (c:=vx.c) rfl hY jQ ⟨_,rfl⟩ (by show _=_;omega) rfl (fun _=>rfl) (by omega) (by omega) (by omega))) (k:=fun a hs=>?_)
 have hu6:=((m.rdv r0).win (lo:=j) (hi:=x.length) (mx:=vx.c) (ys:=x.drop j) (by omega) (by omega) (by omega) (by omega) (by simp))
 refine bU (i:=6) (by kernel_rfl) rfl ?_
 replace m:=m.shrinkM (hi:=i) s0 (by omega)
 refine rB (c:=aO) (x:=hG vx i) (xs:=x.take i) (es:=x.drop j) hs m rfl rfl hY aFF jQ r0 hu6 (fun _=>rfl) (by show _<=vx.c;simp;omega) (by simp;omega) rfl fun w8 m a hs=>?_
 rw[aE3] at m hs
 have hl7:(x.take i++x.drop j).length=x.length-(j-i):=by simp;omega
 refine wpList_nil (aB ⟨(m.sub .n),?_⟩)
 refine kY hs (m.sub .n) 7 (k:=fun a hs=>?_)
 refine dC (by kernel_rfl) (aB ?_)
 refine bT hs m (x_ eZ (e_ (p_ (bQ m rfl hY (fV r0))) eO)) fun a w_ hs m=>?_
 have hc9:(hG vx ((x.take i).length+(x.drop j).length)).n=((x.take i).length+(x.drop j).length)/\(hG vx ((x.take i).length+(x.drop j).length)).c=vx.c:=⟨rfl,rfl⟩
 refine bP hs m (e_ (p_ (cE (i:=(x.take i++x.drop j).length) (j:=x.length) (c:=(hG vx ((x.take i).length+(x.drop j).length)).c) rfl hY jQ ⟨_,rfl⟩ ⟨_,rfl⟩ rfl (fun h=>by cases h) (by omega) (by omega) (by omega))) bR) fun a w_ hs m=>?_
 refine rC (c:=aO) (x:=hG vx ((x.take i).length+(x.drop j).length)) (xs:=x.take i++x.drop j) (lo:=(x.take i++x.drop j).length) (z:=x.length-(x.take i++x.drop j).length) hs m rfl hY jQ uM rfl rfl r0 (gM (x:=hG vx ((x.take i).length+(x.drop j).length)) (by show _<vx.c;omega)) (Nat.le_refl _) (by show _<=vx.c;omega) fun w10 m=>?_
 refine bP hs m lA fun a w_ hs m=>?_
 refine bH hs (vs:=[(hG vx ((x.take i).length+(x.drop j).length)).v]) rfl ⟨rfl,trivial⟩ ?_
 refine⟨_,rfl,(hG vx ((x.take i).length+(x.drop j).length)),?_,m.sub (a0 .n)⟩
 rfl
theorem aKJ (vx:SH) (x:List TLease) (i:Nat) (j:Nat) (w0:World) (R:Hh) (A1:i<j) (A2:j<=x.length) (m:Hp w0 R [Sv 12 48 vx.v (x.map aV)] w0):Calls Tryz.prog 169 ⟨[vx.v,.int .i64 (i:Int),.int .i64 (j:Int)]⟩ w0 fun e w'=>∃ v,e= .returned v/\(∃ x0:SH,v=(x0.v)/\Hp w0 R [Sv 12 48 x0.v ((x.take i++x.drop j).map aV)] w'):=by
 have cx:=m.ncapM r0
 have lvx:=(m.rdv r0).bd
 refine enter (n:=33) Tryz.func169 rfl rfl rfl fun a (hs:St 33 [(0,vx.v),(1,.int .i64 (i:Int)),(2,.int .i64 (j:Int))] a)=>?_
 refine bT hs m (x_ hQ (e_ (p_ (bQ m rfl eR (fV r0))) bR)) fun a w_ hs m=>?_
 have hc1:=((m.rdv r0)).ncapM
 refine bP hs m (e_ (p_ (cE (i:=i) (j:=j) (c:=x.length) rfl eR fZ ⟨_,rfl⟩ ⟨_,rfl⟩ ⟨_,rfl⟩ (fun h=>by cases h) (by omega) (by omega) (by omega))) hQ) fun a w_ hs m=>?_
 refine bV hs rfl (by simp;omega) ?_
 refine bT hs m (x_ gC (e_ (p_ (bQ m rfl eR (fV r0))) eZ)) fun a w_ hs m=>?_
 refine vK m .n fun w3 m=>?_
 refine tI hs (m.sub .n) 0 1 (k:=fun a hs=>?_)
 have hc4:=((m.rdv r0)).ncapM
 refine kY hs (m.sub .n) 2 (h1:=k_ rfl (cE (i:=0) (j:=i) (c:=vx.c) rfl eR fZ rfl ⟨_,rfl⟩ rfl (fun h=>by cases h) (by omega) (by omega) (by omega))) (k:=fun a hs=>?_)
 rw[mQ] at hs
 refine tI hs (m.sub .n) 3 4 (k:=fun a hs=>?_)
 have hc5:=((m.rdv r0)).ncapM
 refine kY hs (m.sub .n) 5 (h1:=k_ rfl (cE (i:=j) (j:=x.length) (c:=vx.c) rfl eR fZ ⟨_,rfl⟩ (by show _=_;omega) rfl (fun _=>rfl) (by omega) (by omega) (by omega))) (k:=fun a hs=>?_)
 have hu6:=((m.rdv r0).win (lo:=j) (hi:=x.length) (mx:=vx.c) (ys:=x.drop j) (by omega) (by omega) (by omega) (by omega) (by simp))
 refine bU (i:=6) (by kernel_rfl) rfl ?_
 replace m:=m.shrinkM (hi:=i) s0 (by omega)
 refine rB (c:=aV) (x:=hG vx i) (xs:=x.take i) (es:=x.drop j) hs m rfl rfl eR xF fZ r0 hu6 (fun _=>rfl) (by show _<=vx.c;simp;omega) (by simp;omega) rfl fun w8 m a hs=>?_
 rw[aE3] at m hs
 have hl7:(x.take i++x.drop j).length=x.length-(j-i):=by simp;omega
 refine wpList_nil (aB ⟨(m.sub .n),?_⟩)
 refine kY hs (m.sub .n) 7 (k:=fun a hs=>?_)
 refine dC (by kernel_rfl) (aB ?_)
 refine bT hs m (x_ eZ (e_ (p_ (bQ m rfl eR (fV r0))) eO)) fun a w_ hs m=>?_
 have hc9:(hG vx ((x.take i).length+(x.drop j).length)).n=((x.take i).length+(x.drop j).length)/\(hG vx ((x.take i).length+(x.drop j).length)).c=vx.c:=⟨rfl,rfl⟩
 refine bP hs m (e_ (p_ (cE (i:=(x.take i++x.drop j).length) (j:=x.length) (c:=(hG vx ((x.take i).length+(x.drop j).length)).c) rfl eR fZ ⟨_,rfl⟩ ⟨_,rfl⟩ rfl (fun h=>by cases h) (by omega) (by omega) (by omega))) bR) fun a w_ hs m=>?_
 refine rC (c:=aV) (x:=hG vx ((x.take i).length+(x.drop j).length)) (xs:=x.take i++x.drop j) (lo:=(x.take i++x.drop j).length) (z:=x.length-(x.take i++x.drop j).length) hs m rfl eR fZ mY rfl rfl r0 (gM (x:=hG vx ((x.take i).length+(x.drop j).length)) (by show _<vx.c;omega)) (Nat.le_refl _) (by show _<=vx.c;omega) fun w10 m=>?_
 refine bP hs m lA fun a w_ hs m=>?_
 refine bH hs (vs:=[(hG vx ((x.take i).length+(x.drop j).length)).v]) rfl ⟨rfl,trivial⟩ ?_
 refine⟨_,rfl,(hG vx ((x.take i).length+(x.drop j).length)),?_,m.sub (a0 .n)⟩
 rfl
theorem aGW (vx:SH) (x:List bD) (w0:World) (hx:RdS (hh w0) 4 vx.v (x.map aM)) (A1:x.length<=2600000000000):Calls Tryz.prog 126 ⟨[vx.v]⟩ w0 fun e w'=>∃ v,e= .returned v/\(∃ x0:SH,v=(x0.v)/\Hp w0 (hh w0) [Sv 4 51 x0.v (x.map aM)] w'):=by
 have lvx:=hx.bd
 refine enter (n:=8) Tryz.func126 rfl rfl rfl fun a (hs:St 8 [(0,vx.v)] a)=>?_
 have m:=Hp.start w0
 refine bT hs m (x_ gZ (e_ (p_ (vX rfl rfl eY)) iA)) fun a w_ hs m=>?_
 refine aR hs rfl (fun h1=>?_) (fun h1=>?_)
 ·refine bT hs m gX fun a w_ hs m=>?_
  refine bH hs (vs:=[nilH.v]) rfl ⟨rfl,trivial⟩ ?_
  replace m:=m.nilSvM aM 4 51
  rw[(show ([]:List bD)=x from (hx.isnil (by assumption)).symm)] at m
  refine⟨_,rfl,nilH,?_,m.sub (a0 .n)⟩
  rfl
 refine wp_skip ?_
 refine aB ?_
 refine bN ?_
 refine dK (c:=aM) (ys:=([]:List bD)) hs m eY gG kK rfl rfl rfl rfl rfl (fun _=>rfl) rfl rfl rfl fun v4 w5 m a hs=>?_
 refine bP hs m eO fun a w_ hs m=>?_
 refine cF (c:=aM) (xs:=([]:List bD)) (ys:=x) hs m rfl rfl eY aB6 gG kK rfl qN rfl r0 (m.rd hx) (fun _=>rfl) (by(simp;omega)) rfl fun v6 w7 m a hs=>?_
 refine bP hs m gC fun a w_ hs m=>?_
 refine bH hs (vs:=[v6.v]) rfl ⟨rfl,trivial⟩ ?_
 refine⟨_,rfl,v6,?_,m.sub (a0 .n)⟩
 rfl
theorem aGV (vx:SH) (x:List bA) (w0:World) (hx:RdS (hh w0) 7 vx.v (x.map aS)) (A1:x.length<=2600000000000):Calls Tryz.prog 127 ⟨[vx.v]⟩ w0 fun e w'=>∃ v,e= .returned v/\(∃ x0:SH,v=(x0.v)/\Hp w0 (hh w0) [Sv 7 54 x0.v (x.map aS)] w'):=by
 have lvx:=hx.bd
 refine enter (n:=8) Tryz.func127 rfl rfl rfl fun a (hs:St 8 [(0,vx.v)] a)=>?_
 have m:=Hp.start w0
 refine bT hs m (x_ gZ (e_ (p_ (vX rfl rfl fP)) iA)) fun a w_ hs m=>?_
 refine aR hs rfl (fun h1=>?_) (fun h1=>?_)
 ·refine bT hs m gX fun a w_ hs m=>?_
  refine bH hs (vs:=[nilH.v]) rfl ⟨rfl,trivial⟩ ?_
  replace m:=m.nilSvM aS 7 54
  rw[(show ([]:List bA)=x from (hx.isnil (by assumption)).symm)] at m
  refine⟨_,rfl,nilH,?_,m.sub (a0 .n)⟩
  rfl
 refine wp_skip ?_
 refine aB ?_
 refine bN ?_
 refine dK (c:=aS) (ys:=([]:List bA)) hs m fP gQ lW rfl rfl rfl rfl rfl (fun _=>rfl) rfl rfl rfl fun v4 w5 m a hs=>?_
 refine bP hs m eO fun a w_ hs m=>?_
 refine cF (c:=aS) (xs:=([]:List bA)) (ys:=x) hs m rfl rfl fP aB7 gQ lW rfl qO rfl r0 (m.rd hx) (fun _=>rfl) (by(simp;omega)) rfl fun v6 w7 m a hs=>?_
 refine bP hs m gC fun a w_ hs m=>?_
 refine bH hs (vs:=[v6.v]) rfl ⟨rfl,trivial⟩ ?_
 refine⟨_,rfl,v6,?_,m.sub (a0 .n)⟩
 rfl
theorem aKG (vx:SH) (x:List cH) (w0:World) (hx:RdS (hh w0) 7 vx.v (x.map cB)) (A1:x.length<=2600000000000):Calls Tryz.prog 128 ⟨[vx.v]⟩ w0 fun e w'=>∃ v,e= .returned v/\(∃ x0:SH,v=(x0.v)/\Hp w0 (hh w0) [Sv 7 56 x0.v (x.map cB)] w'):=by
 have lvx:=hx.bd
 refine enter (n:=8) Tryz.func128 rfl rfl rfl fun a (hs:St 8 [(0,vx.v)] a)=>?_
 have m:=Hp.start w0
 refine bT hs m (x_ gZ (e_ (p_ (vX rfl rfl fQ)) iA)) fun a w_ hs m=>?_
 refine aR hs rfl (fun h1=>?_) (fun h1=>?_)
 ·refine bT hs m gX fun a w_ hs m=>?_
  refine bH hs (vs:=[nilH.v]) rfl ⟨rfl,trivial⟩ ?_
  replace m:=m.nilSvM cB 7 56
  rw[(show ([]:List cH)=x from (hx.isnil (by assumption)).symm)] at m
  refine⟨_,rfl,nilH,?_,m.sub (a0 .n)⟩
  rfl
 refine wp_skip ?_
 refine aB ?_
 refine bN ?_
 refine dK (c:=cB) (ys:=([]:List cH)) hs m fQ gS lS rfl rfl rfl rfl rfl (fun _=>rfl) rfl rfl rfl fun v4 w5 m a hs=>?_
 refine bP hs m eO fun a w_ hs m=>?_
 refine cF (c:=cB) (xs:=([]:List cH)) (ys:=x) hs m rfl rfl fQ aB8 gS lS rfl qP rfl r0 (m.rd hx) (fun _=>rfl) (by(simp;omega)) rfl fun v6 w7 m a hs=>?_
 refine bP hs m gC fun a w_ hs m=>?_
 refine bH hs (vs:=[v6.v]) rfl ⟨rfl,trivial⟩ ?_
 refine⟨_,rfl,v6,?_,m.sub (a0 .n)⟩
 rfl
theorem vB (vx:SH) (x:List aT) (w0:World) (hx:RdS (hh w0) 2 vx.v (x.map aO)) (A1:x.length<=2600000000000):Calls Tryz.prog 82 ⟨[vx.v]⟩ w0 fun e w'=>∃ v,e= .returned v/\(∃ x0:SH,v=(x0.v)/\Hp w0 (hh w0) [Sv 2 44 x0.v (x.map aO)] w'):=by
 have lvx:=hx.bd
 refine enter (n:=8) Tryz.func82 rfl rfl rfl fun a (hs:St 8 [(0,vx.v)] a)=>?_
 have m:=Hp.start w0
 refine bT hs m (x_ gZ (e_ (p_ (vX rfl rfl hY)) iA)) fun a w_ hs m=>?_
 refine aR hs rfl (fun h1=>?_) (fun h1=>?_)
 ·refine bT hs m gX fun a w_ hs m=>?_
  refine bH hs (vs:=[nilH.v]) rfl ⟨rfl,trivial⟩ ?_
  replace m:=m.nilSvM aO 2 44
  rw[(show ([]:List aT)=x from (hx.isnil (by assumption)).symm)] at m
  refine⟨_,rfl,nilH,?_,m.sub (a0 .n)⟩
  rfl
 refine wp_skip ?_
 refine aB ?_
 refine bN ?_
 refine dK (c:=aO) (ys:=([]:List aT)) hs m hY jQ uM rfl rfl rfl rfl rfl (fun _=>rfl) rfl rfl rfl fun v4 w5 m a hs=>?_
 refine bP hs m eO fun a w_ hs m=>?_
 refine cF (c:=aO) (xs:=([]:List aT)) (ys:=x) hs m rfl rfl hY aFF jQ uM rfl aFC rfl r0 (m.rd hx) (fun _=>rfl) (by(simp;omega)) rfl fun v6 w7 m a hs=>?_
 refine bP hs m gC fun a w_ hs m=>?_
 refine bH hs (vs:=[v6.v]) rfl ⟨rfl,trivial⟩ ?_
 refine⟨_,rfl,v6,?_,m.sub (a0 .n)⟩
 rfl
theorem wN (vx:SH) (x:List TLease) (w0:World) (hx:RdS (hh w0) 12 vx.v (x.map aV)) (A1:x.length<=2500000000000):Calls Tryz.prog 81 ⟨[vx.v]⟩ w0 fun e w'=>∃ v,e= .returned v/\(∃ x0:SH,v=(x0.v)/\Hp w0 (hh w0) [Sv 12 48 x0.v (x.map aV)] w'):=by
 have lvx:=hx.bd
 refine enter (n:=8) Tryz.func81 rfl rfl rfl fun a (hs:St 8 [(0,vx.v)] a)=>?_
 have m:=Hp.start w0
 refine bT hs m (x_ gZ (e_ (p_ (vX rfl rfl eR)) iA)) fun a w_ hs m=>?_
 refine aR hs rfl (fun h1=>?_) (fun h1=>?_)
 ·refine bT hs m gX fun a w_ hs m=>?_
  refine bH hs (vs:=[nilH.v]) rfl ⟨rfl,trivial⟩ ?_
  replace m:=m.nilSvM aV 12 48
  rw[(show ([]:List TLease)=x from (hx.isnil (by assumption)).symm)] at m
  refine⟨_,rfl,nilH,?_,m.sub (a0 .n)⟩
  rfl
 refine wp_skip ?_
 refine aB ?_
 refine bN ?_
 refine dK (c:=aV) (ys:=([]:List TLease)) hs m eR fZ mY rfl rfl rfl rfl rfl (fun _=>rfl) rfl rfl rfl fun v4 w5 m a hs=>?_
 refine bP hs m eO fun a w_ hs m=>?_
 refine cF (c:=aV) (xs:=([]:List TLease)) (ys:=x) hs m rfl rfl eR xF fZ mY rfl vN rfl r0 (m.rd hx) (fun _=>rfl) (by(simp;omega)) rfl fun v6 w7 m a hs=>?_
 refine bP hs m gC fun a w_ hs m=>?_
 refine bH hs (vs:=[v6.v]) rfl ⟨rfl,trivial⟩ ?_
 refine⟨_,rfl,v6,?_,m.sub (a0 .n)⟩
 rfl
end Go.Proofs.YtnbpodjbemfpbaaGreat.Fw
set_option linter.all false
set_option maxHeartbeats 4000000
set_option maxRecDepth 100000
namespace Go.Proofs.YtnbpodjbemfpbaaGreat.Fw
open Go
theorem aAH (vx:SH) (x:List bD) (t:bD) (w0:World) (R:Hh) (A1:x.length<=2600000000000) (m:Hp w0 R [Sv 4 51 vx.v (x.map aM)] w0):Calls Tryz.prog 44 ⟨[vx.v,.agg ⟨aM t⟩,.func (.func 45) ⟨[]⟩ ⟨[]⟩]⟩ w0 fun e w'=>∃ v,e= .returned v/\(∃ x0:SH,v=(x0.v)/\Hp w0 R [Sv 4 51 x0.v ((iB bS x t).map aM)] w'):=by
 have lvx:=(m.rdv r0).bd
 refine enter (n:=27) Tryz.func44 rfl rfl rfl fun a (hs:St 27 [(0,vx.v),(1,.agg ⟨aM t⟩),(2,.func (.func 45) ⟨[]⟩ ⟨[]⟩)] a)=>?_
 refine bN ?_
 refine dU (cs:=aM t) hs m rfl rfl rfl fun p1 w2 m a hs=>?_
 refine bP hs m (x_ gI (e_ (p_ (cN (aM t))) eO)) fun a w_ hs m=>?_
 refine cC hs m rfl rfl aVP rfl (aB0 vx x t _ (m.rdv r1) ) rfl fun w3 m a hs=>?_
 refine bP hs m nP fun a w_ hs m=>?_
 refine aR hs rfl (fun h4=>?_) (fun h4=>?_)
 ·refine bT hs m (x_ eZ (e_ (p_ (cN (aM t))) bR)) fun a w_ hs m=>?_
  obtain⟨e5,he6⟩:=bI (l:=x) (i:=mR (fun e=>(bS e t).v) x) (by exact mA (by assumption))
  refine rY (c:=aM) (e:=e5) hs m (x:=(.tmp 17)) (ix:=(.tmp 18)) rfl rfl eY gG r1 (by omega) he6 fun p7 hp8 ok9=>?_
  refine bP hs m (e_ (p_ (ok9 _ _ _ _ _)) bR) fun a w_ hs m=>?_
  refine rV (c:=aM) (e':=t) (vs:=aM t) hs m rfl rfl r1 hp8 he6 gG rfl rfl rfl rfl rfl fun w10 m=>?_
  replace m:Hp w0 R [Sv 4 51 vx.v ((x.set (mR (fun e=>(bS e t).v) x) t).map aM),Bx p1 51 (aM t)] w10:=m
  refine bP hs m hQ fun a w_ hs m=>?_
  refine bH hs (vs:=[vx.v]) rfl ⟨rfl,trivial⟩ ?_
  rw[(show x.set (mR (fun e=>(bS e t).v) x) t=iB bS x t by(simp [iB, *]))] at m
  refine⟨_,rfl,vx,?_,m.sub (a0 .n)⟩
  rfl
 refine bT hs m (x_ gI (e_ (p_ (cN (aM t))) bR)) fun a w_ hs m=>?_
 refine dK (c:=aM) (ys:=[t]) hs m eY gG kK rfl rfl rfl rfl rfl (fun _=>rfl) rfl rfl rfl fun v12 w13 m a hs=>?_
 refine jM 2 (m.sub (a2 (a0 (a0 .n)))) hs a3Z (fun R1 hR ⟨y1,sy,ly⟩ mc=>aKV vx x (mR (fun e=>(bS e t).v) x) v12 [t] _ R1  (by rfl) (by exact tQ _ _) (by omega) mc) fun v14 w15 m a hs=>?_
 simp only[iG] at m
 refine bP hs m gC fun a w_ hs m=>?_
 refine bH hs (vs:=[v14.v]) rfl ⟨rfl,trivial⟩ ?_
 rw[(show x.take (mR (fun e=>(bS e t).v) x)++[t]++x.drop (mR (fun e=>(bS e t).v) x)=iB bS x t by(simp [iB, *]))] at m
 refine⟨_,rfl,v14,?_,m.sub (a0 .n)⟩
 rfl
theorem aEZ (vx:SH) (x:List bA) (t:bA) (w0:World) (R:Hh) (A1:x.length<=2600000000000) (m:Hp w0 R [Sv 7 54 vx.v (x.map aS)] w0):Calls Tryz.prog 46 ⟨[vx.v,.agg ⟨aS t⟩,.func (.func 47) ⟨[]⟩ ⟨[]⟩]⟩ w0 fun e w'=>∃ v,e= .returned v/\(∃ x0:SH,v=(x0.v)/\Hp w0 R [Sv 7 54 x0.v ((iB bB x t).map aS)] w'):=by
 have lvx:=(m.rdv r0).bd
 refine enter (n:=27) Tryz.func46 rfl rfl rfl fun a (hs:St 27 [(0,vx.v),(1,.agg ⟨aS t⟩),(2,.func (.func 47) ⟨[]⟩ ⟨[]⟩)] a)=>?_
 refine bN ?_
 refine dU (cs:=aS t) hs m rfl rfl rfl fun p1 w2 m a hs=>?_
 refine bP hs m (x_ gI (e_ (p_ (cN (aS t))) eO)) fun a w_ hs m=>?_
 refine cC hs m rfl rfl aOX rfl (aBZ vx x t _ (m.rdv r1) ) rfl fun w3 m a hs=>?_
 refine bP hs m nP fun a w_ hs m=>?_
 refine aR hs rfl (fun h4=>?_) (fun h4=>?_)
 ·refine bT hs m (x_ eZ (e_ (p_ (cN (aS t))) bR)) fun a w_ hs m=>?_
  obtain⟨e5,he6⟩:=bI (l:=x) (i:=mR (fun e=>(bB e t).v) x) (by exact mA (by assumption))
  refine rY (c:=aS) (e:=e5) hs m (x:=(.tmp 17)) (ix:=(.tmp 18)) rfl rfl fP gQ r1 (by omega) he6 fun p7 hp8 ok9=>?_
  refine bP hs m (e_ (p_ (ok9 _ _ _ _ _)) bR) fun a w_ hs m=>?_
  refine rV (c:=aS) (e':=t) (vs:=aS t) hs m rfl rfl r1 hp8 he6 gQ rfl rfl rfl rfl rfl fun w10 m=>?_
  replace m:Hp w0 R [Sv 7 54 vx.v ((x.set (mR (fun e=>(bB e t).v) x) t).map aS),Bx p1 54 (aS t)] w10:=m
  refine bP hs m hQ fun a w_ hs m=>?_
  refine bH hs (vs:=[vx.v]) rfl ⟨rfl,trivial⟩ ?_
  rw[(show x.set (mR (fun e=>(bB e t).v) x) t=iB bB x t by(simp [iB, *]))] at m
  refine⟨_,rfl,vx,?_,m.sub (a0 .n)⟩
  rfl
 refine bT hs m (x_ gI (e_ (p_ (cN (aS t))) bR)) fun a w_ hs m=>?_
 refine dK (c:=aS) (ys:=[t]) hs m fP gQ lW rfl rfl rfl rfl rfl (fun _=>rfl) rfl rfl rfl fun v12 w13 m a hs=>?_
 refine jM 2 (m.sub (a2 (a0 (a0 .n)))) hs aY1 (fun R1 hR ⟨y1,sy,ly⟩ mc=>aKU vx x (mR (fun e=>(bB e t).v) x) v12 [t] _ R1  (by rfl) (by exact tQ _ _) (by omega) mc) fun v14 w15 m a hs=>?_
 simp only[iG] at m
 refine bP hs m gC fun a w_ hs m=>?_
 refine bH hs (vs:=[v14.v]) rfl ⟨rfl,trivial⟩ ?_
 rw[(show x.take (mR (fun e=>(bB e t).v) x)++[t]++x.drop (mR (fun e=>(bB e t).v) x)=iB bB x t by(simp [iB, *]))] at m
 refine⟨_,rfl,v14,?_,m.sub (a0 .n)⟩
 rfl
theorem aJM (vx:SH) (x:List cH) (t:cH) (w0:World) (R:Hh) (A1:x.length<=2600000000000) (m:Hp w0 R [Sv 7 56 vx.v (x.map cB)] w0):Calls Tryz.prog 48 ⟨[vx.v,.agg ⟨cB t⟩,.func (.func 49) ⟨[]⟩ ⟨[]⟩]⟩ w0 fun e w'=>∃ v,e= .returned v/\(∃ x0:SH,v=(x0.v)/\Hp w0 R [Sv 7 56 x0.v ((iB bY x t).map cB)] w'):=by
 have lvx:=(m.rdv r0).bd
 refine enter (n:=27) Tryz.func48 rfl rfl rfl fun a (hs:St 27 [(0,vx.v),(1,.agg ⟨cB t⟩),(2,.func (.func 49) ⟨[]⟩ ⟨[]⟩)] a)=>?_
 refine bN ?_
 refine dU (cs:=cB t) hs m rfl rfl rfl fun p1 w2 m a hs=>?_
 refine bP hs m (x_ gI (e_ (p_ (cN (cB t))) eO)) fun a w_ hs m=>?_
 refine cC hs m rfl rfl aOY rfl (aGS vx x t _ (m.rdv r1) ) rfl fun w3 m a hs=>?_
 refine bP hs m nP fun a w_ hs m=>?_
 refine aR hs rfl (fun h4=>?_) (fun h4=>?_)
 ·refine bT hs m (x_ eZ (e_ (p_ (cN (cB t))) bR)) fun a w_ hs m=>?_
  obtain⟨e5,he6⟩:=bI (l:=x) (i:=mR (fun e=>(bY e t).v) x) (by exact mA (by assumption))
  refine rY (c:=cB) (e:=e5) hs m (x:=(.tmp 17)) (ix:=(.tmp 18)) rfl rfl fQ gS r1 (by omega) he6 fun p7 hp8 ok9=>?_
  refine bP hs m (e_ (p_ (ok9 _ _ _ _ _)) bR) fun a w_ hs m=>?_
  refine rV (c:=cB) (e':=t) (vs:=cB t) hs m rfl rfl r1 hp8 he6 gS rfl rfl rfl rfl rfl fun w10 m=>?_
  replace m:Hp w0 R [Sv 7 56 vx.v ((x.set (mR (fun e=>(bY e t).v) x) t).map cB),Bx p1 56 (cB t)] w10:=m
  refine bP hs m hQ fun a w_ hs m=>?_
  refine bH hs (vs:=[vx.v]) rfl ⟨rfl,trivial⟩ ?_
  rw[(show x.set (mR (fun e=>(bY e t).v) x) t=iB bY x t by(simp [iB, *]))] at m
  refine⟨_,rfl,vx,?_,m.sub (a0 .n)⟩
  rfl
 refine bT hs m (x_ gI (e_ (p_ (cN (cB t))) bR)) fun a w_ hs m=>?_
 refine dK (c:=cB) (ys:=[t]) hs m fQ gS lS rfl rfl rfl rfl rfl (fun _=>rfl) rfl rfl rfl fun v12 w13 m a hs=>?_
 refine jM 2 (m.sub (a2 (a0 (a0 .n)))) hs aY2 (fun R1 hR ⟨y1,sy,ly⟩ mc=>aPT vx x (mR (fun e=>(bY e t).v) x) v12 [t] _ R1  (by rfl) (by exact tQ _ _) (by omega) mc) fun v14 w15 m a hs=>?_
 simp only[iG] at m
 refine bP hs m gC fun a w_ hs m=>?_
 refine bH hs (vs:=[v14.v]) rfl ⟨rfl,trivial⟩ ?_
 rw[(show x.take (mR (fun e=>(bY e t).v) x)++[t]++x.drop (mR (fun e=>(bY e t).v) x)=iB bY x t by(simp [iB, *]))] at m
 refine⟨_,rfl,v14,?_,m.sub (a0 .n)⟩
 rfl
theorem aJN (vx:SH) (x:List aT) (t:aT) (w0:World) (R:Hh) (A1:x.length<=2600000000000) (m:Hp w0 R [Sv 2 44 vx.v (x.map aO)] w0):Calls Tryz.prog 135 ⟨[vx.v,.agg ⟨aO t⟩,.func (.func 99) ⟨[]⟩ ⟨[]⟩]⟩ w0 fun e w'=>∃ v,e= .returned v/\(∃ x0:SH,v=(x0.v)/\Hp w0 R [Sv 2 44 x0.v ((iB dH x t).map aO)] w'):=by
 have lvx:=(m.rdv r0).bd
 refine enter (n:=27) Tryz.func135 rfl rfl rfl fun a (hs:St 27 [(0,vx.v),(1,.agg ⟨aO t⟩),(2,.func (.func 99) ⟨[]⟩ ⟨[]⟩)] a)=>?_
 refine bN ?_
 refine dU (cs:=aO t) hs m rfl rfl rfl fun p1 w2 m a hs=>?_
 refine bP hs m (x_ gI (e_ (p_ (cN (aO t))) eO)) fun a w_ hs m=>?_
 refine cC hs m rfl rfl aO1 rfl (zQ vx x t _ (m.rdv r1) ) rfl fun w3 m a hs=>?_
 refine bP hs m nP fun a w_ hs m=>?_
 refine aR hs rfl (fun h4=>?_) (fun h4=>?_)
 ·refine bT hs m (x_ eZ (e_ (p_ (cN (aO t))) bR)) fun a w_ hs m=>?_
  obtain⟨e5,he6⟩:=bI (l:=x) (i:=mR (fun e=>(dH e t).v) x) (by exact mA (by assumption))
  refine rY (c:=aO) (e:=e5) hs m (x:=(.tmp 17)) (ix:=(.tmp 18)) rfl rfl hY jQ r1 (by omega) he6 fun p7 hp8 ok9=>?_
  refine bP hs m (e_ (p_ (ok9 _ _ _ _ _)) bR) fun a w_ hs m=>?_
  refine rV (c:=aO) (e':=t) (vs:=aO t) hs m rfl rfl r1 hp8 he6 jQ rfl rfl rfl rfl rfl fun w10 m=>?_
  replace m:Hp w0 R [Sv 2 44 vx.v ((x.set (mR (fun e=>(dH e t).v) x) t).map aO),Bx p1 44 (aO t)] w10:=m
  refine bP hs m hQ fun a w_ hs m=>?_
  refine bH hs (vs:=[vx.v]) rfl ⟨rfl,trivial⟩ ?_
  rw[(show x.set (mR (fun e=>(dH e t).v) x) t=iB dH x t by(simp [iB, *]))] at m
  refine⟨_,rfl,vx,?_,m.sub (a0 .n)⟩
  rfl
 refine bT hs m (x_ gI (e_ (p_ (cN (aO t))) bR)) fun a w_ hs m=>?_
 refine dK (c:=aO) (ys:=[t]) hs m hY jQ uM rfl rfl rfl rfl rfl (fun _=>rfl) rfl rfl rfl fun v12 w13 m a hs=>?_
 refine jM 2 (m.sub (a2 (a0 (a0 .n)))) hs aZ4 (fun R1 hR ⟨y1,sy,ly⟩ mc=>aIR vx x (mR (fun e=>(dH e t).v) x) v12 [t] _ R1  (by rfl) (by exact tQ _ _) (by omega) mc) fun v14 w15 m a hs=>?_
 simp only[iG] at m
 refine bP hs m gC fun a w_ hs m=>?_
 refine bH hs (vs:=[v14.v]) rfl ⟨rfl,trivial⟩ ?_
 rw[(show x.take (mR (fun e=>(dH e t).v) x)++[t]++x.drop (mR (fun e=>(dH e t).v) x)=iB dH x t by(simp [iB, *]))] at m
 refine⟨_,rfl,v14,?_,m.sub (a0 .n)⟩
 rfl
theorem aLK (vx:SH) (x:List TLease) (t:TLease) (w0:World) (R:Hh) (A1:x.length<=2500000000000) (m:Hp w0 R [Sv 12 48 vx.v (x.map aV)] w0):Calls Tryz.prog 137 ⟨[vx.v,.agg ⟨aV t⟩,.func (.func 133) ⟨[]⟩ ⟨[]⟩]⟩ w0 fun e w'=>∃ v,e= .returned v/\(∃ x0:SH,v=(x0.v)/\Hp w0 R [Sv 12 48 x0.v ((iB dL x t).map aV)] w'):=by
 have lvx:=(m.rdv r0).bd
 refine enter (n:=27) Tryz.func137 rfl rfl rfl fun a (hs:St 27 [(0,vx.v),(1,.agg ⟨aV t⟩),(2,.func (.func 133) ⟨[]⟩ ⟨[]⟩)] a)=>?_
 refine bN ?_
 refine dU (cs:=aV t) hs m rfl rfl rfl fun p1 w2 m a hs=>?_
 refine bP hs m (x_ gI (e_ (p_ (cN (aV t))) eO)) fun a w_ hs m=>?_
 refine cC hs m rfl rfl aT8 rfl (aFM vx x t _ (m.rdv r1) ) rfl fun w3 m a hs=>?_
 refine bP hs m nP fun a w_ hs m=>?_
 refine aR hs rfl (fun h4=>?_) (fun h4=>?_)
 ·refine bT hs m (x_ eZ (e_ (p_ (cN (aV t))) bR)) fun a w_ hs m=>?_
  obtain⟨e5,he6⟩:=bI (l:=x) (i:=mR (fun e=>(dL e t).v) x) (by exact mA (by assumption))
  refine rY (c:=aV) (e:=e5) hs m (x:=(.tmp 17)) (ix:=(.tmp 18)) rfl rfl eR fZ r1 (by omega) he6 fun p7 hp8 ok9=>?_
  refine bP hs m (e_ (p_ (ok9 _ _ _ _ _)) bR) fun a w_ hs m=>?_
  refine rV (c:=aV) (e':=t) (vs:=aV t) hs m rfl rfl r1 hp8 he6 fZ rfl rfl rfl rfl rfl fun w10 m=>?_
  replace m:Hp w0 R [Sv 12 48 vx.v ((x.set (mR (fun e=>(dL e t).v) x) t).map aV),Bx p1 48 (aV t)] w10:=m
  refine bP hs m hQ fun a w_ hs m=>?_
  refine bH hs (vs:=[vx.v]) rfl ⟨rfl,trivial⟩ ?_
  rw[(show x.set (mR (fun e=>(dL e t).v) x) t=iB dL x t by(simp [iB, *]))] at m
  refine⟨_,rfl,vx,?_,m.sub (a0 .n)⟩
  rfl
 refine bT hs m (x_ gI (e_ (p_ (cN (aV t))) bR)) fun a w_ hs m=>?_
 refine dK (c:=aV) (ys:=[t]) hs m eR fZ mY rfl rfl rfl rfl rfl (fun _=>rfl) rfl rfl rfl fun v12 w13 m a hs=>?_
 refine jM 2 (m.sub (a2 (a0 (a0 .n)))) hs aZ5 (fun R1 hR ⟨y1,sy,ly⟩ mc=>aKT vx x (mR (fun e=>(dL e t).v) x) v12 [t] _ R1  (by rfl) (by exact tQ _ _) (by omega) mc) fun v14 w15 m a hs=>?_
 simp only[iG] at m
 refine bP hs m gC fun a w_ hs m=>?_
 refine bH hs (vs:=[v14.v]) rfl ⟨rfl,trivial⟩ ?_
 rw[(show x.take (mR (fun e=>(dL e t).v) x)++[t]++x.drop (mR (fun e=>(dL e t).v) x)=iB dL x t by(simp [iB, *]))] at m
 refine⟨_,rfl,v14,?_,m.sub (a0 .n)⟩
 rfl
theorem aH4 (vx:SH) (x:List bD) (t:bD) (w0:World) (R:Hh) (m:Hp w0 R [Sv 4 51 vx.v (x.map aM)] w0):Calls Tryz.prog 163 ⟨[vx.v,.agg ⟨aM t⟩,.func (.func 45) ⟨[]⟩ ⟨[]⟩]⟩ w0 fun e w'=>∃ v,e= .returned v/\(∃ x0:SH,v=(x0.v)/\Hp w0 R [Sv 4 51 x0.v ((fJ bS x t).map aM)] w'):=by
 have lvx:=(m.rdv r0).bd
 refine enter (n:=23) Tryz.func163 rfl rfl rfl fun a (hs:St 23 [(0,vx.v),(1,.agg ⟨aM t⟩),(2,.func (.func 45) ⟨[]⟩ ⟨[]⟩)] a)=>?_
 refine bN ?_
 refine dU (cs:=aM t) hs m rfl rfl rfl fun p1 w2 m a hs=>?_
 refine bP hs m (x_ gI (e_ (p_ (cN (aM t))) eO)) fun a w_ hs m=>?_
 refine cC hs m rfl rfl aVP rfl (aB0 vx x t _ (m.rdv r1) ) rfl fun w3 m a hs=>?_
 refine bP hs m nP fun a w_ hs m=>?_
 refine aR hs rfl (fun h4=>?_) (fun h4=>?_)
 ·refine bT hs m (x_ gC (e_ (p_ (fA (r:=((mR (fun e=>(bS e t).v) x+1:Nat):Int)) rfl rfl (by have hq:=tQ (fun e=>(bS e t).v) x;rw[cJ (by omega) (by omega)];omega))) bR)) fun a w_ hs m=>?_
  refine jM 1 (m.sub (a1 (a0 .n))) hs a0B (fun R1 hR ⟨y1,sy,ly⟩ mc=>aKL vx x (mR (fun e=>(bS e t).v) x) (mR (fun e=>(bS e t).v) x+1) _ R1  (by omega) (by(have:=mA (by assumption);omega)) mc) fun v5 w6 m a hs=>?_
  simp only[iG] at m
  refine bP hs m gI fun a w_ hs m=>?_
  refine bH hs (vs:=[v5.v]) rfl ⟨rfl,trivial⟩ ?_
  rw[(show x.take (mR (fun e=>(bS e t).v) x)++x.drop (mR (fun e=>(bS e t).v) x+1)=fJ bS x t by(simp [fJ, *]))] at m
  refine⟨_,rfl,v5,?_,m.sub (a0 .n)⟩
  rfl
 refine bT hs m lA fun a w_ hs m=>?_
 refine bH hs (vs:=[vx.v]) rfl ⟨rfl,trivial⟩ ?_
 rw[(show x=fJ bS x t by(simp [fJ, *]))] at m
 refine⟨_,rfl,vx,?_,m.sub (a1 .n)⟩
 rfl
theorem aH3 (vx:SH) (x:List bA) (t:bA) (w0:World) (R:Hh) (m:Hp w0 R [Sv 7 54 vx.v (x.map aS)] w0):Calls Tryz.prog 164 ⟨[vx.v,.agg ⟨aS t⟩,.func (.func 47) ⟨[]⟩ ⟨[]⟩]⟩ w0 fun e w'=>∃ v,e= .returned v/\(∃ x0:SH,v=(x0.v)/\Hp w0 R [Sv 7 54 x0.v ((fJ bB x t).map aS)] w'):=by
 have lvx:=(m.rdv r0).bd
 refine enter (n:=23) Tryz.func164 rfl rfl rfl fun a (hs:St 23 [(0,vx.v),(1,.agg ⟨aS t⟩),(2,.func (.func 47) ⟨[]⟩ ⟨[]⟩)] a)=>?_
 refine bN ?_
 refine dU (cs:=aS t) hs m rfl rfl rfl fun p1 w2 m a hs=>?_
 refine bP hs m (x_ gI (e_ (p_ (cN (aS t))) eO)) fun a w_ hs m=>?_
 refine cC hs m rfl rfl aOX rfl (aBZ vx x t _ (m.rdv r1) ) rfl fun w3 m a hs=>?_
 refine bP hs m nP fun a w_ hs m=>?_
 refine aR hs rfl (fun h4=>?_) (fun h4=>?_)
 ·refine bT hs m (x_ gC (e_ (p_ (fA (r:=((mR (fun e=>(bB e t).v) x+1:Nat):Int)) rfl rfl (by have hq:=tQ (fun e=>(bB e t).v) x;rw[cJ (by omega) (by omega)];omega))) bR)) fun a w_ hs m=>?_
  refine jM 1 (m.sub (a1 (a0 .n))) hs a0C (fun R1 hR ⟨y1,sy,ly⟩ mc=>aKK vx x (mR (fun e=>(bB e t).v) x) (mR (fun e=>(bB e t).v) x+1) _ R1  (by omega) (by(have:=mA (by assumption);omega)) mc) fun v5 w6 m a hs=>?_
  simp only[iG] at m
  refine bP hs m gI fun a w_ hs m=>?_
  refine bH hs (vs:=[v5.v]) rfl ⟨rfl,trivial⟩ ?_
  rw[(show x.take (mR (fun e=>(bB e t).v) x)++x.drop (mR (fun e=>(bB e t).v) x+1)=fJ bB x t by(simp [fJ, *]))] at m
  refine⟨_,rfl,v5,?_,m.sub (a0 .n)⟩
  rfl
 refine bT hs m lA fun a w_ hs m=>?_
 refine bH hs (vs:=[vx.v]) rfl ⟨rfl,trivial⟩ ?_
 rw[(show x=fJ bB x t by(simp [fJ, *]))] at m
 refine⟨_,rfl,vx,?_,m.sub (a1 .n)⟩
 rfl
theorem aLO (vx:SH) (x:List cH) (t:cH) (w0:World) (R:Hh) (m:Hp w0 R [Sv 7 56 vx.v (x.map cB)] w0):Calls Tryz.prog 165 ⟨[vx.v,.agg ⟨cB t⟩,.func (.func 49) ⟨[]⟩ ⟨[]⟩]⟩ w0 fun e w'=>∃ v,e= .returned v/\(∃ x0:SH,v=(x0.v)/\Hp w0 R [Sv 7 56 x0.v ((fJ bY x t).map cB)] w'):=by
 have lvx:=(m.rdv r0).bd
 refine enter (n:=23) Tryz.func165 rfl rfl rfl fun a (hs:St 23 [(0,vx.v),(1,.agg ⟨cB t⟩),(2,.func (.func 49) ⟨[]⟩ ⟨[]⟩)] a)=>?_
 refine bN ?_
 refine dU (cs:=cB t) hs m rfl rfl rfl fun p1 w2 m a hs=>?_
 refine bP hs m (x_ gI (e_ (p_ (cN (cB t))) eO)) fun a w_ hs m=>?_
 refine cC hs m rfl rfl aOY rfl (aGS vx x t _ (m.rdv r1) ) rfl fun w3 m a hs=>?_
 refine bP hs m nP fun a w_ hs m=>?_
 refine aR hs rfl (fun h4=>?_) (fun h4=>?_)
 ·refine bT hs m (x_ gC (e_ (p_ (fA (r:=((mR (fun e=>(bY e t).v) x+1:Nat):Int)) rfl rfl (by have hq:=tQ (fun e=>(bY e t).v) x;rw[cJ (by omega) (by omega)];omega))) bR)) fun a w_ hs m=>?_
  refine jM 1 (m.sub (a1 (a0 .n))) hs a0D (fun R1 hR ⟨y1,sy,ly⟩ mc=>aPA vx x (mR (fun e=>(bY e t).v) x) (mR (fun e=>(bY e t).v) x+1) _ R1  (by omega) (by(have:=mA (by assumption);omega)) mc) fun v5 w6 m a hs=>?_
  simp only[iG] at m
  refine bP hs m gI fun a w_ hs m=>?_
  refine bH hs (vs:=[v5.v]) rfl ⟨rfl,trivial⟩ ?_
  rw[(show x.take (mR (fun e=>(bY e t).v) x)++x.drop (mR (fun e=>(bY e t).v) x+1)=fJ bY x t by(simp [fJ, *]))] at m
  refine⟨_,rfl,v5,?_,m.sub (a0 .n)⟩
  rfl
 refine bT hs m lA fun a w_ hs m=>?_
 refine bH hs (vs:=[vx.v]) rfl ⟨rfl,trivial⟩ ?_
 rw[(show x=fJ bY x t by(simp [fJ, *]))] at m
 refine⟨_,rfl,vx,?_,m.sub (a1 .n)⟩
 rfl
theorem aFI (vx:SH) (x:List aT) (t:aT) (w0:World) (R:Hh) (m:Hp w0 R [Sv 2 44 vx.v (x.map aO)] w0):Calls Tryz.prog 139 ⟨[vx.v,.agg ⟨aO t⟩,.func (.func 99) ⟨[]⟩ ⟨[]⟩]⟩ w0 fun e w'=>∃ v,e= .returned v/\(∃ x0:SH,v=(x0.v)/\Hp w0 R [Sv 2 44 x0.v ((fJ dH x t).map aO)] w'):=by
 have lvx:=(m.rdv r0).bd
 refine enter (n:=23) Tryz.func139 rfl rfl rfl fun a (hs:St 23 [(0,vx.v),(1,.agg ⟨aO t⟩),(2,.func (.func 99) ⟨[]⟩ ⟨[]⟩)] a)=>?_
 refine bN ?_
 refine dU (cs:=aO t) hs m rfl rfl rfl fun p1 w2 m a hs=>?_
 refine bP hs m (x_ gI (e_ (p_ (cN (aO t))) eO)) fun a w_ hs m=>?_
 refine cC hs m rfl rfl aO1 rfl (zQ vx x t _ (m.rdv r1) ) rfl fun w3 m a hs=>?_
 refine bP hs m nP fun a w_ hs m=>?_
 refine aR hs rfl (fun h4=>?_) (fun h4=>?_)
 ·refine bT hs m (x_ gC (e_ (p_ (fA (r:=((mR (fun e=>(dH e t).v) x+1:Nat):Int)) rfl rfl (by have hq:=tQ (fun e=>(dH e t).v) x;rw[cJ (by omega) (by omega)];omega))) bR)) fun a w_ hs m=>?_
  refine jM 1 (m.sub (a1 (a0 .n))) hs aZ7 (fun R1 hR ⟨y1,sy,ly⟩ mc=>aIH vx x (mR (fun e=>(dH e t).v) x) (mR (fun e=>(dH e t).v) x+1) _ R1  (by omega) (by(have:=mA (by assumption);omega)) mc) fun v5 w6 m a hs=>?_
  simp only[iG] at m
  refine bP hs m gI fun a w_ hs m=>?_
  refine bH hs (vs:=[v5.v]) rfl ⟨rfl,trivial⟩ ?_
  rw[(show x.take (mR (fun e=>(dH e t).v) x)++x.drop (mR (fun e=>(dH e t).v) x+1)=fJ dH x t by(simp [fJ, *]))] at m
  refine⟨_,rfl,v5,?_,m.sub (a0 .n)⟩
  rfl
 refine bT hs m lA fun a w_ hs m=>?_
 refine bH hs (vs:=[vx.v]) rfl ⟨rfl,trivial⟩ ?_
 rw[(show x=fJ dH x t by(simp [fJ, *]))] at m
 refine⟨_,rfl,vx,?_,m.sub (a1 .n)⟩
 rfl
theorem aH2 (vx:SH) (x:List TLease) (t:TLease) (w0:World) (R:Hh) (m:Hp w0 R [Sv 12 48 vx.v (x.map aV)] w0):Calls Tryz.prog 138 ⟨[vx.v,.agg ⟨aV t⟩,.func (.func 133) ⟨[]⟩ ⟨[]⟩]⟩ w0 fun e w'=>∃ v,e= .returned v/\(∃ x0:SH,v=(x0.v)/\Hp w0 R [Sv 12 48 x0.v ((fJ dL x t).map aV)] w'):=by
 have lvx:=(m.rdv r0).bd
 refine enter (n:=23) Tryz.func138 rfl rfl rfl fun a (hs:St 23 [(0,vx.v),(1,.agg ⟨aV t⟩),(2,.func (.func 133) ⟨[]⟩ ⟨[]⟩)] a)=>?_
 refine bN ?_
 refine dU (cs:=aV t) hs m rfl rfl rfl fun p1 w2 m a hs=>?_
 refine bP hs m (x_ gI (e_ (p_ (cN (aV t))) eO)) fun a w_ hs m=>?_
 refine cC hs m rfl rfl aT8 rfl (aFM vx x t _ (m.rdv r1) ) rfl fun w3 m a hs=>?_
 refine bP hs m nP fun a w_ hs m=>?_
 refine aR hs rfl (fun h4=>?_) (fun h4=>?_)
 ·refine bT hs m (x_ gC (e_ (p_ (fA (r:=((mR (fun e=>(dL e t).v) x+1:Nat):Int)) rfl rfl (by have hq:=tQ (fun e=>(dL e t).v) x;rw[cJ (by omega) (by omega)];omega))) bR)) fun a w_ hs m=>?_
  refine jM 1 (m.sub (a1 (a0 .n))) hs aZ6 (fun R1 hR ⟨y1,sy,ly⟩ mc=>aKJ vx x (mR (fun e=>(dL e t).v) x) (mR (fun e=>(dL e t).v) x+1) _ R1  (by omega) (by(have:=mA (by assumption);omega)) mc) fun v5 w6 m a hs=>?_
  simp only[iG] at m
  refine bP hs m gI fun a w_ hs m=>?_
  refine bH hs (vs:=[v5.v]) rfl ⟨rfl,trivial⟩ ?_
  rw[(show x.take (mR (fun e=>(dL e t).v) x)++x.drop (mR (fun e=>(dL e t).v) x+1)=fJ dL x t by(simp [fJ, *]))] at m
  refine⟨_,rfl,v5,?_,m.sub (a0 .n)⟩
  rfl
 refine bT hs m lA fun a w_ hs m=>?_
 refine bH hs (vs:=[vx.v]) rfl ⟨rfl,trivial⟩ ?_
 rw[(show x=fJ dL x t by(simp [fJ, *]))] at m
 refine⟨_,rfl,vx,?_,m.sub (a1 .n)⟩
 rfl
end Go.Proofs.YtnbpodjbemfpbaaGreat.Fw
