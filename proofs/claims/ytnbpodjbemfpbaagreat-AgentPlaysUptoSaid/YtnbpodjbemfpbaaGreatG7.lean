/-
  Own work: walks and laws, joined by wip/tool/compact.py.
-/
import Derived.Test.YtnbpodjbemfpbaaGreatG6
import Derived.KernelRfl
set_option linter.all false
set_option linter.all false
set_option maxRecDepth 100000
namespace Go.Proofs.YtnbpodjbemfpbaaGreat.Fw
open Go
def kD (l:List TEvent) (k:Nat):List TEvent:=l++(List.range k).map fun i=>⟨⟨0,rfl⟩,Fx.of .i64 (201+(i:Int)),eG⟩
section
variable {l:List TEvent} {k:Nat}
theorem aS9:l=kD l 0:=by simp [kD]
theorem aLA {h:IntKind.i64.wrap (201+(k:Int))=201+(k:Int)} (hk:k<70):kD l k++[⟨⟨0,rfl⟩,⟨201+(k:Int),h⟩,eG⟩]=kD l (k+1):=by
  simp only[kD,List.range_succ,List.map_append,List.map_cons,List.map_nil,List.append_assoc]
  congr 3
  simp only[List.cons.injEq,TEvent.mk.injEq,and_true,true_and]
  exact Fx.ext h.symm
theorem aF7:(kD l k).length=l.length+k:=by simp [kD]
theorem aNX (hk:k=70):kD l k=kD l 70:=by rw[hk]
end
/-! one step -/
def gP (a:gU) (o:yN):gU:=if o.Kind.v=1 then rA a o.Now.v else if o.Kind.v=2 then mG a (nJ o) else a
def uV (p:PcM) (o:yN):PcM:=if o.Kind.v=2 then ⟨lN o.Leases,kD o.Events 70,dW lG o.Routes 70,dW lF o.Neighs 70,dW lE o.Fdbs 70⟩ else p
section
variable {g:hF} {a:gU} {o:yN} {p:PcM}
theorem pl1 (hI:g=iV a) (hV:Inv a) (hk:o.Kind.v=1):jB g o.Now.v=iV (gP a o)/\rA a o.Now.v=gP a o/\p=uV p o:=by
  subst hI
  have h:=aEH hV o.Now.v
  unfold gP uV
  rw[if_pos hk,if_neg (by omega)]
  exact⟨h.2.1,rfl,rfl⟩
theorem pl2 (hI:g=iV a) (hV:Inv a) (hk:o.Kind.v=2):jT g (nJ o)=iV (gP a o)/\mG a (nJ o)=gP a o/\(⟨lN o.Leases,kD o.Events 70,dW lG o.Routes 70,dW lF o.Neighs 70,dW lE o.Fdbs 70⟩:PcM)=uV p o:=by
  subst hI
  have h:=aDY hV (nJ o)
  unfold gP uV
  rw[if_neg (by omega),if_pos hk,if_pos hk]
  exact⟨h.2.1,rfl,rfl⟩
theorem pl3 (hI:g=iV a) (h1:o.Kind.v≠1) (h2:o.Kind.v≠2):g=iV (gP a o)/\a=gP a o/\p=uV p o:=by
  unfold gP uV
  rw[if_neg h1,if_neg h2,if_neg h2]
  exact⟨hI,rfl,rfl⟩
theorem a4I {n:Int} (hI:g=iV a) (hV:Inv a):decide (iM g n=oK a n)=true:=by
  subst hI;exact decide_eq_true (aEH hV n).1
end
/-! sizes -/
theorem kb {s k j:Nat} (h:s<=k*1048576) (hj:k<=j):s<=j*1048576:=Nat.le_trans h (Nat.mul_le_mul_right _ hj)
structure Okk (a:gU) (N k:Nat):Prop where
  inv:Inv a
  v:a.view.length<=N
  r:a.Routes.length<=N
  n:a.Neighs.length<=N
  f:a.Fdbs.length<=N
  s:a.skipped.length<=k*1048576
theorem sC (s:kA) (N k:Nat):Okk (jV s) N k:=⟨aA7 s,by simp [jV],by simp [jV],by simp [jV],by simp [jV],by simp [jV]⟩
theorem aGX {a:gU} {r:pT}:(mG a r).skipped.length<=a.skipped.length+a.view.length:=by
  have hc:∀ o,(qF a o).skipped=a.skipped:=by
    intro o;unfold qF
    repeat' split
    all_goals rfl
  have hk:=aEQ (a:=a) (k:=a.view.length)
  have ht:(iT a r).skipped.length<=a.skipped.length+a.view.length:=by
    unfold iT
    split
    · split
      · unfold rU;split <;> (first|omega|(simp only;omega))
      · omega
    split
    · split
      · unfold sK
        split
        · simp only[List.length_nil];omega
        · omega
      · omega
    split
    · unfold rK
      split
      · rw[hc];omega
      split
      · exact hk
      · omega
    split
    · unfold vG
      repeat' split
      all_goals (first|omega|(simp only;omega))
    split
    · split
      · unfold wA
        split
        · have:=(aMK (a:=a) (l:=r.Events) (k:=r.Events.length)).2
          simp only;omega
        · omega
      · split <;> (first|omega|(simp only;omega))
    · omega
  unfold mG
  split
  · split
    · exact ht
    · exact ht
  · omega
theorem aQE {a:gU} {o:yN} {N k M:Nat} (h:Okk a N k) (hN:N+aEK o<=M) (hM:M<=1048576):Okk (gP a o) M (k+1):=by
  obtain⟨hi,hv,hr,hn,hf,hs⟩:=h
  unfold aEK at hN
  unfold gP
  by_cases h1:o.Kind.v=1
  · rw[if_pos h1]
    refine⟨(aEH hi _).2.2,?_,?_,?_,?_,?_⟩ <;> (unfold rA;split <;> (first|exact kb hs (by omega)|omega|(simp only;omega)))
  rw[if_neg h1]
  by_cases h2:o.Kind.v=2
  · rw[if_pos h2]
    have hd:=aDY hi (nJ o)
    have hg:=aKP (g:=iV a) (r:=nJ o)
    rw[hd.2.1] at hg
    obtain⟨g1,g2,g3,g4,_⟩:=hg
    have g5:=aGX (a:=a) (r:=nJ o)
    have e1:(iV (mG a (nJ o))).view=(mG a (nJ o)).view:=rfl
    have e2:(iV (mG a (nJ o))).Routes=(mG a (nJ o)).Routes:=rfl
    have e3:(iV (mG a (nJ o))).Neighs=(mG a (nJ o)).Neighs:=rfl
    have e4:(iV (mG a (nJ o))).Fdbs=(mG a (nJ o)).Fdbs:=rfl
    rw[e1] at g1;rw[e2] at g2;rw[e3] at g3;rw[e4] at g4
    simp only[nJ] at g1 g2 g3 g4
    refine⟨hd.2.2,?_,?_,?_,?_,?_⟩
    · have:(iV a).view.length=a.view.length:=rfl
      simp only[nJ];omega
    · have:(iV a).Routes.length=a.Routes.length:=rfl
      simp only[nJ];omega
    · have:(iV a).Neighs.length=a.Neighs.length:=rfl
      simp only[nJ];omega
    · have:(iV a).Fdbs.length=a.Fdbs.length:=rfl
      simp only[nJ];omega
    · omega
  · rw[if_neg h2]
    exact⟨hi,by omega,by omega,by omega,by omega,kb hs (by omega)⟩
theorem aQD {a:gU} {N k M j:Nat} (h:Okk a N k) (h1:N<=M) (h2:k<=j):Okk a M j:=⟨h.inv,by have:=h.v;omega,by have:=h.r;omega,by have:=h.n;omega,by have:=h.f;omega,kb h.s h2⟩
section
variable {a:gU} {l:List yN} {k:Nat} {o:yN}
theorem iE (h:Okk a (kQ (l.take k)) k) (he:l[k]?=some o) (hz:kQ l<=1048576):Okk (gP a o) (kQ (l.take (k+1))) (k+1) :=
  aQE h (by rw[zY he];omega) (Nat.le_trans (aEL l (k+1)) hz)
theorem iS (h:Okk a (kQ (l.take k)) k):Okk a (kQ (l.take (k+1))) (k+1):=by
  refine aQD h ?_ (by omega)
  cases he:l[k]? with
  | none=>rw[List.take_add_one,he];simp
  | some o=>rw[zY he];omega
theorem wX (h:Okk a (kQ (l.take k)) k) (hz:kQ l<=1048576) (hk:k<=l.length):a.view.length<=8388608/\a.Routes.length<=8388608/\a.Neighs.length<=8388608/\a.Fdbs.length<=8388608/\a.skipped.length<=1099511627776:=by
  have h1:=aEL l k
  have h2:=aFX l
  obtain⟨_,y1,y2,y3,y4,y5⟩:=h
  have:k*1048576<=1048576*1048576:=Nat.mul_le_mul_right _ (by omega)
  exact⟨by omega,by omega,by omega,by omega,by omega⟩
theorem lD {n:Nat} (h:n<=140737488355328):IntKind.i64.wrap (Int.tdiv (n:Int) 2)=((n / 2:Nat):Int):=by
  have:Int.tdiv (n:Int) 2=((n / 2:Nat):Int):=rfl
  rw[this]
  exact cJ (by omega) (by omega)
end
end Go.Proofs.YtnbpodjbemfpbaaGreat.Fw
set_option linter.all false
set_option maxHeartbeats 4000000
set_option maxRecDepth 100000
namespace Go.Proofs.YtnbpodjbemfpbaaGreat.Fw
open Go
theorem aXF (n:Int) (w0:World) (h0:0<=n) (h1:n<=32):iL Tryz.prog 144 [.int .i64 n] (.int .u32 (zI n)) w0:=by
 refine enter (n:=8) Tryz.func144 rfl rfl rfl fun a (hs:St 8 [(0,.int .i64 n)] a)=>?_
 have m:=Hp.start w0
 refine bT hs m fW fun a w_ hs m=>?_
 refine aR hs rfl (fun h1=>?_) (fun h1=>?_)
 ·have h1p:=eq_of_beq h1
  refine bT hs m gX fun a w_ hs m=>?_
  refine bH hs (vs:=[.int .u32 0]) rfl ⟨rfl,trivial⟩ ?_
  exact⟨by rw[(show (0:Int)=zI n by(simp [zI, *]))];rfl,m.sub .n⟩
 have h1p:=ne_of_beq_false h1
 refine bT hs m (x_ gI (e_ (p_ (aXM rfl rfl (by omega) rfl)) gC)) fun a w_ hs m=>?_
 refine bH hs (vs:=[.int .u32 (IntKind.u32.wrap (4294967295*2 ^ (min (32-n).toNat 32)))]) rfl ⟨rfl,trivial⟩ ?_
 exact⟨by rw[(show (IntKind.u32.wrap (4294967295*2 ^ (min (32-n).toNat 32)):Int)=zI n by(simp [zI, *]))];rfl,m.sub .n⟩
theorem aSA (p:aT) (w0:World):iL Tryz.prog 96 [.agg ⟨aO p⟩] (.int .i64 (tT p)) w0:=by
 have hl:=p.Len.i64
 refine enter (n:=20) Tryz.func96 rfl rfl rfl fun a (hs:St 20 [(0,.agg ⟨aO p⟩)] a)=>?_
 have m:=Hp.start w0
 refine bN ?_
 refine dU (cs:=aO p) hs m rfl rfl rfl fun p1 w2 m a hs=>?_
 refine bP hs m fW fun a w_ hs m=>?_
 refine jO (.c (.c (.c (.c (.n))))) hs m 11 (decide (p.Len.v<0)) (.bool ((decide (p.Len.v<0)) || (decide (p.Len.v>32)))) ?_
 rintro a w4 ⟨hs,m⟩
 refine bP hs m eZ fun a w_ hs m=>?_
 refine aR hs rfl (fun h5=>?_) (fun h5=>?_)
 ·have h5p:=h5;simp only[fK] at h5p
  refine bT hs m gZ fun a w_ hs m=>?_
  refine bH hs (vs:=[.int .i64 11]) rfl ⟨rfl,trivial⟩ ?_
  exact⟨by rw[(show (11:Int)=tT p by(simp [tT, *] <;> omega))];rfl,m.sub .n⟩
 have h5p:=h5;simp only[fK] at h5p
 refine eE m mo (by kernel_rfl) ?_
 refine vJ hs (k:=fun a hs=>?_)
 refine mL hs rfl rfl aZQ rfl (fun w m=>aXF p.Len.v w  (by omega) (by omega)) rfl fun a hs=>?_
 refine nG hs (k:=fun a hs=>?_)
 refine wpQuiet_nil fun w7 m=>?_
 refine aR hs rfl (fun h8=>?_) (fun h8=>?_)
 ·have h8p:=fT h8
  refine bT hs m gZ fun a w_ hs m=>?_
  refine bH hs (vs:=[.int .i64 12]) rfl ⟨rfl,trivial⟩ ?_
  exact⟨by rw[(show (12:Int)=tT p by(simp [tT, *] <;> omega))];rfl,m.sub .n⟩
 have h8p:=dJ h8
 refine bT hs m lA fun a w_ hs m=>?_
 refine bH hs (vs:=[.int .i64 0]) rfl ⟨rfl,trivial⟩ ?_
 exact⟨by rw[(show (0:Int)=tT p by(simp [tT, *] <;> omega))];rfl,m.sub .n⟩
theorem aBR (p:aT) (w0:World):iL Tryz.prog 43 [.agg ⟨aO p⟩] (.bool (iR p)) w0:=by
 refine enter (n:=6) Tryz.func43 rfl rfl rfl fun a (hs:St 6 [(0,.agg ⟨aO p⟩)] a)=>?_
 have m:=Hp.start w0
 refine bN ?_
 refine dU (cs:=aO p) hs m rfl rfl rfl fun p1 w2 m a hs=>?_
 refine bP hs m (x_ gC (e_ (p_ (cN (aO p))) bR)) fun a w_ hs m=>?_
 refine cC hs m rfl rfl a3Y rfl (aSA p _  ) rfl fun w3 m a hs=>?_
 refine bP hs m gI fun a w_ hs m=>?_
 refine bH hs (vs:=[.bool ((tT p)==0)]) rfl ⟨rfl,trivial⟩ ?_
 exact⟨by rw[(show ((tT p)==0:Bool)=iR p by(simp [iR]))];rfl,m.sub .n⟩
theorem aIS (x:Int) (w0:World):iL Tryz.prog 151 [.int .u32 x] (.bool false) w0:=by
 refine enter (n:=6) Tryz.func151 rfl rfl rfl fun a (hs:St 6 [(0,.int .u32 x)] a)=>?_
 have m:=Hp.start w0
 refine bT hs m nP fun a w_ hs m=>?_
 refine bH hs (vs:=[.bool (x !=x)]) rfl ⟨rfl,trivial⟩ ?_
 exact⟨by rw[(show (x !=x:Bool)=false by(simp))];rfl,m.sub .n⟩
theorem aIT (x:Int) (w0:World):iL Tryz.prog 174 [.int .i64 x] (.bool false) w0:=by
 refine enter (n:=6) Tryz.func174 rfl rfl rfl fun a (hs:St 6 [(0,.int .i64 x)] a)=>?_
 have m:=Hp.start w0
 refine bT hs m nP fun a w_ hs m=>?_
 refine bH hs (vs:=[.bool (x !=x)]) rfl ⟨rfl,trivial⟩ ?_
 exact⟨by rw[(show (x !=x:Bool)=false by(simp))];rfl,m.sub .n⟩
theorem aDU (x:Int) (y:Int) (w0:World):iL Tryz.prog 102 [.int .u32 x,.int .u32 y] (.int .i64 ((rP x y).v)) w0:=by
 refine enter (n:=20) Tryz.func102 rfl rfl rfl fun a (hs:St 20 [(0,.int .u32 x),(1,.int .u32 y)] a)=>?_
 have m:=Hp.start w0
 refine bT hs m gX fun a w_ hs m=>?_
 refine cC hs m rfl rfl aT5 rfl (aIS x _  ) rfl fun w1 m a hs=>?_
 refine bP hs m gI fun a w_ hs m=>?_
 refine cC hs m rfl rfl aT5 rfl (aIS y _  ) rfl fun w2 m a hs=>?_
 refine bP hs m aU0 fun a w_ hs m=>?_
 refine aR hs rfl (fun h5=>?_) (fun h5=>?_)
 ·have h5p:=of_decide_eq_true h5
  refine bT hs m gX fun a w_ hs m=>?_
  refine bH hs (vs:=[.int .i64 (-1)]) rfl ⟨rfl,trivial⟩ ?_
  exact⟨by rw[(show ((-1):Int)=(rP x y).v by(simp [qR] <;> omega))];rfl,m.sub .n⟩
 have h5p:=of_decide_eq_false h5
 refine bT hs m hQ fun a w_ hs m=>?_
 refine aR hs rfl (fun h7=>?_) (fun h7=>?_)
 ·have h7p:=of_decide_eq_true h7
  refine bT hs m gX fun a w_ hs m=>?_
  refine bH hs (vs:=[.int .i64 1]) rfl ⟨rfl,trivial⟩ ?_
  exact⟨by rw[(show (1:Int)=(rP x y).v by(simp [qR] <;> omega))];rfl,m.sub .n⟩
 have h7p:=of_decide_eq_false h7
 refine bT hs m gZ fun a w_ hs m=>?_
 refine bH hs (vs:=[.int .i64 0]) rfl ⟨rfl,trivial⟩ ?_
 exact⟨by rw[(show (0:Int)=(rP x y).v by(simp [qR] <;> omega))];rfl,m.sub .n⟩
theorem aKI (x:Int) (y:Int) (w0:World):iL Tryz.prog 148 [.int .i64 x,.int .i64 y] (.int .i64 ((rP x y).v)) w0:=by
 refine enter (n:=20) Tryz.func148 rfl rfl rfl fun a (hs:St 20 [(0,.int .i64 x),(1,.int .i64 y)] a)=>?_
 have m:=Hp.start w0
 refine bT hs m gX fun a w_ hs m=>?_
 refine cC hs m rfl rfl aT9 rfl (aIT x _  ) rfl fun w1 m a hs=>?_
 refine bP hs m gI fun a w_ hs m=>?_
 refine cC hs m rfl rfl aT9 rfl (aIT y _  ) rfl fun w2 m a hs=>?_
 refine bP hs m aU0 fun a w_ hs m=>?_
 refine aR hs rfl (fun h5=>?_) (fun h5=>?_)
 ·have h5p:=of_decide_eq_true h5
  refine bT hs m gX fun a w_ hs m=>?_
  refine bH hs (vs:=[.int .i64 (-1)]) rfl ⟨rfl,trivial⟩ ?_
  exact⟨by rw[(show ((-1):Int)=(rP x y).v by(simp [qR] <;> omega))];rfl,m.sub .n⟩
 have h5p:=of_decide_eq_false h5
 refine bT hs m hQ fun a w_ hs m=>?_
 refine aR hs rfl (fun h7=>?_) (fun h7=>?_)
 ·have h7p:=of_decide_eq_true h7
  refine bT hs m gX fun a w_ hs m=>?_
  refine bH hs (vs:=[.int .i64 1]) rfl ⟨rfl,trivial⟩ ?_
  exact⟨by rw[(show (1:Int)=(rP x y).v by(simp [qR] <;> omega))];rfl,m.sub .n⟩
 have h7p:=of_decide_eq_false h7
 refine bT hs m gZ fun a w_ hs m=>?_
 refine bH hs (vs:=[.int .i64 0]) rfl ⟨rfl,trivial⟩ ?_
 exact⟨by rw[(show (0:Int)=(rP x y).v by(simp [qR] <;> omega))];rfl,m.sub .n⟩
end Go.Proofs.YtnbpodjbemfpbaaGreat.Fw
set_option linter.all false
set_option maxHeartbeats 4000000
set_option maxRecDepth 100000
namespace Go.Proofs.YtnbpodjbemfpbaaGreat.Fw
open Go
theorem a4E (vx:SH) (x:List (Fx .i64)) (w0:World) (hx:RdS (hh w0) 1 vx.v (x.map cI)):iL Tryz.prog 147 [vx.v] (.int .i64 ((orM x).v)) w0:=by
 have lvx:=hx.bd
 refine enter (n:=18) Tryz.func147 rfl rfl rfl fun a (hs:St 18 [(0,vx.v)] a)=>?_
 have m:=Hp.start w0
 refine bT hs m (x_ mT (e_ (p_ (bQ m rfl aQ3 (dX hx))) gC)) fun a w_ hs m=>?_
 refine wp_loop_ghost (fun gn a w=>∃ k:Nat,(k<=x.length)/\(orM x=orM (x.drop k))/\gn=x.length-k/\St 18 [(3,.int .i64 0),(6,vx.v),(7,.int .i64 (x.length:Int)),(8,.int .i64 (k:Int))] a/\Hp w0 (hh w0) [] w) (x.length-0) ⟨0,by omega,by rfl,rfl,hs.to ⟨rfl,rfl,rfl,rfl,trivial⟩,m.sub .n⟩ ?_
 rintro gn a w1 ⟨k,hk,ho,rfl,hs,m⟩
 refine bT hs m gI fun a w_ hs m=>?_
 refine aR hs rfl (fun h2=>?_) (fun h2=>?_)
 rotate_left
 ·have h2p:=of_decide_eq_false h2
  refine bT hs m mT fun a w_ hs m=>?_
  refine bH hs (vs:=[.int .i64 0]) rfl ⟨rfl,trivial⟩ ?_
  exact⟨by rw[(show (0:Int)=(orM x).v by(rw[ho];rw[aSV (by omega)]))];rfl,m.sub .n⟩
 have h2p:=of_decide_eq_true h2
 refine wp_skip ?_
 refine aB ?_
 refine dG ?_
 refine wp_block ?_
 refine bN ?_
 obtain⟨e4,he5⟩:=bI (l:=x) (i:=k) (by omega)
 refine kE (c:=cI) (e:=e4) hs m (x:=(.tmp 6)) (ix:=(.tmp 8)) rfl rfl aQ3 ty3 hx (by omega) he5 fun p6 hp7 ok8=>?_
 refine bP hs m (e_ (p_ (ok8 _ _ _ _ _)) fW) fun a w_ hs m=>?_
 refine aR hs rfl (fun h9=>?_) (fun h9=>?_)
 ·have h9p:=fT h9
  refine bT hs m mT fun a w_ hs m=>?_
  refine bH hs (vs:=[.int .i64 e4.v]) rfl ⟨rfl,trivial⟩ ?_
  exact⟨by rw[(show (e4.v:Int)=(orM x).v by(rw[ho];rw[aSW (by assumption) (by assumption)]))];rfl,m.sub .n⟩
 have h9p:=dJ h9
 refine bT hs m lA fun a w_ hs m=>?_
 exact⟨x.length-(k+1),by omega,k+1,by omega,by rw[ho];exact aQH (by assumption) (by assumption),rfl,hs.to ⟨rfl,rfl,rfl,rfl,trivial⟩,m.sub .n⟩
theorem yU (x:aT) (y:aT) (w0:World):iL Tryz.prog 99 [.agg ⟨aO x⟩,.agg ⟨aO y⟩] (.int .i64 ((dH x y).v)) w0:=by
 refine enter (n:=17) Tryz.func99 rfl rfl rfl fun a (hs:St 17 [(0,.agg ⟨aO x⟩),(1,.agg ⟨aO y⟩)] a)=>?_
 have m:=Hp.start w0
 refine bN ?_
 refine dU (cs:=aO x) hs m rfl rfl rfl fun p1 w2 m a hs=>?_
 refine dU (cs:=aO y) hs m rfl rfl rfl fun p3 w4 m a hs=>?_
 refine bP hs m eZ fun a w_ hs m=>?_
 refine vK m (a0 (a0 .n)) fun w5 m=>?_
 refine pA hs (m.sub (a0 (a0 .n))) 0 1 2 3 5 6 (k:=fun a hs=>?_)
 refine tI hs (m.sub (a0 (a0 .n))) 7 8 (k:=fun a hs=>?_)
 refine bU (i:=4) (by kernel_rfl) rfl ?_
 refine cC hs m rfl rfl aTZ rfl (aDU x.Addr.v y.Addr.v _  ) rfl fun w6 m a hs=>?_
 refine wpList_nil (aB ⟨(m.sub (a0 (a0 .n))),?_⟩)
 refine bU (i:=9) (by kernel_rfl) rfl ?_
 refine cC hs m rfl rfl aZS rfl (aKI x.Len.v y.Len.v _  ) rfl fun w7 m a hs=>?_
 refine wpList_nil (aB ⟨(m.sub (a0 (a0 .n))),?_⟩)
 refine bU (i:=10) (by kernel_rfl) rfl ?_
 refine dK (c:=cI) (ys:=[(rP x.Addr.v y.Addr.v),(rP x.Len.v y.Len.v)]) hs m aQ3 ty3 ze3 rfl rfl rfl rfl rfl (fun _=>rfl) rfl rfl rfl fun v8 w9 m a hs=>?_
 refine wpList_nil (aB ⟨(m.sub (a1 (a1 .n))),?_⟩)
 refine bU (i:=11) (by kernel_rfl) rfl ?_
 refine cC hs m rfl rfl aZR rfl (a4E v8 [(rP x.Addr.v y.Addr.v),(rP x.Len.v y.Len.v)] _ (m.rdv r0) ) rfl fun w10 m a hs=>?_
 refine wpList_nil (aB ⟨(m.sub (a1 (a1 .n))),?_⟩)
 refine kY hs (m.sub (a1 (a1 .n))) 12 (k:=fun a hs=>?_)
 refine dC (by kernel_rfl) (aB ?_)
 refine wp_ret ?_
 refine bH hs (vs:=[.int .i64 ((orM [(rP x.Addr.v y.Addr.v),(rP x.Len.v y.Len.v)]).v)]) rfl ⟨rfl,trivial⟩ ?_
 exact⟨by rw[(show ((orM [(rP x.Addr.v y.Addr.v),(rP x.Len.v y.Len.v)]).v:Int)=(dH x y).v by(rfl))];rfl,m.sub .n⟩
theorem aDW (x:bD) (y:bD) (w0:World):iL Tryz.prog 45 [.agg ⟨aM x⟩,.agg ⟨aM y⟩] (.int .i64 ((bS x y).v)) w0:=by
 refine enter (n:=10) Tryz.func45 rfl rfl rfl fun a (hs:St 10 [(0,.agg ⟨aM x⟩),(1,.agg ⟨aM y⟩)] a)=>?_
 have m:=Hp.start w0
 refine bN ?_
 refine dU (cs:=aM x) hs m rfl rfl rfl fun p1 w2 m a hs=>?_
 refine dU (cs:=aM y) hs m rfl rfl rfl fun p3 w4 m a hs=>?_
 refine bP hs m (x_ gI (e_ (p_ (cN (aO x.Dst))) (x_ eO (e_ (p_ (cN (aO y.Dst))) bR)))) fun a w_ hs m=>?_
 refine cC hs m rfl rfl aR2 rfl (yU x.Dst y.Dst _  ) rfl fun w5 m a hs=>?_
 refine bP hs m gC fun a w_ hs m=>?_
 refine bH hs (vs:=[.int .i64 ((dH x.Dst y.Dst).v)]) rfl ⟨rfl,trivial⟩ ?_
 exact⟨by rw[(show ((dH x.Dst y.Dst).v:Int)=(bS x y).v by(rfl))];rfl,m.sub .n⟩
theorem aDT (x:bA) (y:bA) (w0:World):iL Tryz.prog 47 [.agg ⟨aS x⟩,.agg ⟨aS y⟩] (.int .i64 ((bB x y).v)) w0:=by
 refine enter (n:=10) Tryz.func47 rfl rfl rfl fun a (hs:St 10 [(0,.agg ⟨aS x⟩),(1,.agg ⟨aS y⟩)] a)=>?_
 have m:=Hp.start w0
 refine bN ?_
 refine dU (cs:=aS x) hs m rfl rfl rfl fun p1 w2 m a hs=>?_
 refine dU (cs:=aS y) hs m rfl rfl rfl fun p3 w4 m a hs=>?_
 refine bP hs m lA fun a w_ hs m=>?_
 refine cC hs m rfl rfl aTZ rfl (aDU x.IP.v y.IP.v _  ) rfl fun w5 m a hs=>?_
 refine bP hs m gC fun a w_ hs m=>?_
 refine bH hs (vs:=[.int .i64 ((rP x.IP.v y.IP.v).v)]) rfl ⟨rfl,trivial⟩ ?_
 exact⟨by rw[(show ((rP x.IP.v y.IP.v).v:Int)=(bB x y).v by(rfl))];rfl,m.sub .n⟩
theorem aDQ (x:TLease) (y:TLease) (w0:World):iL Tryz.prog 133 [.agg ⟨aV x⟩,.agg ⟨aV y⟩] (.int .i64 ((dL x y).v)) w0:=by
 refine enter (n:=10) Tryz.func133 rfl rfl rfl fun a (hs:St 10 [(0,.agg ⟨aV x⟩),(1,.agg ⟨aV y⟩)] a)=>?_
 have m:=Hp.start w0
 refine bN ?_
 refine dU (cs:=aV x) hs m rfl rfl rfl fun p1 w2 m a hs=>?_
 refine dU (cs:=aV y) hs m rfl rfl rfl fun p3 w4 m a hs=>?_
 refine bP hs m (x_ gI (e_ (p_ (cN (aO x.Subnet))) (x_ eO (e_ (p_ (cN (aO y.Subnet))) bR)))) fun a w_ hs m=>?_
 refine cC hs m rfl rfl aR2 rfl (yU x.Subnet y.Subnet _  ) rfl fun w5 m a hs=>?_
 refine bP hs m gC fun a w_ hs m=>?_
 refine bH hs (vs:=[.int .i64 ((dH x.Subnet y.Subnet).v)]) rfl ⟨rfl,trivial⟩ ?_
 exact⟨by rw[(show ((dH x.Subnet y.Subnet).v:Int)=(dL x y).v by(rfl))];rfl,m.sub .n⟩
end Go.Proofs.YtnbpodjbemfpbaaGreat.Fw
set_option linter.all false
set_option maxHeartbeats 4000000
set_option maxRecDepth 100000
namespace Go.Proofs.YtnbpodjbemfpbaaGreat.Fw
open Go
theorem a0S:entry Tryz.prog 154 Extern.BytealgCompare.compare:=⟨_,Tryz.func154,by kernel_rfl,by kernel_rfl,by kernel_rfl,by kernel_rfl⟩
theorem aKB (vx:SH) (x:List (Fx .u8)) (vy:SH) (y:List (Fx .u8)) (w0:World) (hx:RdS (hh w0) 1 vx.v (x.map cI)) (hy:RdS (hh w0) 1 vy.v (y.map cI)):iL Tryz.prog 105 [vx.v,vy.v] (.int .i64 ((aAV x y).v)) w0:=by
 have lvx:=hx.bd
 have lvy:=hy.bd
 refine enter (n:=8) Tryz.func105 rfl rfl rfl fun a (hs:St 8 [(0,vx.v),(1,vy.v)] a)=>?_
 have m:=Hp.start w0
 refine bT hs m (x_ gZ (e_ (p_ (vW a0S rfl (fun w m=>aJH (m.rd hx) (m.rd hy)))) gC)) fun a w_ hs m=>?_
 refine bH hs (vs:=[.int .i64 ((aAV x y).v)]) rfl ⟨rfl,trivial⟩ ?_
 refine⟨?_,m.sub .n⟩
 rfl
theorem aKF (x:cH) (y:cH) (w0:World):iL Tryz.prog 49 [.agg ⟨cB x⟩,.agg ⟨cB y⟩] (.int .i64 ((bY x y).v)) w0:=by
 refine enter (n:=10) Tryz.func49 rfl rfl rfl fun a (hs:St 10 [(0,.agg ⟨cB x⟩),(1,.agg ⟨cB y⟩)] a)=>?_
 have m:=Hp.start w0
 refine bN ?_
 refine dU (cs:=cB x) hs m rfl rfl rfl fun p1 w2 m a hs=>?_
 refine dU (cs:=cB y) hs m rfl rfl rfl fun p3 w4 m a hs=>?_
 refine bP hs m eZ fun a w_ hs m=>?_
 refine eE m mo (by kernel_rfl) ?_
 refine vJ hs (h2:=q_ (aCU rfl xL ty5)) (h4:=q_ (aCU rfl xL ty5)) (k:=fun a hs=>?_)
 refine mL hs rfl rfl aY3 rfl (fun w m=>aKB (⟨some (bK p1 0),6,6⟩:SH) [x.MAC.b0,x.MAC.b1,x.MAC.b2,x.MAC.b3,x.MAC.b4,x.MAC.b5] (⟨some (bK p3 0),6,6⟩:SH) [y.MAC.b0,y.MAC.b1,y.MAC.b2,y.MAC.b3,y.MAC.b4,y.MAC.b5] w (aML (c:=cI) (lO r1 _ m) rfl rfl rfl) (aML (c:=cI) (lO r0 _ m) rfl rfl rfl) ) rfl fun a hs=>?_
 refine uZ hs (k:=fun a hs=>?_)
 refine wpQuiet_nil fun w5 m=>?_
 refine wp_ret ?_
 refine bH hs (vs:=[.int .i64 ((aAV [x.MAC.b0,x.MAC.b1,x.MAC.b2,x.MAC.b3,x.MAC.b4,x.MAC.b5] [y.MAC.b0,y.MAC.b1,y.MAC.b2,y.MAC.b3,y.MAC.b4,y.MAC.b5]).v)]) rfl ⟨rfl,trivial⟩ ?_
 exact⟨by rw[(show ((aAV [x.MAC.b0,x.MAC.b1,x.MAC.b2,x.MAC.b3,x.MAC.b4,x.MAC.b5] [y.MAC.b0,y.MAC.b1,y.MAC.b2,y.MAC.b3,y.MAC.b4,y.MAC.b5]).v:Int)=(bY x y).v by(rfl))];rfl,m.sub .n⟩
end Go.Proofs.YtnbpodjbemfpbaaGreat.Fw
set_option linter.all false
set_option maxHeartbeats 4000000
set_option maxRecDepth 100000
namespace Go.Proofs.YtnbpodjbemfpbaaGreat.Fw
open Go
theorem aB0 (vx:SH) (x:List bD) (t:bD) (w0:World) (hx:RdS (hh w0) 4 vx.v (x.map aM)):iL Tryz.prog 97 [vx.v,.agg ⟨aM t⟩,.func (.func 45) ⟨[]⟩ ⟨[]⟩] (.tuple ⟨[.int .i64 (mR (fun e=>(bS e t).v) x:Int),.bool (fL bS x t)]⟩) w0:=by
 have lvx:=hx.bd
 refine enter (n:=49) Tryz.func97 rfl rfl rfl fun a (hs:St 49 [(0,vx.v),(1,.agg ⟨aM t⟩),(2,.func (.func 45) ⟨[]⟩ ⟨[]⟩)] a)=>?_
 have m:=Hp.start w0
 refine bN ?_
 refine dU (cs:=aM t) hs m rfl rfl rfl fun p1 w2 m a hs=>?_
 refine bP hs m (x_ gX (e_ (p_ (bQ m rfl eY (dX hx))) mT)) fun a w_ hs m=>?_
 refine wp_loop_ghost (fun gn a w=>∃ i:Nat,∃ j:Nat,∃ fu:Nat,(i<=j)/\(j<=x.length)/\(j-i<=fu)/\(bsF (fun e=>(bS e t).v) x fu i j=mR (fun e=>(bS e t).v) x)/\gn=j-i/\St 49 [(0,vx.v),(2,.func (.func 45) ⟨[]⟩ ⟨[]⟩),(4,.pointer (some (bK p1 0))),(8,.int .i64 (x.length:Int)),(9,.int .i64 (i:Int)),(10,.int .i64 (j:Int))] a/\Hp w0 (hh w0) [Bx p1 51 (aM t)] w) (x.length-0) ⟨0,x.length,x.length,by omega,by omega,by omega,by rfl,rfl,hs.to ⟨rfl,rfl,rfl,rfl,rfl,rfl,trivial⟩,m.sub (a0 .n)⟩ ?_
 rintro gn a w3 ⟨i,j,fu,hi,hj,hfu,hb,rfl,hs,m⟩
 refine bT hs m gZ fun a w_ hs m=>?_
 refine aR hs rfl (fun h4=>?_) (fun h4=>?_)
 rotate_left
 ·have h4p:=of_decide_eq_false h4
  refine wp_exit ?_
  refine eK (eK (lL (?_)))
  refine aB ?_
  refine eE m mo (by kernel_rfl) ?_
  refine xD hs (k:=fun a hs=>?_)
  refine oU (.c (.c (.c (.c (.c (.c (.c (.c (.c (.n)))))))))) (fun a=>St 49 [(35,.int .i64 (i:Int)),(48,.bool ((decide ((i:Int)<(x.length:Int)))&&(((bS ((x[i]?).getD (⟨(⟨⟨0,rfl⟩,⟨0,rfl⟩⟩:aT),⟨0,rfl⟩,false⟩:bD)) t).v)==0)))] a) ?_ ?_
  ·rcases Bool.eq_false_or_eq_true (decide ((i:Int)<(x.length:Int))) with hb5|hb5
   ·have hb5p:=of_decide_eq_true hb5
    refine nG hs (k:=fun a hs=>?_)
    obtain⟨e6,he7⟩:=bI (l:=x) (i:=i) (by omega)
    refine kE (c:=aM) (e:=e6) hs m (x:=(.tmp 41)) (ix:=(.tmp 42)) rfl rfl eY gG hx (by omega) he7 fun p8 hp9 ok10=>?_
    refine nG hs (h1:=kW hb5 (ok10 _ _ _ _ _)) (h2:=kW hb5 (cN (aM e6))) (h3:=kW hb5 (cN (aM t))) (k:=fun a hs=>?_)
    refine jI hs rfl rfl hb5 rfl rfl aVE rfl (fun w m=>aDW e6 t w  ) rfl fun a hs=>?_
    refine sO hs (h2:=q_ (aP (r:=.bool ((decide ((i:Int)<(x.length:Int)))&&(((bS ((x[i]?).getD (⟨(⟨⟨0,rfl⟩,⟨0,rfl⟩⟩:aT),⟨0,rfl⟩,false⟩:bD)) t).v)==0))) rfl rfl rfl (by(try rw[he7]);rw[hb5];rfl))) (k:=fun a hs=>?_)
    exact wpQuiet_nil (hs.to ⟨rfl,rfl,trivial⟩)
   ·have hb5p:=of_decide_eq_false hb5
    refine kZ hs (k:=fun a hs=>?_)
    refine nG hs (h3:=q_ (aP (r:=.bool ((decide ((i:Int)<(x.length:Int)))&&(((bS ((x[i]?).getD (⟨(⟨⟨0,rfl⟩,⟨0,rfl⟩⟩:aT),⟨0,rfl⟩,false⟩:bD)) t).v)==0))) rfl rfl rfl (by rw[hb5];rfl))) (k:=fun a hs=>?_)
    exact wpQuiet_nil (hs.to ⟨rfl,rfl,trivial⟩)
  intro a hs
  refine sO hs (k:=fun a hs=>?_)
  refine wpQuiet_nil fun w11 m=>?_
  refine wp_ret ?_
  refine bH hs (vs:=[.int .i64 (i:Int),.bool ((decide ((i:Int)<(x.length:Int)))&&(((bS ((x[i]?).getD (⟨(⟨⟨0,rfl⟩,⟨0,rfl⟩⟩:aT),⟨0,rfl⟩,false⟩:bD)) t).v)==0))]) rfl ⟨rfl,rfl,trivial⟩ ?_
  refine⟨?_,m.sub .n⟩
  have q12:((i:Int):Int)=(mR (fun e=>(bS e t).v) x:Int):=by clear hs m;rw[<-hb,rX (by omega)]
  have q13:((decide ((i:Int)<(x.length:Int)))&&(((bS ((x[i]?).getD (⟨(⟨⟨0,rfl⟩,⟨0,rfl⟩⟩:aT),⟨0,rfl⟩,false⟩:bD)) t).v)==0):Bool)=fL bS x t:=by clear hs m;exact xM (by rw[<-hb,rX (by omega)])
  (rw[q13,q12];rfl)
 have h4p:=of_decide_eq_true h4
 refine bT hs m (x_ gZ (e_ (p_ (lH (r:=(i:Int)+(j:Int)) rfl zV zF (yL (by omega) (by omega)))) (e_ (p_ (aEJ (r:=(((i+j) / 2:Nat):Int)) rfl rfl (by decide) (aEG))) (e_ (p_ (lH (r:=(((i+j) / 2:Nat):Int)) rfl zF zV (cJ (by omega) (by omega)))) eZ)))) fun a w_ hs m=>?_
 refine eE m mo (by kernel_rfl) ?_
 refine nG hs (k:=fun a hs=>?_)
 obtain⟨e14,he15⟩:=bI (l:=x) (i:=((i+j) / 2)) (by omega)
 refine kE (c:=aM) (e:=e14) hs m (x:=(.tmp 25)) (ix:=(.tmp 26)) rfl rfl eY gG hx (by omega) he15 fun p16 hp17 ok18=>?_
 refine nG hs (h1:=q_ (ok18 _ _ _ _ _)) (h2:=q_ (cN (aM e14))) (h3:=q_ (cN (aM t))) (k:=fun a hs=>?_)
 refine mL hs rfl rfl aVE rfl (fun w m=>aDW e14 t w  ) rfl fun a hs=>?_
 refine uZ hs (k:=fun a hs=>?_)
 refine wpQuiet_nil fun w19 m=>?_
 refine aR hs rfl (fun h20=>?_) (fun h20=>?_)
 ·have h20p:=of_decide_eq_true h20
  refine bT hs m gZ fun a w_ hs m=>?_
  exact⟨j-((i+j) / 2+1),by omega,(i+j) / 2+1,j,fu-1,by omega,by omega,by omega,by(exact(aDL (by omega) (by omega) (by assumption) (by assumption)).trans hb),rfl,hs.to ⟨rfl,rfl,rfl,rfl,rfl,rfl,trivial⟩,m.sub (a0 .n)⟩
 have h20p:=of_decide_eq_false h20
 refine bT hs m gX fun a w_ hs m=>?_
 exact⟨((i+j) / 2)-i,by omega,i,(i+j) / 2,fu-1,by omega,by omega,by omega,by(exact(aDK (by omega) (by omega) (by assumption) (by assumption)).trans hb),rfl,hs.to ⟨rfl,rfl,rfl,rfl,rfl,rfl,trivial⟩,m.sub (a0 .n)⟩
theorem aBZ (vx:SH) (x:List bA) (t:bA) (w0:World) (hx:RdS (hh w0) 7 vx.v (x.map aS)):iL Tryz.prog 100 [vx.v,.agg ⟨aS t⟩,.func (.func 47) ⟨[]⟩ ⟨[]⟩] (.tuple ⟨[.int .i64 (mR (fun e=>(bB e t).v) x:Int),.bool (fL bB x t)]⟩) w0:=by
 have lvx:=hx.bd
 refine enter (n:=49) Tryz.func100 rfl rfl rfl fun a (hs:St 49 [(0,vx.v),(1,.agg ⟨aS t⟩),(2,.func (.func 47) ⟨[]⟩ ⟨[]⟩)] a)=>?_
 have m:=Hp.start w0
 refine bN ?_
 refine dU (cs:=aS t) hs m rfl rfl rfl fun p1 w2 m a hs=>?_
 refine bP hs m (x_ gX (e_ (p_ (bQ m rfl fP (dX hx))) mT)) fun a w_ hs m=>?_
 refine wp_loop_ghost (fun gn a w=>∃ i:Nat,∃ j:Nat,∃ fu:Nat,(i<=j)/\(j<=x.length)/\(j-i<=fu)/\(bsF (fun e=>(bB e t).v) x fu i j=mR (fun e=>(bB e t).v) x)/\gn=j-i/\St 49 [(0,vx.v),(2,.func (.func 47) ⟨[]⟩ ⟨[]⟩),(4,.pointer (some (bK p1 0))),(8,.int .i64 (x.length:Int)),(9,.int .i64 (i:Int)),(10,.int .i64 (j:Int))] a/\Hp w0 (hh w0) [Bx p1 54 (aS t)] w) (x.length-0) ⟨0,x.length,x.length,by omega,by omega,by omega,by rfl,rfl,hs.to ⟨rfl,rfl,rfl,rfl,rfl,rfl,trivial⟩,m.sub (a0 .n)⟩ ?_
 rintro gn a w3 ⟨i,j,fu,hi,hj,hfu,hb,rfl,hs,m⟩
 refine bT hs m gZ fun a w_ hs m=>?_
 refine aR hs rfl (fun h4=>?_) (fun h4=>?_)
 rotate_left
 ·have h4p:=of_decide_eq_false h4
  refine wp_exit ?_
  refine eK (eK (lL (?_)))
  refine aB ?_
  refine eE m mo (by kernel_rfl) ?_
  refine xD hs (k:=fun a hs=>?_)
  refine oU (.c (.c (.c (.c (.c (.c (.c (.c (.c (.n)))))))))) (fun a=>St 49 [(35,.int .i64 (i:Int)),(48,.bool ((decide ((i:Int)<(x.length:Int)))&&(((bB ((x[i]?).getD (⟨⟨0,rfl⟩,(⟨⟨0,rfl⟩,⟨0,rfl⟩,⟨0,rfl⟩,⟨0,rfl⟩,⟨0,rfl⟩,⟨0,rfl⟩⟩:cK)⟩:bA)) t).v)==0)))] a) ?_ ?_
  ·rcases Bool.eq_false_or_eq_true (decide ((i:Int)<(x.length:Int))) with hb5|hb5
   ·have hb5p:=of_decide_eq_true hb5
    refine nG hs (k:=fun a hs=>?_)
    obtain⟨e6,he7⟩:=bI (l:=x) (i:=i) (by omega)
    refine kE (c:=aS) (e:=e6) hs m (x:=(.tmp 41)) (ix:=(.tmp 42)) rfl rfl fP gQ hx (by omega) he7 fun p8 hp9 ok10=>?_
    refine nG hs (h1:=kW hb5 (ok10 _ _ _ _ _)) (h2:=kW hb5 (cN (aS e6))) (h3:=kW hb5 (cN (aS t))) (k:=fun a hs=>?_)
    refine jI hs rfl rfl hb5 rfl rfl aVF rfl (fun w m=>aDT e6 t w  ) rfl fun a hs=>?_
    refine sO hs (h2:=q_ (aP (r:=.bool ((decide ((i:Int)<(x.length:Int)))&&(((bB ((x[i]?).getD (⟨⟨0,rfl⟩,(⟨⟨0,rfl⟩,⟨0,rfl⟩,⟨0,rfl⟩,⟨0,rfl⟩,⟨0,rfl⟩,⟨0,rfl⟩⟩:cK)⟩:bA)) t).v)==0))) rfl rfl rfl (by(try rw[he7]);rw[hb5];rfl))) (k:=fun a hs=>?_)
    exact wpQuiet_nil (hs.to ⟨rfl,rfl,trivial⟩)
   ·have hb5p:=of_decide_eq_false hb5
    refine kZ hs (k:=fun a hs=>?_)
    refine nG hs (h3:=q_ (aP (r:=.bool ((decide ((i:Int)<(x.length:Int)))&&(((bB ((x[i]?).getD (⟨⟨0,rfl⟩,(⟨⟨0,rfl⟩,⟨0,rfl⟩,⟨0,rfl⟩,⟨0,rfl⟩,⟨0,rfl⟩,⟨0,rfl⟩⟩:cK)⟩:bA)) t).v)==0))) rfl rfl rfl (by rw[hb5];rfl))) (k:=fun a hs=>?_)
    exact wpQuiet_nil (hs.to ⟨rfl,rfl,trivial⟩)
  intro a hs
  refine sO hs (k:=fun a hs=>?_)
  refine wpQuiet_nil fun w11 m=>?_
  refine wp_ret ?_
  refine bH hs (vs:=[.int .i64 (i:Int),.bool ((decide ((i:Int)<(x.length:Int)))&&(((bB ((x[i]?).getD (⟨⟨0,rfl⟩,(⟨⟨0,rfl⟩,⟨0,rfl⟩,⟨0,rfl⟩,⟨0,rfl⟩,⟨0,rfl⟩,⟨0,rfl⟩⟩:cK)⟩:bA)) t).v)==0))]) rfl ⟨rfl,rfl,trivial⟩ ?_
  refine⟨?_,m.sub .n⟩
  have q12:((i:Int):Int)=(mR (fun e=>(bB e t).v) x:Int):=by clear hs m;rw[<-hb,rX (by omega)]
  have q13:((decide ((i:Int)<(x.length:Int)))&&(((bB ((x[i]?).getD (⟨⟨0,rfl⟩,(⟨⟨0,rfl⟩,⟨0,rfl⟩,⟨0,rfl⟩,⟨0,rfl⟩,⟨0,rfl⟩,⟨0,rfl⟩⟩:cK)⟩:bA)) t).v)==0):Bool)=fL bB x t:=by clear hs m;exact xM (by rw[<-hb,rX (by omega)])
  (rw[q13,q12];rfl)
 have h4p:=of_decide_eq_true h4
 refine bT hs m (x_ gZ (e_ (p_ (lH (r:=(i:Int)+(j:Int)) rfl zV zF (yL (by omega) (by omega)))) (e_ (p_ (aEJ (r:=(((i+j) / 2:Nat):Int)) rfl rfl (by decide) (aEG))) (e_ (p_ (lH (r:=(((i+j) / 2:Nat):Int)) rfl zF zV (cJ (by omega) (by omega)))) eZ)))) fun a w_ hs m=>?_
 refine eE m mo (by kernel_rfl) ?_
 refine nG hs (k:=fun a hs=>?_)
 obtain⟨e14,he15⟩:=bI (l:=x) (i:=((i+j) / 2)) (by omega)
 refine kE (c:=aS) (e:=e14) hs m (x:=(.tmp 25)) (ix:=(.tmp 26)) rfl rfl fP gQ hx (by omega) he15 fun p16 hp17 ok18=>?_
 refine nG hs (h1:=q_ (ok18 _ _ _ _ _)) (h2:=q_ (cN (aS e14))) (h3:=q_ (cN (aS t))) (k:=fun a hs=>?_)
 refine mL hs rfl rfl aVF rfl (fun w m=>aDT e14 t w  ) rfl fun a hs=>?_
 refine uZ hs (k:=fun a hs=>?_)
 refine wpQuiet_nil fun w19 m=>?_
 refine aR hs rfl (fun h20=>?_) (fun h20=>?_)
 ·have h20p:=of_decide_eq_true h20
  refine bT hs m gZ fun a w_ hs m=>?_
  exact⟨j-((i+j) / 2+1),by omega,(i+j) / 2+1,j,fu-1,by omega,by omega,by omega,by(exact(aDL (by omega) (by omega) (by assumption) (by assumption)).trans hb),rfl,hs.to ⟨rfl,rfl,rfl,rfl,rfl,rfl,trivial⟩,m.sub (a0 .n)⟩
 have h20p:=of_decide_eq_false h20
 refine bT hs m gX fun a w_ hs m=>?_
 exact⟨((i+j) / 2)-i,by omega,i,(i+j) / 2,fu-1,by omega,by omega,by omega,by(exact(aDK (by omega) (by omega) (by assumption) (by assumption)).trans hb),rfl,hs.to ⟨rfl,rfl,rfl,rfl,rfl,rfl,trivial⟩,m.sub (a0 .n)⟩
theorem aGS (vx:SH) (x:List cH) (t:cH) (w0:World) (hx:RdS (hh w0) 7 vx.v (x.map cB)):iL Tryz.prog 103 [vx.v,.agg ⟨cB t⟩,.func (.func 49) ⟨[]⟩ ⟨[]⟩] (.tuple ⟨[.int .i64 (mR (fun e=>(bY e t).v) x:Int),.bool (fL bY x t)]⟩) w0:=by
 have lvx:=hx.bd
 refine enter (n:=49) Tryz.func103 rfl rfl rfl fun a (hs:St 49 [(0,vx.v),(1,.agg ⟨cB t⟩),(2,.func (.func 49) ⟨[]⟩ ⟨[]⟩)] a)=>?_
 have m:=Hp.start w0
 refine bN ?_
 refine dU (cs:=cB t) hs m rfl rfl rfl fun p1 w2 m a hs=>?_
 refine bP hs m (x_ gX (e_ (p_ (bQ m rfl fQ (dX hx))) mT)) fun a w_ hs m=>?_
 refine wp_loop_ghost (fun gn a w=>∃ i:Nat,∃ j:Nat,∃ fu:Nat,(i<=j)/\(j<=x.length)/\(j-i<=fu)/\(bsF (fun e=>(bY e t).v) x fu i j=mR (fun e=>(bY e t).v) x)/\gn=j-i/\St 49 [(0,vx.v),(2,.func (.func 49) ⟨[]⟩ ⟨[]⟩),(4,.pointer (some (bK p1 0))),(8,.int .i64 (x.length:Int)),(9,.int .i64 (i:Int)),(10,.int .i64 (j:Int))] a/\Hp w0 (hh w0) [Bx p1 56 (cB t)] w) (x.length-0) ⟨0,x.length,x.length,by omega,by omega,by omega,by rfl,rfl,hs.to ⟨rfl,rfl,rfl,rfl,rfl,rfl,trivial⟩,m.sub (a0 .n)⟩ ?_
 rintro gn a w3 ⟨i,j,fu,hi,hj,hfu,hb,rfl,hs,m⟩
 refine bT hs m gZ fun a w_ hs m=>?_
 refine aR hs rfl (fun h4=>?_) (fun h4=>?_)
 rotate_left
 ·have h4p:=of_decide_eq_false h4
  refine wp_exit ?_
  refine eK (eK (lL (?_)))
  refine aB ?_
  refine eE m mo (by kernel_rfl) ?_
  refine xD hs (k:=fun a hs=>?_)
  refine oU (.c (.c (.c (.c (.c (.c (.c (.c (.c (.n)))))))))) (fun a=>St 49 [(35,.int .i64 (i:Int)),(48,.bool ((decide ((i:Int)<(x.length:Int)))&&(((bY ((x[i]?).getD (⟨(⟨⟨0,rfl⟩,⟨0,rfl⟩,⟨0,rfl⟩,⟨0,rfl⟩,⟨0,rfl⟩,⟨0,rfl⟩⟩:cK),⟨0,rfl⟩⟩:cH)) t).v)==0)))] a) ?_ ?_
  ·rcases Bool.eq_false_or_eq_true (decide ((i:Int)<(x.length:Int))) with hb5|hb5
   ·have hb5p:=of_decide_eq_true hb5
    refine nG hs (k:=fun a hs=>?_)
    obtain⟨e6,he7⟩:=bI (l:=x) (i:=i) (by omega)
    refine kE (c:=cB) (e:=e6) hs m (x:=(.tmp 41)) (ix:=(.tmp 42)) rfl rfl fQ gS hx (by omega) he7 fun p8 hp9 ok10=>?_
    refine nG hs (h1:=kW hb5 (ok10 _ _ _ _ _)) (h2:=kW hb5 (cN (cB e6))) (h3:=kW hb5 (cN (cB t))) (k:=fun a hs=>?_)
    refine jI hs rfl rfl hb5 rfl rfl aVG rfl (fun w m=>aKF e6 t w  ) rfl fun a hs=>?_
    refine sO hs (h2:=q_ (aP (r:=.bool ((decide ((i:Int)<(x.length:Int)))&&(((bY ((x[i]?).getD (⟨(⟨⟨0,rfl⟩,⟨0,rfl⟩,⟨0,rfl⟩,⟨0,rfl⟩,⟨0,rfl⟩,⟨0,rfl⟩⟩:cK),⟨0,rfl⟩⟩:cH)) t).v)==0))) rfl rfl rfl (by(try rw[he7]);rw[hb5];rfl))) (k:=fun a hs=>?_)
    exact wpQuiet_nil (hs.to ⟨rfl,rfl,trivial⟩)
   ·have hb5p:=of_decide_eq_false hb5
    refine kZ hs (k:=fun a hs=>?_)
    refine nG hs (h3:=q_ (aP (r:=.bool ((decide ((i:Int)<(x.length:Int)))&&(((bY ((x[i]?).getD (⟨(⟨⟨0,rfl⟩,⟨0,rfl⟩,⟨0,rfl⟩,⟨0,rfl⟩,⟨0,rfl⟩,⟨0,rfl⟩⟩:cK),⟨0,rfl⟩⟩:cH)) t).v)==0))) rfl rfl rfl (by rw[hb5];rfl))) (k:=fun a hs=>?_)
    exact wpQuiet_nil (hs.to ⟨rfl,rfl,trivial⟩)
  intro a hs
  refine sO hs (k:=fun a hs=>?_)
  refine wpQuiet_nil fun w11 m=>?_
  refine wp_ret ?_
  refine bH hs (vs:=[.int .i64 (i:Int),.bool ((decide ((i:Int)<(x.length:Int)))&&(((bY ((x[i]?).getD (⟨(⟨⟨0,rfl⟩,⟨0,rfl⟩,⟨0,rfl⟩,⟨0,rfl⟩,⟨0,rfl⟩,⟨0,rfl⟩⟩:cK),⟨0,rfl⟩⟩:cH)) t).v)==0))]) rfl ⟨rfl,rfl,trivial⟩ ?_
  refine⟨?_,m.sub .n⟩
  have q12:((i:Int):Int)=(mR (fun e=>(bY e t).v) x:Int):=by clear hs m;rw[<-hb,rX (by omega)]
  have q13:((decide ((i:Int)<(x.length:Int)))&&(((bY ((x[i]?).getD (⟨(⟨⟨0,rfl⟩,⟨0,rfl⟩,⟨0,rfl⟩,⟨0,rfl⟩,⟨0,rfl⟩,⟨0,rfl⟩⟩:cK),⟨0,rfl⟩⟩:cH)) t).v)==0):Bool)=fL bY x t:=by clear hs m;exact xM (by rw[<-hb,rX (by omega)])
  (rw[q13,q12];rfl)
 have h4p:=of_decide_eq_true h4
 refine bT hs m (x_ gZ (e_ (p_ (lH (r:=(i:Int)+(j:Int)) rfl zV zF (yL (by omega) (by omega)))) (e_ (p_ (aEJ (r:=(((i+j) / 2:Nat):Int)) rfl rfl (by decide) (aEG))) (e_ (p_ (lH (r:=(((i+j) / 2:Nat):Int)) rfl zF zV (cJ (by omega) (by omega)))) eZ)))) fun a w_ hs m=>?_
 refine eE m mo (by kernel_rfl) ?_
 refine nG hs (k:=fun a hs=>?_)
 obtain⟨e14,he15⟩:=bI (l:=x) (i:=((i+j) / 2)) (by omega)
 refine kE (c:=cB) (e:=e14) hs m (x:=(.tmp 25)) (ix:=(.tmp 26)) rfl rfl fQ gS hx (by omega) he15 fun p16 hp17 ok18=>?_
 refine nG hs (h1:=q_ (ok18 _ _ _ _ _)) (h2:=q_ (cN (cB e14))) (h3:=q_ (cN (cB t))) (k:=fun a hs=>?_)
 refine mL hs rfl rfl aVG rfl (fun w m=>aKF e14 t w  ) rfl fun a hs=>?_
 refine uZ hs (k:=fun a hs=>?_)
 refine wpQuiet_nil fun w19 m=>?_
 refine aR hs rfl (fun h20=>?_) (fun h20=>?_)
 ·have h20p:=of_decide_eq_true h20
  refine bT hs m gZ fun a w_ hs m=>?_
  exact⟨j-((i+j) / 2+1),by omega,(i+j) / 2+1,j,fu-1,by omega,by omega,by omega,by(exact(aDL (by omega) (by omega) (by assumption) (by assumption)).trans hb),rfl,hs.to ⟨rfl,rfl,rfl,rfl,rfl,rfl,trivial⟩,m.sub (a0 .n)⟩
 have h20p:=of_decide_eq_false h20
 refine bT hs m gX fun a w_ hs m=>?_
 exact⟨((i+j) / 2)-i,by omega,i,(i+j) / 2,fu-1,by omega,by omega,by omega,by(exact(aDK (by omega) (by omega) (by assumption) (by assumption)).trans hb),rfl,hs.to ⟨rfl,rfl,rfl,rfl,rfl,rfl,trivial⟩,m.sub (a0 .n)⟩
theorem zQ (vx:SH) (x:List aT) (t:aT) (w0:World) (hx:RdS (hh w0) 2 vx.v (x.map aO)):iL Tryz.prog 131 [vx.v,.agg ⟨aO t⟩,.func (.func 99) ⟨[]⟩ ⟨[]⟩] (.tuple ⟨[.int .i64 (mR (fun e=>(dH e t).v) x:Int),.bool (fL dH x t)]⟩) w0:=by
 have lvx:=hx.bd
 refine enter (n:=49) Tryz.func131 rfl rfl rfl fun a (hs:St 49 [(0,vx.v),(1,.agg ⟨aO t⟩),(2,.func (.func 99) ⟨[]⟩ ⟨[]⟩)] a)=>?_
 have m:=Hp.start w0
 refine bN ?_
 refine dU (cs:=aO t) hs m rfl rfl rfl fun p1 w2 m a hs=>?_
 refine bP hs m (x_ gX (e_ (p_ (bQ m rfl hY (dX hx))) mT)) fun a w_ hs m=>?_
 refine wp_loop_ghost (fun gn a w=>∃ i:Nat,∃ j:Nat,∃ fu:Nat,(i<=j)/\(j<=x.length)/\(j-i<=fu)/\(bsF (fun e=>(dH e t).v) x fu i j=mR (fun e=>(dH e t).v) x)/\gn=j-i/\St 49 [(0,vx.v),(2,.func (.func 99) ⟨[]⟩ ⟨[]⟩),(4,.pointer (some (bK p1 0))),(8,.int .i64 (x.length:Int)),(9,.int .i64 (i:Int)),(10,.int .i64 (j:Int))] a/\Hp w0 (hh w0) [Bx p1 44 (aO t)] w) (x.length-0) ⟨0,x.length,x.length,by omega,by omega,by omega,by rfl,rfl,hs.to ⟨rfl,rfl,rfl,rfl,rfl,rfl,trivial⟩,m.sub (a0 .n)⟩ ?_
 rintro gn a w3 ⟨i,j,fu,hi,hj,hfu,hb,rfl,hs,m⟩
 refine bT hs m gZ fun a w_ hs m=>?_
 refine aR hs rfl (fun h4=>?_) (fun h4=>?_)
 rotate_left
 ·have h4p:=of_decide_eq_false h4
  refine wp_exit ?_
  refine eK (eK (lL (?_)))
  refine aB ?_
  refine eE m mo (by kernel_rfl) ?_
  refine xD hs (k:=fun a hs=>?_)
  refine oU (.c (.c (.c (.c (.c (.c (.c (.c (.c (.n)))))))))) (fun a=>St 49 [(35,.int .i64 (i:Int)),(48,.bool ((decide ((i:Int)<(x.length:Int)))&&(((dH ((x[i]?).getD (⟨⟨0,rfl⟩,⟨0,rfl⟩⟩:aT)) t).v)==0)))] a) ?_ ?_
  ·rcases Bool.eq_false_or_eq_true (decide ((i:Int)<(x.length:Int))) with hb5|hb5
   ·have hb5p:=of_decide_eq_true hb5
    refine nG hs (k:=fun a hs=>?_)
    obtain⟨e6,he7⟩:=bI (l:=x) (i:=i) (by omega)
    refine kE (c:=aO) (e:=e6) hs m (x:=(.tmp 41)) (ix:=(.tmp 42)) rfl rfl hY jQ hx (by omega) he7 fun p8 hp9 ok10=>?_
    refine nG hs (h1:=kW hb5 (ok10 _ _ _ _ _)) (h2:=kW hb5 (cN (aO e6))) (h3:=kW hb5 (cN (aO t))) (k:=fun a hs=>?_)
    refine jI hs rfl rfl hb5 rfl rfl aR2 rfl (fun w m=>yU e6 t w  ) rfl fun a hs=>?_
    refine sO hs (h2:=q_ (aP (r:=.bool ((decide ((i:Int)<(x.length:Int)))&&(((dH ((x[i]?).getD (⟨⟨0,rfl⟩,⟨0,rfl⟩⟩:aT)) t).v)==0))) rfl rfl rfl (by(try rw[he7]);rw[hb5];rfl))) (k:=fun a hs=>?_)
    exact wpQuiet_nil (hs.to ⟨rfl,rfl,trivial⟩)
   ·have hb5p:=of_decide_eq_false hb5
    refine kZ hs (k:=fun a hs=>?_)
    refine nG hs (h3:=q_ (aP (r:=.bool ((decide ((i:Int)<(x.length:Int)))&&(((dH ((x[i]?).getD (⟨⟨0,rfl⟩,⟨0,rfl⟩⟩:aT)) t).v)==0))) rfl rfl rfl (by rw[hb5];rfl))) (k:=fun a hs=>?_)
    exact wpQuiet_nil (hs.to ⟨rfl,rfl,trivial⟩)
  intro a hs
  refine sO hs (k:=fun a hs=>?_)
  refine wpQuiet_nil fun w11 m=>?_
  refine wp_ret ?_
  refine bH hs (vs:=[.int .i64 (i:Int),.bool ((decide ((i:Int)<(x.length:Int)))&&(((dH ((x[i]?).getD (⟨⟨0,rfl⟩,⟨0,rfl⟩⟩:aT)) t).v)==0))]) rfl ⟨rfl,rfl,trivial⟩ ?_
  refine⟨?_,m.sub .n⟩
  have q12:((i:Int):Int)=(mR (fun e=>(dH e t).v) x:Int):=by clear hs m;rw[<-hb,rX (by omega)]
  have q13:((decide ((i:Int)<(x.length:Int)))&&(((dH ((x[i]?).getD (⟨⟨0,rfl⟩,⟨0,rfl⟩⟩:aT)) t).v)==0):Bool)=fL dH x t:=by clear hs m;exact xM (by rw[<-hb,rX (by omega)])
  (rw[q13,q12];rfl)
 have h4p:=of_decide_eq_true h4
 refine bT hs m (x_ gZ (e_ (p_ (lH (r:=(i:Int)+(j:Int)) rfl zV zF (yL (by omega) (by omega)))) (e_ (p_ (aEJ (r:=(((i+j) / 2:Nat):Int)) rfl rfl (by decide) (aEG))) (e_ (p_ (lH (r:=(((i+j) / 2:Nat):Int)) rfl zF zV (cJ (by omega) (by omega)))) eZ)))) fun a w_ hs m=>?_
 refine eE m mo (by kernel_rfl) ?_
 refine nG hs (k:=fun a hs=>?_)
 obtain⟨e14,he15⟩:=bI (l:=x) (i:=((i+j) / 2)) (by omega)
 refine kE (c:=aO) (e:=e14) hs m (x:=(.tmp 25)) (ix:=(.tmp 26)) rfl rfl hY jQ hx (by omega) he15 fun p16 hp17 ok18=>?_
 refine nG hs (h1:=q_ (ok18 _ _ _ _ _)) (h2:=q_ (cN (aO e14))) (h3:=q_ (cN (aO t))) (k:=fun a hs=>?_)
 refine mL hs rfl rfl aR2 rfl (fun w m=>yU e14 t w  ) rfl fun a hs=>?_
 refine uZ hs (k:=fun a hs=>?_)
 refine wpQuiet_nil fun w19 m=>?_
 refine aR hs rfl (fun h20=>?_) (fun h20=>?_)
 ·have h20p:=of_decide_eq_true h20
  refine bT hs m gZ fun a w_ hs m=>?_
  exact⟨j-((i+j) / 2+1),by omega,(i+j) / 2+1,j,fu-1,by omega,by omega,by omega,by(exact(aDL (by omega) (by omega) (by assumption) (by assumption)).trans hb),rfl,hs.to ⟨rfl,rfl,rfl,rfl,rfl,rfl,trivial⟩,m.sub (a0 .n)⟩
 have h20p:=of_decide_eq_false h20
 refine bT hs m gX fun a w_ hs m=>?_
 exact⟨((i+j) / 2)-i,by omega,i,(i+j) / 2,fu-1,by omega,by omega,by omega,by(exact(aDK (by omega) (by omega) (by assumption) (by assumption)).trans hb),rfl,hs.to ⟨rfl,rfl,rfl,rfl,rfl,rfl,trivial⟩,m.sub (a0 .n)⟩
theorem aFM (vx:SH) (x:List TLease) (t:TLease) (w0:World) (hx:RdS (hh w0) 12 vx.v (x.map aV)):iL Tryz.prog 167 [vx.v,.agg ⟨aV t⟩,.func (.func 133) ⟨[]⟩ ⟨[]⟩] (.tuple ⟨[.int .i64 (mR (fun e=>(dL e t).v) x:Int),.bool (fL dL x t)]⟩) w0:=by
 have lvx:=hx.bd
 refine enter (n:=49) Tryz.func167 rfl rfl rfl fun a (hs:St 49 [(0,vx.v),(1,.agg ⟨aV t⟩),(2,.func (.func 133) ⟨[]⟩ ⟨[]⟩)] a)=>?_
 have m:=Hp.start w0
 refine bN ?_
 refine dU (cs:=aV t) hs m rfl rfl rfl fun p1 w2 m a hs=>?_
 refine bP hs m (x_ gX (e_ (p_ (bQ m rfl eR (dX hx))) mT)) fun a w_ hs m=>?_
 refine wp_loop_ghost (fun gn a w=>∃ i:Nat,∃ j:Nat,∃ fu:Nat,(i<=j)/\(j<=x.length)/\(j-i<=fu)/\(bsF (fun e=>(dL e t).v) x fu i j=mR (fun e=>(dL e t).v) x)/\gn=j-i/\St 49 [(0,vx.v),(2,.func (.func 133) ⟨[]⟩ ⟨[]⟩),(4,.pointer (some (bK p1 0))),(8,.int .i64 (x.length:Int)),(9,.int .i64 (i:Int)),(10,.int .i64 (j:Int))] a/\Hp w0 (hh w0) [Bx p1 48 (aV t)] w) (x.length-0) ⟨0,x.length,x.length,by omega,by omega,by omega,by rfl,rfl,hs.to ⟨rfl,rfl,rfl,rfl,rfl,rfl,trivial⟩,m.sub (a0 .n)⟩ ?_
 rintro gn a w3 ⟨i,j,fu,hi,hj,hfu,hb,rfl,hs,m⟩
 refine bT hs m gZ fun a w_ hs m=>?_
 refine aR hs rfl (fun h4=>?_) (fun h4=>?_)
 rotate_left
 ·have h4p:=of_decide_eq_false h4
  refine wp_exit ?_
  refine eK (eK (lL (?_)))
  refine aB ?_
  refine eE m mo (by kernel_rfl) ?_
  refine xD hs (k:=fun a hs=>?_)
  refine oU (.c (.c (.c (.c (.c (.c (.c (.c (.c (.n)))))))))) (fun a=>St 49 [(35,.int .i64 (i:Int)),(48,.bool ((decide ((i:Int)<(x.length:Int)))&&(((dL ((x[i]?).getD (⟨⟨0,rfl⟩,(⟨⟨0,rfl⟩,⟨0,rfl⟩⟩:aT),⟨0,rfl⟩,(⟨⟨0,rfl⟩,⟨0,rfl⟩,⟨0,rfl⟩,⟨0,rfl⟩,⟨0,rfl⟩,⟨0,rfl⟩⟩:cK),⟨0,rfl⟩,⟨0,rfl⟩⟩:TLease)) t).v)==0)))] a) ?_ ?_
  ·rcases Bool.eq_false_or_eq_true (decide ((i:Int)<(x.length:Int))) with hb5|hb5
   ·have hb5p:=of_decide_eq_true hb5
    refine nG hs (k:=fun a hs=>?_)
    obtain⟨e6,he7⟩:=bI (l:=x) (i:=i) (by omega)
    refine kE (c:=aV) (e:=e6) hs m (x:=(.tmp 41)) (ix:=(.tmp 42)) rfl rfl eR fZ hx (by omega) he7 fun p8 hp9 ok10=>?_
    refine nG hs (h1:=kW hb5 (ok10 _ _ _ _ _)) (h2:=kW hb5 (cN (aV e6))) (h3:=kW hb5 (cN (aV t))) (k:=fun a hs=>?_)
    refine jI hs rfl rfl hb5 rfl rfl aO2 rfl (fun w m=>aDQ e6 t w  ) rfl fun a hs=>?_
    refine sO hs (h2:=q_ (aP (r:=.bool ((decide ((i:Int)<(x.length:Int)))&&(((dL ((x[i]?).getD (⟨⟨0,rfl⟩,(⟨⟨0,rfl⟩,⟨0,rfl⟩⟩:aT),⟨0,rfl⟩,(⟨⟨0,rfl⟩,⟨0,rfl⟩,⟨0,rfl⟩,⟨0,rfl⟩,⟨0,rfl⟩,⟨0,rfl⟩⟩:cK),⟨0,rfl⟩,⟨0,rfl⟩⟩:TLease)) t).v)==0))) rfl rfl rfl (by(try rw[he7]);rw[hb5];rfl))) (k:=fun a hs=>?_)
    exact wpQuiet_nil (hs.to ⟨rfl,rfl,trivial⟩)
   ·have hb5p:=of_decide_eq_false hb5
    refine kZ hs (k:=fun a hs=>?_)
    refine nG hs (h3:=q_ (aP (r:=.bool ((decide ((i:Int)<(x.length:Int)))&&(((dL ((x[i]?).getD (⟨⟨0,rfl⟩,(⟨⟨0,rfl⟩,⟨0,rfl⟩⟩:aT),⟨0,rfl⟩,(⟨⟨0,rfl⟩,⟨0,rfl⟩,⟨0,rfl⟩,⟨0,rfl⟩,⟨0,rfl⟩,⟨0,rfl⟩⟩:cK),⟨0,rfl⟩,⟨0,rfl⟩⟩:TLease)) t).v)==0))) rfl rfl rfl (by rw[hb5];rfl))) (k:=fun a hs=>?_)
    exact wpQuiet_nil (hs.to ⟨rfl,rfl,trivial⟩)
  intro a hs
  refine sO hs (k:=fun a hs=>?_)
  refine wpQuiet_nil fun w11 m=>?_
  refine wp_ret ?_
  refine bH hs (vs:=[.int .i64 (i:Int),.bool ((decide ((i:Int)<(x.length:Int)))&&(((dL ((x[i]?).getD (⟨⟨0,rfl⟩,(⟨⟨0,rfl⟩,⟨0,rfl⟩⟩:aT),⟨0,rfl⟩,(⟨⟨0,rfl⟩,⟨0,rfl⟩,⟨0,rfl⟩,⟨0,rfl⟩,⟨0,rfl⟩,⟨0,rfl⟩⟩:cK),⟨0,rfl⟩,⟨0,rfl⟩⟩:TLease)) t).v)==0))]) rfl ⟨rfl,rfl,trivial⟩ ?_
  refine⟨?_,m.sub .n⟩
  have q12:((i:Int):Int)=(mR (fun e=>(dL e t).v) x:Int):=by clear hs m;rw[<-hb,rX (by omega)]
  have q13:((decide ((i:Int)<(x.length:Int)))&&(((dL ((x[i]?).getD (⟨⟨0,rfl⟩,(⟨⟨0,rfl⟩,⟨0,rfl⟩⟩:aT),⟨0,rfl⟩,(⟨⟨0,rfl⟩,⟨0,rfl⟩,⟨0,rfl⟩,⟨0,rfl⟩,⟨0,rfl⟩,⟨0,rfl⟩⟩:cK),⟨0,rfl⟩,⟨0,rfl⟩⟩:TLease)) t).v)==0):Bool)=fL dL x t:=by clear hs m;exact xM (by rw[<-hb,rX (by omega)])
  (rw[q13,q12];rfl)
 have h4p:=of_decide_eq_true h4
 refine bT hs m (x_ gZ (e_ (p_ (lH (r:=(i:Int)+(j:Int)) rfl zV zF (yL (by omega) (by omega)))) (e_ (p_ (aEJ (r:=(((i+j) / 2:Nat):Int)) rfl rfl (by decide) (aEG))) (e_ (p_ (lH (r:=(((i+j) / 2:Nat):Int)) rfl zF zV (cJ (by omega) (by omega)))) eZ)))) fun a w_ hs m=>?_
 refine eE m mo (by kernel_rfl) ?_
 refine nG hs (k:=fun a hs=>?_)
 obtain⟨e14,he15⟩:=bI (l:=x) (i:=((i+j) / 2)) (by omega)
 refine kE (c:=aV) (e:=e14) hs m (x:=(.tmp 25)) (ix:=(.tmp 26)) rfl rfl eR fZ hx (by omega) he15 fun p16 hp17 ok18=>?_
 refine nG hs (h1:=q_ (ok18 _ _ _ _ _)) (h2:=q_ (cN (aV e14))) (h3:=q_ (cN (aV t))) (k:=fun a hs=>?_)
 refine mL hs rfl rfl aO2 rfl (fun w m=>aDQ e14 t w  ) rfl fun a hs=>?_
 refine uZ hs (k:=fun a hs=>?_)
 refine wpQuiet_nil fun w19 m=>?_
 refine aR hs rfl (fun h20=>?_) (fun h20=>?_)
 ·have h20p:=of_decide_eq_true h20
  refine bT hs m gZ fun a w_ hs m=>?_
  exact⟨j-((i+j) / 2+1),by omega,(i+j) / 2+1,j,fu-1,by omega,by omega,by omega,by(exact(aDL (by omega) (by omega) (by assumption) (by assumption)).trans hb),rfl,hs.to ⟨rfl,rfl,rfl,rfl,rfl,rfl,trivial⟩,m.sub (a0 .n)⟩
 have h20p:=of_decide_eq_false h20
 refine bT hs m gX fun a w_ hs m=>?_
 exact⟨((i+j) / 2)-i,by omega,i,(i+j) / 2,fu-1,by omega,by omega,by omega,by(exact(aDK (by omega) (by omega) (by assumption) (by assumption)).trans hb),rfl,hs.to ⟨rfl,rfl,rfl,rfl,rfl,rfl,trivial⟩,m.sub (a0 .n)⟩
end Go.Proofs.YtnbpodjbemfpbaaGreat.Fw
