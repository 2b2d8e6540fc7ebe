/-
  Own work: walks and laws, joined by wip/tool/compact.py.
-/
import Derived.Test.YtnbpodjbemfpbaaGreatG4
import Derived.KernelRfl
set_option linter.all false
set_option linter.unusedVariables false
set_option linter.all false
namespace Go.Proofs.YtnbpodjbemfpbaaGreat.Fw
open Go
def zI (n:Int):Int:=if n=0 then 0 else IntKind.u32.wrap (4294967295*2 ^ (min (32-n).toNat 32))
def tT (p:aT):Int:=if p.Len.v<0\/p.Len.v>32 then 11 else if aAQ .u32 p.Addr.v (zI p.Len.v)=0 then 0 else 12
def iR (p:aT):Bool:=tT p==0
def rP (x y:Int):Fx .i64:=if x<y then ⟨-1,rfl⟩ else if x>y then ⟨1,rfl⟩ else ⟨0,rfl⟩
theorem qR (x y:Int):(rP x y).v=if x<y then -1 else if x>y then 1 else 0:=by
  unfold rP
  split
  · rfl
  · split <;> rfl
def orM:List (Fx .i64)->Fx .i64
  | []=>⟨0,rfl⟩
  | x::r=>if x.v=0 then orM r else x
theorem aSW {l:List (Fx .i64)} {k:Nat} {e:Fx .i64} (h:l[k]?=some e) (hz:e.v≠0):orM (l.drop k)=e:=by
  obtain⟨hlt,rfl⟩:=List.getElem?_eq_some_iff.1 h
  rw[List.drop_eq_getElem_cons hlt]
  simp [orM,hz]
theorem aQH {l:List (Fx .i64)} {k:Nat} {e:Fx .i64} (h:l[k]?=some e) (hz:e.v=0):orM (l.drop k)=orM (l.drop (k+1)):=by
  obtain⟨hlt,rfl⟩:=List.getElem?_eq_some_iff.1 h
  rw[List.drop_eq_getElem_cons hlt]
  simp [orM,hz]
theorem aSV {l:List (Fx .i64)} {k:Nat} (h:¬ k<l.length):orM (l.drop k)=⟨0,rfl⟩:=by
  rw[List.drop_eq_nil_of_le (by omega)]
  rfl
def dH (x y:aT):Fx .i64:=orM [rP x.Addr.v y.Addr.v,rP x.Len.v y.Len.v]
def zW (x:cK):List (Fx .u8):=[x.b0,x.b1,x.b2,x.b3,x.b4,x.b5]
def bS (x y:bD):Fx .i64:=dH x.Dst y.Dst
def bB (x y:bA):Fx .i64:=rP x.IP.v y.IP.v
def bY (x y:cH):Fx .i64:=aAV (zW x.MAC) (zW y.MAC)
def dL (x y:TLease):Fx .i64:=dH x.Subnet y.Subnet
/-! binary search -/
section
variable {α:Type}
def bsF (f:α->Int) (l:List α):Nat->Nat->Nat->Nat
  | 0,i,_=>i
  | n+1,i,j=>if i<j then match l[(i+j) / 2]? with
      | some e=>if f e<0 then bsF f l n ((i+j) / 2+1) j else bsF f l n i ((i+j) / 2)
      | none=>i
    else i
def mR (f:α->Int) (l:List α):Nat:=bsF f l l.length 0 l.length
theorem aKC (f:α->Int) (l:List α):∀ n i j,i<=j->j<=l.length->bsF f l n i j<=l.length/\bsF f l n i j<=j
  | 0,i,j,h1,h2=>by simp only[bsF];omega
  | n+1,i,j,h1,h2=>by
    simp only[bsF]
    by_cases h:i<j
    · rw[if_pos h]
      cases l[(i+j) / 2]? with
      | none=>simp only;omega
      | some e =>
        simp only
        split
        · exact aKC f l n _ j (by omega) h2
        · have:=aKC f l n i ((i+j) / 2) (by omega) (by omega)
          omega
    · rw[if_neg h];omega
theorem tQ (f:α->Int) (l:List α):mR f l<=l.length:=(aKC f l _ 0 _ (by omega) (by omega)).1
theorem aDL {f:α->Int} {l:List α} {n i j:Nat} {e:α} (h1:i<j) (h2:j-i<=n) (he:l[(i+j) / 2]?=some e) (hf:f e<0):bsF f l (n-1) ((i+j) / 2+1) j=bsF f l n i j:=by
  obtain⟨n,rfl⟩:∃ k,n=k+1:=⟨n-1,by omega⟩
  conv=>rhs;unfold bsF
  simp [h1,he,hf]
theorem aDK {f:α->Int} {l:List α} {n i j:Nat} {e:α} (h1:i<j) (h2:j-i<=n) (he:l[(i+j) / 2]?=some e) (hf:¬ f e<0):bsF f l (n-1) i ((i+j) / 2)=bsF f l n i j:=by
  obtain⟨n,rfl⟩:∃ k,n=k+1:=⟨n-1,by omega⟩
  conv=>rhs;unfold bsF
  simp [h1,he,hf]
theorem rX {f:α->Int} {l:List α} {n i j:Nat} (h1:¬ i<j):bsF f l n i j=i:=by
  cases n with
  | zero=>rfl
  | succ n=>simp [bsF,h1]
theorem aEG {i j:Nat}:Int.fdiv ((i:Int)+(j:Int)) (2 ^ (min (1:Int).toNat 64))=(((i+j) / 2:Nat):Int):=by
  show Int.fdiv ((i:Int)+(j:Int)) 2=_
  rw[Int.fdiv_eq_ediv_of_nonneg _ (by omega)]
  omega
def fL (c:α->α->Fx .i64) (l:List α) (t:α):Bool:=match l[mR (fun e=>(c e t).v) l]? with
  | some e=>(c e t).v==0
  | none=>false
theorem xM {c:α->α->Fx .i64} {l:List α} {t z:α} {i:Nat} (h:mR (fun e=>(c e t).v) l=i):(decide ((i:Int)<(l.length:Int))&&(c ((l[i]?).getD z) t).v==0)=fL c l t:=by
  subst h
  unfold fL
  cases hl:l[mR (fun e=>(c e t).v) l]? with
  | none =>
    have:=List.getElem?_eq_none_iff.1 hl
    simp
    omega
  | some e =>
    have:=(List.getElem?_eq_some_iff.1 hl).1
    simp [hl,this]
theorem mA {c:α->α->Fx .i64} {l:List α} {t:α} (h:fL c l t=true):mR (fun e=>(c e t).v) l<l.length:=by
  unfold fL at h
  split at h
  · rename_i e he
    exact(List.getElem?_eq_some_iff.1 he).1
  · cases h
@[irreducible] def iB (c:α->α->Fx .i64) (l:List α) (x:α):List α :=
  if fL c l x then l.set (mR (fun e=>(c e x).v) l) x else l.take (mR (fun e=>(c e x).v) l)++[x]++l.drop (mR (fun e=>(c e x).v) l)
def fJ (c:α->α->Fx .i64) (l:List α) (x:α):List α :=
  if fL c l x then l.take (mR (fun e=>(c e x).v) l)++l.drop (mR (fun e=>(c e x).v) l+1) else l
def hH (c:α->α->Fx .i64) (z:α) (l:List α) (x:α):α :=
  if fL c l x then (l[mR (fun e=>(c e x).v) l]?).getD z else z
def cA [DecidableEq α] (c:α->α->Fx .i64) (z:α) (l:List α) (x:α):Bool := !fL c l x || decide (hH c z l x≠x)
/-! all below -/
def pC (f:Nat->Bool) (n:Nat):Bool:=(List.range n).all f
theorem nH {f:Nat->Bool} {n:Nat} (h:pC f n=true) (hf:f n=true):pC f (n+1)=true:=by
  simp only[pC,List.range_succ,List.all_append,List.all_cons,List.all_nil,Bool.and_true,Bool.and_eq_true]
  exact⟨h,hf⟩
theorem rO {f:Nat->Bool} {n k:Nat} (h:k<n) (hf:f k=false):pC f n=false:=by
  simp only[pC,List.all_eq_false,List.mem_range]
  exact⟨k,h,by simp [hf]⟩
def vH (c:α->α->Fx .i64) (l:List α) (i:Nat):Bool:=i==0 || match l[i-1]?,l[i]? with
  | some x,some y=>decide ((c x y).v<0)
  | _,_=>true
def gV (c:α->α->Fx .i64) (l:List α):Bool:=pC (vH c l) l.length
end
theorem aMM {α:Type} {c:α->α->Fx .i64} {l:List α} {z:α} {k:Nat} (hk:k<l.length):vH c l k = !(decide ((k:Int)>0)&&decide ((c ((l[((k:Int)-1).toNat]?).getD z) ((l[k]?).getD z)).v>=0)):=by
  unfold vH
  cases k with
  | zero=>simp
  | succ k =>
    have e:(((k+1:Nat):Int)-1).toNat=k:=by omega
    rw[e]
    have h1:l[k]?=some l[k]:=List.getElem?_eq_getElem (by omega)
    have h2:l[k+1]?=some l[k+1]:=List.getElem?_eq_getElem hk
    have h3:(0:Int)<((k+1:Nat):Int):=by omega
    simp [h1,h2]
    by_cases hc:(c l[k] l[k+1]).v<0
    · simp [hc]
    · simp [hc]
      omega
theorem aDD {α:Type} {c:α->α->Fx .i64} {l:List α} {z:α} {k:Nat} (hk:k<l.length) (h:(decide ((k:Int)>0)&&decide ((c ((l[((k:Int)-1).toNat]?).getD z) ((l[k]?).getD z)).v>=0))=true):gV c l=false :=
  rO hk (by rw[aMM hk (z:=z),h];rfl)
theorem aHK {α:Type} {c:α->α->Fx .i64} {l:List α} {z:α} {k:Nat} (hk:k<l.length) (h:(decide ((k:Int)>0)&&decide ((c ((l[((k:Int)-1).toNat]?).getD z) ((l[k]?).getD z)).v>=0))=false):vH c l k=true:=by
  rw[aMM hk (z:=z),h];rfl
/-! two lists, element by element -/
section
variable {α:Type} [DecidableEq α] {x y:List α} {k:Nat}
theorem aEY (h:(x.length:Int)≠(y.length:Int)):false=decide (x=y):=by
  symm
  rw[decide_eq_false_iff_not]
  intro e;subst e;exact h rfl
theorem wC {e e':α} (h1:x[k]?=some e) (h2:y[k]?=some e') (h:(!decide (e=e'))=true):false=decide (x=y):=by
  symm
  rw[decide_eq_false_iff_not]
  intro e;subst e
  rw[h1] at h2
  simp only[Option.some.injEq] at h2
  simp [h2] at h
theorem yH (h:(x.length:Int)=(y.length:Int)) (hk:x.length<=k) (ht:x.take k=y.take k):true=decide (x=y):=by
  symm
  rw[decide_eq_true_eq]
  rw[List.take_of_length_le hk,List.take_of_length_le (by omega)] at ht
  exact ht
theorem wD {e e':α} (ht:x.take k=y.take k) (h1:x[k]?=some e) (h2:y[k]?=some e') (h:(!decide (e=e'))=false):x.take (k+1)=y.take (k+1):=by
  have he:e=e':=by simpa using h
  rw[List.take_add_one,List.take_add_one,ht,h1,h2,he]
end
section
variable {α β γ:Type} [DecidableEq α] [DecidableEq β] [DecidableEq γ] {a b:List α} {c d:List β} {e f:List γ}
theorem aTF (h:(!decide (a=b) || (c.length:Int) !=(d.length:Int) || (e.length:Int) !=(f.length:Int))=true):false=decide (a=b/\c=d/\e=f):=by
  symm
  rw[decide_eq_false_iff_not]
  rintro ⟨rfl,rfl,rfl⟩
  simp at h
theorem aTG (h:false=decide (c=d)):false=decide (a=b/\c=d/\e=f):=by
  have:=of_decide_eq_false h.symm
  simp [this]
theorem aTH (h:false=decide (e=f)):false=decide (a=b/\c=d/\e=f):=by
  have:=of_decide_eq_false h.symm
  simp [this]
theorem aYG (h:(!decide (a=b) || (c.length:Int) !=(d.length:Int) || (e.length:Int) !=(f.length:Int))=false) (h1:true=decide (c=d)) (h2:true=decide (e=f)):true=decide (a=b/\c=d/\e=f):=by
  have k1:=of_decide_eq_true h1.symm
  have k2:=of_decide_eq_true h2.symm
  simp at h
  simp [k1,k2,h.1]
end
/-! the document's numbers -/
theorem aNZ {k:Nat} (h:k<=40):IntKind.i64.wrap (2*(2 ^ k:Int))=(2 ^ (k+1):Int):=by
  have h1:(2:Int) ^ k<=2 ^ 40:=by exact_mod_cast Nat.pow_le_pow_right (n:=2) (by omega) h
  have h0:(0:Int)<2 ^ k:=Int.pow_pos (by omega)
  have h2:(2:Int) ^ 40=1099511627776:=by decide
  have h3:(2:Int) ^ (k+1)=2*2 ^ k:=by rw[Int.pow_succ];omega
  rw[cJ (by omega) (by omega),h3]
def tU (p:aT):Int:=if p.Len.v<0\/p.Len.v>32 then 11 else if Int.tmod p.Addr.v (2 ^ (32-p.Len.v).toNat)≠0 then 12 else 0
def iZ (p:aT):Bool:=tU p==0
def cL (p q:aT):Bool:=decide (p.Addr.v<q.Addr.v) || (p.Addr.v==q.Addr.v&&decide (p.Len.v<q.Len.v))
@[irreducible] def eN (m:cK):Int:=((((m.b0.v*256+m.b1.v)*256+m.b2.v)*256+m.b3.v)*256+m.b4.v)*256+m.b5.v
def fM:aT:=⟨⟨0,rfl⟩,⟨0,rfl⟩⟩
def kG:cK:=⟨⟨0,rfl⟩,⟨0,rfl⟩,⟨0,rfl⟩,⟨0,rfl⟩,⟨0,rfl⟩,⟨0,rfl⟩⟩
def gE:bD:=⟨fM,⟨0,rfl⟩,false⟩
def cW:bA:=⟨⟨0,rfl⟩,kG⟩
def gH:cH:=⟨kG,⟨0,rfl⟩⟩
def pI (l:List TLease) (k:Nat):List TLease:=l++(List.range k).map fun i=>⟨Fx.of .i64 (201+(i:Int)),⟨⟨0,rfl⟩,⟨0,rfl⟩⟩,⟨0,rfl⟩,⟨⟨0,rfl⟩,⟨0,rfl⟩,⟨0,rfl⟩,⟨0,rfl⟩,⟨0,rfl⟩,⟨0,rfl⟩⟩,⟨0,rfl⟩,⟨0,rfl⟩⟩
def lN (l:List TLease):List TLease:=pI l 70
/-! the document's insertion -/
section
variable {α:Type}
def nE (lw:α->Bool) (x:α) (a:List α×Bool) (e:α):List α×Bool:=if !a.2&&lw e then (a.1++[x]++[e],true) else (a.1++[e],a.2)
@[irreducible] def fX (lw:α->Bool) (x:α) (l:List α):List α×Bool:=l.foldl (nE lw x) ([],false)
def wI (eq lw:α->Bool) (x:α) (l:List α):List α:=if l.any eq then l else if (fX lw x l).2 then (fX lw x l).1 else (fX lw x l).1++[x]
variable {eq lw:α->Bool} {x e:α} {l:List α} {k:Nat} {inn:Bool}
theorem xJ:fX lw x (l.take 0)=([],false):=by unfold fX;rfl
theorem yT (h:l[k]?=some e):fX lw x (l.take (k+1))=nE lw x (fX lw x (l.take k)) e:=by
  unfold fX
  rw[List.take_add_one,h]
  simp
theorem yP (h:l[k]?=some e) (hin:(fX lw x (l.take k)).2=inn) (hc:(!inn&&lw e)=true):(fX lw x (l.take k)).1++[x]++[e]=(fX lw x (l.take (k+1))).1:=by
  rw[yT h,nE,hin,hc];rfl
theorem yO (h:l[k]?=some e) (hin:(fX lw x (l.take k)).2=inn) (hc:(!inn&&lw e)=false):(fX lw x (l.take k)).1++[e]=(fX lw x (l.take (k+1))).1:=by
  rw[yT h,nE,hin,hc];rfl
theorem yR (h:l[k]?=some e) (hin:(fX lw x (l.take k)).2=inn) (hc:(!inn&&lw e)=true):(fX lw x (l.take (k+1))).2=true:=by
  rw[yT h,nE,hin,hc];rfl
theorem yQ (h:l[k]?=some e) (hin:(fX lw x (l.take k)).2=inn) (hc:(!inn&&lw e)=false):(fX lw x (l.take (k+1))).2=inn:=by
  rw[yT h,nE,hin,hc];rfl
theorem vL (hno:(l.take k).any eq=false) (h:l[k]?=some e) (he:eq e=false):(l.take (k+1)).any eq=false:=by
  rw[List.take_add_one,h,List.any_append,hno]
  simp [he]
theorem pH (h:l[k]?=some e) (he:eq e=true):wI eq lw x l=l:=by
  unfold wI
  rw[if_pos]
  rw[List.any_eq_true]
  exact⟨e,List.mem_of_getElem? h,he⟩
theorem tH (hk:l.length<=k) (hno:(l.take k).any eq=false) (hin:(fX lw x (l.take k)).2=inn) (h:inn=true):(fX lw x (l.take k)).1=wI eq lw x l:=by
  subst h
  rw[List.take_of_length_le hk] at *
  simp [wI,hno,hin]
theorem tG (hk:l.length<=k) (hno:(l.take k).any eq=false) (hin:(fX lw x (l.take k)).2=inn) (h:inn=false):(fX lw x (l.take k)).1++[x]=wI eq lw x l:=by
  subst h
  rw[List.take_of_length_le hk] at *
  simp [wI,hno,hin]
theorem yS (lw:α->Bool) (x:α):∀ (l:List α) (a:List α×Bool),(l.foldl (nE lw x) a).1.length<=a.1.length+l.length+(bif a.2 then 0 else 1)
  | [],a=>by simp
  | e::l,a=>by
    have:=yS lw x l (nE lw x a e)
    simp only[List.foldl_cons,List.length_cons]
    refine Nat.le_trans this ?_
    unfold nE
    cases hb:a.2 <;> cases hl:lw e <;> simp [hb] <;> omega
theorem aAP:(fX lw x (l.take k)).1.length<=l.length+1:=by
  have:=yS lw x (l.take k) ([],false)
  simp at this
  unfold fX
  omega
end
def nW (r:bD) (l:List bD):List bD:=wI (fun e=>decide (e.Dst=r.Dst)) (fun e=>cL r.Dst e.Dst) r l
def pY (q:bA) (l:List bA):List bA:=wI (fun e=>e.IP.v==q.IP.v) (fun e=>decide (q.IP.v<e.IP.v)) q l
def aBS (f:cH) (l:List cH):List cH:=wI (fun e=>decide (e.MAC=f.MAC)) (fun e=>decide (eN f.MAC<eN e.MAC)) f l
/-! plans -/
structure TB where
  R:List bD
  N:List bA
  F:List cH
def uY (host:Int) (t:TB) (x:TLease):TB :=
  if !iR x.Subnet then t else if x.Host.v==host then ⟨iB bS t.R ⟨x.Subnet,⟨0,rfl⟩,true⟩,t.N,t.F⟩
  else ⟨iB bS t.R ⟨x.Subnet,x.Subnet.Addr,false⟩,iB bB t.N ⟨x.Subnet.Addr,x.MAC⟩,iB bY t.F ⟨x.MAC,x.Pub⟩⟩
@[irreducible] def hZ (l:List TLease) (host:Int) (k:Nat):TB:=(l.take k).foldl (uY host) ⟨[],[],[]⟩
def nD (l:List TLease) (host:Int):TB:=l.foldl (uY host) ⟨[],[],[]⟩
theorem aAA {l:List TLease} {host:Int} {k:Nat} {e:TLease} (h:l[k]?=some e):hZ l host (k+1)=uY host (hZ l host k) e:=by
  unfold hZ
  rw[List.take_add_one,h]
  simp
theorem aHF {l:List TLease} {host:Int}:hZ l host 0=⟨[],[],[]⟩:=by unfold hZ;rfl
section
variable {l:List TLease} {host:Int} {k:Nat} {e:TLease}
theorem aCB (h:l[k]?=some e) (hv:(!iR e.Subnet)=true):hZ l host (k+1)=hZ l host k:=by
  rw[aAA h,uY,hv];rfl
theorem aCC (h:l[k]?=some e) (hv:(!iR e.Subnet)=false) (hh:(e.Host.v==host)=true):hZ l host (k+1)=⟨iB bS (hZ l host k).R ⟨e.Subnet,⟨0,rfl⟩,true⟩,(hZ l host k).N,(hZ l host k).F⟩:=by
  rw[aAA h,uY,hv,hh];rfl
theorem aCA (h:l[k]?=some e) (hv:(!iR e.Subnet)=false) (hh:(e.Host.v==host)=false):hZ l host (k+1)=⟨iB bS (hZ l host k).R ⟨e.Subnet,e.Subnet.Addr,false⟩,iB bB (hZ l host k).N ⟨e.Subnet.Addr,e.MAC⟩,iB bY (hZ l host k).F ⟨e.MAC,e.Pub⟩⟩:=by
  rw[aAA h,uY,hv,hh];rfl
end
theorem yW {l:List TLease} {host:Int} {k:Nat} (h:l.length<=k):hZ l host k=nD l host:=by
  unfold hZ nD
  rw[List.take_of_length_le h]
theorem rE {α:Type} (c:α->α->Fx .i64) (l:List α) (x:α):(iB c l x).length<=l.length+1:=by
  unfold iB
  have:=tQ (fun e=>(c e x).v) l
  split <;> simp <;> omega
theorem aN4 (host:Int) (t:TB) (x:TLease):(uY host t x).R.length<=t.R.length+1/\(uY host t x).N.length<=t.N.length+1/\(uY host t x).F.length<=t.F.length+1:=by
  unfold uY
  split
  · exact⟨by omega,by omega,by omega⟩
  · split
    · exact⟨rE _ _ _,Nat.le_succ _,Nat.le_succ _⟩
    · exact⟨rE _ _ _,rE _ _ _,rE _ _ _⟩
theorem aD1 {f:TB->TLease->TB} (hf:∀ t x,(f t x).R.length<=t.R.length+1/\(f t x).N.length<=t.N.length+1/\(f t x).F.length<=t.F.length+1):∀ (l:List TLease) (t:TB),(l.foldl f t).R.length<=t.R.length+l.length/\(l.foldl f t).N.length<=t.N.length+l.length/\(l.foldl f t).F.length<=t.F.length+l.length
  | [],t=>by simp
  | x::l,t=>by
    have h1:=hf t x
    have h2:=aD1 hf l (f t x)
    simp only[List.foldl_cons,List.length_cons]
    omega
theorem aF0 (l:List TLease) (host:Int) (k:Nat):(hZ l host k).R.length<=l.length/\(hZ l host k).N.length<=l.length/\(hZ l host k).F.length<=l.length:=by
  have:=aD1 (aN4 host) (l.take k) ⟨[],[],[]⟩
  unfold hZ
  simp at this
  omega
def wG (host:Int) (t:TB) (x:TLease):TB :=
  if !iZ x.Subnet then t else if x.Host.v==host then ⟨nW ⟨x.Subnet,⟨0,rfl⟩,true⟩ t.R,t.N,t.F⟩
  else ⟨nW ⟨x.Subnet,x.Subnet.Addr,false⟩ t.R,pY ⟨x.Subnet.Addr,x.MAC⟩ t.N,aBS ⟨x.MAC,x.Pub⟩ t.F⟩
@[irreducible] def eT (l:List TLease) (host:Int) (k:Nat):TB:=((l.drop k).reverse).foldl (wG host) ⟨[],[],[]⟩
def mF (l:List TLease) (host:Int):TB:=eT l host 0
theorem yB {l:List TLease} {host:Int} {k:Nat} {e:TLease} (h:l[((k:Int)-1).toNat]?=some e) (hk:0<k):eT l host (k-1)=wG host (eT l host k) e:=by
  have e1:((k:Int)-1).toNat=k-1:=by omega
  rw[e1] at h
  obtain⟨hlt,rfl⟩:=List.getElem?_eq_some_iff.1 h
  unfold eT
  rw[List.drop_eq_getElem_cons hlt,List.reverse_cons,List.foldl_append,show k-1+1=k by omega]
  rfl
theorem aEO {l:List TLease} {host:Int}:eT l host l.length=⟨[],[],[]⟩:=by unfold eT;simp
section
variable {l:List TLease} {host:Int} {k:Nat} {e:TLease}
theorem aAC (h:l[((k:Int)-1).toNat]?=some e) (hk:0<k) (hv:(!iZ e.Subnet)=true):eT l host (k-1)=eT l host k:=by
  rw[yB h hk,wG,hv];rfl
theorem aAD (h:l[((k:Int)-1).toNat]?=some e) (hk:0<k) (hv:(!iZ e.Subnet)=false) (hh:(e.Host.v==host)=true):eT l host (k-1)=⟨nW ⟨e.Subnet,⟨0,rfl⟩,true⟩ (eT l host k).R,(eT l host k).N,(eT l host k).F⟩:=by
  rw[yB h hk,wG,hv,hh];rfl
theorem aAB (h:l[((k:Int)-1).toNat]?=some e) (hk:0<k) (hv:(!iZ e.Subnet)=false) (hh:(e.Host.v==host)=false):eT l host (k-1)=⟨nW ⟨e.Subnet,e.Subnet.Addr,false⟩ (eT l host k).R,pY ⟨e.Subnet.Addr,e.MAC⟩ (eT l host k).N,aBS ⟨e.MAC,e.Pub⟩ (eT l host k).F⟩:=by
  rw[yB h hk,wG,hv,hh];rfl
end
theorem zA {α:Type} {eq lw:α->Bool} {x:α} {l:List α}:(wI eq lw x l).length<=l.length+1:=by
  have:=yS lw x l ([],false)
  unfold wI fX
  simp at this
  split
  · omega
  · split
    · omega
    · rename_i h2
      simp
      have h3:∀ (l:List α) (a:List α×Bool),a.2=false->(l.foldl (nE lw x) a).2=false->(l.foldl (nE lw x) a).1.length<=a.1.length+l.length:=by
        intro l
        induction l with
        | nil=>intro a _ _;simp
        | cons e l ih =>
          intro a ha hb
          simp only[List.foldl_cons,List.length_cons] at hb ⊢
          have hst:(nE lw x a e).2=false:=by
            cases hq:(nE lw x a e).2
            · rfl
            · exfalso
              have hk:∀ (l:List α) (a:List α×Bool),a.2=true->(l.foldl (nE lw x) a).2=true:=by
                intro l
                induction l with
                | nil=>intro a h;exact h
                | cons e l ih=>intro a h;simp only[List.foldl_cons];exact ih _ (by simp [nE,h])
              rw[hk l _ hq] at hb
              cases hb
          have:=ih _ hst hb
          have hl:(nE lw x a e).1.length<=a.1.length+1:=by
            unfold nE at hst ⊢
            split at hst
            · cases hst
            · rename_i hc
              rw[if_neg hc];simp
          omega
      have:=h3 l ([],false) rfl (by simpa [fX] using h2)
      simpa using this
theorem aN5 (host:Int) (t:TB) (x:TLease):(wG host t x).R.length<=t.R.length+1/\(wG host t x).N.length<=t.N.length+1/\(wG host t x).F.length<=t.F.length+1:=by
  unfold wG
  split
  · exact⟨by omega,by omega,by omega⟩
  · split
    · exact⟨zA,Nat.le_succ _,Nat.le_succ _⟩
    · exact⟨zA,zA,zA⟩
theorem aK3 (l:List TLease) (host:Int) (k:Nat):(eT l host k).R.length<=l.length/\(eT l host k).N.length<=l.length/\(eT l host k).F.length<=l.length:=by
  have:=aD1 (aN5 host) (l.drop k).reverse ⟨[],[],[]⟩
  unfold eT
  simp only[List.length_reverse,List.length_drop,List.length_nil,Nat.zero_add] at this
  omega
theorem aJG {l:List TLease} {k:Nat} {h:IntKind.i64.wrap (201+(k:Int))=201+(k:Int)} (hk:k<70):pI l k++[⟨⟨201+(k:Int),h⟩,⟨⟨0,rfl⟩,⟨0,rfl⟩⟩,⟨0,rfl⟩,⟨⟨0,rfl⟩,⟨0,rfl⟩,⟨0,rfl⟩,⟨0,rfl⟩,⟨0,rfl⟩,⟨0,rfl⟩⟩,⟨0,rfl⟩,⟨0,rfl⟩⟩]=pI l (k+1):=by
  simp only[pI,List.range_succ,List.map_append,List.map_cons,List.map_nil,List.append_assoc]
  congr 3
  simp only[List.cons.injEq,TLease.mk.injEq,and_true]
  exact Fx.ext h.symm
theorem aNY {l:List TLease} {k:Nat} (hk:k=70):pI l k=lN l:=by subst hk;rfl
end Go.Proofs.YtnbpodjbemfpbaaGreat.Fw
set_option linter.all false
namespace Go.Proofs.YtnbpodjbemfpbaaGreat.Fw
open Go
theorem aLB (l:List TLease):(lN l).length=l.length+70:=by simp [lN,pI]
/-! keyed lists -/
structure KO (κ:Type) [DecidableEq κ] (lt:κ->κ->Bool):Prop where
  irr:∀ a,lt a a=false
  tr:∀ a b c,lt a b=true->lt b c=true->lt a c=true
  tri:∀ a b,lt a b=false->lt b a=false->a=b
section
variable {α κ:Type} [DecidableEq κ] {lt:κ->κ->Bool} (O:KO κ lt) (key:α->κ)
def nF (lt:κ->κ->Bool) (key:α->κ) (l:List α):Prop:=l.Pairwise fun a b=>lt (key a) (key b)=true
def put (lt:κ->κ->Bool) (key:α->κ) (x:α):List α->List α
  | []=>[x]
  | e::r=>if lt (key x) (key e) then x::e::r else if key e=key x then x::r else e::put lt key x r
def lZ (key:α->κ) (q:κ) (l:List α):Option α:=l.find? fun e=>decide (key e=q)
include O in
theorem vV {q:κ} {l:List α} (h:∀ e ∈ l,lt q (key e)=true):lZ key q l=none:=by
  simp only[lZ,List.find?_eq_none,decide_eq_true_eq]
  intro e he hk
  have:=h e he
  rw[hk,O.irr] at this
  cases this
include O in
theorem aDI:∀ {l m:List α},nF lt key l->nF lt key m->(∀ q,lZ key q l=lZ key q m)->l=m
  | [],[],_,_,_=>rfl
  | [],b::m,_,_,h=>by have:=h (key b);simp [lZ] at this
  | a::l,[],_,_,h=>by have:=h (key a);simp [lZ] at this
  | a::l,b::m,hl,hm,h=>by
    have hl':=List.pairwise_cons.1 hl
    have hm':=List.pairwise_cons.1 hm
    have hab:key a=key b:=by
      apply O.tri
      · cases hc:lt (key a) (key b) with
        | false=>rfl
        | true =>
          have h1:=h (key a)
          rw[vV O key (q:=key a) (l:=b::m)] at h1
          · simp [lZ] at h1
          · intro e he
            rcases List.mem_cons.1 he with rfl|he
            · exact hc
            · exact O.tr _ _ _ hc (hm'.1 e he)
      · cases hc:lt (key b) (key a) with
        | false=>rfl
        | true =>
          have h1:=h (key b)
          rw[vV O key (q:=key b) (l:=a::l)] at h1
          · simp [lZ] at h1
          · intro e he
            rcases List.mem_cons.1 he with rfl|he
            · exact hc
            · exact O.tr _ _ _ hc (hl'.1 e he)
    have hab':a=b:=by
      have h1:=h (key a)
      simp only[lZ,List.find?_cons,hab,decide_true] at h1
      simpa using h1
    subst hab'
    congr 1
    refine aDI hl'.2 hm'.2 fun q=>?_
    by_cases hq:key a=q
    · subst hq
      rw[vV O key hl'.1,vV O key hm'.1]
    · have h1:=h q
      simpa [lZ,List.find?_cons,hq] using h1
theorem aHG {x e:α}:∀ {l:List α},e ∈ put lt key x l->e=x\/e ∈ l
  | [],h=>by simpa [put] using h
  | a::l,h=>by
    simp only[put] at h
    split at h
    · simpa using h
    · split at h
      · rcases List.mem_cons.1 h with h|h
        · exact .inl h
        · exact .inr (by simp [h])
      · rcases List.mem_cons.1 h with h|h
        · exact .inr (by simp [h])
        · rcases aHG h with h|h
          · exact .inl h
          · exact .inr (by simp [h])
include O in
theorem pF {x:α}:∀ {l:List α},nF lt key l->nF lt key (put lt key x l)
  | [],_=>by simp [put,nF]
  | a::l,h=>by
    have h':=List.pairwise_cons.1 h
    simp only[put]
    split
    · rename_i hc
      refine List.pairwise_cons.2 ⟨fun e he=>?_,h⟩
      rcases List.mem_cons.1 he with rfl|he
      · exact hc
      · exact O.tr _ _ _ hc (h'.1 e he)
    · rename_i hc
      split
      · rename_i hk
        exact List.pairwise_cons.2 ⟨fun e he=>by rw[<-hk];exact h'.1 e he,h'.2⟩
      · rename_i hk
        refine List.pairwise_cons.2 ⟨fun e he=>?_,pF h'.2⟩
        rcases aHG key he with rfl|he
        · cases hq:lt (key a) (key e) with
          | true=>rfl
          | false=>exact absurd (O.tri _ _ hq (by simpa using hc)) hk
        · exact h'.1 e he
include O in
theorem wY {x:α} {q:κ}:∀ {l:List α},nF lt key l->lZ key q (put lt key x l)=if key x=q then some x else lZ key q l
  | [],_=>by simp [put,lZ,List.find?_cons];split <;> simp_all
  | a::l,h=>by
    have h':=List.pairwise_cons.1 h
    simp only[put]
    split
    · simp only[lZ,List.find?_cons]
      by_cases hq:key x=q <;> simp [hq]
    · rename_i hc
      split
      · rename_i hk
        simp only[lZ,List.find?_cons]
        by_cases hq:key x=q
        · simp [hq]
        · simp [hq,hk]
      · rename_i hk
        have ih:=wY (x:=x) (q:=q) h'.2
        simp only[lZ] at ih
        simp only[lZ,List.find?_cons,ih]
        by_cases hq:key x=q
        · subst hq
          simp [hk]
        · simp [hq]
def aCD (lt:κ->κ->Bool) (key:α->κ) (x:α) (l:List α):List α:=if l.any fun e=>decide (key e=key x) then l else put lt key x l
include O in
theorem aQL {x:α} {l:List α} (h:nF lt key l):nF lt key (aCD lt key x l):=by
  unfold aCD
  split
  · exact h
  · exact pF O key h
include O in
theorem aQK {x:α} {q:κ} {l:List α} (h:nF lt key l):lZ key q (aCD lt key x l)=(lZ key q l).or (if key x=q then some x else none):=by
  unfold aCD
  split
  · rename_i ha
    by_cases hq:key x=q
    · subst hq
      obtain⟨e,he,hk⟩:=List.any_eq_true.1 ha
      cases hl:lZ key (key x) l with
      | none =>
        simp only[lZ,List.find?_eq_none] at hl
        exact absurd hk (hl e he)
      | some y=>simp
    · simp [hq]
  · rename_i ha
    rw[wY O key h]
    by_cases hq:key x=q
    · subst hq
      have:lZ key (key x) l=none:=by
        simp only[lZ,List.find?_eq_none]
        intro e he hk
        exact ha (List.any_eq_true.2 ⟨e,he,hk⟩)
      simp [this]
    · simp [hq]
include O in
theorem xO (l:List α):l.foldl (fun t y=>put lt key y t) []=l.reverse.foldl (fun t y=>aCD lt key y t) []:=by
  have h1:∀ (l t:List α),nF lt key t->nF lt key (l.foldl (fun t y=>put lt key y t) t)/\∀ q,lZ key q (l.foldl (fun t y=>put lt key y t) t)=(lZ key q l.reverse).or (lZ key q t):=by
    intro l
    induction l with
    | nil=>intro t h;exact⟨h,fun q=>by simp [lZ]⟩
    | cons y l ih =>
      intro t h
      have:=ih _ (pF O key (x:=y) h)
      refine⟨this.1,fun q=>?_⟩
      simp only[List.foldl_cons]
      rw[this.2 q,wY O key h]
      simp only[lZ,List.reverse_cons,List.find?_append,List.find?_cons,List.find?_nil]
      by_cases hq:key y=q <;> simp [hq]
  have h2:∀ (l t:List α),nF lt key t->nF lt key (l.foldl (fun t y=>aCD lt key y t) t)/\∀ q,lZ key q (l.foldl (fun t y=>aCD lt key y t) t)=(lZ key q t).or (lZ key q l):=by
    intro l
    induction l with
    | nil=>intro t h;exact⟨h,fun q=>by simp [lZ]⟩
    | cons y l ih =>
      intro t h
      have:=ih _ (aQL O key (x:=y) h)
      refine⟨this.1,fun q=>?_⟩
      simp only[List.foldl_cons]
      rw[this.2 q,aQK O key h]
      simp only[lZ,List.find?_cons]
      by_cases hq:key y=q <;> simp [hq]
  have a:=h1 l [] (by simp [nF])
  have b:=h2 l.reverse [] (by simp [nF])
  exact aDI O key a.1 b.1 fun q=>by rw[a.2,b.2];simp [lZ]
/-! the program's set -/
theorem aAS {f:α->Int} {l:List α} {p:Nat} (hp:p<=l.length) (h1:∀ k e,k<p->l[k]?=some e->f e<0) (h2:∀ k e,p<=k->l[k]?=some e->¬ f e<0):∀ n i j,i<=p->p<=j->j<=l.length->j-i<=n->bsF f l n i j=p
  | 0,i,j,hi,hj,hl,hn=>by simp only[bsF];omega
  | n+1,i,j,hi,hj,hl,hn=>by
    simp only[bsF]
    by_cases h:i<j
    · rw[if_pos h]
      have hlt:(i+j) / 2<l.length:=by omega
      rw[List.getElem?_eq_getElem hlt]
      simp only
      by_cases hc:(i+j) / 2<p
      · rw[if_pos (h1 _ _ hc (List.getElem?_eq_getElem hlt))]
        exact aAS hp h1 h2 n _ j (by omega) hj hl (by omega)
      · rw[if_neg (h2 _ _ (by omega) (List.getElem?_eq_getElem hlt))]
        exact aAS hp h1 h2 n i _ hi (by omega) (by omega) (by omega)
    · rw[if_neg h];omega
theorem aMH {x:α}:∀ {a b:List α},(∀ e ∈ a,lt (key x) (key e)=false/\key e≠key x)->put lt key x (a++b)=a++put lt key x b
  | [],b,_=>rfl
  | e::a,b,h=>by
    have:=h e (by simp)
    simp only[List.cons_append,put,this.1,this.2,if_false,Bool.false_eq_true]
    rw[aMH fun e he=>h e (by simp [he])]
include O in
theorem oW {c:α->α->Fx .i64} (hc1:∀ e x,(c e x).v<0 ↔ lt (key e) (key x)=true) (hc0:∀ e x,(c e x).v=0 ↔ key e=key x) {l:List α} {x:α} (h:nF lt key l):iB c l x=put lt key x l:=by
  -- the place
  obtain⟨a,b,rfl,ha,hb⟩:∃ a b,l=a++b/\(∀ e ∈ a,lt (key e) (key x)=true)/\(∀ e ∈ b,lt (key e) (key x)=false):=by
    induction l with
    | nil=>exact⟨[],[],rfl,by simp,by simp⟩
    | cons e l ih =>
      have h':=List.pairwise_cons.1 h
      cases hq:lt (key e) (key x) with
      | true =>
        obtain⟨a,b,rfl,ha,hb⟩:=ih h'.2
        exact⟨e::a,b,rfl,by simp only[List.mem_cons];rintro y (rfl|hy);exact hq;exact ha y hy,hb⟩
      | false =>
        refine⟨[],e::l,rfl,by simp,?_⟩
        simp only[List.mem_cons]
        rintro y (rfl|hy)
        · exact hq
        · cases hz:lt (key y) (key x) with
          | false=>rfl
          | true =>
            have:=O.tr _ _ _ (h'.1 y hy) hz
            rw[hq] at this
            cases this
  have hbs:mR (fun e=>(c e x).v) (a++b)=a.length:=by
    unfold mR
    refine aAS (by simp) (fun k e hk he=>?_) (fun k e hk he=>?_) _ _ _ (by omega) (by simp) (by omega) (by omega)
    · rw[List.getElem?_append_left hk] at he
      exact(hc1 _ _).2 (ha e (List.mem_of_getElem? he))
    · rw[List.getElem?_append_right hk] at he
      rw[hc1,hb e (List.mem_of_getElem? he)]
      simp
  have hput:put lt key x (a++b)=a++put lt key x b:=aMH key fun e he=>by
    have h1:=ha e he
    refine⟨?_,fun hk=>?_⟩
    · cases hq:lt (key x) (key e) with
      | false=>rfl
      | true =>
        have:=O.tr _ _ _ h1 hq
        rw[O.irr] at this
        cases this
    · rw[hk,O.irr] at h1
      cases h1
  have hhit:fL c (a++b) x=match b with
      | []=>false
      | e::_=>decide (key e=key x):=by
    unfold fL
    rw[hbs]
    cases b with
    | nil=>simp
    | cons e b =>
      simp
      by_cases hk:key e=key x
      · simp [hk,(hc0 e x).2 hk]
      · have:=fun h=>hk ((hc0 e x).1 h)
        simp [hk]
        exact this
  rw[hput]
  unfold iB
  rw[hbs,hhit]
  cases b with
  | nil=>simp [put]
  | cons e b =>
    have he:=hb e (by simp)
    by_cases hk:key e=key x
    · have hx:lt (key x) (key e)=false:=by rw[hk,O.irr]
      simp [hk,put,O.irr]
    · have hx:lt (key x) (key e)=true:=by
        cases hq:lt (key x) (key e) with
        | true=>rfl
        | false=>exact absurd (O.tri _ _ he hq) hk
      simp [hk,put,hx]
theorem aAI {lw:α->Bool} {x:α}:∀ (l acc:List α),l.foldl (nE lw x) (acc,true)=(acc++l,true)
  | [],acc=>by simp
  | e::l,acc=>by
    simp only[List.foldl_cons,nE,Bool.not_true,Bool.false_and,Bool.false_eq_true,if_false]
    rw[aAI l]
    simp
theorem aGQ {x:α}:∀ (l acc:List α),(∀ e ∈ l,key e≠key x)->(if (l.foldl (nE (fun e=>lt (key x) (key e)) x) (acc,false)).2 then (l.foldl (nE (fun e=>lt (key x) (key e)) x) (acc,false)).1 else (l.foldl (nE (fun e=>lt (key x) (key e)) x) (acc,false)).1++[x])=acc++put lt key x l
  | [],acc,_=>by simp [put]
  | e::l,acc,h=>by
    simp only[List.foldl_cons,nE,Bool.not_false,Bool.true_and,put]
    by_cases hc:lt (key x) (key e)=true
    · simp only[hc,if_true]
      rw[aAI]
      simp
    · simp only[hc,if_false,h e (by simp),Bool.false_eq_true]
      have:=aGQ l (acc++[e]) (fun e he=>h e (by simp [he]))
      rw[this]
      simp
theorem tO {x:α} {l:List α} {eq lw:α->Bool} (he:eq=fun e=>decide (key e=key x)) (hl:lw=fun e=>lt (key x) (key e)):wI eq lw x l=aCD lt key x l:=by
  subst he hl
  unfold wI aCD
  split
  · rfl
  · rename_i ha
    have:=aGQ (lt:=lt) key (x:=x) l [] (fun e he hk=>ha (List.any_eq_true.2 ⟨e,he,by simpa using hk⟩))
    unfold fX
    rw[this]
    rfl
end
/-! the keys -/
theorem aPM {k:IntKind} {a b:Fx k} (h1:¬ a.v<b.v) (h2:¬ b.v<a.v):a=b:=Fx.ext (by omega)
theorem koPrefix:KO aT cL:=by
  refine⟨fun a=>?_,fun a b c h1 h2=>?_,fun a b h1 h2=>?_⟩
  · simp [cL]
  · simp only[cL,Bool.or_eq_true,Bool.and_eq_true,decide_eq_true_eq,beq_iff_eq] at h1 h2 ⊢
    omega
  · simp only[cL,Bool.or_eq_false_iff,Bool.and_eq_false_iff,decide_eq_false_iff_not,beq_eq_false_iff_ne] at h1 h2
    obtain⟨a1,a2⟩:=a
    obtain⟨b1,b2⟩:=b
    simp only at h1 h2
    have e1:a1=b1:=aPM h1.1 h2.1
    subst e1
    have e2:a2=b2:=aPM (by have:=h1.2;simp at this;omega) (by have:=h2.2;simp at this;omega)
    rw[e2]
theorem qV:KO (Fx .u32) fun a b=>decide (a.v<b.v):=by
  refine⟨fun a=>by simp,fun a b c h1 h2=>?_,fun a b h1 h2=>?_⟩
  · simp only[decide_eq_true_eq] at *; omega
  · simp only[decide_eq_false_iff_not] at *; exact aPM h1 h2
theorem aLP {a b:cK} (h:eN a=eN b):a=b:=by
  obtain⟨a0,a1,a2,a3,a4,a5⟩:=a
  obtain⟨b0,b1,b2,b3,b4,b5⟩:=b
  unfold eN at h
  simp only at h
  have:=a0.u8;have:=a1.u8;have:=a2.u8;have:=a3.u8;have:=a4.u8;have:=a5.u8
  have:=b0.u8;have:=b1.u8;have:=b2.u8;have:=b3.u8;have:=b4.u8;have:=b5.u8
  have e0:a0=b0:=Fx.ext (by omega)
  have e1:a1=b1:=Fx.ext (by omega)
  have e2:a2=b2:=Fx.ext (by omega)
  have e3:a3=b3:=Fx.ext (by omega)
  have e4:a4=b4:=Fx.ext (by omega)
  have e5:a5=b5:=Fx.ext (by omega)
  rw[e0,e1,e2,e3,e4,e5]
theorem uR:KO cK fun a b=>decide (eN a<eN b):=by
  refine⟨fun a=>by simp,fun a b c h1 h2=>?_,fun a b h1 h2=>?_⟩
  · simp only[decide_eq_true_eq] at *; omega
  · simp only[decide_eq_false_iff_not] at *; exact aLP (by omega)
theorem qS (x y:aT):(dH x y).v<0 ↔ cL x y=true:=by
  have h1:=qR x.Addr.v y.Addr.v
  have h2:=qR x.Len.v y.Len.v
  simp only[dH,orM,cL,Bool.or_eq_true,Bool.and_eq_true,decide_eq_true_eq,beq_iff_eq]
  split
  · split
    · simp only;rw[h1] at *; rw[h2] at *; split at * <;> (try split at*) <;> omega
    · rw[h1] at *; rw[h2] at *; split at * <;> (try split at*) <;> (try split at*) <;> omega
  · rw[h1] at *; split at * <;> (try split at*) <;> omega
theorem tA (x y:aT):(dH x y).v=0 ↔ x=y:=by
  have h1:=qR x.Addr.v y.Addr.v
  have h2:=qR x.Len.v y.Len.v
  constructor
  · intro h
    apply koPrefix.tri
    · cases hq:cL x y with
      | false=>rfl
      | true=>have:=(qS x y).2 hq;omega
    · cases hq:cL y x with
      | false=>rfl
      | true =>
        simp only[cL,Bool.or_eq_true,Bool.and_eq_true,decide_eq_true_eq,beq_iff_eq] at hq
        simp only[dH,orM] at h
        split at h
        · split at h
          · rw[h1] at *; rw[h2] at *; split at * <;> (try split at*) <;> (try split at*) <;> omega
          · rw[h1] at *; rw[h2] at *; split at * <;> (try split at*) <;> (try split at*) <;> omega
        · rw[h1] at *; split at * <;> (try split at*) <;> omega
  · rintro rfl
    have e1:(rP x.Addr.v x.Addr.v).v=0:=by rw[qR];simp
    have e2:(rP x.Len.v x.Len.v).v=0:=by rw[qR];simp
    simp [dH,orM,e1,e2]
theorem aL0 (a b:Int):(rP a b).v<0 ↔ a<b:=by rw[qR];split <;> (try split) <;> omega
theorem aLZ (a b:Int):(rP a b).v=0 ↔ a=b:=by rw[qR];split <;> (try split) <;> omega
end Go.Proofs.YtnbpodjbemfpbaaGreat.Fw
set_option linter.all false
set_option maxRecDepth 100000
namespace Go.Proofs.YtnbpodjbemfpbaaGreat.Fw
open Go
theorem a2D {a b:Fx .u8}:(a.v.toNat.toUInt8 !=b.v.toNat.toUInt8)=decide (a.v≠b.v):=by
  have h1:=a.u8
  have h2:=b.u8
  by_cases h:a.v=b.v
  · simp [h]
  · have:¬ a.v.toNat.toUInt8=b.v.toNat.toUInt8:=by
      intro e
      have:=congrArg UInt8.toNat e
      simp at this
      omega
    simp [h,this]
theorem aGD {a b:Fx .u8}:(a.v.toNat.toUInt8<b.v.toNat.toUInt8) ↔ a.v<b.v:=by
  have h1:=a.u8
  have h2:=b.u8
  rw[UInt8.lt_iff_toNat_lt]
  simp
  omega
theorem aDS (x y:cK):aDR (zW x) (zW y)=if x.b0.v≠y.b0.v then (if x.b0.v<y.b0.v then -1 else 1) else if x.b1.v≠y.b1.v then (if x.b1.v<y.b1.v then -1 else 1) else if x.b2.v≠y.b2.v then (if x.b2.v<y.b2.v then -1 else 1)
    else if x.b3.v≠y.b3.v then (if x.b3.v<y.b3.v then -1 else 1) else if x.b4.v≠y.b4.v then (if x.b4.v<y.b4.v then -1 else 1) else if x.b5.v≠y.b5.v then (if x.b5.v<y.b5.v then -1 else 1) else 0:=by
  have hs:∀ z:cK,(⟨(qQ (zW z)).toArray⟩:ByteArray).size=6:=fun z=>rfl
  have g0:∀ z:cK,(⟨(qQ (zW z)).toArray⟩:ByteArray)[0]! = z.b0.v.toNat.toUInt8:=fun z=>rfl
  have g1:∀ z:cK,(⟨(qQ (zW z)).toArray⟩:ByteArray)[1]! = z.b1.v.toNat.toUInt8:=fun z=>rfl
  have g2:∀ z:cK,(⟨(qQ (zW z)).toArray⟩:ByteArray)[2]! = z.b2.v.toNat.toUInt8:=fun z=>rfl
  have g3:∀ z:cK,(⟨(qQ (zW z)).toArray⟩:ByteArray)[3]! = z.b3.v.toNat.toUInt8:=fun z=>rfl
  have g4:∀ z:cK,(⟨(qQ (zW z)).toArray⟩:ByteArray)[4]! = z.b4.v.toNat.toUInt8:=fun z=>rfl
  have g5:∀ z:cK,(⟨(qQ (zW z)).toArray⟩:ByteArray)[5]! = z.b5.v.toNat.toUInt8:=fun z=>rfl
  have hr:List.range (min 6 6)=[0,1,2,3,4,5]:=rfl
  unfold aDR Extern.BytealgCompare.cmp
  rw[hs,hs,hr]
  simp only[List.find?_cons,List.find?_nil,g0,g1,g2,g3,g4,g5,a2D]
  by_cases h0:x.b0.v=y.b0.v
  · by_cases h1:x.b1.v=y.b1.v
    · by_cases h2:x.b2.v=y.b2.v
      · by_cases h3:x.b3.v=y.b3.v
        · by_cases h4:x.b4.v=y.b4.v
          · by_cases h5:x.b5.v=y.b5.v
            · simp [h0,h1,h2,h3,h4,h5]
            · simp [h0,h1,h2,h3,h4,h5,g5,aGD]
          · simp [h0,h1,h2,h3,h4,g4,aGD]
        · simp [h0,h1,h2,h3,g3,aGD]
      · simp [h0,h1,h2,g2,aGD]
    · simp [h0,h1,g1,aGD]
  · simp [h0,g0,aGD]
theorem aFP (x y:cK):aDR (zW x) (zW y)<0 ↔ eN x<eN y:=by
  rw[aDS]
  unfold eN
  have:=x.b0.u8;have:=x.b1.u8;have:=x.b2.u8;have:=x.b3.u8;have:=x.b4.u8;have:=x.b5.u8
  have:=y.b0.u8;have:=y.b1.u8;have:=y.b2.u8;have:=y.b3.u8;have:=y.b4.u8;have:=y.b5.u8
  split
  · split <;> omega
  · split
    · split <;> omega
    · split
      · split <;> omega
      · split
        · split <;> omega
        · split
          · split <;> omega
          · split
            · split <;> omega
            · omega
theorem aFO (x y:cK):aDR (zW x) (zW y)=0 ↔ x=y:=by
  constructor
  · intro h
    rw[aDS] at h
    obtain⟨a0,a1,a2,a3,a4,a5⟩:=x
    obtain⟨b0,b1,b2,b3,b4,b5⟩:=y
    simp only at h
    by_cases h0:a0.v=b0.v
    · by_cases h1:a1.v=b1.v
      · by_cases h2:a2.v=b2.v
        · by_cases h3:a3.v=b3.v
          · by_cases h4:a4.v=b4.v
            · by_cases h5:a5.v=b5.v
              · rw[Fx.ext h0,Fx.ext h1,Fx.ext h2,Fx.ext h3,Fx.ext h4,Fx.ext h5]
              · simp [h0,h1,h2,h3,h4,h5] at h;split at h <;> omega
            · simp [h0,h1,h2,h3,h4] at h;split at h <;> omega
          · simp [h0,h1,h2,h3] at h;split at h <;> omega
        · simp [h0,h1,h2] at h;split at h <;> omega
      · simp [h0,h1] at h;split at h <;> omega
    · simp [h0] at h;split at h <;> omega
  · rintro rfl
    rw[aDS]
    simp
/-! valid prefixes -/
theorem aNL:∀ k:Fin 33,(~~~BitVec.ofInt 32 (zI (32-(k.val:Int)))).toNat=2 ^ k.val-1:=by decide+kernel
theorem rG (p:aT):iR p=iZ p:=by
  unfold iR iZ tT tU
  by_cases h:p.Len.v<0\/p.Len.v>32
  · simp [h]
  · simp only[h,if_false]
    have ha:=p.Addr.u32
    obtain⟨k,hk1,hk2⟩:∃ k:Nat,(k:Int)=32-p.Len.v/\k<=32:=⟨(32-p.Len.v).toNat,by omega,by omega⟩
    have hm:=aNL ⟨k,by omega⟩
    simp only at hm
    rw[show (32:Int)-(k:Int)=p.Len.v by omega] at hm
    have hk3:(32-p.Len.v).toNat=k:=by omega
    rw[hk3]
    obtain⟨m,hm1,hm2⟩:∃ m:Nat,(m:Int)=p.Addr.v/\m<2 ^ 32:=⟨p.Addr.v.toNat,by omega,by omega⟩
    rw[<-hm1]
    have e1:aAQ .u32 (m:Int) (zI p.Len.v)=((m % 2 ^ k:Nat):Int):=by
      unfold aAQ
      have e2:(BitVec.ofInt IntKind.u32.bits (m:Int) &&& ~~~BitVec.ofInt IntKind.u32.bits (zI p.Len.v)).toNat=m % 2 ^ k:=by
        show (BitVec.ofInt 32 (m:Int) &&& ~~~BitVec.ofInt 32 (zI p.Len.v)).toNat=_
        rw[BitVec.toNat_and,hm,Nat.and_two_pow_sub_one_eq_mod]
        congr 1
        simp [BitVec.toNat_ofInt]
        omega
      rw[e2]
      have:m % 2 ^ k<=m:=Nat.mod_le _ _
      exact lR (by omega) (by omega)
    rw[e1]
    have e3:Int.tmod (m:Int) ((2:Int) ^ k)=((m % 2 ^ k:Nat):Int):=by
      have:((2:Int) ^ k)=((2 ^ k:Nat):Int):=by simp
      rw[this]
      rfl
    rw[e3]
    by_cases hz:((m % 2 ^ k:Nat):Int)=0 <;> simp [hz]
/-! the plan -/
section
variable (host:Int)
def rOf (x:TLease):Option bD:=if !iR x.Subnet then none else if x.Host.v==host then some ⟨x.Subnet,⟨0,rfl⟩,true⟩ else some ⟨x.Subnet,x.Subnet.Addr,false⟩
def nOf (x:TLease):Option bA:=if !iR x.Subnet then none else if x.Host.v==host then none else some ⟨x.Subnet.Addr,x.MAC⟩
def fOf (x:TLease):Option cH:=if !iR x.Subnet then none else if x.Host.v==host then none else some ⟨x.MAC,x.Pub⟩
theorem a0X (l:List TLease):∀ t:TB,l.foldl (uY host) t=⟨(l.filterMap (rOf host)).foldl (fun t y=>iB bS t y) t.R,(l.filterMap (nOf host)).foldl (fun t y=>iB bB t y) t.N,(l.filterMap (fOf host)).foldl (fun t y=>iB bY t y) t.F⟩:=by
  induction l with
  | nil=>intro t;rfl
  | cons x l ih =>
    intro t
    rw[List.foldl_cons,ih]
    cases hv:iR x.Subnet with
    | false=>simp [uY,rOf,nOf,fOf,hv,List.filterMap_cons]
    | true =>
      cases hh:x.Host.v==host with
      | true=>simp [uY,rOf,nOf,fOf,hv,hh,List.filterMap_cons]
      | false=>simp [uY,rOf,nOf,fOf,hv,hh,List.filterMap_cons]
theorem a0Y (l:List TLease):∀ t:TB,l.foldl (wG host) t=⟨(l.filterMap (rOf host)).foldl (fun t y=>nW y t) t.R,(l.filterMap (nOf host)).foldl (fun t y=>pY y t) t.N,(l.filterMap (fOf host)).foldl (fun t y=>aBS y t) t.F⟩:=by
  induction l with
  | nil=>intro t;rfl
  | cons x l ih =>
    intro t
    rw[List.foldl_cons,ih]
    cases hv:iR x.Subnet with
    | false=>simp [wG,rOf,nOf,fOf,<-rG,hv,List.filterMap_cons]
    | true =>
      cases hh:x.Host.v==host with
      | true=>simp [wG,rOf,nOf,fOf,<-rG,hv,hh,List.filterMap_cons]
      | false=>simp [wG,rOf,nOf,fOf,<-rG,hv,hh,List.filterMap_cons]
end
theorem aAY {α κ:Type} [DecidableEq κ] {lt:κ->κ->Bool} (O:KO κ lt) (key:α->κ) {c:α->α->Fx .i64} (hc1:∀ e x,(c e x).v<0 ↔ lt (key e) (key x)=true) (hc0:∀ e x,(c e x).v=0 ↔ key e=key x) :
    ∀ (l t:List α),nF lt key t->l.foldl (fun t y=>iB c t y) t=l.foldl (fun t y=>put lt key y t) t/\nF lt key (l.foldl (fun t y=>iB c t y) t)
  | [],t,h=>⟨rfl,h⟩
  | y::l,t,h=>by
    have e:=oW O key hc1 hc0 (x:=y) h
    simp only[List.foldl_cons]
    rw[e]
    exact aAY O key hc1 hc0 l _ (pF O key h)
theorem aI8 (l:List TLease) (host:Int):nD l host=mF l host:=by
  unfold nD mF eT
  rw[List.drop_zero,a0X,a0Y]
  simp only[List.filterMap_reverse]
  have e1:∀ l:List bD,l.foldl (fun t y=>iB bS t y) []=l.reverse.foldl (fun t y=>nW y t) []:=by
    intro l
    rw[(aAY koPrefix (fun r:bD=>r.Dst) (c:=bS) (fun e x=>qS _ _) (fun e x=>tA _ _) l [] (by simp [nF])).1,xO koPrefix (fun r:bD=>r.Dst)]
    congr 1
    funext t y
    exact(tO (fun r:bD=>r.Dst) rfl rfl).symm
  have e2:∀ l:List bA,l.foldl (fun t y=>iB bB t y) []=l.reverse.foldl (fun t y=>pY y t) []:=by
    intro l
    rw[(aAY qV (fun r:bA=>r.IP) (c:=bB) (fun e x=>by simp only[bB,aL0,decide_eq_true_eq]) (fun e x=>by simp only[bB,aLZ];exact⟨fun h=>Fx.ext h,fun h=>by rw[h]⟩) l [] (by simp [nF])).1,xO qV (fun r:bA=>r.IP)]
    congr 1
    funext t y
    refine(tO (fun r:bA=>r.IP) ?_ rfl).symm
    funext e
    by_cases h:e.IP=y.IP
    · simp [h]
    · have:¬ e.IP.v=y.IP.v:=fun hv=>h (Fx.ext hv)
      simp [h,this]
  have e3:∀ l:List cH,l.foldl (fun t y=>iB bY t y) []=l.reverse.foldl (fun t y=>aBS y t) []:=by
    intro l
    rw[(aAY uR (fun r:cH=>r.MAC) (c:=bY) (fun e x=>by simp only[bY,aAV,aFP,decide_eq_true_eq]) (fun e x=>by simp only[bY,aAV,aFO]) l [] (by simp [nF])).1,xO uR (fun r:cH=>r.MAC)]
    congr 1
    funext t y
    exact(tO (fun r:cH=>r.MAC) rfl rfl).symm
  rw[e1,e2,e3]
end Go.Proofs.YtnbpodjbemfpbaaGreat.Fw
set_option linter.all false
namespace Go.Proofs.YtnbpodjbemfpbaaGreat.Fw
open Go
def tF (l:List bD) (i:Nat):Bool:=match l[i]? with
  | some r=>iR r.Dst
  | none=>true
theorem aN9 {l:List bD} {k:Nat} {e:bD} (h:l[k]?=some e) (hv:(!iR e.Dst)=false):tF l k=true:=by
  simp only[tF,h]
  simpa using hv
def iD (r:List bD) (n:List bA) (f:List cH):Bool:=pC (tF r) r.length&&(gV bS r&&gV bB n&&gV bY f)
theorem aNH {r:List bD} {n:List bA} {f:List cH} {k:Nat} {e:bD} (hk:k<r.length) (h:r[k]?=some e) (hv:(!iR e.Dst)=true):false=iD r n f:=by
  have:tF r k=false:=by
    simp only[tF,h]
    simpa using hv
  simp [iD,rO hk this]
theorem aNI {r:List bD} {n:List bA} {f:List cH} {k:Nat} (hk:r.length<=k/\k<=r.length) (h:pC (tF r) k=true):(gV bS r&&gV bB n&&gV bY f)=iD r n f:=by
  have:r.length=k:=by omega
  subst this
  simp [iD,h]
def oZ (n:List bA) (f:List cH) (r:bD):Tagent_way :=
  if fL bB n ⟨r.Via,kG⟩ then
    ⟨true,fL bY f ⟨(hH bB cW n ⟨r.Via,kG⟩).MAC,⟨0,rfl⟩⟩,(hH bB cW n ⟨r.Via,kG⟩).MAC,(hH bY gH f ⟨(hH bB cW n ⟨r.Via,kG⟩).MAC,⟨0,rfl⟩⟩).To⟩
  else ⟨false,false,kG,⟨0,rfl⟩⟩
theorem aYK {n:List bA} {f:List cH} {r:bD} (h:(!fL bB n ⟨r.Via,kG⟩)=true):(⟨false,false,kG,⟨0,rfl⟩⟩:Tagent_way)=oZ n f r:=by
  have:fL bB n ⟨r.Via,kG⟩=false:=by simpa using h
  simp [oZ,this]
theorem aYL {n:List bA} {f:List cH} {r:bD} (h:(!fL bB n ⟨r.Via,kG⟩)=false):(⟨true,fL bY f ⟨(hH bB cW n ⟨r.Via,kG⟩).MAC,⟨0,rfl⟩⟩,(hH bB cW n ⟨r.Via,kG⟩).MAC,(hH bY gH f ⟨(hH bB cW n ⟨r.Via,kG⟩).MAC,⟨0,rfl⟩⟩).To⟩:Tagent_way)=oZ n f r:=by
  have:fL bB n ⟨r.Via,kG⟩=true:=by simpa using h
  simp [oZ,this]
def cG (n1:List bA) (f1:List cH) (r2:List bD) (n2:List bA) (f2:List cH) (r:bD):Bool :=
  fL bS r2 r&&decide (hH bS gE r2 r=r)&&(r.Local || decide (oZ n1 f1 r=oZ n2 f2 r))
/-! the changes -/
def aL {α:Type} (p:α->Bool) (g:α->eV) (l:List α):List eV:=l.filterMap fun e=>if p e then some (g e) else none
section
variable {α:Type} {p:α->Bool} {g:α->eV} {l:List α} {k:Nat} {e:α} {A:List eV}
theorem pickM_0:A++aL p g (l.take 0)=A:=by simp [aL]
theorem nS (h:l[k]?=some e) (hp:p e=true):A++aL p g (l.take k)++[g e]=A++aL p g (l.take (k+1)):=by
  rw[List.take_add_one,h]
  simp [aL,List.filterMap_append,hp]
theorem nR (h:l[k]?=some e) (hp:p e=false):A++aL p g (l.take k)=A++aL p g (l.take (k+1)):=by
  rw[List.take_add_one,h]
  simp [aL,List.filterMap_append,hp]
theorem gA:(A++aL p g (l.take (k+1))).length<=(A++aL p g (l.take k)).length+1:=by
  cases h:l[k]? with
  | none =>
    rw[List.take_add_one,h]
    simp
  | some e =>
    cases hp:p e with
    | true=>rw[<-nS h hp];simp;omega
    | false=>rw[<-nR h hp];omega
end
def cR (r:bD):eV:=⟨⟨2,rfl⟩,r,cW,gH⟩
def gJ (x:bA):eV:=⟨⟨4,rfl⟩,gE,x,gH⟩
def iC (x:cH):eV:=⟨⟨6,rfl⟩,gE,cW,x⟩
def jX (x:cH):eV:=⟨⟨5,rfl⟩,gE,cW,x⟩
def jH (x:bA):eV:=⟨⟨3,rfl⟩,gE,x,gH⟩
def uA (r:bD):eV:=⟨⟨1,rfl⟩,r,cW,gH⟩
def aUA (r1:List bD) (n1:List bA) (f1:List cH) (r2:List bD) (n2:List bA) (f2:List cH):List eV :=
  aL (fun e=>(e.Local==true) && !cG n1 f1 r2 n2 f2 e) cR r1++aL (fun e=>(e.Local==false) && !cG n1 f1 r2 n2 f2 e) cR r1++aL (fun e=>cA bB cW n2 e) gJ n1++aL (fun e=>cA bY gH f2 e) iC f1
    ++ aL (fun e=>cA bY gH f1 e) jX f2++aL (fun e=>cA bB cW n1 e) jH n2++aL (fun e=>cA bS gE r1 e || !cG n1 f1 r2 n2 f2 e) uA r2
def uQ (r1:List bD) (n1:List bA) (f1:List cH) (r2:List bD) (n2:List bA) (f2:List cH):Bool := !iD r1 n1 f1 || !iD r2 n2 f2
def xC (r1:List bD) (n1:List bA) (f1:List cH) (r2:List bD) (n2:List bA) (f2:List cH):List eV:=if uQ r1 n1 f1 r2 n2 f2 then [] else aUA r1 n1 f1 r2 n2 f2
def aDX (r1:List bD) (n1:List bA) (f1:List cH) (r2:List bD) (n2:List bA) (f2:List cH):Int:=if uQ r1 n1 f1 r2 n2 f2 then 161 else 0
end Go.Proofs.YtnbpodjbemfpbaaGreat.Fw
set_option linter.all false
namespace Go.Proofs.YtnbpodjbemfpbaaGreat.Fw
open Go
/-! order -/
theorem sH {f:Nat->Bool} {n:Nat}:pC f n=true ↔ ∀ k,k<n->f k=true:=by
  simp [pC,List.all_eq_true]
section
variable {α κ:Type} [DecidableEq κ] {lt:κ->κ->Bool} (O:KO κ lt) (key:α->κ)
include O in
theorem aDH {l:List α}:(∀ k x y,l[k]?=some x->l[k+1]?=some y->lt (key x) (key y)=true) ↔ nF lt key l:=by
  induction l with
  | nil=>simp [nF]
  | cons a l ih =>
    constructor
    · intro h
      have h2:=ih.1 fun k x y hx hy=>h (k+1) x y (by simpa using hx) (by simpa using hy)
      refine List.pairwise_cons.2 ⟨fun e he=>?_,h2⟩
      cases l with
      | nil=>cases he
      | cons b l =>
        have hab:=h 0 a b rfl rfl
        rcases List.mem_cons.1 he with rfl|he
        · exact hab
        · exact O.tr _ _ _ hab ((List.pairwise_cons.1 h2).1 e he)
    · intro h k x y hx hy
      have h':=List.pairwise_cons.1 h
      cases k with
      | zero =>
        simp only[List.getElem?_cons_zero,Option.some.injEq] at hx
        subst hx
        exact h'.1 y (List.mem_of_getElem? (by simpa using hy))
      | succ k=>exact ih.2 h'.2 k x y (by simpa using hx) (by simpa using hy)
include O in
theorem yY {c:α->α->Fx .i64} (hc1:∀ e x,(c e x).v<0 ↔ lt (key e) (key x)=true) {l:List α}:gV c l=true ↔ nF lt key l:=by
  rw[<-aDH O key]
  unfold gV
  rw[sH]
  constructor
  · intro h k x y hx hy
    have:=h (k+1) (List.getElem?_eq_some_iff.1 hy).1
    simp only[vH,Nat.add_sub_cancel,hx,hy] at this
    simpa [hc1] using this
  · intro h k hk
    cases k with
    | zero=>rfl
    | succ k =>
      have h1:l[k]?=some l[k]:=List.getElem?_eq_getElem (by omega)
      have h2:l[k+1]?=some l[k+1]:=List.getElem?_eq_getElem hk
      simp only[vH,Nat.add_sub_cancel,h1,h2]
      simpa [hc1] using h k _ _ h1 h2
include O in
theorem aKD {c:α->α->Fx .i64} (hc1:∀ e x,(c e x).v<0 ↔ lt (key e) (key x)=true) (hc0:∀ e x,(c e x).v=0 ↔ key e=key x) {l:List α} {x:α} (h:nF lt key l):(if fL c l x then l[mR (fun e=>(c e x).v) l]? else none)=lZ key (key x) l:=by
  obtain⟨a,b,rfl,ha,hb⟩:∃ a b,l=a++b/\(∀ e ∈ a,lt (key e) (key x)=true)/\(∀ e ∈ b,lt (key e) (key x)=false):=by
    induction l with
    | nil=>exact⟨[],[],rfl,by simp,by simp⟩
    | cons e l ih =>
      have h':=List.pairwise_cons.1 h
      cases hq:lt (key e) (key x) with
      | true =>
        obtain⟨a,b,rfl,ha,hb⟩:=ih h'.2
        exact⟨e::a,b,rfl,by simp only[List.mem_cons];rintro y (rfl|hy);exact hq;exact ha y hy,hb⟩
      | false =>
        refine⟨[],e::l,rfl,by simp,?_⟩
        simp only[List.mem_cons]
        rintro y (rfl|hy)
        · exact hq
        · cases hz:lt (key y) (key x) with
          | false=>rfl
          | true =>
            have:=O.tr _ _ _ (h'.1 y hy) hz
            rw[hq] at this
            cases this
  have hbs:mR (fun e=>(c e x).v) (a++b)=a.length:=by
    unfold mR
    refine aAS (by simp) (fun k e hk he=>?_) (fun k e hk he=>?_) _ _ _ (by omega) (by simp) (by omega) (by omega)
    · rw[List.getElem?_append_left hk] at he
      exact(hc1 _ _).2 (ha e (List.mem_of_getElem? he))
    · rw[List.getElem?_append_right hk] at he
      rw[hc1,hb e (List.mem_of_getElem? he)]
      simp
  have hna:∀ e ∈ a,key e≠key x:=fun e he hk=>by
    have:=ha e he
    rw[hk,O.irr] at this
    cases this
  have hl:lZ key (key x) (a++b)=lZ key (key x) b:=by
    simp only[lZ,List.find?_append]
    rw[List.find?_eq_none.2 (fun e he=>by simpa using hna e he)]
    rfl
  rw[hl]
  unfold fL
  rw[hbs]
  have h0:(a++b)[a.length]?=b[0]?:=by rw[List.getElem?_append_right (Nat.le_refl _),Nat.sub_self]
  rw[h0]
  cases b with
  | nil=>simp [lZ]
  | cons e b =>
    simp only[List.getElem?_cons_zero]
    by_cases hk:key e=key x
    · have:(c e x).v=0:=(hc0 e x).2 hk
      simp [this,lZ,hk]
    · have h1:¬ (c e x).v=0:=fun h=>hk ((hc0 e x).1 h)
      have hx:lt (key x) (key e)=true:=by
        cases hq:lt (key x) (key e) with
        | true=>rfl
        | false=>exact absurd (O.tri _ _ (hb e (by simp)) hq) hk
      have:lZ key (key x) (e::b)=none:=by
        refine vV O key fun y hy=>?_
        rcases List.mem_cons.1 hy with rfl|hy
        · exact hx
        · have hs:nF lt key (e::b):=(List.pairwise_append.1 h).2.1
          exact O.tr _ _ _ hx ((List.pairwise_cons.1 hs).1 y hy)
      rw[this]
      simp [h1]
include O in
theorem aDA {c:α->α->Fx .i64} (hc1:∀ e x,(c e x).v<0 ↔ lt (key e) (key x)=true) (hc0:∀ e x,(c e x).v=0 ↔ key e=key x) {l:List α} {x:α} (h:nF lt key l):fL c l x=(lZ key (key x) l).isSome:=by
  rw[<-aKD O key hc1 hc0 h]
  cases hb:fL c l x with
  | false=>rfl
  | true =>
    simp only[if_true]
    rw[List.getElem?_eq_getElem (mA hb)]
    rfl
include O in
theorem aGZ {c:α->α->Fx .i64} (hc1:∀ e x,(c e x).v<0 ↔ lt (key e) (key x)=true) (hc0:∀ e x,(c e x).v=0 ↔ key e=key x) {l:List α} {x z:α} (h:nF lt key l):hH c z l x=(lZ key (key x) l).getD z:=by
  rw[<-aKD O key hc1 hc0 h]
  unfold hH
  cases hb:fL c l x <;> simp
include O in
theorem sB {l:List α} {x:α} (h:nF lt key l):x ∈ l ↔ lZ key (key x) l=some x:=by
  constructor
  · intro hx
    induction l with
    | nil=>cases hx
    | cons e l ih =>
      have h':=List.pairwise_cons.1 h
      rcases List.mem_cons.1 hx with rfl|hx
      · simp [lZ]
      · have hne:key e≠key x:=fun hk=>by
          have:=h'.1 x hx
          rw[hk,O.irr] at this
          cases this
        simpa [lZ,hne] using ih h'.2 hx
  · intro h
    exact List.mem_of_find?_eq_some h
include O in
theorem tK [DecidableEq α] {c:α->α->Fx .i64} (hc1:∀ e x,(c e x).v<0 ↔ lt (key e) (key x)=true) (hc0:∀ e x,(c e x).v=0 ↔ key e=key x) {l:List α} {x z:α} (h:nF lt key l):cA c z l x = !decide (x ∈ l):=by
  unfold cA
  rw[aDA O key hc1 hc0 h,aGZ O key hc1 hc0 h]
  cases hl:lZ key (key x) l with
  | none =>
    have:x ∉ l:=fun hx=>by rw[(sB O key h).1 hx] at hl;cases hl
    simp [this]
  | some y =>
    by_cases hy:y=x
    · subst hy
      have:y ∈ l:=(sB O key h).2 hl
      simp [this]
    · have:x ∉ l:=fun hx=>by
        rw[(sB O key h).1 hx] at hl
        simp only[Option.some.injEq] at hl
        exact hy hl.symm
      simp [this,hy]
end
theorem cR1 (e x:bD):(bS e x).v<0 ↔ cL e.Dst x.Dst=true:=qS _ _
theorem cR0 (e x:bD):(bS e x).v=0 ↔ e.Dst=x.Dst:=tA _ _
theorem cN1 (e x:bA):(bB e x).v<0 ↔ decide (e.IP.v<x.IP.v)=true:=by simp only[bB,aL0,decide_eq_true_eq]
theorem cN0 (e x:bA):(bB e x).v=0 ↔ e.IP=x.IP:=by
  simp only[bB,aLZ]
  exact⟨fun h=>Fx.ext h,fun h=>by rw[h]⟩
theorem cF1 (e x:cH):(bY e x).v<0 ↔ decide (eN e.MAC<eN x.MAC)=true:=by simp only[bY,aAV,aFP,decide_eq_true_eq]
theorem cF0 (e x:cH):(bY e x).v=0 ↔ e.MAC=x.MAC:=by simp only[bY,aAV,aFO]
abbrev kR:bD->aT:=fun r=>r.Dst
abbrev kN:bA->Fx .u32:=fun r=>r.IP
abbrev kF:cH->cK:=fun r=>r.MAC
abbrev ltA:Fx .u32->Fx .u32->Bool:=fun a b=>decide (a.v<b.v)
abbrev ltW:cK->cK->Bool:=fun a b=>decide (eN a<eN b)
/-! the document's order -/
def sI (l:List bD) (i:Nat):Bool:=match l[i]? with
  | none=>true
  | some e=>iZ e.Dst&&(i==0 || match l[i-1]? with|some p=>cL p.Dst e.Dst|none=>true)
def aG3 (l:List bA) (i:Nat):Bool:=i==0 || match l[i-1]?,l[i]? with
  | some x,some y=>decide (x.IP.v<y.IP.v)
  | _,_=>true
def aJW (l:List cH) (i:Nat):Bool:=i==0 || match l[i-1]?,l[i]? with
  | some x,some y=>decide (eN x.MAC<eN y.MAC)
  | _,_=>true
def fU (r:List bD) (n:List bA) (f:List cH):Bool:=pC (sI r) r.length&&(pC (aG3 n) n.length&&pC (aJW f) f.length)
structure Ord (r:List bD) (n:List bA) (f:List cH):Prop where
  valid:∀ e ∈ r,iR e.Dst=true
  routes:nF cL kR r
  neighs:nF ltA kN n
  fdbs:nF ltW kF f
theorem aIP {r:List bD} {n:List bA} {f:List cH}:iD r n f=true ↔ Ord r n f:=by
  unfold iD
  simp only[Bool.and_eq_true]
  rw[yY koPrefix kR cR1,yY qV kN cN1,yY uR kF cF1]
  constructor
  · rintro ⟨h1,⟨h2,h3⟩,h4⟩
    refine⟨fun e he=>?_,h2,h3,h4⟩
    obtain⟨k,hk,rfl⟩:=List.getElem_of_mem he
    have:=sH.1 h1 k hk
    simpa [tF,List.getElem?_eq_getElem hk] using this
  · rintro ⟨h1,h2,h3,h4⟩
    refine⟨sH.2 fun k hk=>?_,⟨h2,h3⟩,h4⟩
    simpa [tF,List.getElem?_eq_getElem hk] using h1 _ (List.getElem_mem hk)
theorem aLU {α κ:Type} [DecidableEq κ] {lt:κ->κ->Bool} (O:KO κ lt) (key:α->κ) {l:List α} {f:Nat->Bool} (hf:∀ k x y,l[k]?=some x->l[k+1]?=some y->f (k+1)=lt (key x) (key y)) (h0:f 0=true):pC f l.length=true ↔ nF lt key l:=by
  rw[<-aDH O key,sH]
  constructor
  · intro h k x y hx hy
    rw[<-hf k x y hx hy]
    exact h _ (List.getElem?_eq_some_iff.1 hy).1
  · intro h k hk
    cases k with
    | zero=>exact h0
    | succ k =>
      have h1:l[k]?=some l[k]:=List.getElem?_eq_getElem (by omega)
      have h2:l[k+1]?=some l[k+1]:=List.getElem?_eq_getElem hk
      rw[hf k _ _ h1 h2]
      exact h k _ _ h1 h2
theorem uT {r:List bD} {n:List bA} {f:List cH}:fU r n f=true ↔ Ord r n f:=by
  unfold fU
  simp only[Bool.and_eq_true]
  rw[aLU qV kN (f:=aG3 n) (fun k x y hx hy=>by simp [aG3,hx,hy]) rfl,aLU uR kF (f:=aJW f) (fun k x y hx hy=>by simp [aJW,hx,hy]) rfl]
  have hr:pC (sI r) r.length=true ↔ (∀ e ∈ r,iR e.Dst=true)/\nF cL kR r:=by
    rw[<-aDH koPrefix kR,sH]
    constructor
    · intro h
      refine⟨fun e he=>?_,fun k x y hx hy=>?_⟩
      · obtain⟨k,hk,rfl⟩:=List.getElem_of_mem he
        have:=h k hk
        simp only[sI,List.getElem?_eq_getElem hk,Bool.and_eq_true] at this
        rw[rG]
        exact this.1
      · have:=h (k+1) (List.getElem?_eq_some_iff.1 hy).1
        simp only[sI,hy,Nat.add_sub_cancel,hx,Bool.and_eq_true] at this
        simpa using this.2
    · rintro ⟨h1,h2⟩ k hk
      have e1:r[k]?=some r[k]:=List.getElem?_eq_getElem hk
      simp only[sI,e1,Bool.and_eq_true]
      refine⟨by rw[<-rG];exact h1 _ (List.getElem_mem hk),?_⟩
      cases k with
      | zero=>rfl
      | succ k =>
        have e2:r[k]?=some r[k]:=List.getElem?_eq_getElem (by omega)
        simp only[Nat.add_sub_cancel,e2]
        simpa using h2 k _ _ e2 e1
  rw[hr]
  exact⟨fun⟨⟨a,b⟩,c,d⟩=>⟨a,b,c,d⟩,fun⟨a,b,c,d⟩=>⟨⟨a,b⟩,c,d⟩⟩
theorem zZ (r:List bD) (n:List bA) (f:List cH):iD r n f=fU r n f:=by
  rw[Bool.eq_iff_iff,aIP,uT]
/-! the way -/
def aLQ:Tweftref16_Way:=⟨cW,gH,⟨0,rfl⟩⟩
def aCL (r:bD) (w:Tweftref16_Way) (e:bA):Tweftref16_Way:=if e.IP.v==r.Via.v then ⟨e,w.F,⟨1,rfl⟩⟩ else w
def aCK (w:Tweftref16_Way) (e:cH):Tweftref16_Way:=if e.MAC=w.N.MAC then ⟨w.N,e,⟨2,rfl⟩⟩ else w
@[irreducible] def iQ (r:bD) (n:List bA):Tweftref16_Way:=n.foldl (aCL r) aLQ
@[irreducible] def mX (w:Tweftref16_Way) (f:List cH):Tweftref16_Way:=f.foldl aCK w
def oB (n:List bA) (f:List cH) (r:bD):Tweftref16_Way:=if (iQ r n).Count.v==0 then iQ r n else mX (iQ r n) f
section
variable {r:bD} {n:List bA} {f:List cH} {w:Tweftref16_Way} {k:Nat} {x:bA} {y:cH}
theorem aTP:aLQ=iQ r (n.take 0):=by unfold iQ;rfl
theorem aTR (h:n[k]?=some x) (hx:x.IP.v=r.Via.v):(⟨x,(iQ r (n.take k)).F,⟨1,rfl⟩⟩:Tweftref16_Way)=iQ r (n.take (k+1)):=by
  unfold iQ
  rw[List.take_add_one,h]
  simp [List.foldl_append,aCL,hx]
theorem aTQ (h:n[k]?=some x) (hx:¬ x.IP.v=r.Via.v):iQ r (n.take k)=iQ r (n.take (k+1)):=by
  unfold iQ
  rw[List.take_add_one,h]
  simp [List.foldl_append,aCL,hx]
theorem aTM:w=mX w (f.take 0):=by unfold mX;rfl
theorem aTO (h:f[k]?=some y) (hx:decide (y.MAC=(mX w (f.take k)).N.MAC)=true):(⟨(mX w (f.take k)).N,y,⟨2,rfl⟩⟩:Tweftref16_Way)=mX w (f.take (k+1)):=by
  have hx:=of_decide_eq_true hx
  unfold mX at *
  rw[List.take_add_one,h]
  simp [List.foldl_append,aCK,hx]
theorem aTN (h:f[k]?=some y) (hx:decide (y.MAC=(mX w (f.take k)).N.MAC)=false):mX w (f.take k)=mX w (f.take (k+1)):=by
  have hx:=of_decide_eq_false hx
  unfold mX at *
  rw[List.take_add_one,h]
  simp [List.foldl_append,aCK,hx]
end
theorem aJQ {α κ:Type} [DecidableEq κ] {lt:κ->κ->Bool} {key:α->κ} {a:α} {l:List α} (h:nF lt key (a::l)):nF lt key l:=(List.pairwise_cons.1 h).2
theorem aCP {α κ:Type} [DecidableEq κ] {lt:κ->κ->Bool} (O:KO κ lt) {key:α->κ} {a:α} {l:List α} (h:nF lt key (a::l)):lZ key (key a) l=none:=vV O key (List.pairwise_cons.1 h).1
theorem aGJ {r:bD}:∀ {n:List bA},nF ltA kN n->∀ w0:Tweftref16_Way,n.foldl (aCL r) w0=match lZ kN r.Via n with
    | none=>w0
    | some x=>⟨x,w0.F,⟨1,rfl⟩⟩
  | [],_,w0=>rfl
  | e::n,h,w0=>by
    rw[List.foldl_cons,aGJ (aJQ h)]
    by_cases hk:e.IP=r.Via
    · have h1:=aCP qV h
      simp only[kN] at h1
      rw[hk] at h1
      have h2:lZ kN r.Via (e::n)=some e:=by simp [lZ,kN,hk]
      rw[h2]
      have h3:lZ kN r.Via n=none:=h1
      rw[h3]
      simp [aCL,hk]
    · have h2:lZ kN r.Via (e::n)=lZ kN r.Via n:=by simp [lZ,kN,hk]
      rw[h2]
      have h3:¬ e.IP.v=r.Via.v:=fun h=>hk (Fx.ext h)
      simp [aCL,h3]
theorem aGI:∀ {f:List cH},nF ltW kF f->∀ w0:Tweftref16_Way,f.foldl aCK w0=match lZ kF w0.N.MAC f with
    | none=>w0
    | some x=>⟨w0.N,x,⟨2,rfl⟩⟩
  | [],_,w0=>rfl
  | e::f,h,w0=>by
    rw[List.foldl_cons,aGI (aJQ h)]
    by_cases hk:e.MAC=w0.N.MAC
    · have h3:lZ kF w0.N.MAC f=none:=by
        have h1:=aCP uR h
        rw[show kF e=w0.N.MAC from hk] at h1
        exact h1
      have h2:lZ kF w0.N.MAC (e::f)=some e:=by simp [lZ,kF,hk]
      rw[h2]
      simp [aCK,hk,h3]
    · have h2:lZ kF w0.N.MAC (e::f)=lZ kF w0.N.MAC f:=by simp [lZ,kF,hk]
      rw[h2]
      simp [aCK,hk]
theorem aGK {r:bD} {n:List bA} {f:List cH} (hn:nF ltA kN n) (hf:nF ltW kF f):oB n f r=match lZ kN r.Via n with
    | none=>aLQ
    | some x=>match lZ kF x.MAC f with
      | none=>⟨x,gH,⟨1,rfl⟩⟩
      | some y=>⟨x,y,⟨2,rfl⟩⟩:=by
  unfold oB iQ mX
  rw[aGJ hn]
  cases h:lZ kN r.Via n with
  | none=>rfl
  | some x =>
    simp only
    rw[aGI hf]
    rfl
theorem aJV {r:bD} {n:List bA} {f:List cH} (hn:nF ltA kN n) (hf:nF ltW kF f):oZ n f r=match lZ kN r.Via n with
    | none=>⟨false,false,kG,⟨0,rfl⟩⟩
    | some x=>match lZ kF x.MAC f with
      | none=>⟨true,false,x.MAC,⟨0,rfl⟩⟩
      | some y=>⟨true,true,x.MAC,y.To⟩:=by
  unfold oZ
  rw[aDA qV kN cN1 cN0 hn,aGZ qV kN cN1 cN0 hn]
  simp only[kN]
  cases h:lZ kN r.Via n with
  | none=>rfl
  | some x =>
    simp only[Option.isSome_some,if_true,Option.getD_some]
    rw[aDA uR kF cF1 cF0 hf,aGZ uR kF cF1 cF0 hf]
    simp only[kF]
    cases h:lZ kF x.MAC f with
    | none=>rfl
    | some y=>rfl
theorem tB {α κ:Type} [DecidableEq κ] {key:α->κ} {q:κ} {l:List α} {x:α} (h:lZ key q l=some x):key x=q:=by
  have:=List.find?_some h
  simpa using this
theorem aTU {r:bD} {n1 n2:List bA} {f1 f2:List cH} (hn1:nF ltA kN n1) (hf1:nF ltW kF f1) (hn2:nF ltA kN n2) (hf2:nF ltW kF f2):oZ n1 f1 r=oZ n2 f2 r ↔ oB n1 f1 r=oB n2 f2 r:=by
  rw[aJV hn1 hf1,aJV hn2 hf2,aGK hn1 hf1,aGK hn2 hf2]
  have ex:∀ {x1 x2:bA},kN x1=r.Via->kN x2=r.Via->x1.MAC=x2.MAC->x1=x2:=by
    rintro ⟨a,b⟩ ⟨c,d⟩ h1 h2 h3
    simp only[kN] at h1 h2 h3
    rw[h1,h2,h3]
  have ey:∀ {m:cK} {y1 y2:cH},kF y1=m->kF y2=m->y1.To=y2.To->y1=y2:=by
    rintro m ⟨a,b⟩ ⟨c,d⟩ h1 h2 h3
    simp only[kF] at h1 h2 h3
    rw[h1,h2,h3]
  cases h1:lZ kN r.Via n1 with
  | none =>
    cases h2:lZ kN r.Via n2 with
    | none=>simp
    | some x2 =>
      simp only
      cases h4:lZ kF x2.MAC f2 with
      | none=>simp [aLQ];(repeat intro) <;> (rename_i hq;exact absurd (congrArg Fx.v hq) (by decide))
      | some y2=>simp [aLQ];(repeat intro) <;> (rename_i hq;exact absurd (congrArg Fx.v hq) (by decide))
  | some x1 =>
    cases h2:lZ kN r.Via n2 with
    | none =>
      simp only
      cases h3:lZ kF x1.MAC f1 with
      | none=>simp [aLQ];(repeat intro) <;> (rename_i hq;exact absurd (congrArg Fx.v hq) (by decide))
      | some y1=>simp [aLQ];(repeat intro) <;> (rename_i hq;exact absurd (congrArg Fx.v hq) (by decide))
    | some x2 =>
      simp only
      have e1:=tB h1
      have e2:=tB h2
      cases h3:lZ kF x1.MAC f1 with
      | none =>
        cases h4:lZ kF x2.MAC f2 with
        | none =>
          simp only[Tagent_way.mk.injEq,Tweftref16_Way.mk.injEq,true_and,and_true]
          exact⟨fun h=>ex e1 e2 h,fun h=>by rw[h]⟩
        | some y2=>simp;(repeat intro) <;> (rename_i hq;exact absurd (congrArg Fx.v hq) (by decide))
      | some y1 =>
        cases h4:lZ kF x2.MAC f2 with
        | none=>simp;(repeat intro) <;> (rename_i hq;exact absurd (congrArg Fx.v hq) (by decide))
        | some y2 =>
          simp only[Tagent_way.mk.injEq,Tweftref16_Way.mk.injEq,true_and,and_true]
          have e3:=tB h3
          have e4:=tB h4
          constructor
          · rintro ⟨a,b⟩
            refine⟨ex e1 e2 a,ey (m:=x1.MAC) e3 (by rw[e4,a]) b⟩
          · rintro ⟨a,b⟩
            exact⟨by rw[a],by rw[b]⟩
section
variable {n:List bA} {f:List cH} {r:bD} {k:Nat}
theorem aTS (h:(iQ r (n.take k)).Count.v=0) (hk:n.length<=k):iQ r (n.take k)=oB n f r:=by
  rw[List.take_of_length_le hk] at h ⊢
  simp [oB,h]
theorem aTT (h:¬ (iQ r n).Count.v=0) (hk:f.length<=k):mX (iQ r n) (f.take k)=oB n f r:=by
  rw[List.take_of_length_le hk]
  simp [oB,h]
end
def cD (n1:List bA) (f1:List cH) (r2:List bD) (n2:List bA) (f2:List cH) (r:bD):Bool:=decide (r ∈ r2)&&(r.Local || decide (oB n1 f1 r=oB n2 f2 r))
theorem aRA {r1 r2:List bD} {n1 n2:List bA} {f1 f2:List cH} (h1:Ord r1 n1 f1) (h2:Ord r2 n2 f2) (r:bD):cG n1 f1 r2 n2 f2 r=cD n1 f1 r2 n2 f2 r:=by
  unfold cG cD
  have hw:=aTU (r:=r) h1.neighs h1.fdbs h2.neighs h2.fdbs
  have e1:decide (oZ n1 f1 r=oZ n2 f2 r)=decide (oB n1 f1 r=oB n2 f2 r):=by
    rw[Bool.eq_iff_iff]
    simpa using hw
  rw[e1]
  have e2:(fL bS r2 r&&decide (hH bS gE r2 r=r))=decide (r ∈ r2):=by
    have:=tK koPrefix kR cR1 cR0 (x:=r) (z:=gE) h2.routes
    unfold cA at this
    cases hb:fL bS r2 r with
    | false =>
      rw[hb] at this
      simp at this
      simp [this]
    | true =>
      rw[hb] at this
      simp at this
      by_cases hm:r ∈ r2
      · simp [hm] at this ⊢
        exact this
      · simp [hm] at this ⊢
        exact this
  rw[e2]
def aPE (r1:List bD) (n1:List bA) (f1:List cH) (r2:List bD) (n2:List bA) (f2:List cH):List eV :=
  aL (fun e => !cD n1 f1 r2 n2 f2 e&&(e.Local==true)) cR r1++aL (fun e => !cD n1 f1 r2 n2 f2 e&&(e.Local==false)) cR r1++aL (fun e => !decide (e ∈ n2)) gJ n1++aL (fun e => !decide (e ∈ f2)) iC f1
    ++ aL (fun e => !decide (e ∈ f1)) jX f2++aL (fun e => !decide (e ∈ n1)) jH n2++aL (fun e => !decide (e ∈ r1) || !cD n1 f1 r2 n2 f2 e) uA r2
def pL (r1:List bD) (n1:List bA) (f1:List cH) (r2:List bD) (n2:List bA) (f2:List cH):Bool := !fU r1 n1 f1 || !fU r2 n2 f2
def sQ (r1:List bD) (n1:List bA) (f1:List cH) (r2:List bD) (n2:List bA) (f2:List cH):List eV:=if pL r1 n1 f1 r2 n2 f2 then [] else aPE r1 n1 f1 r2 n2 f2
def zS (r1:List bD) (n1:List bA) (f1:List cH) (r2:List bD) (n2:List bA) (f2:List cH):Int:=if pL r1 n1 f1 r2 n2 f2 then 161 else 0
theorem aU8 (r1:List bD) (n1:List bA) (f1:List cH) (r2:List bD) (n2:List bA) (f2:List cH):uQ r1 n1 f1 r2 n2 f2=pL r1 n1 f1 r2 n2 f2:=by
  unfold uQ pL
  rw[zZ,zZ]
theorem aPC (r1:List bD) (n1:List bA) (f1:List cH) (r2:List bD) (n2:List bA) (f2:List cH):xC r1 n1 f1 r2 n2 f2=sQ r1 n1 f1 r2 n2 f2:=by
  unfold xC sQ
  rw[aU8]
  cases hb:pL r1 n1 f1 r2 n2 f2 with
  | true=>rfl
  | false =>
    simp only[pL,Bool.or_eq_false_iff,Bool.not_eq_false'] at hb
    have h1:=uT.1 hb.1
    have h2:=uT.1 hb.2
    simp only[Bool.false_eq_true,if_false]
    unfold aUA aPE
    have s:=aRA h1 h2
    have l1:=fun e=>tK qV kN cN1 cN0 (x:=e) (z:=cW) h1.neighs
    have l2:=fun e=>tK qV kN cN1 cN0 (x:=e) (z:=cW) h2.neighs
    have l3:=fun e=>tK uR kF cF1 cF0 (x:=e) (z:=gH) h1.fdbs
    have l4:=fun e=>tK uR kF cF1 cF0 (x:=e) (z:=gH) h2.fdbs
    have l5:=fun e=>tK koPrefix kR cR1 cR0 (x:=e) (z:=gE) h1.routes
    simp only[s,l1,l2,l3,l4,l5,Bool.and_comm]
/-! the walks' words -/
section
variable {r1 r2:List bD} {n1 n2:List bA} {f1 f2:List cH} {k:Nat}
theorem aNA (h:(!iD r1 n1 f1 || !iD r2 n2 f2)=true):([]:List eV)=xC r1 n1 f1 r2 n2 f2:=by
  unfold xC uQ;rw[h];rfl
theorem aM9 (h:(!iD r1 n1 f1 || !iD r2 n2 f2)=true):(161:Int)=aDX r1 n1 f1 r2 n2 f2:=by
  unfold aDX uQ;rw[h];rfl
theorem aPB (h:(!iD r1 n1 f1 || !iD r2 n2 f2)=false):(0:Int)=aDX r1 n1 f1 r2 n2 f2:=by
  unfold aDX uQ;rw[h];rfl
theorem aPD (h:(!iD r1 n1 f1 || !iD r2 n2 f2)=false) (hk:r2.length<=k) :
    ([]:List eV)++aL (fun e=>(e.Local==true) && !cG n1 f1 r2 n2 f2 e) cR r1++aL (fun e=>(e.Local==false) && !cG n1 f1 r2 n2 f2 e) cR r1++aL (fun e=>cA bB cW n2 e) gJ n1++aL (fun e=>cA bY gH f2 e) iC f1
    ++ aL (fun e=>cA bY gH f1 e) jX f2++aL (fun e=>cA bB cW n1 e) jH n2++aL (fun e=>cA bS gE r1 e || !cG n1 f1 r2 n2 f2 e) uA (r2.take k)=xC r1 n1 f1 r2 n2 f2:=by
  unfold xC uQ;rw[h,List.take_of_length_le hk];rfl
theorem aKN (h:(!fU r1 n1 f1 || !fU r2 n2 f2)=true):([]:List eV)=sQ r1 n1 f1 r2 n2 f2:=by
  unfold sQ pL;rw[h];rfl
theorem aKM (h:(!fU r1 n1 f1 || !fU r2 n2 f2)=true):(161:Int)=zS r1 n1 f1 r2 n2 f2:=by
  unfold zS pL;rw[h];rfl
theorem aNB (h:(!fU r1 n1 f1 || !fU r2 n2 f2)=false):(0:Int)=zS r1 n1 f1 r2 n2 f2:=by
  unfold zS pL;rw[h];rfl
theorem aNC (h:(!fU r1 n1 f1 || !fU r2 n2 f2)=false) (hk:r2.length<=k) :
    ([]:List eV)++aL (fun e => !cD n1 f1 r2 n2 f2 e&&(e.Local==true)) cR r1++aL (fun e => !cD n1 f1 r2 n2 f2 e&&(e.Local==false)) cR r1++aL (fun e => !decide (e ∈ n2)) gJ n1++aL (fun e => !decide (e ∈ f2)) iC f1
    ++ aL (fun e => !decide (e ∈ f1)) jX f2++aL (fun e => !decide (e ∈ n1)) jH n2++aL (fun e => !decide (e ∈ r1) || !cD n1 f1 r2 n2 f2 e) uA (r2.take k)=sQ r1 n1 f1 r2 n2 f2:=by
  unfold sQ pL;rw[h,List.take_of_length_le hk];rfl
end
section
variable {α:Type} [DecidableEq α] {l:List α} {k:Nat} {e q:α}
theorem aL7 (h:l[k]?=some e) (hq:decide (e=q)=true):true=decide (q ∈ l):=by
  have:=of_decide_eq_true hq
  subst this
  simp [List.mem_of_getElem? h]
theorem aL6 (hk:l.length<=k) (hn:q ∉ l.take k):false=decide (q ∈ l):=by
  rw[List.take_of_length_le hk] at hn
  simp [hn]
theorem aAZ (hn:q ∉ l.take k) (h:l[k]?=some e) (hq:decide (e=q)=false):q ∉ l.take (k+1):=by
  rw[List.take_add_one,h]
  have:=of_decide_eq_false hq
  simp [hn]
  exact fun h=>this h.symm
end
section
variable {r:List bD} {n:List bA} {f:List cH} {k:Nat} {e e':bD} {x x':bA} {y y':cH}
theorem aSY (h:r[k]?=some e) (hv:(!iZ e.Dst)=true):sI r k=false:=by
  simp only[sI,h]
  simp at hv
  simp [hv]
theorem aSX (h:r[k]?=some e) (h':r[((k:Int)-1).toNat]?=some e') (hk:(0:Int)<(k:Int)) (hl:(!cL e'.Dst e.Dst)=true):sI r k=false:=by
  rw[show ((k:Int)-1).toNat=k-1 by omega] at h'
  simp only[sI,h,h']
  simp at hl
  have:¬ k=0:=by omega
  simp [hl,this]
theorem aQI (h:r[k]?=some e) (hv:(!iZ e.Dst)=false) (hk:¬ (0:Int)<(k:Int)):sI r k=true:=by
  simp only[sI,h]
  simp at hv
  have:k=0:=by omega
  simp [hv,this]
theorem aQJ (h:r[k]?=some e) (h':r[((k:Int)-1).toNat]?=some e') (hv:(!iZ e.Dst)=false) (hk:(0:Int)<(k:Int)) (hl:(!cL e'.Dst e.Dst)=false):sI r k=true:=by
  rw[show ((k:Int)-1).toNat=k-1 by omega] at h'
  simp only[sI,h,h']
  simp at hl hv
  simp [hl,hv]
theorem aL9 (h:n[k]?=some x) (h':n[((k:Int)-1).toNat]?=some x') (hk:1<=k):aG3 n k=decide (x'.IP.v<x.IP.v):=by
  rw[show ((k:Int)-1).toNat=k-1 by omega] at h'
  have:¬ k=0:=by omega
  simp [aG3,h,h',this]
theorem aMX (h:f[k]?=some y) (h':f[((k:Int)-1).toNat]?=some y') (hk:1<=k):aJW f k=decide (eN y'.MAC<eN y.MAC):=by
  rw[show ((k:Int)-1).toNat=k-1 by omega] at h'
  have:¬ k=0:=by omega
  simp [aJW,h,h',this]
theorem aC7 {g:Nat->Bool} {a b:Nat} (h:a<=b) (hb:pC g b=true):pC g a=true:=sH.2 fun k hk=>sH.1 hb k (by omega)
theorem aEM (hk:k<r.length) (h:sI r k=false):false=fU r n f:=by
  simp [fU,rO hk h]
theorem aK0 (hk:k<n.length) (h:aG3 n k=false):false=fU r n f:=by
  simp [fU,rO hk h]
theorem aK1 (hk:k<f.length) (h:aJW f k=false):false=fU r n f:=by
  simp [fU,rO hk h]
theorem aNP (h1:pC (sI r) r.length=true) (h2:pC (aG3 n) n.length=true) (h3:pC (aJW f) f.length=true):true=fU r n f:=by
  simp [fU,h1,h2,h3]
end
/-! marks behind lists -/
def lG (a:Fx .u32):bD:=⟨fM,a,false⟩
def lF (a:Fx .u32):bA:=⟨a,kG⟩
def lE (a:Fx .u32):cH:=⟨kG,a⟩
def dW {α:Type} (mk:Fx .u32->α) (l:List α) (k:Nat):List α:=l++(List.range k).map fun(i:Nat)=>mk (Fx.of .u32 (201+(i:Int)))
section
variable {α:Type} {mk:Fx .u32->α} {l:List α} {k:Nat}
theorem aHQ:l=dW mk l 0:=by simp [dW]
theorem aAG {h:IntKind.u32.wrap (201+(k:Int))=201+(k:Int)} (hk:k<70):dW mk l k++[mk ⟨201+(k:Int),h⟩]=dW mk l (k+1):=by
  simp only[dW,List.range_succ,List.map_append,List.map_cons,List.map_nil,List.append_assoc]
  congr 3
  exact congrArg mk (Fx.ext h.symm)
theorem tL:(dW mk l k).length=l.length+k:=by simp [dW]
theorem aCF (hk:k=70):dW mk l k=dW mk l 70:=by rw[hk]
end
end Go.Proofs.YtnbpodjbemfpbaaGreat.Fw
set_option linter.all false
namespace Go.Proofs.YtnbpodjbemfpbaaGreat.Fw
open Go
/-! tables made of lists -/
section
variable {α κ:Type} [DecidableEq κ] {lt:κ->κ->Bool} (O:KO κ lt) (key:α->κ)
def tab (lt:κ->κ->Bool) (key:α->κ) (l:List α):List α:=l.foldl (fun t y=>put lt key y t) []
include O in
theorem aE2 (l:List α):nF lt key (tab lt key l)/\∀ q,lZ key q (tab lt key l)=lZ key q l.reverse:=by
  have h1:∀ (l t:List α),nF lt key t->nF lt key (l.foldl (fun t y=>put lt key y t) t)/\∀ q,lZ key q (l.foldl (fun t y=>put lt key y t) t)=(lZ key q l.reverse).or (lZ key q t):=by
    intro l
    induction l with
    | nil=>intro t h;exact⟨h,fun q=>by simp [lZ]⟩
    | cons y l ih =>
      intro t h
      have:=ih _ (pF O key (x:=y) h)
      refine⟨this.1,fun q=>?_⟩
      simp only[List.foldl_cons]
      rw[this.2 q,wY O key h]
      simp only[lZ,List.reverse_cons,List.find?_append,List.find?_cons,List.find?_nil]
      by_cases hq:key y=q <;> simp [hq]
  have h:=h1 l [] (by simp [nF])
  exact⟨h.1,fun q=>by rw[tab,h.2 q];simp [lZ]⟩
theorem aMI {x:α}:∀ {l:List α},(∀ e ∈ l,key e≠key x)->(put lt key x l).length=l.length+1
  | [],_=>rfl
  | e::l,h=>by
    simp only[put]
    split
    · rfl
    · rw[if_neg (h e (by simp))]
      have ih:=aMI (l:=l) fun e he=>h e (by simp [he])
      simp [ih]
def aO8 (key:α->κ):List α->Nat
  | []=>0
  | x::r=>aO8 key r+(if r.any fun e=>decide (key e=key x) then 0 else 1)
include O in
theorem aMU:∀ l:List α,(tab lt key l).length=aO8 key l:=by
  intro l
  rw[tab,xO O key]
  induction l with
  | nil=>rfl
  | cons x r ih =>
    rw[List.reverse_cons,List.foldl_append]
    simp only[List.foldl_cons,List.foldl_nil,aO8]
    rw[<-ih]
    rw[<-xO O key]
    have hs:=aE2 O key r
    unfold tab at hs
    unfold aCD
    have e1:((r.foldl (fun t y=>put lt key y t) []).any fun e=>decide (key e=key x))=r.any fun e=>decide (key e=key x):=by
      have h2:=hs.2 (key x)
      have h3:∀ m:List α,(m.any fun e=>decide (key e=key x))=(lZ key (key x) m).isSome:=by
        intro m
        unfold lZ
        induction m with
        | nil=>rfl
        | cons a m ih =>
          simp only[List.any_cons,List.find?_cons]
          by_cases ha:key a=key x
          · simp [ha]
          · simpa [ha] using ih
      rw[h3,h2,<-h3,List.any_reverse]
    rw[e1]
    cases ha:r.any fun e=>decide (key e=key x) with
    | true=>simp
    | false =>
      simp only[Bool.false_eq_true,if_false]
      rw[aMI]
      intro e he hk
      have h3:((r.foldl (fun t y=>put lt key y t) []).any fun e=>decide (key e=key x))=true:=List.any_eq_true.2 ⟨e,he,by simpa using hk⟩
      rw[e1,ha] at h3
      cases h3
end
/-! the plan «as» tables -/
theorem aI0 {α κ:Type} [DecidableEq κ] {key:α->κ} {l:List α} {x:α} {q:κ} (h:x ∈ l) (hk:key x=q):∃ y ∈ l,lZ key q l=some y/\key y=q:=by
  cases hl:lZ key q l with
  | none =>
    have:=List.find?_eq_none.1 hl x h
    simp [hk] at this
  | some y=>exact⟨y,List.mem_of_find?_eq_some hl,rfl,tB hl⟩
/-! the last lease of a key -/
theorem aF1 (l:List TLease) (host:Int):(nD l host).R.length<=l.length/\(nD l host).N.length<=l.length/\(nD l host).F.length<=l.length:=by
  have h:=aF0 l host l.length
  rw[yW (Nat.le_refl _)] at h
  exact h
/-! the walk's words -/
section
variable {l:List TLease} {host:Int} {x e:TLease} {p:TLease->Bool} {i j k k4:Nat} {b b0 c:Bool} {N:List bA} {F:List cH} {cr cn cn4:Int}
end
section
variable {α:Type} {l:List α} {p:α->Bool} {k:Nat} {e:α}
theorem aFB (h:l[k]?=some e):(l.take (k+1)).all p=((l.take k).all p&&p e):=by
  rw[List.take_add_one,h]
  simp
theorem aM3 (h:l[k]?=some e) (hp:p e=false):l.all p=false:=by
  rw[List.all_eq_false]
  exact⟨e,List.mem_of_getElem? h,by simp [hp]⟩
end
end Go.Proofs.YtnbpodjbemfpbaaGreat.Fw
set_option linter.all false
namespace Go.Proofs.YtnbpodjbemfpbaaGreat.Fw
open Go
/-! a list behind a change -/
def rm {α κ:Type} [DecidableEq κ] (key:α->κ) (q:κ) (l:List α):List α:=l.filter fun e => !decide (key e=q)
section
variable {α κ:Type} [DecidableEq κ] {lt:κ->κ->Bool} (O:KO κ lt) (key:α->κ)
theorem aK9 {q:κ} {l:List α} {e:α}:e ∈ rm key q l ↔ e ∈ l/\key e≠q:=by simp [rm]
theorem aCE {q:κ} {l:List α} (h:nF lt key l):nF lt key (rm key q l):=List.Pairwise.filter _ h
theorem aQT {q q':κ}:∀ {l:List α},lZ key q' (rm key q l)=if q'=q then none else lZ key q' l
  | []=>by simp [rm,lZ]
  | e::l=>by
    have ih:=aQT (q:=q) (q':=q') (l:=l)
    unfold rm lZ at ih ⊢
    rw[List.filter_cons]
    by_cases hk:key e=q
    · simp only[hk,decide_true,Bool.not_true,Bool.false_eq_true,if_false,ih,List.find?_cons]
      by_cases hq:q'=q
      · simp [hq]
      · have:¬ q=q':=fun h=>hq h.symm
        simp [hq,this]
    · simp only[hk,decide_false,Bool.not_false,if_true,List.find?_cons,ih]
      by_cases hq:q'=q
      · subst hq;simp [hk]
      · simp [hq]
include O in
theorem aJA {l:List α} (h:nF lt key l) {x e:α}:e ∈ put lt key x l ↔ e=x\/(e ∈ l/\key e≠key x):=by
  rw[sB O key (pF O key (x:=x) h),wY O key h]
  by_cases hk:key x=key e
  · simp only[hk,if_true,Option.some.injEq]
    constructor
    · intro h;exact .inl h.symm
    · rintro (rfl|⟨_,h⟩)
      · rfl
      · exact absurd rfl h
  · simp only[hk,if_false,<-sB O key h]
    constructor
    · intro h;exact .inr ⟨h,fun h=>hk h.symm⟩
    · rintro (rfl|⟨h,_⟩)
      · exact absurd rfl hk
      · exact h
include O in
theorem aQ8 {l m:List α} (hl:nF lt key l) (hm:nF lt key m) (h1:∀ e ∈ l,e ∈ m) (h2:∀ e ∈ m,e ∈ l):l=m:=by
  refine aDI O key hl hm fun q=>?_
  cases hq:lZ key q l with
  | some x =>
    have hx:=h1 x (List.mem_of_find?_eq_some hq)
    have hk:key x=q:=tB hq
    rw[<-hk]
    exact((sB O key hm).1 hx).symm
  | none =>
    cases hq2:lZ key q m with
    | none=>rfl
    | some x =>
      have hx:=h2 x (List.mem_of_find?_eq_some hq2)
      have hk:key x=q:=tB hq2
      rw[<-hk] at hq
      rw[(sB O key hl).1 hx] at hq
      cases hq
end
/-! picked lists -/
section
variable {α:Type} {p q:α->Bool} {g:α->eV}
variable {κ:Type} [DecidableEq κ] {lt:κ->κ->Bool} (O:KO κ lt) (key:α->κ)
end
/-! ways -/
def stT (t w:TB) (r:bD):Bool:=cD t.N t.F w.R w.N w.F r
def g1 (t w:TB):List eV:=aL (fun e => !stT t w e&&(e.Local==true)) cR t.R
def g2 (t w:TB):List eV:=aL (fun e => !stT t w e&&(e.Local==false)) cR t.R
def g3 (t w:TB):List eV:=aL (fun e => !decide (e ∈ w.N)) gJ t.N
def g4 (t w:TB):List eV:=aL (fun e => !decide (e ∈ w.F)) iC t.F
def g5 (t w:TB):List eV:=aL (fun e => !decide (e ∈ t.F)) jX w.F
def g6 (t w:TB):List eV:=aL (fun e => !decide (e ∈ t.N)) jH w.N
def g7 (t w:TB):List eV:=aL (fun e => !decide (e ∈ t.R) || !stT t w e) uA w.R
def dl (t w:TB):List eV:=g1 t w++(g2 t w++(g3 t w++(g4 t w++(g5 t w++(g6 t w++g7 t w)))))
section
variable {t w:TB} {r:bD} {x:bA} {y:cH}
end
end Go.Proofs.YtnbpodjbemfpbaaGreat.Fw
set_option linter.all false
namespace Go.Proofs.YtnbpodjbemfpbaaGreat.Fw
open Go
section
variable {t w:TB} {o:eV} {rest r':List eV}
end
/-! the whole way -/
section
variable {r1 r2:List bD} {n1 n2:List bA} {f1 f2:List cH} {k:Nat}
end
/-! the walks' words -/
section
variable {α:Type} {lw eq:α->Bool} {x e:α} {l:List α} {p:Bool} {k:Nat}
section
variable {q:Bool}
end
end
end Go.Proofs.YtnbpodjbemfpbaaGreat.Fw
set_option linter.all false
namespace Go.Proofs.YtnbpodjbemfpbaaGreat.Fw
open Go
def eG:TLease:=⟨⟨0,rfl⟩,fM,⟨0,rfl⟩,kG,⟨0,rfl⟩,⟨0,rfl⟩⟩
def jA:lT:=⟨⟨0,rfl⟩,⟨0,rfl⟩,fM,⟨0,rfl⟩,kG,⟨0,rfl⟩⟩
def mM:eV:=⟨⟨0,rfl⟩,gE,cW,gH⟩
def nB:eH:=⟨⟨0,rfl⟩,jA,mM,⟨0,rfl⟩,⟨0,rfl⟩⟩
/-! own -/
@[irreducible] def eU (h:Int) (l:List TLease):Int:=match l.findIdx? fun e=>e.Host.v==h with
  | some i=>(i:Int)
  | none=>-1
section
variable {h:Int} {l:List TLease} {k:Nat} {e:TLease}
theorem aI7 (hn:∀ i,i<k->∀ x,l[i]?=some x->¬ x.Host.v=h) (he:l[k]?=some e) (hc:(e.Host.v==h)=false):∀ i,i<k+1->∀ x,l[i]?=some x->¬ x.Host.v=h:=by
  intro i hi x hx
  by_cases hk:i=k
  · subst hk
    rw[he] at hx
    simp only[Option.some.injEq] at hx
    subst hx
    simpa using hc
  · exact hn i (by omega) x hx
theorem aMF (hn:∀ i,i<k->∀ x,l[i]?=some x->¬ x.Host.v=h) (he:l[k]?=some e) (hc:(e.Host.v==h)=true):(k:Int)=eU h l:=by
  unfold eU
  have:(l.findIdx? fun e=>e.Host.v==h)=some k:=by
    rw[List.findIdx?_eq_some_iff_getElem]
    obtain⟨h1,h2⟩:=List.getElem?_eq_some_iff.1 he
    refine⟨h1,by rw[h2];exact hc,fun j hj=>?_⟩
    have:=hn j hj _ (List.getElem?_eq_getElem (by omega))
    simpa using this
  rw[this]
theorem aI6 (hn:∀ i,i<k->∀ x,l[i]?=some x->¬ x.Host.v=h) (hk:l.length<=k):(-1:Int)=eU h l:=by
  unfold eU
  have:(l.findIdx? fun e=>e.Host.v==h)=none:=by
    rw[List.findIdx?_eq_none_iff]
    intro x hx
    obtain⟨i,hi,rfl⟩:=List.getElem_of_mem hx
    have:=hn i (by omega) _ (List.getElem?_eq_getElem hi)
    simpa using this
  rw[this]
theorem tC:eU h l<(l.length:Int)/\-1<=eU h l:=by
  unfold eU
  cases hf:l.findIdx? fun e=>e.Host.v==h with
  | none=>simp only;omega
  | some i =>
    rw[List.findIdx?_eq_some_iff_getElem] at hf
    obtain⟨h1,_⟩:=hf
    simp only
    omega
end
/-! changes -/
def kO (s:List aT) (l:List TLease):List TLease:=l.filter fun e => !fL dH s e.Subnet
section
variable {s:List aT} {l:List TLease} {k:Nat} {e:TLease}
theorem aSH:([]:List TLease)=kO s (l.take 0):=by simp [kO]
theorem aSJ (h:l[k]?=some e) (hc:(!fL dH s e.Subnet)=true):kO s (l.take k)++[e]=kO s (l.take (k+1)):=by
  rw[List.take_add_one,h]
  simp only[kO,List.filter_append,Option.toList_some,List.filter_cons,hc,if_true,List.filter_nil]
theorem aSI (h:l[k]?=some e) (hc:(!fL dH s e.Subnet)=false):kO s (l.take k)=kO s (l.take (k+1)):=by
  rw[List.take_add_one,h]
  simp only[kO,List.filter_append,Option.toList_some,List.filter_cons,hc,List.filter_nil,List.append_nil,Bool.false_eq_true,if_false]
theorem aNJ:(kO s l).length<=l.length:=List.length_filter_le _ _
end
@[irreducible] def fY (a:hF):List eV:=xC a.Routes a.Neighs a.Fdbs (nD (kO a.skipped a.view) a.self.Host.v).R (nD (kO a.skipped a.view) a.self.Host.v).N (nD (kO a.skipped a.view) a.self.Host.v).F
theorem aIF {a:hF} {k:Nat} (hk:a.view.length<=k):xC a.Routes a.Neighs a.Fdbs (nD (kO a.skipped (a.view.take k)) a.self.Host.v).R (nD (kO a.skipped (a.view.take k)) a.self.Host.v).N (nD (kO a.skipped (a.view.take k)) a.self.Host.v).F=fY a:=by
  unfold fY
  rw[List.take_of_length_le hk]
theorem aGU (a:hF) (k:Nat):(nD (kO a.skipped (a.view.take k)) a.self.Host.v).R.length<=a.view.length/\(nD (kO a.skipped (a.view.take k)) a.self.Host.v).N.length<=a.view.length/\(nD (kO a.skipped (a.view.take k)) a.self.Host.v).F.length<=a.view.length/\(kO a.skipped (a.view.take k)).length<=a.view.length:=by
  have h1:=aF1 (kO a.skipped (a.view.take k)) a.self.Host.v
  have h2:=aNJ (s:=a.skipped) (l:=a.view.take k)
  simp only[List.length_take] at h2
  omega
/-! the rules -/
def nZ (g:hF):Bool:=match g.view[(eU g.self.Host.v g.view).toNat]? with
  | some e=>decide (0<=eU g.self.Host.v g.view)&&((e.Pub.v==g.self.Pub.v)&&decide (e.MAC=g.self.MAC))
  | none=>false
section
variable {g:hF} {e:TLease} {now:Int}
theorem aP7 (h0:0<=eU g.self.Host.v g.view) (he:g.view[(eU g.self.Host.v g.view).toNat]?=some e) (h1:(e.Pub.v==g.self.Pub.v)=true) (h2:decide (e.MAC=g.self.MAC)=true):nZ g=true:=by
  unfold nZ;rw[he];simp only[h1,h2,decide_eq_true h0];rfl
theorem aBE (h0:eU g.self.Host.v g.view<0):nZ g=false:=by
  unfold nZ
  cases g.view[(eU g.self.Host.v g.view).toNat]? with
  | none=>rfl
  | some e=>simp only[decide_eq_false (show ¬ 0<=eU g.self.Host.v g.view by omega)];rfl
theorem aBF (he:g.view[(eU g.self.Host.v g.view).toNat]?=some e) (h1:(e.Pub.v==g.self.Pub.v)=false):nZ g=false:=by
  unfold nZ;rw[he];simp only[h1,Bool.false_and,Bool.and_false]
theorem aDB (he:g.view[(eU g.self.Host.v g.view).toNat]?=some e) (h2:decide (e.MAC=g.self.MAC)=false):nZ g=false:=by
  unfold nZ;rw[he];simp only[h2,Bool.and_false]
def rM (g:hF):eH:=if nZ g then nB else ⟨⟨4,rfl⟩,⟨⟨1,rfl⟩,g.self.Host,g.wish,g.self.Pub,g.self.MAC,⟨0,rfl⟩⟩,mM,⟨0,rfl⟩,⟨0,rfl⟩⟩
def pB (g:hF):Bool := !nZ g&&(decide (g.cursor.v>=g.granted.v) && !g.waiting)
theorem aU2 (h:nZ g=true):nB=rM g:=by simp [rM,h]
theorem aU1 (h:nZ g=true):false=pB g:=by simp [pB,h]
theorem zP (h:nZ g=false):(⟨⟨4,rfl⟩,⟨⟨1,rfl⟩,g.self.Host,g.wish,g.self.Pub,g.self.MAC,⟨0,rfl⟩⟩,mM,⟨0,rfl⟩,⟨0,rfl⟩⟩:eH)=rM g:=by simp [rM,h]
theorem aKA (h:nZ g=false) (hc:decide (g.cursor.v>=g.granted.v)=true):(!g.waiting)=pB g:=by simp only[pB,h,hc,Bool.not_false,Bool.true_and]
theorem aJ9 (h:nZ g=false) (hc:decide (g.cursor.v>=g.granted.v)=false):false=pB g:=by simp only[pB,h,hc,Bool.false_and,Bool.and_false]
def jR (x y:Int):Int:=if ((decide (x>0)&&decide (y>0))&&decide (IntKind.i64.wrap (x+y)<0))=true then 9223372036854775807
  else if ((decide (x<0)&&decide (y<0))&&decide (IntKind.i64.wrap (x+y)>=0))=true then -9223372036854775808 else IntKind.i64.wrap (x+y)
def aC3 (g:hF):TLease:=(g.view[(eU g.self.Host.v g.view).toNat]?).getD eG
def aCR (g:hF):Bool:=decide (eU g.self.Host.v g.view<0) || g.renewed
def uD (g:hF):eH:=if aCR g then nB else ⟨⟨5,rfl⟩,⟨⟨2,rfl⟩,g.self.Host,(aC3 g).Subnet,⟨0,rfl⟩,kG,⟨0,rfl⟩⟩,mM,⟨0,rfl⟩,⟨0,rfl⟩⟩
def tD (g:hF) (now:Int):Bool := !aCR g&&(decide ((aC3 g).Until.v<9223372036854775807)&&decide (now>=jR (aC3 g).Until.v (IntKind.i64.wrap (0-g.self.Renew.v))))
theorem aX8 (h:(decide (eU g.self.Host.v g.view<0) || g.renewed)=true):nB=uD g:=by simp only[uD,aCR,h,if_true]
theorem aX3 (h:(decide (eU g.self.Host.v g.view<0) || g.renewed)=true):false=tD g now:=by simp only[tD,aCR,h,Bool.not_true,Bool.false_and]
theorem aK7 (h:(decide (eU g.self.Host.v g.view<0) || g.renewed)=false) (he:g.view[(eU g.self.Host.v g.view).toNat]?=some e):(⟨⟨5,rfl⟩,⟨⟨2,rfl⟩,g.self.Host,e.Subnet,⟨0,rfl⟩,kG,⟨0,rfl⟩⟩,mM,⟨0,rfl⟩,⟨0,rfl⟩⟩:eH)=uD g:=by
  simp only[uD,aCR,h,aC3,he,Option.getD_some,Bool.false_eq_true,if_false]
theorem aQP (h:(decide (eU g.self.Host.v g.view<0) || g.renewed)=false) (he:g.view[(eU g.self.Host.v g.view).toNat]?=some e):(decide (e.Until.v<9223372036854775807)&&decide (now>=jR e.Until.v (IntKind.i64.wrap (0-g.self.Renew.v))))=tD g now:=by
  simp only[tD,aCR,h,aC3,he,Option.getD_some,Bool.not_false,Bool.true_and]
theorem aX4 (h:(decide (eU g.self.Host.v g.view<0) || g.renewed)=false) (he:g.view[(eU g.self.Host.v g.view).toNat]?=some e) (hc:decide (e.Until.v<9223372036854775807)=true):decide (now>=jR e.Until.v (IntKind.i64.wrap (0-g.self.Renew.v)))=tD g now:=by
  rw[<-aQP h he,hc,Bool.true_and]
theorem aX2 (h:(decide (eU g.self.Host.v g.view<0) || g.renewed)=false) (he:g.view[(eU g.self.Host.v g.view).toNat]?=some e) (hc:decide (e.Until.v<9223372036854775807)=false):false=tD g now:=by
  rw[<-aQP h he,hc,Bool.false_and]
def wM (g:hF):eH:=match fY g with
  | []=>nB
  | o::_=>⟨⟨3,rfl⟩,jA,o,⟨0,rfl⟩,⟨0,rfl⟩⟩
def zC (g:hF):Bool := !(fY g).isEmpty
theorem aVT (h:((fY g).length:Int)=0):nB=wM g:=by
  unfold wM
  cases hc:fY g with
  | nil=>rfl
  | cons o r=>rw[hc] at h;simp at h;omega
theorem aVR (h:((fY g).length:Int)=0):false=zC g:=by
  unfold zC
  cases hc:fY g with
  | nil=>rfl
  | cons o r=>rw[hc] at h;simp at h;omega
theorem aVS {o:eV} (he:(fY g)[0]?=some o):(⟨⟨3,rfl⟩,jA,o,⟨0,rfl⟩,⟨0,rfl⟩⟩:eH)=wM g:=by
  unfold wM
  cases hc:fY g with
  | nil=>rw[hc] at he;cases he
  | cons a r=>rw[hc] at he;simp at he;rw[he]
theorem aVQ {o:eV} (he:(fY g)[0]?=some o):true=zC g:=by
  unfold zC
  cases hc:fY g with
  | nil=>rw[hc] at he;cases he
  | cons a r=>rfl
end
/-! events -/
def aIB (a:Int) (e:TEvent):Bool:=(((a==9223372036854775807) || (e.Rev.v !=a+1)) || ((e.Kind.v !=1)&&(e.Kind.v !=2))) || !(iR e.Lease.Subnet)
def aNM:Int->List TEvent->Bool
  | _,[]=>true
  | a,e::r => !aIB a e&&aNM (a+1) r
@[irreducible] def zX (a:Int) (l:List TEvent):Bool:=aNM a l
def oI (g:hF) (l:List TEvent):Bool:=if l.length>4 then false else zX g.cursor.v l
section
variable {g:hF} {l:List TEvent} {a:Int} {k:Nat} {e:TEvent}
theorem a1A (h:l[k]?=some e) (hb:aIB a e=true) (ho:zX g.cursor.v l=zX a (l.drop k)) (hl:¬ (4:Int)<(l.length:Int)):false=oI g l:=by
  have hd:l.drop k=e::l.drop (k+1):=by
    obtain⟨h1,h2⟩:=List.getElem?_eq_some_iff.1 h
    rw[List.drop_eq_getElem_cons h1,h2]
  unfold oI
  rw[if_neg (by omega),ho,hd]
  unfold zX aNM
  rw[hb];rfl
theorem a1C (h:l[k]?=some e) (hb:aIB a e=false) (ho:zX g.cursor.v l=zX a (l.drop k)):zX g.cursor.v l=zX (a+1) (l.drop (k+1)):=by
  have hd:l.drop k=e::l.drop (k+1):=by
    obtain⟨h1,h2⟩:=List.getElem?_eq_some_iff.1 h
    rw[List.drop_eq_getElem_cons h1,h2]
  rw[ho,hd]
  unfold zX
  conv=>lhs;unfold aNM
  rw[hb];rfl
theorem a1D (hk:l.length<=k) (ho:zX g.cursor.v l=zX a (l.drop k)) (hl:¬ (4:Int)<(l.length:Int)):true=oI g l:=by
  unfold oI
  rw[if_neg (by omega),ho,List.drop_eq_nil_of_le hk]
  unfold zX;rfl
theorem a1B (hl:(4:Int)<(l.length:Int)):false=oI g l:=by
  unfold oI
  rw[if_pos (by omega)]
end
def pZ (g:hF):eH:=⟨⟨6,rfl⟩,jA,mM,g.cursor,⟨4,rfl⟩⟩
/-! the view -/
def oN (g:hF):TLease:=if 0<=eU g.self.Host.v g.view then aC3 g else eG
def aAL (g:hF):Bool:=(((g.read && !g.stale)&&g.quiet)&&(((fY g).length:Int)==0))
theorem a2F {g:hF} {e:TLease} (h:0<=eU g.self.Host.v g.view) (he:g.view[(eU g.self.Host.v g.view).toNat]?=some e):e=oN g:=by
  simp only[oN,if_pos h,aC3,he,Option.getD_some]
theorem a2E {g:hF} (h:eU g.self.Host.v g.view<0):eG=oN g:=by
  simp only[oN,if_neg (show ¬ 0<=eU g.self.Host.v g.view by omega)]
end Go.Proofs.YtnbpodjbemfpbaaGreat.Fw
