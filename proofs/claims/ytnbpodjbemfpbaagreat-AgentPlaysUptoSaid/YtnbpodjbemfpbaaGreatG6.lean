/-
  Own work: walks and laws, joined by wip/tool/compact.py.
-/
import Derived.Test.YtnbpodjbemfpbaaGreatG5

set_option linter.all false
set_option linter.all false
namespace Go.Proofs.YtnbpodjbemfpbaaGreat.Fw
open Go
/-! carry -/
def mC (g:hF) (o:eV):hF :=
  if o.Kind.v=1 then { g with Routes:=iB bS g.Routes o.Route }
  else if o.Kind.v=2 then { g with Routes:=fJ bS g.Routes o.Route }
  else if o.Kind.v=3 then { g with Neighs:=iB bB g.Neighs o.Neigh }
  else if o.Kind.v=4 then { g with Neighs:=fJ bB g.Neighs o.Neigh }
  else if o.Kind.v=5 then { g with Fdbs:=iB bY g.Fdbs o.Fdb }
  else if o.Kind.v=6 then { g with Fdbs:=fJ bY g.Fdbs o.Fdb }
  else g
/-! dumped -/
def gT (w:aT) (l:List bD):aT:=match l.find? fun e=>e.Local with
  | some e=>e.Dst
  | none=>w
theorem aRH {w:aT} {l:List bD} {k:Nat} {e:bD} (hn:∀ i,i<k->∀ x,l[i]?=some x->x.Local=false) (he:l[k]?=some e) (hl:e.Local=true):e.Dst=gT w l:=by
  unfold gT
  have:(l.find? fun e=>e.Local)=some e:=by
    rw[List.find?_eq_some_iff_getElem]
    obtain⟨h1,h2⟩:=List.getElem?_eq_some_iff.1 he
    refine⟨hl,k,h1,h2,fun j hj=>?_⟩
    have:=hn j hj _ (List.getElem?_eq_getElem (by omega))
    simp [this]
  rw[this]
theorem aOC {w:aT} {l:List bD} {k:Nat} (hn:∀ i,i<k->∀ x,l[i]?=some x->x.Local=false) (hk:l.length<=k):w=gT w l:=by
  unfold gT
  have:(l.find? fun e=>e.Local)=none:=by
    rw[List.find?_eq_none]
    intro x hx
    obtain⟨i,hi,rfl⟩:=List.getElem_of_mem hx
    have:=hn i (by omega) _ (List.getElem?_eq_getElem hi)
    simp [this]
  rw[this]
theorem aOD {l:List bD} {k:Nat} {e:bD} (hn:∀ i,i<k->∀ x,l[i]?=some x->x.Local=false) (he:l[k]?=some e) (hl:e.Local=false):∀ i,i<k+1->∀ x,l[i]?=some x->x.Local=false:=by
  intro i hi x hx
  by_cases hk:i=k
  · subst hk
    rw[he] at hx
    simp only[Option.some.injEq] at hx
    subst hx
    exact hl
  · exact hn i (by omega) x hx
def tR (err:Int) (r:List bD) (n:List bA) (f:List cH):Int:=if err≠0 then 0 else if iD r n f then 0 else 161
def rJ (g:hF) (err:Int) (r:List bD) (n:List bA) (f:List cH):hF:=if err≠0 then g else if iD r n f then { g with Routes:=r,Neighs:=n,Fdbs:=f,read:=true,wish:=gT g.wish r } else g
/-! snapped -/
def aDF (rev:Int) (l:List TLease):Bool:=decide (rev<0) || !(gV dL l)
def sT (rev:Int) (l:List TLease):Bool := !aDF rev l&&l.all fun e=>iR e.Subnet
def sM (err rev:Int) (l:List TLease):Int:=if err≠0 then 0 else if sT rev l then 0 else 162
def wF (g:hF) (l:List TLease):aT:=if 0<=eU g.self.Host.v l then ((l[(eU g.self.Host.v l).toNat]?).getD eG).Subnet else g.wish
def qG (g:hF) (err:Int) (rev:Fx .i64) (l:List TLease):hF:=if err≠0 then g else if sT rev.v l then { g with view:=l,cursor:=rev,stale:=false,waiting:=false,skipped:=[],granted:=⟨0,rfl⟩,wish:=wF g l } else g
section
variable {g:hF} {err:Int} {rev:Fx .i64} {l:List TLease} {k:Nat} {e:TLease}
theorem aJO (h0:err=0) (h:(decide (rev.v<0) || !(gV dL l))=true):(162:Int)=sM err rev.v l/\g=qG g err rev l:=by
  have:sT rev.v l=false:=by unfold sT aDF;rw[h];rfl
  simp [sM,qG,h0,this]
theorem aJP (h0:err=0) (he:l[k]?=some e) (hv:(!iR e.Subnet)=true):(162:Int)=sM err rev.v l/\g=qG g err rev l:=by
  have:(l.all fun e=>iR e.Subnet)=false:=by
    refine aM3 he ?_
    simpa using hv
  have:sT rev.v l=false:=by unfold sT;rw[this,Bool.and_false]
  simp [sM,qG,h0,this]
theorem aDG (h0:err=0) (h:(decide (rev.v<0) || !(gV dL l))=false) (hk:l.length<=k) (hv:(l.take k).all (fun e=>iR e.Subnet)=true):sT rev.v l=true:=by
  rw[List.take_of_length_le hk] at hv
  unfold sT aDF;rw[h,hv];rfl
theorem aQ7 (h0:err=0) (ho:sT rev.v l=true) (hi:0<=eU g.self.Host.v l) (he:l[(eU g.self.Host.v l).toNat]?=some e):(0:Int)=sM err rev.v l/\({ g with view:=l,cursor:=rev,stale:=false,waiting:=false,skipped:=[],granted:=⟨0,rfl⟩,wish:=e.Subnet }:hF)=qG g err rev l:=by
  simp [sM,qG,h0,ho,wF,hi,he]
theorem aQ4 (h0:err=0) (ho:sT rev.v l=true) (hi:eU g.self.Host.v l<0):(0:Int)=sM err rev.v l/\({ g with view:=l,cursor:=rev,stale:=false,waiting:=false,skipped:=[],granted:=⟨0,rfl⟩ }:hF)=qG g err rev l:=by
  simp [sM,qG,h0,ho,wF,show ¬ 0<=eU g.self.Host.v l by omega]
theorem aQ6 (h0:err≠0):(0:Int)=sM err rev.v l/\g=qG g err rev l:=by simp [sM,qG,h0]
end
/-! changed -/
def aD8 (o:eV):Bool:=((o.Kind.v==1) || (o.Kind.v==3)) || (o.Kind.v==5)
def aGE (g:hF) (e:TLease):Bool :=
  (((g.opn.Op.Kind.v==1)&&decide (e.Subnet=g.opn.Op.Route.Dst)) || (((g.opn.Op.Kind.v==3)&&(e.Host.v !=g.self.Host.v))&&(e.Subnet.Addr.v==g.opn.Op.Neigh.IP.v))) || (((g.opn.Op.Kind.v==5)&&(e.Host.v !=g.self.Host.v))&&decide (e.MAC=g.opn.Op.Fdb.MAC))
@[irreducible] def mN (g:hF) (k:Nat):List aT:=(g.view.take k).foldl (fun s e=>if aGE g e then iB dH s e.Subnet else s) g.skipped
def kH (g:hF) (err:Int):hF:=if err=0 then mC g g.opn.Op else if ((err==4)&&aD8 g.opn.Op)=true then { g with degraded:=true,skipped:=mN g g.view.length } else g
theorem aHX {g:hF}:g.skipped=mN g 0:=by unfold mN;rfl
theorem aHZ {g:hF} {k:Nat} {e:TLease} (h:g.view[k]?=some e) (hu:aGE g e=true):iB dH (mN g k) e.Subnet=mN g (k+1):=by
  unfold mN
  rw[List.take_add_one,h]
  simp [List.foldl_append,hu]
theorem aHY {g:hF} {k:Nat} {e:TLease} (h:g.view[k]?=some e) (hu:aGE g e=false):mN g k=mN g (k+1):=by
  unfold mN
  rw[List.take_add_one,h]
  simp [List.foldl_append,hu]
theorem aGA {g:hF} {k:Nat}:(mN g k).length<=g.skipped.length+k:=by
  induction k with
  | zero=>rw[<-aHX];omega
  | succ k ih =>
    cases h:g.view[k]? with
    | none =>
      have:mN g (k+1)=mN g k:=by
        unfold mN
        rw[List.take_add_one,h]
        simp
      rw[this];omega
    | some e =>
      cases hu:aGE g e with
      | true =>
        rw[<-aHZ h hu]
        have:=rE dH (mN g k) e.Subnet
        omega
      | false=>rw[<-aHY h hu];omega
/-! leased -/
def tW (g:hF) (x:TLease):Bool := !((x.Host.v !=g.self.Host.v) || !(iR x.Subnet))
def lV (g:hF) (err:Int) (x:TLease):Int :=
  if ((err==4)&&(g.opn.Kind.v==4))=true then 0 else if ((err==111) && !(g.opn.Kind.v==4))=true then 0 else if err≠0 then 0 else if tW g x then 0 else 162
def gO (g:hF) (x:TLease):List TLease:=match g.view[(eU g.self.Host.v g.view).toNat]? with
  | some e=>if 0<=eU g.self.Host.v g.view/\e.Subnet=x.Subnet then g.view.set (eU g.self.Host.v g.view).toNat { e with Until:=x.Until } else g.view
  | none=>g.view
def jU (g:hF) (err:Int) (x:TLease):hF :=
  if ((err==4)&&(g.opn.Kind.v==4))=true then { g with waiting:=true } else if ((err==111) && !(g.opn.Kind.v==4))=true then { g with stale:=true } else if err≠0 then g
  else if tW g x then (if g.opn.Kind.v=4 then { g with view:=gO g x,granted:=x.Rev,wish:=x.Subnet } else { g with view:=gO g x }) else g
/-! watched -/
def wO (g:hF) (v:TEvent):hF :=
  if v.Kind.v=1 then (if v.Lease.Host.v=g.self.Host.v then { g with cursor:=v.Rev,view:=iB dL g.view v.Lease,wish:=v.Lease.Subnet } else { g with cursor:=v.Rev,view:=iB dL g.view v.Lease })
  else { g with cursor:=v.Rev,view:=fJ dL g.view v.Lease,skipped:=fJ dH g.skipped v.Lease.Subnet,waiting:=false }
@[irreducible] def pJ (g:hF) (l:List TEvent) (k:Nat):hF:=(l.take k).foldl wO g
theorem aL3 {g:hF} {l:List TEvent}:g=pJ g l 0:=by unfold pJ;rfl
theorem vQ {g:hF} {l:List TEvent} {k:Nat} {e:TEvent} (h:l[k]?=some e):wO (pJ g l k) e=pJ g l (k+1):=by
  unfold pJ
  rw[List.take_add_one,h]
  simp
theorem aL4 {g:hF} {l:List TEvent} {k:Nat}:(pJ g l k).view.length<=g.view.length+k/\(pJ g l k).skipped.length<=g.skipped.length:=by
  induction k with
  | zero=>rw[<-aL3];omega
  | succ k ih =>
    cases h:l[k]? with
    | none =>
      have:pJ g l (k+1)=pJ g l k:=by
        unfold pJ
        rw[List.take_add_one,h]
        simp
      rw[this];omega
    | some e =>
      rw[<-vQ h]
      have h1:=rE dL (pJ g l k).view e.Lease
      have h2:(fJ dL (pJ g l k).view e.Lease).length<=(pJ g l k).view.length:=by
        unfold fJ;split <;> simp <;> omega
      have h3:(fJ dH (pJ g l k).skipped e.Lease.Subnet).length<=(pJ g l k).skipped.length:=by
        unfold fJ;split <;> simp <;> omega
      unfold wO
      split
      · split <;> simp only <;> omega
      · simp only;omega
def pR (err:Int):Bool:=(err==112) || ((err==113) || ((err==140) || ((err==141) || (err==142))))
def lQ (g:hF) (err:Int) (l:List TEvent):Int:=if err≠0 then 0 else if oI g l then 0 else 162
def jZ (g:hF) (err:Int) (l:List TEvent):hF:=if err=0 then (if oI g l then pJ g l l.length else g) else if pR err then { g with stale:=true } else g
/-! the walks' words -/
section
variable {g:hF} {err:Int} {x:TLease} {e:TLease} {V:List TLease}
theorem aI1 (h0:eU g.self.Host.v g.view<0):g.view=gO g x:=by
  unfold gO
  cases g.view[(eU g.self.Host.v g.view).toNat]? with
  | none=>rfl
  | some e=>simp only;rw[if_neg (by omega)]
theorem aI2 (he:g.view[(eU g.self.Host.v g.view).toNat]?=some e) (hd:decide (e.Subnet=x.Subnet)=false):g.view=gO g x:=by
  unfold gO
  rw[he]
  simp only
  rw[if_neg (fun h=>of_decide_eq_false hd h.2)]
theorem aP5 (h0:0<=eU g.self.Host.v g.view) (he:g.view[(eU g.self.Host.v g.view).toNat]?=some e) (hd:decide (e.Subnet=x.Subnet)=true):g.view.set (eU g.self.Host.v g.view).toNat ⟨e.Host,e.Subnet,e.Pub,e.MAC,x.Until,e.Rev⟩=gO g x:=by
  unfold gO
  rw[he]
  simp only
  rw[if_pos ⟨h0,of_decide_eq_true hd⟩]
theorem aIU (h:((err==4)&&(g.opn.Kind.v==4))=true):(0:Int)=lV g err x/\({ g with waiting:=true }:hF)=jU g err x:=by
  unfold lV jU;rw[if_pos h,if_pos h];exact⟨rfl,rfl⟩
theorem aIV (h1:((err==4)&&(g.opn.Kind.v==4))=false) (h:((err==111) && !(g.opn.Kind.v==4))=true):(0:Int)=lV g err x/\({ g with stale:=true }:hF)=jU g err x:=by
  unfold lV jU;rw[h1];simp only[Bool.false_eq_true,if_false];rw[if_pos h,if_pos h];exact⟨rfl,rfl⟩
theorem aIW (h1:((err==4)&&(g.opn.Kind.v==4))=false) (h2:((err==111) && !(g.opn.Kind.v==4))=false) (h:err≠0):(0:Int)=lV g err x/\g=jU g err x:=by
  unfold lV jU;rw[h1,h2];simp only[Bool.false_eq_true,if_false];rw[if_pos h,if_pos h];exact⟨rfl,rfl⟩
theorem aIX (h1:((err==4)&&(g.opn.Kind.v==4))=false) (h2:((err==111) && !(g.opn.Kind.v==4))=false) (h3:err=0) (h:((x.Host.v !=g.self.Host.v) || !(iR x.Subnet))=true):(162:Int)=lV g err x/\g=jU g err x:=by
  unfold lV jU tW;rw[h1,h2,h];simp [h3]
theorem vT (h1:((err==4)&&(g.opn.Kind.v==4))=false) (h2:((err==111) && !(g.opn.Kind.v==4))=false) (h3:err=0) (h4:((x.Host.v !=g.self.Host.v) || !(iR x.Subnet))=false) (hv:V=gO g x) (h:(g.opn.Kind.v==4)=true):(0:Int)=lV g err x/\({ g with view:=V,granted:=x.Rev,wish:=x.Subnet }:hF)=jU g err x:=by
  have hk:g.opn.Kind.v=4:=by simpa using h
  unfold lV jU tW;rw[h1,h2,h4,hv];simp [h3,hk]
theorem vU (h1:((err==4)&&(g.opn.Kind.v==4))=false) (h2:((err==111) && !(g.opn.Kind.v==4))=false) (h3:err=0) (h4:((x.Host.v !=g.self.Host.v) || !(iR x.Subnet))=false) (hv:V=gO g x) (h:(g.opn.Kind.v==4)=false):(0:Int)=lV g err x/\({ g with view:=V }:hF)=jU g err x:=by
  have hk:¬ g.opn.Kind.v=4:=by simpa using h
  unfold lV jU tW;rw[h1,h2,h4,hv];simp [h3,hk]
theorem aM7 {k:Nat} (h0:¬ err=0) (hp:((err==4)&&(((g.opn.Op.Kind.v==1) || (g.opn.Op.Kind.v==3)) || (g.opn.Op.Kind.v==5)))=true) (hk:k=g.view.length):({ g with skipped:=mN g k,degraded:=true }:hF)=kH g err:=by
  unfold kH aD8;rw[if_neg h0,if_pos hp,hk]
theorem aM6 (h0:¬ err=0) (hp:((err==4)&&(((g.opn.Op.Kind.v==1) || (g.opn.Op.Kind.v==3)) || (g.opn.Op.Kind.v==5)))=false):g=kH g err:=by
  unfold kH aD8;rw[if_neg h0,hp];rfl
theorem aM8 (h0:err=0):mC g g.opn.Op=kH g err:=by
  unfold kH;rw[if_pos h0]
end
section
variable {g:hF} {l:List TEvent} {k:Nat} {e:TEvent} {err:Int}
theorem a35 (h:l[k]?=some e) (h1:e.Kind.v=1) (h2:e.Lease.Host.v=(pJ g l k).self.Host.v):({ pJ g l k with cursor:=e.Rev,view:=iB dL (pJ g l k).view e.Lease,wish:=e.Lease.Subnet }:hF)=pJ g l (k+1):=by
  rw[<-vQ h];unfold wO;rw[if_pos h1,if_pos h2]
theorem a36 (h:l[k]?=some e) (h1:e.Kind.v=1) (h2:¬ e.Lease.Host.v=(pJ g l k).self.Host.v):({ pJ g l k with cursor:=e.Rev,view:=iB dL (pJ g l k).view e.Lease }:hF)=pJ g l (k+1):=by
  rw[<-vQ h];unfold wO;rw[if_pos h1,if_neg h2]
theorem a37 (h:l[k]?=some e) (h1:¬ e.Kind.v=1):({ pJ g l k with cursor:=e.Rev,view:=fJ dL (pJ g l k).view e.Lease,skipped:=fJ dH (pJ g l k).skipped e.Lease.Subnet,waiting:=false }:hF)=pJ g l (k+1):=by
  rw[<-vQ h];unfold wO;rw[if_neg h1]
theorem aGF (h:err=0) (hm:(!(oI g l))=true):(162:Int)=lQ g err l/\g=jZ g err l:=by
  have hm:oI g l=false:=by simpa using hm
  simp [lQ,jZ,h,hm]
theorem aGG (h:err=0) (hm:(!(oI g l))=false) (hk:k=l.length):(0:Int)=lQ g err l/\pJ g l k=jZ g err l:=by
  have hm:oI g l=true:=by simpa using hm
  simp [lQ,jZ,h,hm,hk]
theorem oC (h:err=112\/err=113\/err=140\/err=141\/err=142):(0:Int)=lQ g err l/\({ g with stale:=true }:hF)=jZ g err l:=by
  have h0:err≠0:=by omega
  have hs:pR err=true:=by simpa [pR] using h
  simp [lQ,jZ,h0,hs]
theorem aGH (h0:err≠0) (h:err≠112/\err≠113/\err≠140/\err≠141/\err≠142):(0:Int)=lQ g err l/\g=jZ g err l:=by
  have hs:pR err=false:=by simpa [pR] using h
  simp [lQ,jZ,h0,hs]
end
/-! Done -/
def oX (g:hF) (r:pT):Int :=
  if g.opn.Kind.v=1 then tR r.Err.v r.Routes r.Neighs r.Fdbs else if g.opn.Kind.v=2 then sM r.Err.v r.Rev.v r.Leases else if g.opn.Kind.v=3 then 0
  else if g.opn.Kind.v=4\/g.opn.Kind.v=5 then lV g r.Err.v r.Answer.Lease else if g.opn.Kind.v=6 then lQ g r.Err.v r.Events else 0
def nL (g:hF) (r:pT):hF :=
  if g.opn.Kind.v=1 then rJ g r.Err.v r.Routes r.Neighs r.Fdbs else if g.opn.Kind.v=2 then qG g r.Err.v r.Rev r.Leases else if g.opn.Kind.v=3 then kH g r.Err.v
  else if g.opn.Kind.v=4\/g.opn.Kind.v=5 then jU g r.Err.v r.Answer.Lease else if g.opn.Kind.v=6 then jZ g r.Err.v r.Events else g
def sW (g:hF) (r:pT):Int:=if g.opn.Kind.v=0 then 160 else oX g r
def jT (g:hF) (r:pT):hF:=if g.opn.Kind.v=0 then g else if oX g r≠0 then nL g r else { nL g r with renewed:=((nL g r).opn.Kind.v==5)&&(r.Err.v==0),quiet:=(g.opn.Kind.v==6)&&((r.Err.v==0)&&((r.Events.length:Int)==0)),opn:=nB }
section
variable {g A:hF} {r:pT} {E:Int} {b q:Bool}
theorem tk1 (h:g.opn.Kind.v=1):oX g r=tR r.Err.v r.Routes r.Neighs r.Fdbs/\nL g r=rJ g r.Err.v r.Routes r.Neighs r.Fdbs:=by simp [oX,nL,h]
theorem tk2 (h:g.opn.Kind.v=2):oX g r=sM r.Err.v r.Rev.v r.Leases/\nL g r=qG g r.Err.v r.Rev r.Leases:=by simp [oX,nL,h]
theorem tk3 (h:g.opn.Kind.v=3):oX g r=0/\nL g r=kH g r.Err.v:=by simp [oX,nL,h]
theorem tk4 (h:g.opn.Kind.v=4\/g.opn.Kind.v=5):oX g r=lV g r.Err.v r.Answer.Lease/\nL g r=jU g r.Err.v r.Answer.Lease:=by
  unfold oX nL
  rw[if_neg (by omega),if_neg (by omega),if_neg (by omega),if_pos h,if_neg (by omega),if_neg (by omega),if_neg (by omega),if_pos h]
  exact⟨rfl,rfl⟩
theorem tk6 (h:g.opn.Kind.v=6):oX g r=lQ g r.Err.v r.Events/\nL g r=jZ g r.Err.v r.Events:=by simp [oX,nL,h]
theorem tkn (h1:g.opn.Kind.v≠1) (h2:g.opn.Kind.v≠2) (h3:g.opn.Kind.v≠3) (h4:¬ (g.opn.Kind.v=4\/g.opn.Kind.v=5)) (h6:g.opn.Kind.v≠6):oX g r=0/\nL g r=g:=by
  simp [oX,nL,h1,h2,h3,h4,h6]
theorem aPF (h:g.opn.Kind.v=0):160=sW g r/\g=jT g r:=by simp [sW,jT,h]
theorem vC (he:oX g r=E/\nL g r=A) (hE:E≠0) (h0:g.opn.Kind.v≠0):E=sW g r/\A=jT g r:=by
  unfold sW jT
  rw[if_neg h0,if_neg h0,he.1,if_pos hE,he.2]
  exact⟨rfl,rfl⟩
theorem qT (he:oX g r=E/\nL g r=A) (hE:E=0) (h0:g.opn.Kind.v≠0) (hq:q=((g.opn.Kind.v==6)&&((r.Err.v==0)&&((r.Events.length:Int)==0)))):0=sW g r/\({ A with renewed:=(A.opn.Kind.v==5)&&(r.Err.v==0),quiet:=q,opn:=nB }:hF)=jT g r:=by
  unfold sW jT
  rw[if_neg h0,if_neg h0,he.1,if_neg (by omega),he.2,hE,hq]
  exact⟨rfl,rfl⟩
theorem qt0 (h:g.opn.Kind.v≠6):false=((g.opn.Kind.v==6)&&((r.Err.v==0)&&((r.Events.length:Int)==0))):=by simp [h]
theorem qt6 (h:g.opn.Kind.v=6):((r.Err.v==0)&&((r.Events.length:Int)==0))=((g.opn.Kind.v==6)&&((r.Err.v==0)&&((r.Events.length:Int)==0))):=by simp [h]
end
/-! Next -/
def iM (g:hF) (now:Int):eH:=if g.opn.Kind.v≠0 then g.opn else if g.read=false then ⟨⟨1,rfl⟩,jA,mM,⟨0,rfl⟩,⟨0,rfl⟩⟩ else if g.stale then ⟨⟨2,rfl⟩,jA,mM,⟨0,rfl⟩,⟨0,rfl⟩⟩
  else if zC g then wM g else if pB g then rM g else if tD g now then uD g else pZ g
def jB (g:hF) (now:Int):hF:={ g with opn:=iM g now }
theorem aIG {g:hF} (h:zC g=true):(wM g).Kind.v=3:=by
  unfold zC at h;unfold wM
  cases hc:fY g with
  | nil=>rw[hc] at h;cases h
  | cons o r=>rfl
theorem aH7 {g:hF} (h:pB g=true):(rM g).Kind.v=4:=by
  unfold pB at h;unfold rM
  cases hm:nZ g with
  | true=>rw[hm] at h;cases h
  | false=>rfl
theorem aJE {g:hF} {now:Int} (h:tD g now=true):(uD g).Kind.v=5:=by
  unfold tD at h;unfold uD
  cases hm:aCR g with
  | true=>rw[hm] at h;cases h
  | false=>rfl
section
variable {g:hF} {now:Int} {Q:eH}
theorem nx0 (h:g.opn.Kind.v≠0):g=jB g now:=by unfold jB iM;rw[if_pos h]
theorem nx (h:Q=iM g now):({ g with opn:=Q }:hF)=jB g now:=by rw[h];rfl
theorem nq0 (h:g.opn.Kind.v≠0):g.opn=iM g now:=by unfold iM;rw[if_pos h]
theorem nq1 (h:g.opn.Kind.v=0) (hr:(!g.read)=true):(⟨⟨1,rfl⟩,jA,mM,⟨0,rfl⟩,⟨0,rfl⟩⟩:eH)=iM g now:=by unfold iM;simp only[Bool.not_eq_true'] at hr;rw[if_neg (by omega),if_pos hr]
theorem nq2 (h:g.opn.Kind.v=0) (hr:(!g.read)=false) (hs:g.stale=true):(⟨⟨2,rfl⟩,jA,mM,⟨0,rfl⟩,⟨0,rfl⟩⟩:eH)=iM g now:=by unfold iM;simp only[Bool.not_eq_false'] at hr;rw[if_neg (by omega),if_neg (by simp [hr]),if_pos hs]
theorem nq3 (h:g.opn.Kind.v=0) (hr:(!g.read)=false) (hs:g.stale=false) (hc:zC g=true):wM g=iM g now:=by unfold iM;simp only[Bool.not_eq_false'] at hr;rw[if_neg (by omega),if_neg (by simp [hr]),if_neg (by simp [hs]),if_pos hc]
theorem nq4 (h:g.opn.Kind.v=0) (hr:(!g.read)=false) (hs:g.stale=false) (hc:zC g=false) (ha:pB g=true):rM g=iM g now:=by unfold iM;simp only[Bool.not_eq_false'] at hr;rw[if_neg (by omega),if_neg (by simp [hr]),if_neg (by simp [hs]),if_neg (by simp [hc]),if_pos ha]
theorem nq5 (h:g.opn.Kind.v=0) (hr:(!g.read)=false) (hs:g.stale=false) (hc:zC g=false) (ha:pB g=false) (hb:tD g now=true):uD g=iM g now:=by unfold iM;simp only[Bool.not_eq_false'] at hr;rw[if_neg (by omega),if_neg (by simp [hr]),if_neg (by simp [hs]),if_neg (by simp [hc]),if_neg (by simp [ha]),if_pos hb]
theorem nq6 (h:g.opn.Kind.v=0) (hr:(!g.read)=false) (hs:g.stale=false) (hc:zC g=false) (ha:pB g=false) (hb:tD g now=false):pZ g=iM g now:=by unfold iM;simp only[Bool.not_eq_false'] at hr;rw[if_neg (by omega),if_neg (by simp [hr]),if_neg (by simp [hs]),if_neg (by simp [hc]),if_neg (by simp [ha]),if_neg (by simp [hb])]
end
/-! New -/
def wJ (s:kA):Bool:=((decide (s.Host.v<0) || decide (s.Host.v>63)) || decide (s.Renew.v<1)) || decide (s.Renew.v>1099511627776)
def qJ (s:kA):hF:=⟨s,nB,false,[],[],[],[],⟨0,rfl⟩,true,[],false,⟨0,rfl⟩,false,fM,false,false⟩
end Go.Proofs.YtnbpodjbemfpbaaGreat.Fw
set_option linter.all false
namespace Go.Proofs.YtnbpodjbemfpbaaGreat.Fw
open Go
/-! sizes of the agent's lists behind a call -/
theorem aAK {α:Type} (c:α->α->Fx .i64) (l:List α) (x:α):(fJ c l x).length<=l.length:=by
  unfold fJ;split <;> simp <;> omega
structure Grows (g h:hF) (v r n f s:Nat):Prop where
  v:h.view.length<=g.view.length+v
  r:h.Routes.length<=g.Routes.length+r
  n:h.Neighs.length<=g.Neighs.length+n
  f:h.Fdbs.length<=g.Fdbs.length+f
  s:h.skipped.length<=g.skipped.length+s
theorem aG0 {g:hF} {v r n f s:Nat}:Grows g g v r n f s:=⟨by omega,by omega,by omega,by omega,by omega⟩
theorem aIE {g:hF} {o:eV} {v s:Nat}:Grows g (mC g o) v 1 1 1 s:=by
  have h1:=rE bS g.Routes o.Route
  have h2:=rE bB g.Neighs o.Neigh
  have h3:=rE bY g.Fdbs o.Fdb
  have h4:=aAK bS g.Routes o.Route
  have h5:=aAK bB g.Neighs o.Neigh
  have h6:=aAK bY g.Fdbs o.Fdb
  unfold mC
  repeat' split
  all_goals exact⟨by first|omega|(simp only;omega),by first|omega|(simp only;omega),by first|omega|(simp only;omega),by first|omega|(simp only;omega),by first|omega|(simp only;omega)⟩
theorem dump_grows {g:hF} {e:Int} {a:List bD} {b:List bA} {c:List cH} {v s:Nat}:Grows g (rJ g e a b c) v a.length b.length c.length s:=by
  unfold rJ
  repeat' split
  all_goals exact⟨by first|omega|(simp only;omega),by first|omega|(simp only;omega),by first|omega|(simp only;omega),by first|omega|(simp only;omega),by first|omega|(simp only;omega)⟩
theorem aLM {g:hF} {e:Int} {rev:Fx .i64} {l:List TLease} {r n f s:Nat}:Grows g (qG g e rev l) l.length r n f s:=by
  unfold qG
  repeat' split
  all_goals exact⟨by first|omega|(simp only;omega),by first|omega|(simp only;omega),by first|omega|(simp only;omega),by first|omega|(simp only;omega),by first|omega|(simp only[List.length_nil];omega)⟩
theorem aFD {g:hF} {e:Int} {v:Nat}:Grows g (kH g e) v 1 1 1 g.view.length:=by
  unfold kH
  have h:=aGA (g:=g) (k:=g.view.length)
  repeat' split
  · exact aIE
  · exact⟨by(simp only;omega),by(simp only;omega),by(simp only;omega),by(simp only;omega),by omega⟩
  · exact aG0
theorem aEE {g:hF} {x:TLease}:(gO g x).length=g.view.length:=by
  unfold gO
  repeat' split
  all_goals simp
theorem aG8 {g:hF} {e:Int} {x:TLease} {v r n f s:Nat}:Grows g (jU g e x) v r n f s:=by
  unfold jU
  have h:=aEE (g:=g) (x:=x)
  repeat' split
  all_goals exact⟨by first|omega|(simp only;omega),by first|omega|(simp only;omega),by first|omega|(simp only;omega),by first|omega|(simp only;omega),by first|omega|(simp only;omega)⟩
theorem aR9 {g:hF} {l:List TEvent} {k:Nat}:(pJ g l k).Routes=g.Routes/\(pJ g l k).Neighs=g.Neighs/\(pJ g l k).Fdbs=g.Fdbs:=by
  induction k with
  | zero=>rw[<-aL3];exact⟨rfl,rfl,rfl⟩
  | succ k ih =>
    cases h:l[k]? with
    | none =>
      have:pJ g l (k+1)=pJ g l k:=by
        unfold pJ
        rw[List.take_add_one,h]
        simp
      rw[this];exact ih
    | some e =>
      rw[<-vQ h]
      unfold wO
      split
      · split <;> exact ih
      · exact ih
theorem aFJ {g:hF} {e:Int} {l:List TEvent} {r n f s:Nat}:Grows g (jZ g e l) l.length r n f s:=by
  have h:=aL4 (g:=g) (l:=l) (k:=l.length)
  obtain⟨h1,h2,h3⟩:=aR9 (g:=g) (l:=l) (k:=l.length)
  unfold jZ
  repeat' split
  · exact⟨h.1,by rw[h1];omega,by rw[h2];omega,by rw[h3];omega,by omega⟩
  all_goals exact⟨by first|omega|(simp only;omega),by first|omega|(simp only;omega),by first|omega|(simp only;omega),by first|omega|(simp only;omega),by first|omega|(simp only;omega)⟩
theorem Grows.le {g h:hF} {v r n f s v' r' n' f' s':Nat} (x:Grows g h v r n f s) (h1:v<=v') (h2:r<=r') (h3:n<=n') (h4:f<=f') (h5:s<=s'):Grows g h v' r' n' f' s' :=
  ⟨Nat.le_trans x.v (by omega),Nat.le_trans x.r (by omega),Nat.le_trans x.n (by omega),Nat.le_trans x.f (by omega),Nat.le_trans x.s (by omega)⟩
theorem aJS {g:hF} {r:pT}:Grows g (nL g r) (r.Leases.length+r.Events.length) (r.Routes.length+1) (r.Neighs.length+1) (r.Fdbs.length+1) g.view.length:=by
  unfold nL
  split
  · exact dump_grows.le (Nat.le_refl _) (by omega) (by omega) (by omega) (Nat.le_refl _)
  split
  · exact(aLM (r:=0) (n:=0) (f:=0) (s:=0)).le (by omega) (by omega) (by omega) (by omega) (by omega)
  split
  · exact(aFD (v:=0)).le (by omega) (by omega) (by omega) (by omega) (Nat.le_refl _)
  split
  · exact aG8
  split
  · exact(aFJ (r:=0) (n:=0) (f:=0) (s:=0)).le (by omega) (by omega) (by omega) (by omega) (by omega)
  · exact aG0
theorem aKP {g:hF} {r:pT}:Grows g (jT g r) (r.Leases.length+r.Events.length) (r.Routes.length+1) (r.Neighs.length+1) (r.Fdbs.length+1) g.view.length:=by
  have h:=aJS (g:=g) (r:=r)
  unfold jT
  split
  · exact aG0
  split
  · exact h
  · exact⟨h.v,h.r,h.n,h.f,h.s⟩
/-! asking -/
theorem aKW (g:hF) (now:Int):(iM g now).Kind.v≠0:=by
  unfold iM
  split
  · assumption
  split
  · simp
  split
  · simp
  split
  · rename_i h;rw[aIG h];omega
  split
  · rename_i h;rw[aH7 h];omega
  split
  · rename_i h;rw[aJE h];omega
  · simp [pZ]
/-! a script -/
def nJ (o:yN):pT:=⟨o.Err,o.Answer,o.Rev,o.Snap_Now,o.Leases,o.Events,o.Routes,o.Neighs,o.Fdbs⟩
def aEK (o:yN):Nat:=1+o.Leases.length+o.Events.length+o.Routes.length+o.Neighs.length+o.Fdbs.length
def kQ:List yN->Nat
  | []=>0
  | o::r=>aEK o+kQ r
section
variable {s:kA} {l:List yN} {k:Nat} {o:yN}
theorem zY (h:l[k]?=some o):kQ (l.take (k+1))=kQ (l.take k)+aEK o:=by
  rw[List.take_add_one,h]
  generalize l.take k=q
  show kQ (q++[o])=_
  induction q with
  | nil=>simp [kQ]
  | cons a r ih=>simp only[List.cons_append,kQ,ih];omega
theorem aEL (l:List yN) (k:Nat):kQ (l.take k)<=kQ l:=by
  induction l generalizing k with
  | nil=>simp [kQ]
  | cons a r ih =>
    cases k with
    | zero=>simp [kQ]
    | succ k=>simp only[List.take_succ_cons,kQ];have:=ih k;omega
theorem aFX (l:List yN):l.length<=kQ l:=by
  induction l with
  | nil=>simp [kQ]
  | cons a r ih=>simp only[List.length_cons,kQ,aEK];omega
theorem aNO (h:l[k]?=some o):aEK o<=kQ l:=by
  have h1:=zY h
  have h2:=aEL l (k+1)
  omega
theorem fI (hz:kQ l<=1048576) (h:l[k]?=some o):o.Leases.length<=1048576/\o.Events.length<=1048576/\o.Routes.length<=1048576/\o.Neighs.length<=1048576/\o.Fdbs.length<=1048576:=by
  have h1:=aNO h
  unfold aEK at h1
  omega
end
/-! nothing is open: Done says so -/
theorem aND {g:hF} {r:pT} (h:g.opn.Kind.v=0):sW g r=160/\jT g r=g:=by simp [sW,jT,h]
/-! the same view -/
theorem aSQ {α:Type} [DecidableEq α] {x y:List α} {k:Nat} {a b:α} (ha:x[k]?=some a) (hb:y[k]?=some b) (h:y=x):(!decide (a=b))=false:=by
  rw[h,ha] at hb
  simp at hb
  simp [hb]
end Go.Proofs.YtnbpodjbemfpbaaGreat.Fw
set_option linter.all false
namespace Go.Proofs.YtnbpodjbemfpbaaGreat.Fw
open Go
/-! changes -/
def kS (s:List aT) (l:List TLease):List TLease:=l.filter fun e => !decide (e.Subnet ∈ s)
section
variable {s:List aT} {l:List TLease} {k:Nat} {e:TLease}
theorem aS0:([]:List TLease)=kS s (l.take 0):=by simp [kS]
theorem aS2 (h:l[k]?=some e) (hc:(!decide (e.Subnet ∈ s))=true):kS s (l.take k)++[e]=kS s (l.take (k+1)):=by
  rw[List.take_add_one,h]
  simp only[kS,List.filter_append,Option.toList_some,List.filter_cons,hc,if_true,List.filter_nil]
theorem aS1 (h:l[k]?=some e) (hc:(!decide (e.Subnet ∈ s))=false):kS s (l.take k)=kS s (l.take (k+1)):=by
  rw[List.take_add_one,h]
  simp only[kS,List.filter_append,Option.toList_some,List.filter_cons,hc,List.filter_nil,List.append_nil,Bool.false_eq_true,if_false]
theorem aNS:(kS s l).length<=l.length:=List.length_filter_le _ _
end
@[irreducible] def fO (a:gU):List eV:=sQ a.Routes a.Neighs a.Fdbs (mF (kS a.skipped a.view) a.self.Host.v).R (mF (kS a.skipped a.view) a.self.Host.v).N (mF (kS a.skipped a.view) a.self.Host.v).F
theorem aJB {a:gU} {k:Nat} (hk:a.view.length<=k):sQ a.Routes a.Neighs a.Fdbs (mF (kS a.skipped (a.view.take k)) a.self.Host.v).R (mF (kS a.skipped (a.view.take k)) a.self.Host.v).N (mF (kS a.skipped (a.view.take k)) a.self.Host.v).F=fO a:=by
  unfold fO
  rw[List.take_of_length_le hk]
theorem aFG (a:gU) (k:Nat):(mF (kS a.skipped (a.view.take k)) a.self.Host.v).R.length<=a.view.length/\(mF (kS a.skipped (a.view.take k)) a.self.Host.v).N.length<=a.view.length/\(mF (kS a.skipped (a.view.take k)) a.self.Host.v).F.length<=a.view.length/\(kS a.skipped (a.view.take k)).length<=a.view.length:=by
  rw[<-aI8]
  have h1:=aF1 (kS a.skipped (a.view.take k)) a.self.Host.v
  have h2:=aNS (s:=a.skipped) (l:=a.view.take k)
  simp only[List.length_take] at h2
  omega
/-! rules -/
@[reducible] def lK (a:gU):hF:=⟨a.self,a.request,a.read,a.Routes,a.Neighs,a.Fdbs,a.view,a.cursor,a.stale,a.skipped,a.degraded,a.granted,a.waiting,a.wish,a.renewed,a.quiet⟩
section
variable {x y:Int}
theorem aYH (x:Int):x=4294967296*Int.tdiv x 4294967296+Int.tmod x 4294967296/\(0<=x->0<=Int.tmod x 4294967296/\Int.tmod x 4294967296<4294967296)/\(x<=0->-4294967296<Int.tmod x 4294967296/\Int.tmod x 4294967296<=0):=by
  refine⟨by have:=Int.mul_tdiv_add_tmod x 4294967296;omega,fun h=>⟨Int.tmod_nonneg _ h,Int.tmod_lt_of_pos _ (by omega)⟩,fun h=>?_⟩
  have h1:=Int.tmod_nonneg (a:=-x) 4294967296 (by omega)
  have h2:=Int.tmod_lt_of_pos (-x) (b:=4294967296) (by omega)
  rw[Int.neg_tmod] at h1 h2
  omega
theorem aRI (z:Int):-9223372036854775808<=IntKind.i64.wrap z/\IntKind.i64.wrap z<=9223372036854775807:=by
  simp only[IntKind.wrap,IntKind.signed,IntKind.bits]
  simp
  omega
theorem aH8 (hx:-9223372036854775808<=x/\x<=9223372036854775807) (hy:-9223372036854775808<=y/\y<=9223372036854775807) (h:x+y>9223372036854775807):(9223372036854775807:Int)=jR x y:=by
  have hw:IntKind.i64.wrap (x+y)=x+y-18446744073709551616:=by
    simp only[IntKind.wrap,IntKind.signed,IntKind.bits]
    simp;omega
  unfold jR
  rw[hw,if_pos]
  simp;omega
theorem aIA (hx:-9223372036854775808<=x/\x<=9223372036854775807) (hy:-9223372036854775808<=y/\y<=9223372036854775807) (h:x+y < -9223372036854775808):(-9223372036854775808:Int)=jR x y:=by
  have hw:IntKind.i64.wrap (x+y)=x+y+18446744073709551616:=by
    simp only[IntKind.wrap,IntKind.signed,IntKind.bits]
    simp;omega
  unfold jR
  rw[hw,if_neg (by simp;omega),if_pos]
  simp;omega
theorem aH9 {z:Int} (hx:-9223372036854775808<=x/\x<=9223372036854775807) (hy:-9223372036854775808<=y/\y<=9223372036854775807) (h:-9223372036854775808<=x+y/\x+y<=9223372036854775807/\z=x+y):z=jR x y:=by
  unfold jR
  rw[cJ h.1 h.2.1,if_neg (by simp;omega),if_neg (by simp;omega),h.2.2]
end
section
variable {g:hF} {e:TLease} {now:Int}
theorem aXG (h0:decide (eU g.self.Host.v g.view>=0)=true) (he:g.view[(eU g.self.Host.v g.view).toNat]?=some e) (h1:(e.Pub.v==g.self.Pub.v)=true):nZ g=decide (e.MAC=g.self.MAC):=by
  have h0:=of_decide_eq_true h0
  unfold nZ;rw[he];simp only[h1,Bool.true_and];rw[decide_eq_true (show 0<=eU g.self.Host.v g.view from h0),Bool.true_and]
theorem aXI (he:g.view[(eU g.self.Host.v g.view).toNat]?=some e) (h1:(e.Pub.v==g.self.Pub.v)=false):nZ g=false:=aBF he h1
theorem aXH (h0:decide (eU g.self.Host.v g.view>=0)=false):nZ g=false:=aBE (by have:=of_decide_eq_false h0;omega)
def xG (g:hF):Bool:=(decide (eU g.self.Host.v g.view>=0) && !g.renewed)&&decide ((aC3 g).Until.v<9223372036854775807)
theorem aX7 (h0:decide (eU g.self.Host.v g.view>=0)=true) (h1:(!g.renewed)=true) (he:g.view[(eU g.self.Host.v g.view).toNat]?=some e):xG g=decide (e.Until.v<9223372036854775807):=by
  unfold xG aC3;rw[h0,h1,he];rfl
theorem aX5 (h0:decide (eU g.self.Host.v g.view>=0)=false):xG g=false:=by unfold xG;rw[h0];rfl
theorem aX6 (h1:(!g.renewed)=false):xG g=false:=by unfold xG;rw[h1,Bool.and_false,Bool.false_and]
theorem aQS (h:xG g=true):0<=eU g.self.Host.v g.view:=by
  unfold xG at h
  simp only[Bool.and_eq_true,decide_eq_true_eq] at h
  exact h.1.1
theorem aHJ:tD g now=(xG g&&decide (now>=jR (aC3 g).Until.v (IntKind.i64.wrap (0-g.self.Renew.v)))):=by
  unfold tD xG aCR
  by_cases h:eU g.self.Host.v g.view<0
  · simp [h,show ¬ 0<=eU g.self.Host.v g.view by omega]
  · simp [h,show 0<=eU g.self.Host.v g.view by omega,Bool.and_assoc]
theorem aS5 (hC:xG g=true) (he:g.view[(eU g.self.Host.v g.view).toNat]?=some e) (hn:decide (now>=jR e.Until.v (IntKind.i64.wrap (0-g.self.Renew.v)))=true):tD g now=true:=by rw[aHJ,hC,aC3,he];exact hn
theorem aQQ (hC:xG g=false):tD g now=false:=by rw[aHJ,hC];rfl
theorem aQR (he:g.view[(eU g.self.Host.v g.view).toNat]?=some e) (hn:decide (now>=jR e.Until.v (IntKind.i64.wrap (0-g.self.Renew.v)))=false):tD g now=false:=by rw[aHJ,aC3,he];simp only[Option.getD_some];rw[hn,Bool.and_false]
theorem aRR (h:pB g=true):(⟨⟨4,rfl⟩,⟨⟨1,rfl⟩,g.self.Host,g.wish,g.self.Pub,g.self.MAC,⟨0,rfl⟩⟩,mM,⟨0,rfl⟩,⟨0,rfl⟩⟩:eH)=rM g:=by
  unfold pB at h;simp only[Bool.and_eq_true,Bool.not_eq_true'] at h;exact zP h.1
theorem aS6 (h:xG g=true) (he:g.view[(eU g.self.Host.v g.view).toNat]?=some e):(⟨⟨5,rfl⟩,⟨⟨2,rfl⟩,g.self.Host,e.Subnet,⟨0,rfl⟩,kG,⟨0,rfl⟩⟩,mM,⟨0,rfl⟩,⟨0,rfl⟩⟩:eH)=uD g:=by
  unfold xG at h;simp only[Bool.and_eq_true,Bool.not_eq_true',decide_eq_true_eq] at h
  exact aK7 (by simp [h.1.2];omega) he
end
def jP (a:gU) (now:Int):eH :=
  if a.read=false then ⟨⟨1,rfl⟩,jA,mM,⟨0,rfl⟩,⟨0,rfl⟩⟩ else if a.stale then ⟨⟨2,rfl⟩,jA,mM,⟨0,rfl⟩,⟨0,rfl⟩⟩
  else match fO a with
    | o::_=>⟨⟨3,rfl⟩,jA,o,⟨0,rfl⟩,⟨0,rfl⟩⟩
    | []=>if pB (lK a)=true then rM (lK a) else if tD (lK a) now=true then uD (lK a) else pZ (lK a)
section
variable {a:gU} {now:Int} {o:eV} {Q:eH}
theorem ru1 (h:(!a.read)=true):(⟨⟨1,rfl⟩,jA,mM,⟨0,rfl⟩,⟨0,rfl⟩⟩:eH)=jP a now:=by
  simp only[Bool.not_eq_true'] at h;unfold jP;rw[if_pos h]
theorem ru2 (h:(!a.read)=false) (hs:a.stale=true):(⟨⟨2,rfl⟩,jA,mM,⟨0,rfl⟩,⟨0,rfl⟩⟩:eH)=jP a now:=by
  simp only[Bool.not_eq_false'] at h;unfold jP;rw[if_neg (by simp [h]),if_pos hs]
theorem ru3 (h:(!a.read)=false) (hs:a.stale=false) (he:(fO a)[0]?=some o):(⟨⟨3,rfl⟩,jA,o,⟨0,rfl⟩,⟨0,rfl⟩⟩:eH)=jP a now:=by
  simp only[Bool.not_eq_false'] at h;unfold jP;rw[if_neg (by simp [h]),if_neg (by simp [hs])]
  cases hc:fO a with
  | nil=>rw[hc] at he;cases he
  | cons x r=>rw[hc] at he;simp at he;rw[he]
theorem aHS (h:(!a.read)=false) (hs:a.stale=false) (hn:decide (((fO a).length:Int)>0)=false):jP a now=if pB (lK a)=true then rM (lK a) else if tD (lK a) now=true then uD (lK a) else pZ (lK a):=by
  simp only[Bool.not_eq_false'] at h;unfold jP;rw[if_neg (by simp [h]),if_neg (by simp [hs])]
  cases hc:fO a with
  | nil=>rfl
  | cons x r=>rw[hc] at hn;simp at hn
theorem ru4 (h:(!a.read)=false) (hs:a.stale=false) (hn:decide (((fO a).length:Int)>0)=false) (ha:pB (lK a)=true) (hq:Q=rM (lK a)):Q=jP a now:=by rw[aHS h hs hn,if_pos ha,hq]
theorem ru5 (h:(!a.read)=false) (hs:a.stale=false) (hn:decide (((fO a).length:Int)>0)=false) (ha:pB (lK a)=false) (hb:tD (lK a) now=true) (hq:Q=uD (lK a)):Q=jP a now:=by rw[aHS h hs hn,if_neg (by simp [ha]),if_pos hb,hq]
theorem ru6 (h:(!a.read)=false) (hs:a.stale=false) (hn:decide (((fO a).length:Int)>0)=false) (ha:pB (lK a)=false) (hb:tD (lK a) now=false):pZ (lK a)=jP a now:=by rw[aHS h hs hn,if_neg (by simp [ha]),if_neg (by simp [hb])]
end
def rA (a:gU) (now:Int):gU:=if a.opn then a else { a with opn:=true,request:=jP a now }
def oK (a:gU) (now:Int):eH:=if a.opn then a.request else jP a now
theorem a1P {a:gU} {now:Int} (h:(!a.opn)=true):({ a with opn:=true,request:=jP a now }:gU)=rA a now/\jP a now=oK a now:=by
  simp only[Bool.not_eq_true'] at h;simp [rA,oK,h]
theorem a1O {a:gU} {now:Int} (h:(!a.opn)=false):a=rA a now/\a.request=oK a now:=by
  simp only[Bool.not_eq_false'] at h;simp [rA,oK,h]
end Go.Proofs.YtnbpodjbemfpbaaGreat.Fw
set_option linter.all false
namespace Go.Proofs.YtnbpodjbemfpbaaGreat.Fw
open Go
/-! dumped -/
def vF (r:List bD) (n:List bA) (f:List cH):Int:=if fU r n f then 0 else 161
def rU (a:gU) (r:List bD) (n:List bA) (f:List cH):gU:=if fU r n f then { a with Routes:=r,Neighs:=n,Fdbs:=f,read:=true,wish:=gT a.wish r } else a
section
variable {w:aT} {l:List bD} {k:Nat} {e:bD} {a:gU} {r:List bD} {n:List bA} {f:List cH}
theorem a4W:w=gT w (l.drop l.length):=by simp [gT]
theorem aMP (h:l[((k:Int)-1).toNat]?=some e) (hk:0<k):l.drop (k-1)=e::l.drop k:=by
  have hi:((k:Int)-1).toNat=k-1:=by omega
  rw[hi] at h
  obtain⟨h1,h2⟩:=List.getElem?_eq_some_iff.1 h
  rw[List.drop_eq_getElem_cons h1,h2,show k-1+1=k by omega]
theorem a4Y (h:l[((k:Int)-1).toNat]?=some e) (hk:0<k) (hl:e.Local=true):e.Dst=gT w (l.drop (k-1)):=by
  rw[aMP h hk];simp [gT,List.find?_cons,hl]
theorem a4X (h:l[((k:Int)-1).toNat]?=some e) (hk:0<k) (hl:e.Local=false):gT w (l.drop k)=gT w (l.drop (k-1)):=by
  rw[aMP h hk];simp [gT,List.find?_cons,hl]
theorem aQN (h:(!(fU r n f))=true):(161:Int)=vF r n f/\a=rU a r n f:=by
  simp only[Bool.not_eq_true'] at h;simp [vF,rU,h]
theorem aUN (h:(!(fU r n f))=false) (hk:k=0):(0:Int)=vF r n f/\({ a with Routes:=r,Neighs:=n,Fdbs:=f,read:=true,wish:=gT a.wish (r.drop k) }:gU)=rU a r n f:=by
  simp only[Bool.not_eq_false'] at h;subst hk;simp [vF,rU,h]
end
/-! pictured -/
def xZ (l:List TLease) (i:Nat):Bool:=match l[i]? with
  | none=>true
  | some e=>iZ e.Subnet&&(i==0 || match l[i-1]? with|some p=>cL p.Subnet e.Subnet|none=>true)
def uU (rev:Int) (l:List TLease):Bool := !decide (rev<0)&&pC (xZ l) l.length
def uW (rev:Int) (l:List TLease):Int:=if uU rev l then 0 else 162
def sK (a:gU) (rev:Fx .i64) (l:List TLease):gU:=if uU rev.v l then { a with view:=l,cursor:=rev,stale:=false,waiting:=false,skipped:=[],granted:=⟨0,rfl⟩,wish:=wF (lK a) l } else a
section
variable {a:gU} {rev:Fx .i64} {l:List TLease} {k:Nat} {e e':TLease}
theorem aP1 (h:l[k]?=some e) (hv:(!iZ e.Subnet)=true):xZ l k=false:=by
  simp only[Bool.not_eq_true'] at hv
  simp [xZ,h,hv]
theorem aP0 (h:l[k]?=some e) (h':l[((k:Int)-1).toNat]?=some e') (hk:(0:Int)<(k:Int)) (hl:(!cL e'.Subnet e.Subnet)=true):xZ l k=false:=by
  have hi:((k:Int)-1).toNat=k-1:=by omega
  rw[hi] at h'
  simp only[Bool.not_eq_true'] at hl
  simp [xZ,h,h',hl];omega
theorem aSL (h:l[k]?=some e) (hv:(!iZ e.Subnet)=false) (hk:¬ (0:Int)<(k:Int)):xZ l k=true:=by
  have:k=0:=by omega
  subst this
  simp only[Bool.not_eq_false'] at hv
  simp [xZ,h,hv]
theorem aSM (h:l[k]?=some e) (h':l[((k:Int)-1).toNat]?=some e') (hv:(!iZ e.Subnet)=false) (hk:(0:Int)<(k:Int)) (hl:(!cL e'.Subnet e.Subnet)=false):xZ l k=true:=by
  have hi:((k:Int)-1).toNat=k-1:=by omega
  rw[hi] at h'
  simp only[Bool.not_eq_false'] at hl hv
  simp [xZ,h,h',hl,hv]
theorem aMG (h:rev.v<0):(162:Int)=uW rev.v l/\a=sK a rev l:=by
  have:uU rev.v l=false:=by simp [uU,h]
  simp [uW,sK,this]
theorem aDC (hk:k<l.length) (h:xZ l k=false):(162:Int)=uW rev.v l/\a=sK a rev l:=by
  have:uU rev.v l=false:=by simp [uU,rO hk h]
  simp [uW,sK,this]
theorem aHE (h0:¬ rev.v<0) (hk:l.length<=k) (h:pC (xZ l) k=true):uU rev.v l=true:=by
  simp [uU,aC7 hk h];omega
theorem aUJ (ho:uU rev.v l=true) (hi:0<=eU a.self.Host.v l) (he:l[(eU a.self.Host.v l).toNat]?=some e):(0:Int)=uW rev.v l/\({ a with view:=l,cursor:=rev,stale:=false,waiting:=false,skipped:=[],granted:=⟨0,rfl⟩,wish:=e.Subnet }:gU)=sK a rev l:=by
  simp [uW,sK,ho,wF,hi,he]
theorem aUI (ho:uU rev.v l=true) (hi:eU a.self.Host.v l<0):(0:Int)=uW rev.v l/\({ a with view:=l,cursor:=rev,stale:=false,waiting:=false,skipped:=[],granted:=⟨0,rfl⟩ }:gU)=sK a rev l:=by
  simp [uW,sK,ho,wF,show ¬ 0<=eU a.self.Host.v l by omega]
end
/-! carried -/
def gR (o:eV) (e:bD):Bool:=((o.Kind.v==1) || (o.Kind.v==2))&&decide (e.Dst=o.Route.Dst)
def gN (o:eV) (e:bA):Bool:=((o.Kind.v==3) || (o.Kind.v==4))&&(e.IP.v==o.Neigh.IP.v)
def gF (o:eV) (e:cH):Bool:=((o.Kind.v==5) || (o.Kind.v==6))&&decide (e.MAC=o.Fdb.MAC)
def cV {α:Type} (g:α->Bool) (l:List α):List α:=l.filter fun e => !g e
section
variable {α:Type} {g:α->Bool} {l:List α} {k:Nat} {e:α}
theorem aA8:([]:List α)=cV g (l.take 0):=by simp [cV]
theorem aG5 (h:l[k]?=some e) (hc:(!g e)=true):cV g (l.take k)++[e]=cV g (l.take (k+1)):=by
  rw[List.take_add_one,h]
  simp only[cV,List.filter_append,Option.toList_some,List.filter_cons,hc,if_true,List.filter_nil]
theorem aG4 (h:l[k]?=some e) (hc:(!g e)=false):cV g (l.take k)=cV g (l.take (k+1)):=by
  rw[List.take_add_one,h]
  simp only[cV,List.filter_append,Option.toList_some,List.filter_cons,hc,List.filter_nil,List.append_nil,Bool.false_eq_true,if_false]
theorem vR {z:α} (h:l[k]?=some e) (hc:(!g ((l[k]?).getD z))=true):cV g (l.take k)++[e]=cV g (l.take (k+1)):=aG5 h (by rw[h] at hc;exact hc)
theorem aEB {z:α} (hk:k<l.length) (hc:(!g ((l[k]?).getD z))=false):cV g (l.take k)=cV g (l.take (k+1)):=by
  have h:l[k]?=some l[k]:=List.getElem?_eq_getElem hk
  exact aG4 h (by rw[h] at hc;exact hc)
theorem rT:(cV g l).length<=l.length:=List.length_filter_le _ _
theorem aFW (h:l.length<=k):cV g (l.take k)=cV g l:=by rw[List.take_of_length_le h]
theorem xV:(cV g (l.take k)).length<=l.length:=by
  have:=rT (g:=g) (l:=l.take k)
  simp only[List.length_take] at this
  omega
end
def qF (a:gU) (o:eV):gU :=
  if o.Kind.v=1 then { a with Routes:=nW o.Route (cV (gR o) a.Routes),Neighs:=cV (gN o) a.Neighs,Fdbs:=cV (gF o) a.Fdbs }
  else if o.Kind.v=3 then { a with Routes:=cV (gR o) a.Routes,Neighs:=pY o.Neigh (cV (gN o) a.Neighs),Fdbs:=cV (gF o) a.Fdbs }
  else if o.Kind.v=5 then { a with Routes:=cV (gR o) a.Routes,Neighs:=cV (gN o) a.Neighs,Fdbs:=aBS o.Fdb (cV (gF o) a.Fdbs) }
  else { a with Routes:=cV (gR o) a.Routes,Neighs:=cV (gN o) a.Neighs,Fdbs:=cV (gF o) a.Fdbs }
/-! changed -/
def aES (a:gU) (e:TLease):Bool:=aGE (lK a) e
@[irreducible] def hX (a:gU) (k:Nat):List aT:=(a.view.take k).foldl (fun s e=>if aES a e && !decide (e.Subnet ∈ s) then s++[e.Subnet] else s) a.skipped
def rK (a:gU) (err:Int):gU:=if err=0 then qF a a.request.Op else if ((err==4)&&aD8 a.request.Op)=true then { a with degraded:=true,skipped:=hX a a.view.length } else a
section
variable {a:gU} {k:Nat} {e:TLease} {err:Int}
theorem aEP:a.skipped=hX a 0:=by unfold hX;rfl
theorem aBI (h:a.view[k]?=some e) (hu:(aES a e && !decide (e.Subnet ∈ hX a k))=true):hX a k++[e.Subnet]=hX a (k+1):=by
  unfold hX at hu ⊢
  rw[List.take_add_one,h]
  simp only[List.foldl_append,Option.toList_some,List.foldl_cons,List.foldl_nil]
  rw[if_pos hu]
theorem aBH (h:a.view[k]?=some e) (hu:(aES a e && !decide (e.Subnet ∈ hX a k))=false):hX a k=hX a (k+1):=by
  unfold hX at hu ⊢
  rw[List.take_add_one,h]
  simp only[List.foldl_append,Option.toList_some,List.foldl_cons,List.foldl_nil]
  rw[if_neg (by rw[hu];exact Bool.false_ne_true)]
theorem aEQ:(hX a k).length<=a.skipped.length+k:=by
  induction k with
  | zero=>rw[<-aEP];omega
  | succ k ih =>
    cases h:a.view[k]? with
    | none =>
      have:hX a (k+1)=hX a k:=by
        unfold hX
        rw[List.take_add_one,h]
        simp
      rw[this];omega
    | some e =>
      cases hu:(aES a e && !decide (e.Subnet ∈ hX a k)) with
      | true =>
        rw[<-aBI h hu]
        simp only[List.length_append,List.length_cons,List.length_nil]
        omega
      | false=>rw[<-aBH h hu];omega
theorem aX0 (h:err=0):qF a a.request.Op=rK a err:=by unfold rK;rw[if_pos h]
theorem aXZ (h0:¬ err=0) (h:((err==4)&&aD8 a.request.Op)=true) (hk:k=a.view.length):({ a with degraded:=true,skipped:=hX a k }:gU)=rK a err:=by
  unfold rK;rw[if_neg h0,if_pos h,hk]
theorem aXY (h0:¬ err=0) (h:((err==4)&&aD8 a.request.Op)=false):a=rK a err:=by
  unfold rK;rw[if_neg h0,h];rfl
end
/-! leased -/
def yC (a:gU) (x:TLease):Bool:=(x.Host.v !=a.self.Host.v) || !(iZ x.Subnet)
def wZ (a:gU) (err:Int) (x:TLease):Int:=if err=0 then (if yC a x then 162 else 0) else 0
def vG (a:gU) (err:Int) (x:TLease):gU :=
  if err=0 then (if yC a x then a else if a.request.Kind.v=4 then { a with view:=gO (lK a) x,granted:=x.Rev,wish:=x.Subnet } else { a with view:=gO (lK a) x })
  else if ((a.request.Kind.v==4)&&(err==4))=true then { a with waiting:=true } else if ((a.request.Kind.v==5)&&(err==111))=true then { a with stale:=true } else a
section
variable {a:gU} {err:Int} {x e:TLease} {V:List TLease}
theorem aHO (h0:eU a.self.Host.v a.view<0):a.view=gO (lK a) x:=aI1 (g:=lK a) h0
theorem aHP (he:a.view[(eU a.self.Host.v a.view).toNat]?=some e) (hd:decide (e.Subnet=x.Subnet)=false):a.view=gO (lK a) x:=aI2 (g:=lK a) he hd
theorem aMO (h0:0<=eU a.self.Host.v a.view) (he:a.view[(eU a.self.Host.v a.view).toNat]?=some e) (hd:decide (e.Subnet=x.Subnet)=true):a.view.set (eU a.self.Host.v a.view).toNat ⟨e.Host,e.Subnet,e.Pub,e.MAC,x.Until,e.Rev⟩=gO (lK a) x:=aP5 (g:=lK a) h0 he hd
theorem aMN (h0:err=0) (h:((x.Host.v !=a.self.Host.v) || !(iZ x.Subnet))=true):(162:Int)=wZ a err x/\a=vG a err x:=by
  simp [wZ,vG,h0,show yC a x=true from h]
theorem aF4 (h0:err=0) (h:((x.Host.v !=a.self.Host.v) || !(iZ x.Subnet))=false) (hv:V=gO (lK a) x) (hk:a.request.Kind.v=4):(0:Int)=wZ a err x/\({ a with view:=V,granted:=x.Rev,wish:=x.Subnet }:gU)=vG a err x:=by
  simp [wZ,vG,h0,show yC a x=false from h,hv,hk]
theorem aF5 (h0:err=0) (h:((x.Host.v !=a.self.Host.v) || !(iZ x.Subnet))=false) (hv:V=gO (lK a) x) (hk:a.request.Kind.v≠4):(0:Int)=wZ a err x/\({ a with view:=V }:gU)=vG a err x:=by
  simp [wZ,vG,h0,show yC a x=false from h,hv,hk]
theorem aUQ (h0:err≠0) (h:((a.request.Kind.v==4)&&(err==4))=true):(0:Int)=wZ a err x/\({ a with waiting:=true }:gU)=vG a err x:=by
  unfold wZ vG;rw[if_neg h0,if_neg h0,if_pos h];exact⟨rfl,rfl⟩
theorem aUP (h0:err≠0) (h:((a.request.Kind.v==4)&&(err==4))=false) (h':((a.request.Kind.v==5)&&(err==111))=true):(0:Int)=wZ a err x/\({ a with stale:=true }:gU)=vG a err x:=by
  unfold wZ vG;rw[if_neg h0,if_neg h0,h,if_pos h'];exact⟨rfl,rfl⟩
theorem aUO (h0:err≠0) (h:((a.request.Kind.v==4)&&(err==4))=false) (h':((a.request.Kind.v==5)&&(err==111))=false):(0:Int)=wZ a err x/\a=vG a err x:=by
  unfold wZ vG;rw[if_neg h0,if_neg h0,h,h'];exact⟨rfl,rfl⟩
end
section
variable {α:Type} {lw:α->Bool} {x e z:α} {l:List α} {k:Nat} {inn:Bool}
theorem aJ6 (h:l[k]?=some e) (hin:(fX lw x (l.take k)).2=inn) (hc:(!inn&&lw ((l[k]?).getD z))=true):(fX lw x (l.take k)).1++[x]++[e]=(fX lw x (l.take (k+1))).1:=yP h hin (by rw[h] at hc;exact hc)
theorem aJ5 (h:l[k]?=some e) (hin:(fX lw x (l.take k)).2=inn) (hc:(!inn&&lw ((l[k]?).getD z))=false):(fX lw x (l.take k)).1++[e]=(fX lw x (l.take (k+1))).1:=yO h hin (by rw[h] at hc;exact hc)
theorem aJ8 (h:l[k]?=some e) (hin:(fX lw x (l.take k)).2=inn) (hc:(!inn&&lw ((l[k]?).getD z))=true):(fX lw x (l.take (k+1))).2=true:=yR h hin (by rw[h] at hc;exact hc)
theorem aJ7 (h:l[k]?=some e) (hin:(fX lw x (l.take k)).2=inn) (hc:(!inn&&lw ((l[k]?).getD z))=false):(fX lw x (l.take (k+1))).2=inn:=yQ h hin (by rw[h] at hc;exact hc)
end
/-! without, with -/
def yD (a:gU) (p:aT):gU:={ a with view:=cV (fun e=>decide (e.Subnet=p)) a.view }
def wS (x:TLease) (l:List TLease):List TLease:=if (fX (fun e=>cL x.Subnet e.Subnet) x l).2 then (fX (fun e=>cL x.Subnet e.Subnet) x l).1 else (fX (fun e=>cL x.Subnet e.Subnet) x l).1++[x]
def aET (a:gU) (x:TLease):gU:={ a with view:=wS x a.view }
section
variable {x:TLease} {l:List TLease} {k:Nat} {inn:Bool}
theorem aW6 (hk:l.length<=k) (hin:(fX (fun e=>cL x.Subnet e.Subnet) x (l.take k)).2=inn) (h:inn=true):(fX (fun e=>cL x.Subnet e.Subnet) x (l.take k)).1=wS x l:=by
  rw[List.take_of_length_le hk] at hin ⊢
  unfold wS;rw[hin,h];rfl
theorem aW5 (hk:l.length<=k) (hin:(fX (fun e=>cL x.Subnet e.Subnet) x (l.take k)).2=inn) (h:inn=false):(fX (fun e=>cL x.Subnet e.Subnet) x (l.take k)).1++[x]=wS x l:=by
  rw[List.take_of_length_le hk] at hin ⊢
  unfold wS;rw[hin,h];rfl
theorem aPU:(wS x l).length<=l.length+1:=by
  have h:=yS (fun e=>cL x.Subnet e.Subnet) x l ([],false)
  have h2:(fX (fun e=>cL x.Subnet e.Subnet) x l)=l.foldl (nE (fun e=>cL x.Subnet e.Subnet) x) ([],false):=by unfold fX;rfl
  unfold wS
  rw[h2]
  split
  · simp only[List.length_nil,cond_false] at h;omega
  · rename_i hb
    have h3:(List.foldl (nE (fun e=>cL x.Subnet e.Subnet) x) ([],false) l).1.length=l.length:=by
      clear h h2
      have:∀ (l acc:List TLease),(l.foldl (nE (fun e=>cL x.Subnet e.Subnet) x) (acc,false)).2=false->(l.foldl (nE (fun e=>cL x.Subnet e.Subnet) x) (acc,false)).1.length=acc.length+l.length:=by
        intro l
        induction l with
        | nil=>intro acc _;simp
        | cons y r ih =>
          intro acc hq
          simp only[List.foldl_cons,nE,Bool.not_false,Bool.true_and] at hq ⊢
          by_cases hc:cL x.Subnet y.Subnet=true
          · simp only[hc,if_true] at hq
            rw[aAI] at hq
            cases hq
          · simp only[hc,if_false,Bool.false_eq_true] at hq ⊢
            rw[ih _ hq]
            simp only[List.length_append,List.length_cons,List.length_nil]
            omega
      have:=this l [] (by simpa using hb)
      simpa using this
    simp only[List.length_append,List.length_cons,List.length_nil]
    omega
end
/-! watched -/
def nT (a:Int) (e:TEvent):Bool:=(((a==9223372036854775807) || (e.Rev.v !=a+1)) || !(iZ e.Lease.Subnet)) || ((e.Kind.v !=1)&&(e.Kind.v !=2))
def aF2:Int->List TEvent->Bool
  | _,[]=>true
  | a,e::r => !nT a e&&aF2 e.Rev.v r
@[irreducible] def aAE (a:Int) (l:List TEvent):Bool:=aF2 a l
def vZ (a:gU) (l:List TEvent):Bool:=if l.length>4 then false else aAE a.cursor.v l
def zH (c:Fx .i64) (l:List TEvent):Fx .i64:=match l.getLast? with
  | some e=>e.Rev
  | none=>c
def qZ (a:gU) (v:TEvent):gU :=
  if v.Kind.v=1 then (if v.Lease.Host.v=a.self.Host.v then { aET (yD a v.Lease.Subnet) v.Lease with wish:=v.Lease.Subnet } else aET (yD a v.Lease.Subnet) v.Lease)
  else { yD a v.Lease.Subnet with waiting:=false,skipped:=cV (fun e=>decide (e=v.Lease.Subnet)) a.skipped }
@[irreducible] def eP (a:gU) (l:List TEvent) (k:Nat):gU:=(l.take k).foldl qZ a
def zJ (a:gU) (l:List TEvent):Int:=if vZ a l then 0 else 162
def wA (a:gU) (l:List TEvent):gU:=if vZ a l then { eP a l l.length with cursor:=zH a.cursor l } else a
section
variable {a:gU} {l:List TEvent} {k:Nat} {e:TEvent} {c:Fx .i64}
theorem aK5:a=eP a l 0:=by unfold eP;rfl
theorem vY (h:l[k]?=some e):qZ (eP a l k) e=eP a l (k+1):=by
  unfold eP
  rw[List.take_add_one,h]
  simp
theorem aMK:(eP a l k).view.length<=a.view.length+k/\(eP a l k).skipped.length<=a.skipped.length:=by
  induction k with
  | zero=>rw[<-aK5];omega
  | succ k ih =>
    cases h:l[k]? with
    | none =>
      have:eP a l (k+1)=eP a l k:=by
        unfold eP
        rw[List.take_add_one,h]
        simp
      rw[this];omega
    | some e =>
      rw[<-vY h]
      have h1:(cV (fun x=>decide (x.Subnet=e.Lease.Subnet)) (eP a l k).view).length<=_:=rT
      have h2:=aPU (x:=e.Lease) (l:=cV (fun x=>decide (x.Subnet=e.Lease.Subnet)) (eP a l k).view)
      have h3:(cV (fun x=>decide (x=e.Lease.Subnet)) (eP a l k).skipped).length<=_:=rT
      unfold qZ
      split
      · split <;> simp only[aET,yD] <;> omega
      · simp only[yD];omega
theorem a1H (h:l[k]?=some e) (h1:e.Kind.v=1) (h2:e.Lease.Host.v=(eP a l k).self.Host.v):({ aET (yD (eP a l k) e.Lease.Subnet) e.Lease with wish:=e.Lease.Subnet }:gU)=eP a l (k+1):=by
  rw[<-vY h];unfold qZ;rw[if_pos h1,if_pos h2]
theorem a1I (h:l[k]?=some e) (h1:e.Kind.v=1) (h2:¬ e.Lease.Host.v=(eP a l k).self.Host.v):aET (yD (eP a l k) e.Lease.Subnet) e.Lease=eP a l (k+1):=by
  rw[<-vY h];unfold qZ;rw[if_pos h1,if_neg h2]
theorem a1J (h:l[k]?=some e) (h1:¬ e.Kind.v=1):({ yD (eP a l k) e.Lease.Subnet with waiting:=false,skipped:=cV (fun x=>decide (x=e.Lease.Subnet)) (eP a l k).skipped }:gU)=eP a l (k+1):=by
  rw[<-vY h];unfold qZ;rw[if_neg h1]
theorem yE {z:Int} (h:l[k]?=some e) (hb:nT z e=true) (ho:aAE a.cursor.v l=aAE z (l.drop k)) (hl:¬ (4:Int)<(l.length:Int)):vZ a l=false:=by
  have hd:l.drop k=e::l.drop (k+1):=by
    obtain⟨h1,h2⟩:=List.getElem?_eq_some_iff.1 h
    rw[List.drop_eq_getElem_cons h1,h2]
  unfold vZ
  rw[if_neg (by omega),ho,hd]
  unfold aAE aF2
  rw[hb];rfl
theorem aQV {z:Int} (h:l[k]?=some e) (hb:nT z e=false) (ho:aAE a.cursor.v l=aAE z (l.drop k)):aAE a.cursor.v l=aAE e.Rev.v (l.drop (k+1)):=by
  have hd:l.drop k=e::l.drop (k+1):=by
    obtain⟨h1,h2⟩:=List.getElem?_eq_some_iff.1 h
    rw[List.drop_eq_getElem_cons h1,h2]
  rw[ho,hd]
  unfold aAE
  conv=>lhs;unfold aF2
  rw[hb];rfl
theorem aQW {z:Int} (hk:l.length<=k) (ho:aAE a.cursor.v l=aAE z (l.drop k)) (hl:¬ (4:Int)<(l.length:Int)):vZ a l=true:=by
  unfold vZ
  rw[if_neg (by omega),ho,List.drop_eq_nil_of_le hk]
  unfold aAE;rfl
theorem aQU (hl:(4:Int)<(l.length:Int)):vZ a l=false:=by
  unfold vZ
  rw[if_pos (by omega)]
theorem rb1 {z:Int} (h:(z==9223372036854775807)=true):nT z e=true:=by unfold nT;rw[h];rfl
theorem rb2 {z:Int} (h:(e.Rev.v !=z+1)=true):nT z e=true:=by unfold nT;rw[h];simp
theorem rb3 {z:Int} (h:(!iZ e.Lease.Subnet)=true):nT z e=true:=by unfold nT;rw[h];simp
theorem rb4 {z:Int} (h:(e.Kind.v !=1)=true) (h2:(e.Kind.v !=2)=true):nT z e=true:=by unfold nT;rw[h,h2];simp
theorem rg1 {z:Int} (h:(z==9223372036854775807)=false) (h1:(e.Rev.v !=z+1)=false) (h2:(!iZ e.Lease.Subnet)=false) (h3:(e.Kind.v !=1)=false):nT z e=false:=by unfold nT;rw[h,h1,h2,h3];rfl
theorem rg2 {z:Int} (h:(z==9223372036854775807)=false) (h1:(e.Rev.v !=z+1)=false) (h2:(!iZ e.Lease.Subnet)=false) (h3:(e.Kind.v !=2)=false):nT z e=false:=by unfold nT;rw[h,h1,h2,h3];simp
theorem aMB:c=zH c (l.take 0):=by simp [zH]
theorem aG7 (h:l[k]?=some e):e.Rev=zH c (l.take (k+1)):=by
  rw[List.take_add_one,h]
  simp [zH]
theorem vI (h:vZ a l=false):(162:Int)=zJ a l/\a=wA a l:=by simp [zJ,wA,h]
theorem aQZ (h:vZ a l=true) (hk:k=l.length) (hc:c=zH a.cursor l):(0:Int)=zJ a l/\({ eP a l k with cursor:=c }:gU)=wA a l:=by
  simp [zJ,wA,h,hk,hc]
end
/-! Done -/
def lY (a:gU) (r:pT):Int :=
  if a.request.Kind.v=1 then (if r.Err.v=0 then vF r.Routes r.Neighs r.Fdbs else 0) else if a.request.Kind.v=2 then (if r.Err.v=0 then uW r.Rev.v r.Leases else 0) else if a.request.Kind.v=3 then 0
  else if a.request.Kind.v=4\/a.request.Kind.v=5 then wZ a r.Err.v r.Answer.Lease else if a.request.Kind.v=6 then (if r.Err.v=0 then zJ a r.Events else 0) else 0
def iT (a:gU) (r:pT):gU :=
  if a.request.Kind.v=1 then (if r.Err.v=0 then rU a r.Routes r.Neighs r.Fdbs else a) else if a.request.Kind.v=2 then (if r.Err.v=0 then sK a r.Rev r.Leases else a) else if a.request.Kind.v=3 then rK a r.Err.v
  else if a.request.Kind.v=4\/a.request.Kind.v=5 then vG a r.Err.v r.Answer.Lease else if a.request.Kind.v=6 then (if r.Err.v=0 then wA a r.Events else if pR r.Err.v then { a with stale:=true } else a) else a
def uB (a:gU) (r:pT):Int:=if a.opn then lY a r else 160
def mG (a:gU) (r:pT):gU:=if a.opn then (if lY a r≠0 then iT a r else { iT a r with opn:=false,renewed:=((iT a r).request.Kind.v==5)&&(r.Err.v==0),quiet:=(((iT a r).request.Kind.v==6)&&(r.Err.v==0))&&((r.Events.length:Int)==0) }) else a
section
variable {a A:gU} {r:pT} {E:Int}
theorem rt1 (h:a.request.Kind.v=1) (h0:r.Err.v=0):vF r.Routes r.Neighs r.Fdbs=lY a r/\rU a r.Routes r.Neighs r.Fdbs=iT a r:=by simp [lY,iT,h,h0]
theorem aX9 (h:a.request.Kind.v=1) (h0:r.Err.v≠0):0=lY a r/\a=iT a r:=by simp [lY,iT,h,h0]
theorem rt2 (h:a.request.Kind.v=2) (h0:r.Err.v=0):uW r.Rev.v r.Leases=lY a r/\sK a r.Rev r.Leases=iT a r:=by simp [lY,iT,h,h0]
theorem aYA (h:a.request.Kind.v=2) (h0:r.Err.v≠0):0=lY a r/\a=iT a r:=by simp [lY,iT,h,h0]
theorem rt3 (h:a.request.Kind.v=3):0=lY a r/\rK a r.Err.v=iT a r:=by simp [lY,iT,h]
theorem rt4 (h:a.request.Kind.v=4\/a.request.Kind.v=5):wZ a r.Err.v r.Answer.Lease=lY a r/\vG a r.Err.v r.Answer.Lease=iT a r:=by
  unfold lY iT
  rw[if_neg (by omega),if_neg (by omega),if_neg (by omega),if_pos h,if_neg (by omega),if_neg (by omega),if_neg (by omega),if_pos h]
  exact⟨rfl,rfl⟩
theorem rt6 (h:a.request.Kind.v=6) (h0:r.Err.v=0):zJ a r.Events=lY a r/\wA a r.Events=iT a r:=by simp [lY,iT,h,h0]
theorem aFH (h:a.request.Kind.v=6) (h0:r.Err.v=112\/r.Err.v=113\/r.Err.v=140\/r.Err.v=141\/r.Err.v=142):0=lY a r/\({ a with stale:=true }:gU)=iT a r:=by
  have hn:r.Err.v≠0:=by omega
  have hs:pR r.Err.v=true:=by simpa [pR] using h0
  simp [lY,iT,h,hn,hs]
theorem a1R (h:a.request.Kind.v=6) (hn:r.Err.v≠0) (h0:r.Err.v≠112/\r.Err.v≠113/\r.Err.v≠140/\r.Err.v≠141/\r.Err.v≠142):0=lY a r/\a=iT a r:=by
  have hs:pR r.Err.v=false:=by simpa [pR] using h0
  simp [lY,iT,h,hn,hs]
theorem rtn (h1:a.request.Kind.v≠1) (h2:a.request.Kind.v≠2) (h3:a.request.Kind.v≠3) (h4:¬ (a.request.Kind.v=4\/a.request.Kind.v=5)) (h6:a.request.Kind.v≠6):0=lY a r/\a=iT a r:=by
  simp [lY,iT,h1,h2,h3,h4,h6]
theorem a1L (h:(!a.opn)=true):(160:Int)=uB a r/\a=mG a r:=by
  simp only[Bool.not_eq_true'] at h;simp [uB,mG,h]
theorem a1M (h:(!a.opn)=false) (hE:lY a r≠0):lY a r=uB a r/\iT a r=mG a r:=by
  simp only[Bool.not_eq_false'] at h;simp [uB,mG,h,hE]
theorem a1N (h:(!a.opn)=false) (hE:lY a r=0):(0:Int)=uB a r/\({ iT a r with opn:=false,renewed:=((iT a r).request.Kind.v==5)&&(r.Err.v==0),quiet:=(((iT a r).request.Kind.v==6)&&(r.Err.v==0))&&((r.Events.length:Int)==0) }:gU)=mG a r:=by
  simp only[Bool.not_eq_false'] at h;simp [uB,mG,h,hE]
end
/-! New -/
def jV (s:kA):gU:=⟨s,false,nB,false,[],[],[],[],⟨0,rfl⟩,true,[],false,⟨0,rfl⟩,false,fM,false,false⟩
end Go.Proofs.YtnbpodjbemfpbaaGreat.Fw
set_option linter.all false
namespace Go.Proofs.YtnbpodjbemfpbaaGreat.Fw
open Go
/-! what the program keeps of the skipped pW -/
abbrev kP:aT->aT:=fun p=>p
abbrev kL:TLease->aT:=fun e=>e.Subnet
def jN (s:List aT):List aT:=tab cL kP s
theorem cP1 (e x:aT):(dH e x).v<0 ↔ cL (kP e) (kP x)=true:=qS _ _
theorem cP0 (e x:aT):(dH e x).v=0 ↔ kP e=kP x:=tA _ _
theorem cL1 (e x:TLease):(dL e x).v<0 ↔ cL (kL e) (kL x)=true:=qS _ _
theorem cL0 (e x:TLease):(dL e x).v=0 ↔ kL e=kL x:=tA _ _
theorem pS (s:List aT):nF cL kP (jN s):=(aE2 koPrefix kP s).1
theorem tE {s:List aT} {p:aT}:p ∈ jN s ↔ p ∈ s:=by
  have hs:=pS s
  have h:=(aE2 koPrefix kP s).2 p
  constructor
  · intro hp
    have:=(sB koPrefix kP hs (x:=p)).1 hp
    rw[jN,h] at this
    exact List.mem_reverse.1 (List.mem_of_find?_eq_some this)
  · intro hp
    rw[sB koPrefix kP hs,jN,h]
    obtain⟨y,hy,h1,h2⟩:=aI0 (key:=kP) (l:=s.reverse) (x:=p) (q:=p) (List.mem_reverse.2 hp) rfl
    rw[h1];exact congrArg some h2
theorem aTC {s:List aT} {p:aT}:iB dH (jN s) p=jN (s++[p]):=by
  rw[oW koPrefix kP cP1 cP0 (pS s)]
  unfold jN tab
  rw[List.foldl_append];rfl
theorem aTD {s:List aT} {p:aT} (h:p ∈ s):iB dH (jN s) p=jN s:=by
  rw[oW koPrefix kP cP1 cP0 (pS s)]
  refine aQ8 koPrefix kP (pF koPrefix kP (pS s)) (pS s) (fun e he=>?_) (fun e he=>?_)
  · rcases aHG kP he with rfl|he
    · exact tE.2 h
    · exact he
  · rw[aJA koPrefix kP (pS s)]
    by_cases hq:e=p
    · exact .inl hq
    · exact .inr ⟨he,hq⟩
theorem yI {α κ:Type} [DecidableEq κ] {lt:κ->κ->Bool} (O:KO κ lt) (key:α->κ) {c:α->α->Fx .i64} (hc1:∀ e x,(c e x).v<0 ↔ lt (key e) (key x)=true) (hc0:∀ e x,(c e x).v=0 ↔ key e=key x) {l:List α} {x:α} (h:nF lt key l):fJ c l x=rm key (key x) l:=by
  have hl:=aKD O key hc1 hc0 (x:=x) h
  unfold fJ
  by_cases hh:fL c l x=true
  · rw[if_pos hh] at hl ⊢
    have hlt:=mA hh
    have he:=List.getElem?_eq_getElem hlt
    generalize hi:mR (fun e=>(c e x).v) l=i at *
    rw[he] at hl
    have hk:key l[i]=key x:=tB hl.symm
    have hsplit:l=l.take i++l[i]::l.drop (i+1):=by
      rw[<-List.drop_eq_getElem_cons hlt,List.take_append_drop]
    have hs:nF lt key (l.take i++l[i]::l.drop (i+1)):=by rw[<-hsplit];exact h
    have h1:=List.pairwise_append.1 hs
    have h2:=List.pairwise_cons.1 h1.2.1
    rw[congrArg (rm key (key x)) hsplit]
    unfold rm
    rw[List.filter_append,List.filter_cons,if_neg (by simp [hk])]
    congr 1
    · refine(List.filter_eq_self.2 fun e he=>?_).symm
      have:=h1.2.2 e he l[i] List.mem_cons_self
      simp only[Bool.not_eq_true',decide_eq_false_iff_not]
      intro hq;rw[hq,hk,O.irr] at this;cases this
    · refine(List.filter_eq_self.2 fun e he=>?_).symm
      have:=h2.1 e he
      simp only[Bool.not_eq_true',decide_eq_false_iff_not]
      intro hq;rw[hq,hk,O.irr] at this;cases this
  · rw[if_neg hh] at hl ⊢
    unfold rm
    refine(List.filter_eq_self.2 fun e he=>?_).symm
    simp only[Bool.not_eq_true',decide_eq_false_iff_not]
    intro hq
    have:=List.find?_eq_none.1 hl.symm e he
    simp [hq] at this
theorem aEC {α:Type} {g:α->Bool} {l:List α} (h:∀ e,g e=false):cV g l=l:=by
  unfold cV
  exact List.filter_eq_self.2 fun e _=>by simp [h e]
theorem aHH {α κ:Type} [DecidableEq κ] {lt:κ->κ->Bool} (O:KO κ lt) (key:α->κ) {l:List α} {x:α} (h:nF lt key l):put lt key x (rm key (key x) l)=put lt key x l:=by
  have h1:=aCE key (q:=key x) h
  refine aDI O key (pF O key h1) (pF O key h) fun q=>?_
  rw[wY O key h1,wY O key h,aQT]
  by_cases hq:key x=q
  · simp [hq]
  · simp [hq,Ne.symm hq]
theorem aYD {s:List aT} {p:aT}:fJ dH (jN s) p=jN (cV (fun e=>decide (e=p)) s):=by
  rw[yI koPrefix kP cP1 cP0 (pS s)]
  refine aQ8 koPrefix kP (aCE kP (pS s)) (pS _) (fun e he=>?_) (fun e he=>?_)
  · rw[aK9] at he
    refine tE.2 ?_
    simp only[cV,List.mem_filter,Bool.not_eq_true',decide_eq_false_iff_not]
    exact⟨tE.1 he.1,he.2⟩
  · have:=tE.1 he
    simp only[cV,List.mem_filter,Bool.not_eq_true',decide_eq_false_iff_not] at this
    rw[aK9]
    exact⟨tE.2 this.1,this.2⟩
theorem aMR {s:List aT} (h:s.Nodup):(jN s).length=s.length:=by
  unfold jN
  rw[aMU koPrefix kP]
  induction s with
  | nil=>rfl
  | cons p r ih =>
    have h':=List.nodup_cons.1 h
    simp only[aO8,List.length_cons,ih h'.2]
    have:(r.any fun e=>decide (kP e=kP p))=false:=by
      rw[List.any_eq_false]
      intro e he
      simp only[decide_eq_true_eq]
      rintro rfl
      exact h'.1 he
    rw[this];rfl
theorem aLL {s:List aT}:(jN s).length<=s.length:=by
  unfold jN
  rw[aMU koPrefix kP]
  induction s with
  | nil=>exact Nat.le_refl _
  | cons p r ih =>
    simp only[aO8,List.length_cons]
    split <;> omega
/-! the image -/
@[reducible] def iV (a:gU):hF:=⟨a.self,if a.opn then a.request else nB,a.read,a.Routes,a.Neighs,a.Fdbs,a.view,a.cursor,a.stale,jN a.skipped,a.degraded,a.granted,a.waiting,a.wish,a.renewed,a.quiet⟩
structure Inv (a:gU):Prop where
  view:nF cL kL a.view
  r:nF cL kR a.Routes
  n:nF ltA kN a.Neighs
  f:nF ltW kF a.Fdbs
  nd:a.skipped.Nodup
  req:a.opn=true->a.request.Kind.v≠0
theorem aA7 (s:kA):Inv (jV s):=⟨by simp [jV,nF],by simp [jV,nF],by simp [jV,nF],by simp [jV,nF],by simp [jV],by simp [jV]⟩
theorem aSK {s:List aT} {l:List TLease}:kO (jN s) l=kS s l:=by
  unfold kO kS
  refine List.filter_congr fun e _=>?_
  congr 1
  rw[aDA koPrefix kP cP1 cP0 (pS s)]
  by_cases h:e.Subnet ∈ s
  · have:=(sB koPrefix kP (pS s)).1 (tE.2 h)
    rw[this];simp [h]
  · cases hq:lZ kP (kP e.Subnet) (jN s) with
    | none=>simp [h]
    | some y =>
      have hy:y=e.Subnet:=tB hq
      have:=tE.1 (List.mem_of_find?_eq_some hq)
      rw[hy] at this
      exact absurd this h
theorem zR (a:gU):fY (iV a)=fO a:=by
  unfold fY fO
  simp only[aSK]
  rw[aI8,aPC]
/-! Next -/
theorem aR5 (a:gU):zC (iV a) = !(fO a).isEmpty:=by unfold zC;rw[zR]
theorem aEH {a:gU} (h:Inv a) (now:Int):iM (iV a) now=oK a now/\jB (iV a) now=iV (rA a now)/\Inv (rA a now):=by
  have hq:iM (iV a) now=oK a now:=by
    unfold iM oK
    cases ho:a.opn with
    | true =>
      rw[if_pos (by simp [iV,ho];exact h.req ho)]
      simp [iV,ho]
    | false =>
      rw[if_neg (by simp [iV,ho,nB])]
      simp only[Bool.false_eq_true,if_false]
      unfold jP
      show (if a.read=false then _ else if a.stale then _ else _)=_
      by_cases hr:a.read=false
      · rw[if_pos hr,if_pos hr]
      · rw[if_neg hr,if_neg hr]
        by_cases hst:a.stale=true
        · rw[if_pos hst,if_pos hst]
        · rw[if_neg hst,if_neg hst,aR5]
          unfold wM
          rw[zR]
          cases hc:fO a with
          | nil=>rfl
          | cons o r=>rfl
  refine⟨hq,?_,?_⟩
  · unfold jB
    rw[hq]
    unfold rA oK
    cases ho:a.opn with
    | true=>simp [iV,ho]
    | false=>simp [iV]
  · have hk:=aKW (iV a) now
    rw[hq] at hk
    unfold rA
    cases ho:a.opn with
    | true=>simpa using h
    | false =>
      simp only[Bool.false_eq_true,if_false]
      refine⟨h.view,h.r,h.n,h.f,h.nd,fun _=>?_⟩
      simp only[oK,ho,Bool.false_eq_true,if_false] at hk
      exact hk
/-! Done, part by part: 'op' is the open agent -/
section
variable {a:gU}
theorem aPS (ho:a.opn=true):iV a=⟨a.self,a.request,a.read,a.Routes,a.Neighs,a.Fdbs,a.view,a.cursor,a.stale,jN a.skipped,a.degraded,a.granted,a.waiting,a.wish,a.renewed,a.quiet⟩:=by simp [iV,ho]
theorem aPG (h:Inv a) {r:List bD} {n:List bA} {f:List cH}:tR 0 r n f=vF r n f/\rJ (iV a) 0 r n f=iV (rU a r n f)/\Inv (rU a r n f):=by
  unfold tR vF rJ rU
  rw[zZ]
  simp only[ne_eq,not_true,if_false]
  by_cases ho:fU r n f=true
  · simp only[ho,if_true]
    have ho:=uT.1 ho
    exact⟨trivial,trivial,⟨h.view,ho.routes,ho.neighs,ho.fdbs,h.nd,h.req⟩⟩
  · simp only[ho,if_false]
    exact⟨by trivial,by trivial,h⟩
theorem aP2 {l:List TLease}:pC (xZ l) l.length=true ↔ (∀ e ∈ l,iR e.Subnet=true)/\nF cL kL l:=by
  rw[<-aDH koPrefix kL,sH]
  constructor
  · intro h
    refine⟨fun e he=>?_,fun k x y hx hy=>?_⟩
    · obtain⟨k,hk,rfl⟩:=List.getElem_of_mem he
      have:=h k hk
      simp only[xZ,List.getElem?_eq_getElem hk,Bool.and_eq_true] at this
      rw[rG]
      exact this.1
    · have:=h (k+1) (List.getElem?_eq_some_iff.1 hy).1
      simp only[xZ,hy,Nat.add_sub_cancel,hx,Bool.and_eq_true] at this
      simpa using this.2
  · rintro ⟨h1,h2⟩ k hk
    have hv:=h1 _ (List.getElem_mem hk)
    rw[rG] at hv
    cases k with
    | zero=>simp [xZ,List.getElem?_eq_getElem hk,hv]
    | succ k =>
      have hx:l[k]?=some l[k]:=List.getElem?_eq_getElem (by omega)
      have hy:l[k+1]?=some l[k+1]:=List.getElem?_eq_getElem hk
      have:=h2 k _ _ hx hy
      simp [xZ,hy,hx,hv]
      exact this
theorem aTE {rev:Int} {l:List TLease}:sT rev l=uU rev l:=by
  have hr:gV dL l=true ↔ nF cL kL l:=yY koPrefix kL cL1
  rw[Bool.eq_iff_iff]
  unfold sT aDF uU
  simp only[Bool.and_eq_true,Bool.not_eq_true',Bool.or_eq_false_iff,Bool.not_eq_false',aP2,hr,List.all_eq_true]
  constructor
  · rintro ⟨⟨h1,h2⟩,h3⟩;exact⟨h1,h3,h2⟩
  · rintro ⟨h1,h3,h2⟩;exact⟨⟨h1,h2⟩,h3⟩
theorem aQ5 (h:Inv a) {rev:Fx .i64} {l:List TLease}:sM 0 rev.v l=uW rev.v l/\qG (iV a) 0 rev l=iV (sK a rev l)/\Inv (sK a rev l):=by
  unfold sM uW qG sK
  rw[aTE]
  simp only[ne_eq,not_true,if_false]
  by_cases ho:uU rev.v l=true
  · simp only[ho,if_true]
    refine⟨by trivial,by trivial,?_⟩
    unfold uU at ho
    simp only[Bool.and_eq_true] at ho
    exact⟨(aP2.1 ho.2).2,h.r,h.n,h.f,by simp,h.req⟩
  · simp only[ho,if_false]
    exact⟨by trivial,by trivial,h⟩
theorem a2I {l:List bD} {x:bD} (h:nF cL kR l):nW x (rm kR x.Dst l)=iB bS l x:=by
  unfold nW
  rw[tO kR (lt:=cL) (x:=x) rfl rfl,oW koPrefix kR cR1 cR0 h]
  unfold aCD
  rw[if_neg,aHH koPrefix kR h]
  simp [rm]
theorem a2H {l:List bA} {x:bA} (h:nF ltA kN l):pY x (rm kN x.IP l)=iB bB l x:=by
  unfold pY
  rw[tO kN (lt:=ltA) (x:=x) (by funext e;rw[Bool.eq_iff_iff];simp only[beq_iff_eq,decide_eq_true_eq];exact⟨fun q=>Fx.ext q,fun q=>by rw[show e.IP=x.IP from q]⟩) rfl,oW qV kN cN1 cN0 h]
  unfold aCD
  rw[if_neg,aHH qV kN h]
  simp [rm]
theorem a2G {l:List cH} {x:cH} (h:nF ltW kF l):aBS x (rm kF x.MAC l)=iB bY l x:=by
  unfold aBS
  rw[tO kF (lt:=ltW) (x:=x) rfl rfl,oW uR kF cF1 cF0 h]
  unfold aCD
  rw[if_neg,aHH uR kF h]
  simp [rm]
theorem a01 {o:eV} (h:o.Kind.v=1\/o.Kind.v=2) (l:List bD):cV (gR o) l=rm kR o.Route.Dst l:=by
  unfold cV rm;refine List.filter_congr fun e _=>?_
  rcases h with h|h <;> simp [gR,h]
theorem a00 {o:eV} (h:o.Kind.v=3\/o.Kind.v=4) (l:List bA):cV (gN o) l=rm kN o.Neigh.IP l:=by
  unfold cV rm;refine List.filter_congr fun e _=>?_
  have:(e.IP.v==o.Neigh.IP.v)=decide (kN e=o.Neigh.IP):=by
    rw[Bool.eq_iff_iff];simp only[beq_iff_eq,decide_eq_true_eq];exact⟨fun q=>Fx.ext q,fun q=>by rw[show e.IP=o.Neigh.IP from q]⟩
  rcases h with h|h <;> simp [gN,h,this]
theorem a0Z {o:eV} (h:o.Kind.v=5\/o.Kind.v=6) (l:List cH):cV (gF o) l=rm kF o.Fdb.MAC l:=by
  unfold cV rm;refine List.filter_congr fun e _=>?_
  rcases h with h|h <;> simp [gF,h]
theorem aPP {o:eV} (h:¬ (o.Kind.v=1\/o.Kind.v=2)) (l:List bD):cV (gR o) l=l:=aEC fun e=>by simp only[not_or] at h;simp [gR,h.1,h.2]
theorem aPO {o:eV} (h:¬ (o.Kind.v=3\/o.Kind.v=4)) (l:List bA):cV (gN o) l=l:=aEC fun e=>by simp only[not_or] at h;simp [gN,h.1,h.2]
theorem aPN {o:eV} (h:¬ (o.Kind.v=5\/o.Kind.v=6)) (l:List cH):cV (gF o) l=l:=aEC fun e=>by simp only[not_or] at h;simp [gF,h.1,h.2]
theorem aR3 (h:Inv a) (o:eV):mC (iV a) o=iV (qF a o)/\Inv (qF a o):=by
  have sR:nF cL kR (iB bS a.Routes o.Route):=by rw[oW koPrefix kR cR1 cR0 h.r];exact pF koPrefix kR h.r
  have sN:nF ltA kN (iB bB a.Neighs o.Neigh):=by rw[oW qV kN cN1 cN0 h.n];exact pF qV kN h.n
  have sF:nF ltW kF (iB bY a.Fdbs o.Fdb):=by rw[oW uR kF cF1 cF0 h.f];exact pF uR kF h.f
  have dR:=yI koPrefix kR cR1 cR0 (x:=o.Route) h.r
  have dN:=yI qV kN cN1 cN0 (x:=o.Neigh) h.n
  have dF:=yI uR kF cF1 cF0 (x:=o.Fdb) h.f
  have rR:=aCE kR (q:=o.Route.Dst) h.r
  have rN:=aCE kN (q:=o.Neigh.IP) h.n
  have rF:=aCE kF (q:=o.Fdb.MAC) h.f
  unfold mC qF
  by_cases h1:o.Kind.v=1
  · simp only[h1,if_true]
    rw[a01 (.inl h1),aPO (by omega),aPN (by omega),a2I h.r]
    exact⟨rfl,⟨h.view,sR,h.n,h.f,h.nd,h.req⟩⟩
  rw[if_neg h1,if_neg h1]
  by_cases h2:o.Kind.v=2
  · rw[if_pos h2,if_neg (show ¬ o.Kind.v=3 by omega),if_neg (show ¬ o.Kind.v=5 by omega)]
    rw[a01 (.inr h2),aPO (by omega),aPN (by omega)]
    refine⟨?_,⟨h.view,rR,h.n,h.f,h.nd,h.req⟩⟩
    show ({ iV a with Routes:=fJ bS a.Routes o.Route }:hF)=_
    rw[dR]
  rw[if_neg h2]
  by_cases h3:o.Kind.v=3
  · rw[if_pos h3,if_pos h3]
    rw[aPP (by omega),a00 (.inl h3),aPN (by omega),a2H h.n]
    exact⟨rfl,⟨h.view,h.r,sN,h.f,h.nd,h.req⟩⟩
  rw[if_neg h3,if_neg h3]
  by_cases h4:o.Kind.v=4
  · rw[if_pos h4,if_neg (show ¬ o.Kind.v=5 by omega)]
    rw[aPP (by omega),a00 (.inr h4),aPN (by omega)]
    refine⟨?_,⟨h.view,h.r,rN,h.f,h.nd,h.req⟩⟩
    show ({ iV a with Neighs:=fJ bB a.Neighs o.Neigh }:hF)=_
    rw[dN]
  rw[if_neg h4]
  by_cases h5:o.Kind.v=5
  · rw[if_pos h5,if_pos h5]
    rw[aPP (by omega),aPO (by omega),a0Z (.inl h5),a2G h.f]
    exact⟨rfl,⟨h.view,h.r,h.n,sF,h.nd,h.req⟩⟩
  rw[if_neg h5,if_neg h5]
  by_cases h6:o.Kind.v=6
  · rw[if_pos h6]
    rw[aPP (by omega),aPO (by omega),a0Z (.inr h6)]
    refine⟨?_,⟨h.view,h.r,h.n,rF,h.nd,h.req⟩⟩
    show ({ iV a with Fdbs:=fJ bY a.Fdbs o.Fdb }:hF)=_
    rw[dF]
  · rw[if_neg h6,aPP (by omega),aPO (by omega),aPN (by omega)]
    exact⟨rfl,⟨h.view,h.r,h.n,h.f,h.nd,h.req⟩⟩
/-! changed -/
theorem aMV (ho:a.opn=true) (e:TLease):aGE (iV a) e=aES a e:=by rw[aPS ho];rfl
theorem aQ2 (ho:a.opn=true) (hn:a.skipped.Nodup) (k:Nat):mN (iV a) k=jN (hX a k)/\(hX a k).Nodup:=by
  induction k with
  | zero=>rw[<-aHX,<-aEP];exact⟨rfl,hn⟩
  | succ k ih =>
    cases hv:a.view[k]? with
    | none =>
      have h1:mN (iV a) (k+1)=mN (iV a) k:=by
        unfold mN
        rw[show (iV a).view.take (k+1)=(iV a).view.take k by rw[List.take_add_one,show (iV a).view[k]?=none from hv];simp]
      have h2:hX a (k+1)=hX a k:=by
        unfold hX
        rw[List.take_add_one,hv];simp
      rw[h1,h2];exact ih
    | some e =>
      have hv':(iV a).view[k]?=some e:=hv
      by_cases hu:aES a e=true
      · rw[<-aHZ hv' (by rw[aMV ho];exact hu),ih.1]
        by_cases hm:e.Subnet ∈ hX a k
        · rw[aTD hm,<-aBH hv (by simp [hm])]
          exact⟨rfl,ih.2⟩
        · rw[aTC,<-aBI hv (by simp [hu,hm])]
          refine⟨rfl,?_⟩
          rw[List.nodup_append]
          exact⟨ih.2,by simp,fun x hx y hy=>by simp only[List.mem_singleton] at hy;subst hy;rintro rfl;exact hm hx⟩
      · have hu:aES a e=false:=by simpa using hu
        rw[<-aHY hv' (by rw[aMV ho];exact hu),<-aBH hv (by simp [hu])]
        exact ih
theorem aR6 (h:Inv a) (ho:a.opn=true) (err:Int):kH (iV a) err=iV (rK a err)/\Inv (rK a err):=by
  unfold kH rK
  have hq:(iV a).opn=a.request:=by simp [iV,ho]
  rw[hq]
  by_cases h0:err=0
  · rw[if_pos h0,if_pos h0]
    exact aR3 h _
  rw[if_neg h0,if_neg h0]
  by_cases h1:((err==4)&&aD8 a.request.Op)=true
  · rw[if_pos h1,if_pos h1]
    have hs:=aQ2 ho h.nd a.view.length
    refine⟨?_,⟨h.view,h.r,h.n,h.f,hs.2,h.req⟩⟩
    simp only[show (iV a).view.length=a.view.length from rfl,hs.1]
    simp [iV,ho]
  · rw[if_neg h1,if_neg h1]
    exact⟨rfl,h⟩
/-! leased -/
theorem aEF {g:hF} (h:nF cL kL g.view) (x:TLease):nF cL kL (gO g x):=by
  unfold gO
  split
  · rename_i e he
    split
    · rename_i hc
      have hm:(g.view.set (eU g.self.Host.v g.view).toNat { e with Until:=x.Until }).map kL=g.view.map kL:=by
        refine List.ext_getElem? fun i=>?_
        rw[List.getElem?_map,List.getElem?_map,List.getElem?_set]
        split
        · rename_i hi
          subst hi
          split
          · rw[he];rfl
          · rename_i hlt
            rw[List.getElem?_eq_none (by omega)]
        · rfl
      unfold nF at h ⊢
      have h1:(g.view.map kL).Pairwise fun a b=>cL a b=true:=List.pairwise_map.2 h
      rw[<-hm] at h1
      exact List.pairwise_map.1 h1
    · exact h
  · exact h
theorem aNK (h:Inv a) (ho:a.opn=true) (hk:a.request.Kind.v=4\/a.request.Kind.v=5) (err:Int) (x:TLease):lV (iV a) err x=wZ a err x/\jU (iV a) err x=iV (vG a err x)/\Inv (vG a err x):=by
  have hq:(iV a).opn=a.request:=by simp [iV,ho]
  have hv:nF cL kL (gO (lK a) x):=aEF h.view x
  unfold lV wZ jU vG
  rw[hq]
  by_cases h0:err=0
  · subst h0
    have hb:tW (iV a) x = !(yC a x):=by unfold tW yC;rw[rG]
    simp only[show ((0:Int)==4)=false from rfl,show ((0:Int)==111)=false from rfl,Bool.false_and,Bool.false_eq_true,if_false,ne_eq,not_true,if_true,hb]
    cases hbb:yC a x with
    | true=>exact⟨rfl,by simp [iV,ho],h⟩
    | false =>
      simp only[Bool.not_false,if_true,Bool.false_eq_true,if_false]
      refine⟨by trivial,?_,?_⟩
      · split <;> (simp [iV,ho];rfl)
      · split
        · exact⟨hv,h.r,h.n,h.f,h.nd,h.req⟩
        · exact⟨hv,h.r,h.n,h.f,h.nd,h.req⟩
  · simp only[h0,if_false,ne_eq,not_false_eq_true,if_true]
    rcases hk with hk|hk
    · simp only[hk]
      by_cases h4:err=4
      · subst h4
        simp only[beq_self_eq_true,Bool.and_self,if_true]
        exact⟨by trivial,by simp [iV,ho],⟨h.view,h.r,h.n,h.f,h.nd,h.req⟩⟩
      · have:(err==4)=false:=by simpa using h4
        simp only[this,Bool.false_and,Bool.and_false,beq_self_eq_true,Bool.not_true,Bool.false_eq_true,if_false,show ((4:Int)==5)=false from rfl]
        exact⟨by trivial,by simp [iV,ho],h⟩
    · simp only[hk,show ((5:Int)==4)=false from rfl,Bool.and_false,Bool.false_and,Bool.false_eq_true,if_false,Bool.not_false,Bool.and_true,beq_self_eq_true,Bool.true_and]
      by_cases h5:err=111
      · subst h5
        simp only[beq_self_eq_true,if_true]
        exact⟨by trivial,by simp [iV,ho],⟨h.view,h.r,h.n,h.f,h.nd,h.req⟩⟩
      · have:(err==111)=false:=by simpa using h5
        simp only[this,Bool.false_eq_true,if_false]
        exact⟨by trivial,by simp [iV,ho],h⟩
/-! watched -/
theorem aOW (z:Int) (e:TEvent):aIB z e=nT z e:=by
  unfold aIB nT
  rw[rG]
  simp only[Bool.or_assoc]
  congr 2
  rw[Bool.or_comm]
theorem aP6:∀ (l:List TEvent) (z:Int),aNM z l=aF2 z l
  | [],_=>rfl
  | e::r,z=>by
    unfold aNM aF2
    rw[aOW,aP6 r]
    cases hb:nT z e with
    | true=>rfl
    | false =>
      have:e.Rev.v=z+1:=by
        unfold nT at hb
        simp only[Bool.or_eq_false_iff,bne_eq_false_iff_eq] at hb
        exact hb.1.1.2
      rw[this]
theorem aSO (l:List TEvent):oI (iV a) l=vZ a l:=by
  unfold oI vZ zX aAE
  split
  · rfl
  · exact aP6 l _
theorem aPV {x:TLease} {l:List TLease} (h:∀ e ∈ l,kL e≠kL x):wS x l=put cL kL x l:=by
  have:=aGQ (lt:=cL) kL (x:=x) l [] h
  unfold wS fX
  simpa using this
theorem aVY (h:Inv a) (l:List TEvent) (k:Nat):(∃ c,pJ (iV a) l k={ iV (eP a l k) with cursor:=c })/\(eP a l k).opn=a.opn/\(eP a l k).request=a.request/\Inv (eP a l k)/\(k<=l.length->pJ (iV a) l k={ iV (eP a l k) with cursor:=zH a.cursor (l.take k) }):=by
  induction k with
  | zero =>
    rw[<-aL3,<-aK5]
    exact⟨⟨a.cursor,rfl⟩,rfl,rfl,h,fun _=>by rw[<-aMB]⟩
  | succ k ih =>
    obtain⟨⟨c,hc⟩,ho,hr,hi,_⟩:=ih
    cases hv:l[k]? with
    | none =>
      have h1:pJ (iV a) l (k+1)=pJ (iV a) l k:=by
        unfold pJ
        rw[List.take_add_one,hv];simp
      have h2:eP a l (k+1)=eP a l k:=by
        unfold eP
        rw[List.take_add_one,hv];simp
      rw[h1,h2]
      refine⟨⟨c,hc⟩,ho,hr,hi,fun hk=>?_⟩
      have:=List.getElem?_eq_none_iff.1 hv
      omega
    | some e =>
      rw[<-vQ hv,<-vY hv,hc,<-aG7 (c:=a.cursor) hv]
      generalize hb:eP a l k=b at *
      have hw:nF cL kL (rm kL e.Lease.Subnet b.view):=aCE kL hi.view
      have hset:iB dL b.view e.Lease=wS e.Lease (cV (fun y=>decide (y.Subnet=e.Lease.Subnet)) b.view):=by
        rw[oW koPrefix kL cL1 cL0 hi.view,show cV (fun y=>decide (y.Subnet=e.Lease.Subnet)) b.view=rm kL (kL e.Lease) b.view from rfl,aPV (fun y hy=>((aK9 kL).1 hy).2),aHH koPrefix kL hi.view]
      have hss:nF cL kL (wS e.Lease (cV (fun y=>decide (y.Subnet=e.Lease.Subnet)) b.view)):=by
        rw[<-hset,oW koPrefix kL cL1 cL0 hi.view];exact pF koPrefix kL hi.view
      have hun:fJ dL b.view e.Lease=cV (fun y=>decide (y.Subnet=e.Lease.Subnet)) b.view:=yI koPrefix kL cL1 cL0 (x:=e.Lease) hi.view
      have hrm:fJ dH (jN b.skipped) e.Lease.Subnet=jN (cV (fun y=>decide (y=e.Lease.Subnet)) b.skipped):=aYD
      have key:wO { iV b with cursor:=c } e={ iV (qZ b e) with cursor:=e.Rev }/\(qZ b e).opn=b.opn/\(qZ b e).request=b.request/\Inv (qZ b e):=by
        unfold wO qZ
        by_cases h1:e.Kind.v=1
        · rw[if_pos h1,if_pos h1]
          by_cases h2:e.Lease.Host.v=b.self.Host.v
          · rw[if_pos h2,if_pos (show e.Lease.Host.v=({ iV b with cursor:=c }:hF).self.Host.v from h2)]
            refine⟨?_,rfl,rfl,⟨hss,hi.r,hi.n,hi.f,hi.nd,hi.req⟩⟩
            simp only[hset];rfl
          · rw[if_neg h2,if_neg (show ¬ e.Lease.Host.v=({ iV b with cursor:=c }:hF).self.Host.v from h2)]
            refine⟨?_,rfl,rfl,⟨hss,hi.r,hi.n,hi.f,hi.nd,hi.req⟩⟩
            simp only[hset];rfl
        · rw[if_neg h1,if_neg h1]
          refine⟨?_,rfl,rfl,⟨hw,hi.r,hi.n,hi.f,List.Pairwise.filter _ hi.nd,hi.req⟩⟩
          simp only[hun,hrm];rfl
      exact⟨⟨_,key.1⟩,by rw[key.2.1,ho],by rw[key.2.2.1,hr],key.2.2.2,fun _=>key.1⟩
theorem aOA (h:Inv a) (l:List TEvent):lQ (iV a) 0 l=zJ a l/\jZ (iV a) 0 l=iV (wA a l)/\Inv (wA a l)/\(wA a l).request=a.request/\(wA a l).opn=a.opn:=by
  unfold lQ zJ jZ wA
  rw[aSO]
  simp only[ne_eq,not_true,if_false,if_true]
  cases hm:vZ a l with
  | false=>exact⟨by trivial,by trivial,h,rfl,rfl⟩
  | true =>
    obtain⟨_,ho,hr,hi,hc⟩:=aVY h l l.length
    simp only[if_true]
    refine⟨by trivial,?_,⟨hi.view,hi.r,hi.n,hi.f,hi.nd,hi.req⟩,hr,ho⟩
    rw[hc (Nat.le_refl _),List.take_length]
/-! Done -/
theorem aN6 (h:Inv a) (ho:a.opn=true) (r:pT):oX (iV a) r=lY a r/\nL (iV a) r=iV (iT a r)/\Inv (iT a r)/\(iT a r).opn=true/\(iT a r).request=a.request:=by
  have hq:(iV a).opn=a.request:=by simp [iV,ho]
  have keep:Inv a/\a.opn=true/\a.request=a.request:=⟨h,ho,rfl⟩
  by_cases k1:a.request.Kind.v=1
  · have t:=tk1 (g:=iV a) (r:=r) (by rw[hq];exact k1)
    rw[t.1,t.2]
    by_cases h0:r.Err.v=0
    · have s:=rt1 (r:=r) k1 h0
      rw[<-s.1,<-s.2,h0]
      obtain⟨e1,e2,e3⟩:=aPG h (r:=r.Routes) (n:=r.Neighs) (f:=r.Fdbs)
      refine⟨e1,e2,e3,?_,?_⟩
      · unfold rU;split <;> exact ho
      · unfold rU;split <;> rfl
    · have s:=aX9 (r:=r) k1 h0
      rw[<-s.1,<-s.2]
      refine⟨by simp [tR,h0],by simp [rJ,h0],keep⟩
  by_cases k2:a.request.Kind.v=2
  · have t:=tk2 (g:=iV a) (r:=r) (by rw[hq];exact k2)
    rw[t.1,t.2]
    by_cases h0:r.Err.v=0
    · have s:=rt2 (r:=r) k2 h0
      rw[<-s.1,<-s.2,h0]
      obtain⟨e1,e2,e3⟩:=aQ5 h (rev:=r.Rev) (l:=r.Leases)
      refine⟨e1,e2,e3,?_,?_⟩
      · unfold sK;split <;> exact ho
      · unfold sK;split <;> rfl
    · have s:=aYA (r:=r) k2 h0
      rw[<-s.1,<-s.2]
      refine⟨by simp [sM,h0],by simp [qG,h0],keep⟩
  by_cases k3:a.request.Kind.v=3
  · have t:=tk3 (g:=iV a) (r:=r) (by rw[hq];exact k3)
    have s:=rt3 (r:=r) k3
    rw[t.1,t.2,<-s.1,<-s.2]
    obtain⟨e2,e3⟩:=aR6 h ho r.Err.v
    refine⟨rfl,e2,e3,?_,?_⟩
    · unfold rK qF
      repeat' split
      all_goals exact ho
    · unfold rK qF
      repeat' split
      all_goals rfl
  by_cases k4:a.request.Kind.v=4\/a.request.Kind.v=5
  · have t:=tk4 (g:=iV a) (r:=r) (by rw[hq];exact k4)
    have s:=rt4 (r:=r) k4
    rw[t.1,t.2,<-s.1,<-s.2]
    obtain⟨e1,e2,e3⟩:=aNK h ho k4 r.Err.v r.Answer.Lease
    refine⟨e1,e2,e3,?_,?_⟩
    · unfold vG
      repeat' split
      all_goals exact ho
    · unfold vG
      repeat' split
      all_goals rfl
  by_cases k6:a.request.Kind.v=6
  · have t:=tk6 (g:=iV a) (r:=r) (by rw[hq];exact k6)
    rw[t.1,t.2]
    by_cases h0:r.Err.v=0
    · have s:=rt6 (r:=r) k6 h0
      rw[<-s.1,<-s.2,h0]
      obtain⟨e1,e2,e3,e4,e5⟩:=aOA h r.Events
      exact⟨e1,e2,e3,by rw[e5];exact ho,e4⟩
    · by_cases hs:pR r.Err.v=true
      · have hA:iT a r={ a with stale:=true }:=by simp [iT,k6,h0,hs]
        have hE:lY a r=0:=by simp [lY,k6,h0]
        rw[hA,hE]
        refine⟨by simp [lQ,h0],by simp [jZ,h0,hs],⟨h.view,h.r,h.n,h.f,h.nd,h.req⟩,ho,rfl⟩
      · have hs:pR r.Err.v=false:=by simpa using hs
        have hA:iT a r=a:=by simp [iT,k6,h0,hs]
        have hE:lY a r=0:=by simp [lY,k6,h0]
        rw[hA,hE]
        refine⟨by simp [lQ,h0],by simp [jZ,h0,hs],keep⟩
  · have t:=tkn (g:=iV a) (r:=r) (by rw[hq];exact k1) (by rw[hq];exact k2) (by rw[hq];exact k3) (by rw[hq];exact k4) (by rw[hq];exact k6)
    have s:=rtn (r:=r) k1 k2 k3 k4 k6
    rw[t.1,t.2,<-s.1,<-s.2]
    exact⟨rfl,rfl,keep⟩
theorem aDY (h:Inv a) (r:pT):sW (iV a) r=uB a r/\jT (iV a) r=iV (mG a r)/\Inv (mG a r):=by
  cases ho:a.opn with
  | false =>
    have h0:(iV a).opn.Kind.v=0:=by simp [iV,ho,nB]
    have:=aND (r:=r) h0
    rw[this.1,this.2]
    simp [uB,mG,ho,h]
  | true =>
    have hq:(iV a).opn=a.request:=by simp [iV,ho]
    obtain⟨e1,e2,e3,e4,e5⟩:=aN6 h ho r
    have hk:=h.req ho
    unfold sW jT uB mG
    rw[hq,if_neg hk,if_neg hk,ho,e1,e2]
    simp only[if_true]
    refine⟨by trivial,?_,?_⟩
    · split
      · rfl
      · simp [iV,e5,Bool.and_assoc]
    · split
      · exact e3
      · exact⟨e3.view,e3.r,e3.n,e3.f,e3.nd,fun q=>by cases q⟩
end
end Go.Proofs.YtnbpodjbemfpbaaGreat.Fw
set_option linter.all false
namespace Go.Proofs.YtnbpodjbemfpbaaGreat.Fw
open Go
def aJ4 (L:List aT) (p:aT):Bool:=((L.length:Int)==0) || cL ((L[((L.length:Int)-1).toNat]?).getD fM) p
def aLJ (s L:List aT) (kk:Int) (p:aT):Bool:=aJ4 L p&&(decide (kk<0) || cL p ((s[kk.toNat]?).getD fM))
def aQ0 (s L:List aT) (j:Nat) (kk:Int):Int:=match s[j]? with
  | some p=>if aLJ s L kk p then (j:Int) else kk
  | none=>kk
def a1S (s L:List aT):Nat->Int
  | 0=>-1
  | j+1=>aQ0 s L j (a1S s L j)
@[irreducible] def rH (s L:List aT) (j:Nat):Int:=a1S s L j
theorem aCI {s L:List aT} {j:Nat}:rH s L (j+1)=aQ0 s L j (rH s L j):=by unfold rH;rfl
section
variable {s L:List aT} {j n:Nat} {p:aT}
theorem aLG:(-1:Int)=rH s L 0:=by unfold rH;rfl
theorem aLI (h:s[j]?=some p) (hc:aLJ s L (rH s L j) p=true):(j:Int)=rH s L (j+1):=by
  rw[aCI,aQ0,h];simp only;rw[if_pos hc]
theorem aLH (h:s[j]?=some p) (hc:aLJ s L (rH s L j) p=false):rH s L j=rH s L (j+1):=by
  rw[aCI,aQ0,h];simp only;rw[hc];rfl
theorem aCH:-1<=rH s L j/\rH s L j<(j:Int)/\(rH s L j<0->∀ i p,i<j->s[i]?=some p->aJ4 L p=false)/\(0<=rH s L j->∃ q,s[(rH s L j).toNat]?=some q/\aJ4 L q=true/\∀ i p,i<j->s[i]?=some p->aJ4 L p=true->cL p q=false):=by
  induction j with
  | zero=>rw[<-aLG];exact⟨by omega,by omega,fun _ i p hi=>by omega,fun h=>by omega⟩
  | succ j ih =>
    cases h:s[j]? with
    | none =>
      have hk:rH s L (j+1)=rH s L j:=by
        rw[aCI,aQ0,h]
      rw[hk]
      refine⟨ih.1,by omega,fun h0 i p hi hp=>?_,fun h0=>?_⟩
      · by_cases hij:i=j
        · subst hij;rw[h] at hp;cases hp
        · exact ih.2.2.1 h0 i p (by omega) hp
      · obtain⟨q,hq,ha,hm⟩:=ih.2.2.2 h0
        refine⟨q,hq,ha,fun i p hi hp hb=>?_⟩
        by_cases hij:i=j
        · subst hij;rw[h] at hp;cases hp
        · exact hm i p (by omega) hp hb
    | some p =>
      cases hc:aLJ s L (rH s L j) p with
      | true =>
        rw[<-aLI h hc]
        refine⟨by omega,by omega,fun h0=>by omega,fun _=>⟨p,by simpa using h,?_,fun i x hi hx hb=>?_⟩⟩
        · unfold aLJ at hc
          simp only[Bool.and_eq_true] at hc
          exact hc.1
        · by_cases hij:i=j
          · subst hij
            rw[h] at hx
            simp only[Option.some.injEq] at hx
            subst hx
            exact koPrefix.irr p
          · unfold aLJ at hc
            simp only[Bool.and_eq_true,Bool.or_eq_true,decide_eq_true_eq] at hc
            rcases hc.2 with h0|h0
            · have:=ih.2.2.1 h0 i x (by omega) hx
              rw[this] at hb;cases hb
            · by_cases h1:rH s L j<0
              · have:=ih.2.2.1 h1 i x (by omega) hx
                rw[this] at hb;cases hb
              · obtain⟨q,hq,ha,hm⟩:=ih.2.2.2 (by omega)
                rw[hq] at h0
                have hxq:=hm i x (by omega) hx hb
                cases hl:cL x p with
                | false=>rfl
                | true =>
                  have:=koPrefix.tr _ _ _ hl (by simpa using h0)
                  rw[hxq] at this;cases this
      | false =>
        rw[<-aLH h hc]
        unfold aLJ at hc
        simp only[Bool.and_eq_false_iff,Bool.or_eq_false_iff,decide_eq_false_iff_not] at hc
        refine⟨ih.1,by omega,fun h0 i x hi hx=>?_,fun h0=>?_⟩
        · by_cases hij:i=j
          · subst hij
            rw[h] at hx
            simp only[Option.some.injEq] at hx
            subst hx
            rcases hc with hc|hc
            · exact hc
            · exact absurd h0 hc.1
          · exact ih.2.2.1 h0 i x (by omega) hx
        · obtain⟨q,hq,ha,hm⟩:=ih.2.2.2 h0
          refine⟨q,hq,ha,fun i x hi hx hb=>?_⟩
          by_cases hij:i=j
          · subst hij
            rw[h] at hx
            simp only[Option.some.injEq] at hx
            subst hx
            rcases hc with hc|hc
            · rw[hc] at hb;cases hb
            · have:=hc.2
              rw[hq] at this
              simpa using this
          · exact hm i x (by omega) hx hb
theorem aMS {l:List aT} (h:nF cL kP l) {i j:Nat} {x y:aT} (hx:l[i]?=some x) (hy:l[j]?=some y):cL x y=true ↔ i<j:=by
  obtain⟨hi,rfl⟩:=List.getElem?_eq_some_iff.1 hx
  obtain⟨hj,rfl⟩:=List.getElem?_eq_some_iff.1 hy
  have hp:=List.pairwise_iff_getElem.1 h
  constructor
  · intro hl
    rcases Nat.lt_trichotomy i j with h1|h1|h1
    · exact h1
    · subst h1;rw[koPrefix.irr] at hl;cases hl
    · have:=koPrefix.tr _ _ _ hl (hp j i hj hi h1)
      rw[koPrefix.irr] at this;cases this
  · exact fun h1=>hp i j hi hj h1
theorem aLT {S:List aT} (hS:nF cL kP S) (hn:n<=S.length) {i:Nat} (hp:S[i]?=some p):aJ4 (S.take n) p=true ↔ n<=i:=by
  unfold aJ4
  have hl:(S.take n).length=n:=by simp;omega
  rw[hl]
  cases n with
  | zero=>simp
  | succ n =>
    have h1:(((n+1:Nat):Int)-1).toNat=n:=by omega
    have hx:S[n]?=some S[n]:=List.getElem?_eq_getElem (by omega)
    rw[h1,List.getElem?_take_of_lt (by omega),hx]
    have:=aMS hS hx hp
    simp only[Option.getD_some,Bool.or_eq_true,beq_iff_eq,this]
    omega
theorem aJL (hnd:s.Nodup) (hn:n<s.length) (hj:s.length<=j):0<=rH s ((jN s).take n) j/\rH s ((jN s).take n) j<(s.length:Int)/\s[(rH s ((jN s).take n) j).toNat]?=(jN s)[n]?:=by
  have hS:=pS s
  have hlen:=aMR hnd
  have hx:(jN s)[n]?=some (jN s)[n]:=List.getElem?_eq_getElem (by omega)
  obtain⟨a1,a2,a3,a4⟩:=aCH (s:=s) (L:=(jN s).take n) (j:=j)
  have hxa:aJ4 ((jN s).take n) (jN s)[n]=true:=(aLT hS (by omega) hx).2 (Nat.le_refl _)
  obtain⟨i,hi,hie⟩:=List.getElem_of_mem (tE.1 (List.getElem_mem (by omega:n<(jN s).length)))
  have hix:s[i]?=some (jN s)[n]:=by rw[List.getElem?_eq_getElem hi,hie]
  have h0:0<=rH s ((jN s).take n) j:=by
    by_cases h:rH s ((jN s).take n) j<0
    · have:=a3 h i _ (by omega) hix
      rw[this] at hxa;cases hxa
    · omega
  obtain⟨q,hq,ha,hm⟩:=a4 h0
  have hql:=(List.getElem?_eq_some_iff.1 hq).1
  refine⟨h0,by omega,?_⟩
  rw[hq,hx]
  have hmin:=hm i _ (by omega) hix hxa
  obtain⟨t,ht,hte⟩:=List.getElem_of_mem (tE.2 (List.mem_of_getElem? hq))
  have htq:(jN s)[t]?=some q:=by rw[List.getElem?_eq_getElem ht,hte]
  have h1:=(aLT hS (by omega) htq).1 ha
  have h2:¬ n<t:=fun h=>by
    have:=(aMS hS hx htq).2 h
    rw[hmin] at this;cases this
  have:t=n:=by omega
  subst this
  rw[hx] at htq
  exact htq.symm
theorem aQ1 {kk:Int} (hk:kk=rH s ((jN s).take n) j) (hnd:s.Nodup) (hn:n<s.length):s.length<=j->0<=kk/\kk<(s.length:Int):=fun hj=>by
  have h:=aJL hnd hn hj
  rw[<-hk] at h
  exact⟨h.1,h.2.1⟩
theorem aDE {e:aT} (hnd:s.Nodup) (hn:n<s.length) (hj:s.length<=j) (h:s[(rH s ((jN s).take n) j).toNat]?=some e):(jN s).take n++[e]=(jN s).take (n+1):=by
  rw[List.take_add_one,<-(aJL hnd hn hj).2.2,h];rfl
end
def aER (a:gU):Bool:=(((a.read && !a.stale)&&(((fO a).length:Int)==0))&&a.quiet)
theorem sync_img {a:gU}:aAL (iV a)=aER a:=by
  unfold aAL aER
  rw[zR]
  show (((a.read && !a.stale)&&a.quiet)&&(((fO a).length:Int)==0))=_
  rw[Bool.and_assoc,Bool.and_assoc,Bool.and_assoc,Bool.and_assoc]
  congr 2
  rw[Bool.and_comm]
end Go.Proofs.YtnbpodjbemfpbaaGreat.Fw
