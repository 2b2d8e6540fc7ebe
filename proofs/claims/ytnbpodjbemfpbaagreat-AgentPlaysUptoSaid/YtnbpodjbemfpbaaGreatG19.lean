/-
  Own work: walks and laws, joined by wip/tool/compact.py.
-/
import Derived.Test.YtnbpodjbemfpbaaGreatG18
import Derived.ProofKit
import Derived.OpenShut
import Derived.JoinedCond
import Derived.Carry
import Derived.Deep.Slices
import Derived.Test.YtnbpodjbemfpbaaGreatRows
import Derived.Test.YtnbpodjbemfpbaaGreatChecked
import Derived.WalkKit
set_option linter.all false
set_option linter.all false
namespace Go.Proofs.YtnbpodjbemfpbaaGreat.Fw
open Go Go.ChangeShapes Go.WideShapes Go.ChangeAt Go.RowKit
section
variable {H:Type} {enc:TypeId×Value->H} {P:Program} {w:World} {base:Nat} {spare:Nat->Bool} {held:Bool} {fuel:Nat} {t:TypeId} {cs:List Value} {x:DataW H×List MemPlace}
theorem nQ {ag:Bool} {n:Nat} (h:kJ P t=some (ag,n)):P.cellsOf t=n:=by
  obtain⟨d,i,h1,h2,h3,h4⟩:=uE h
  simp [Program.cellsOf,h2,h4]
theorem iK {k:IntKind} (ht:inI P t=some k) (h:DataW.trod enc P w base spare held fuel t cs=some x):∃ y:Fx k,cs=[.int k y.v]:=by
  obtain⟨n,rfl,_,hw⟩:=DataW.trod_int (aA5 ht) h
  refine⟨⟨n,?_⟩,rfl⟩
  simp only[Lit.wf,Bool.and_eq_true,decide_eq_true_eq] at hw
  cases k <;> simp [IntKind.wrap,IntKind.min,IntKind.max,IntKind.signed,IntKind.bits] at hw ⊢ <;> (try split) <;> omega
theorem aTK (ht:P.underlying t=some .bool) (h:DataW.trod enc P w base spare held fuel t cs=some x):∃ y:Bool,cs=[.bool y] :=
  let ⟨b,h1,_⟩:=DataW.trod_bool ht h
  ⟨b,h1⟩
theorem pP {fs:List (Nat×Nat)} {ag:Bool} {n:Nat} (hs:stI P t=some fs) (ht:kJ P t=some (ag,n)) (h:DataW.trod enc P w base spare held fuel t cs=some x):cs.length=n:=by
  obtain⟨fds,h1,_⟩:=aE0 hs
  obtain⟨_,_,_,_,hl,_⟩:=DataW.trod_struct h1 h
  rw[hl,nQ ht]
theorem aN7 {m n:Nat} {E:TypeId} {ag:Bool} (hs:arI P t=some (m,E)) (ht:kJ P t=some (ag,n)) (h:DataW.trod enc P w base spare held fuel t cs=some x):cs.length=n:=by
  obtain⟨_,_,_,_,hl,_⟩:=DataW.trod_array (vM hs) h
  rw[hl,nQ ht]
theorem hJ {i o n:Nat} {U:TypeId} {ag:Bool} (hf:rZ P t i=some (o,U)) (hu:kJ P U=some (ag,n)) (h:DataW.trod enc P w base spare held fuel t cs=some x):∃ m y,DataW.trod enc P w base spare held m U ((cs.drop o).take n)=some y:=by
  obtain⟨fs,f,h1,h2,rfl,rfl⟩:=tV hf
  obtain⟨xs,m,_,_,_,hx,hall⟩:=DataW.trod_struct h1 h
  have:=hall i f h2
  rw[nQ hu] at this
  have hi:i<xs.length:=by
    rw[hx]
    exact(Array.getElem?_eq_some_iff.1 h2).1
  exact⟨m,xs[i],by rw[this,List.getElem?_eq_getElem hi]⟩
theorem yZ {i m n:Nat} {E:TypeId} {ag:Bool} (hs:arI P t=some (m,E)) (hu:kJ P E=some (ag,n)) (hi:Nat.blt i m=true) (h:DataW.trod enc P w base spare held fuel t cs=some x):∃ q y,DataW.trod enc P w base spare held q E ((cs.drop (i*n)).take n)=some y:=by
  obtain⟨xs,q,_,_,_,hx,hall⟩:=DataW.trod_array (vM hs) h
  have hlt:i<m:=Nat.le_of_ble_eq_true hi
  have:=hall i hlt
  rw[nQ hu] at this
  exact⟨q,xs[i],by rw[this,List.getElem?_eq_getElem (by omega)]⟩
theorem aF3 {α:Type} {c:α->List Value} {q:DataW H->α->Prop} {E:TypeId} {ag:Bool} {k:Nat} (ht:uX P t=some E) (hE:kJ P E=some (ag,k)) (hk:Nat.ble 1 k=true)
    (hel:∀ (m:Nat) (es:List Value) (y:DataW H×List MemPlace),DataW.trod enc P w base spare held m E es=some y->∃ z:α,es=c z/\q y.1 z) (hck:∀ z:α,(c z).length=k)
    (h:DataW.trod enc P w base spare held fuel t cs=some x) :
    ∃ (v:SH) (xs:List α),cs=[v.v]/\((x.1= .nil/\xs=[])\/∃ els sp,x.1= .slice els sp/\els.length=xs.length/\∀ (i:Nat) (z:α),xs[i]?=some z->∃ d,els[i]?=some d/\q d z)/\(xs.length<=140737488355328->RdS (hh w) k v.v (xs.map c)):=by
  rcases Go.Deep.open_slice (jY ht) h with ⟨rfl,rfl⟩|⟨a,len,cap,m,n,D,Pl,rfl,hb,hl,hcap,rfl,rfl,hall⟩
  · exact⟨nilH,[],rfl,.inl ⟨rfl,rfl⟩,fun _=>RdS.nil _ _⟩
  have hk1:1<=k:=Nat.le_of_ble_eq_true hk
  rw[nQ hE] at hall
  have hm:len<=(if spare a.block=true then cap else len):=by split <;> omega
  by_cases hlen:len=0
  · subst hlen
    exact⟨⟨some a,0,cap⟩,[],rfl,.inr ⟨_,_,rfl,by simp,by simp⟩,fun _=>⟨by simp,by simp,some a,cap,rfl,by simp,fun h=>absurd rfl h⟩⟩
  -- the elements
  have hex:∀ i,i<len->∃ z:α,w.cells? base (a.add (i*k)) k=some (c z)/\q (D i) z:=by
    intro i hi
    obtain⟨cs',h1,h2⟩:=hall i (by omega)
    obtain⟨z,rfl,hq⟩:=hel _ _ _ h2
    exact⟨z,h1,hq⟩
  have hxs:∀ n,n<=len->∃ xs:List α,xs.length=n/\∀ i z,xs[i]?=some z->w.cells? base (a.add (i*k)) k=some (c z)/\q (D i) z:=by
    intro n
    induction n with
    | zero=>intro _;exact⟨[],rfl,by simp⟩
    | succ n ih =>
      intro hn
      obtain⟨xs,h1,h2⟩:=ih (by omega)
      obtain⟨z,hz⟩:=hex n (by omega)
      refine⟨xs++[z],by simp [h1],fun i y hy=>?_⟩
      rw[List.getElem?_append] at hy
      split at hy
      · exact h2 i y hy
      · rename_i hge
        have:i=n:=by
          have:=(List.getElem?_eq_some_iff.1 hy).1
          simp at this
          omega
        subst this
        rw[h1] at hy
        simp at hy
        subst hy
        exact hz
  obtain⟨xs,hx1,hx2⟩:=hxs len (Nat.le_refl _)
  refine⟨⟨some a,len,cap⟩,xs,rfl,.inr ⟨_,_,rfl,by simp [hx1],fun i z hz=>⟨D i,by have hi:=(List.getElem?_eq_some_iff.1 hz).1;simp [show i<len by omega],(hx2 i z hz).2⟩⟩,fun hbd=>?_⟩
  -- the block
  have hcell:∀ j,j<len*k->∃ v,w.cell? (a.add j)=some v/\((xs.map c).flatten)[j]?=some v:=by
    intro j hj
    have hi:j / k<len:=Nat.div_lt_of_lt_mul (by rw[Nat.mul_comm];exact hj)
    obtain⟨z,hz⟩:=bI (l:=xs) (i:=j / k) (by omega)
    have h1:=(hx2 _ _ hz).1
    unfold World.cells? at h1
    split at h1
    · have h2:=mapM_some_get h1 (j % k) (j % k) (by simp [Nat.mod_lt _ (show 0<k by omega)])
      rw[Go.Deep.add_add,show j / k*k+j % k=j by rw[Nat.mul_comm];exact Nat.div_add_mod j k] at h2
      have hlt:j % k<(c z).length:=by rw[hck];exact Nat.mod_lt _ (by omega)
      refine⟨(c z)[j % k],by rw[h2,List.getElem?_eq_getElem hlt],?_⟩
      have hfc:=wQ (k:=k) (ds:=xs.map c) (i:=j / k) (d:=c z) (by intro d hd;obtain⟨y,_,rfl⟩:=List.mem_map.1 hd;exact hck y) (mV c hz)
      have h3:(((xs.map c).flatten.drop (j / k*k)).take k)[j % k]?=(c z)[j % k]?:=by rw[hfc]
      rw[List.getElem?_take_of_lt (Nat.mod_lt _ (by omega)),List.getElem?_drop,show j / k*k+j % k=j by rw[Nat.mul_comm];exact Nat.div_add_mod j k] at h3
      rw[h3,List.getElem?_eq_getElem hlt]
    · cases h1
  obtain⟨v0,hv0,_⟩:=hcell 0 (Nat.mul_pos (by omega) (by omega))
  obtain⟨blk,off,spot⟩:=a
  have hobj:spot=none/\∃ arr T fz,w.heap[blk]?=some (.cells arr T fz):=by
    rw[aBY] at hv0
    unfold World.cell? at hv0
    split at hv0
    · rename_i h1
      split at hv0
      · cases hv0
      · rename_i h2
        exact⟨by simpa using h2,_,_,_,h1⟩
    · cases hv0
  obtain⟨rfl,arr,T,fz,hblk⟩:=hobj
  have hfl:(xs.map c).flatten.length=len*k:=by
    rw[lP (k:=k) (by intro d hd;obtain⟨y,_,rfl⟩:=List.mem_map.1 hd;exact hck y)]
    simp [hx1]
  refine⟨by intro d hd;obtain⟨y,_,rfl⟩:=List.mem_map.1 hd;exact hck y,by simpa using hbd,some ⟨blk,off,none⟩,cap,by simp [SH.v,hx1],by simpa [hx1] using hl,fun _=>⟨blk,off,arr,T,fz,rfl,hblk,?_⟩⟩
  apply List.ext_getElem?
  intro j
  simp only[List.length_map,hx1]
  by_cases hj:j<len*k
  · obtain⟨v,h1,h2⟩:=hcell j hj
    rw[h2,List.getElem?_take_of_lt hj,List.getElem?_drop]
    rw[qM] at h1
    simpa [World.cell?,hblk] using h1
  · rw[List.getElem?_eq_none (by simp;omega),List.getElem?_eq_none (by omega)]
theorem aQO {α:Type} {c:α->List Value} {E:TypeId} {ag:Bool} {k:Nat} (ht:uX P t=some E) (hE:kJ P E=some (ag,k)) (hk:Nat.ble 1 k=true)
    (hel:∀ (m:Nat) (es:List Value) (y:DataW H×List MemPlace),DataW.trod enc P w base spare held m E es=some y->∃ z:α,es=c z) (hck:∀ z:α,(c z).length=k)
    (h:DataW.trod enc P w base spare held fuel t cs=some x) :
    ∃ (v:SH) (xs:List α),cs=[v.v]/\((x.1= .nil/\xs=[])\/∃ els sp,x.1= .slice els sp/\els.length=xs.length)/\(xs.length<=140737488355328->RdS (hh w) k v.v (xs.map c)):=by
  obtain⟨v,xs,h1,h2,h3⟩:=aF3 (c:=c) (q:=fun _ _=>True) ht hE hk (fun m es y h=>by obtain⟨z,e⟩:=hel m es y h;exact⟨z,e,trivial⟩) hck h
  refine⟨v,xs,h1,?_,h3⟩
  rcases h2 with h2|⟨els,sp,h4,h5,_⟩
  · exact .inl h2
  · exact .inr ⟨els,sp,h4,h5⟩
end
/-! ### from a walk's end to the row's -/
section
variable {H:Type} {enc:TypeId×Value->H} {P:Program}
theorem aNR {f:Func} {s:ChangeSpec} {apart fresh handsOn again:Bool} {W W':World} {args:Array Value} {v:Value} {ds gs:List (DataW H)} {before pa pv:List MemPlace}
    (hW:DataW.Whole enc P f.params.toList s.vars apart W args.toList ds gs before) (hb:Below W.heap.size W W')
    (hres:∀ (b:Nat) (sp:Nat->Bool) (hd:Bool),DataW.TrodAll enc P W' b sp hd f.resultTypes.toList (v.resultList f.resultTypes.size) (s.fn H (ds++gs)).results [])
    (hargs:∀ sp:Nat->Bool,(∀ p ∈ before,sp p.block=true)->DataW.TrodAll enc P W' 0 sp true f.params.toList args.toList (s.fn H (ds++gs)).args pa)
    (hvars:∀ sp:Nat->Bool,(∀ p ∈ before,sp p.block=true)->DataW.TrodVars enc P W' sp s.vars (s.fn H (ds++gs)).vars pv)
    (hps:before=pa++pv)
    (hok:∀ (j:Nat) (t:TypeId) (r:Value),f.resultTypes[j]?=some t->(v.resultList f.resultTypes.size)[j]?=some r->Value.okWide P W' .any 0 t r) :
    s.post enc P f apart fresh handsOn again W args v W':=by
  have hlt:=hW.lt
  have hold:∀ p ∈ before,(fun b=>decide (b<W.heap.size)) p.block=true:=fun p hp=>by simpa using hlt p hp
  have hfr:W.keptBut W' (fun p=>p ∈ before/\(p ∈ ([]:List MemPlace)\/p ∈ pa\/p ∈ pv)):=hb.frame _
  have hW0:=hW
  obtain⟨_,_,_,_,_,hz,hn⟩:=hW0
  refine⟨ds,gs,before,[],pa,pv,hW,hres _ _ _,hargs _ hold,hvars _ hold,hfr,fun _=>⟨hok,ds.map id |> fun _=>_,_,[]++pa++pv,⟨[]++pa,pv,trodAll_append (hargs _ (fun _ _=>rfl)) (hres _ _ _),hvars _ (fun _ _=>rfl),rfl,?_,?_⟩,?_⟩⟩
  · intro b off hp
    have hmem:MemPlace.cell b off ∈ before:=by rw[hps];simpa using hp
    rw[Below.frozen hb (p:=⟨b,off,none⟩) (hlt _ hmem)]
    exact hz b off hmem
  · intro ha
    have h2:=hn ha
    rw[hps] at h2
    simpa using h2
  · intro p hp _
    rw[hps]
    simpa using hp
theorem aBQ (hl:laidOutB P=true) {W W':World} (hb:Below W.heap.size W W'):∀ {ts:List TypeId} {vs:List Value} {ds:List (DataW H)} {ps:List MemPlace} {sp:Nat->Bool},(∀ t ∈ ts,P.readableRec t=true/\t<P.types.size)->(∀ p ∈ ps,p.block<W.heap.size)->(∀ p ∈ ps,sp p.block=true) ->
    DataW.TrodAll enc P W 0 (fun _=>true) true ts vs ds ps->DataW.TrodAll enc P W' 0 sp true ts vs ds ps
  | [],_,_,_,_,_,_,_,h=>by
    obtain⟨rfl,rfl,rfl⟩:=trodAll_nil h
    exact trodAll_mk0
  | t::ts,vs,ds,ps,sp,hr,hlt,hsp,h=>by
    obtain⟨v,vs1,d,ds1,a,b,rfl,rfl,rfl,h1,h2⟩:=trodAll_cons h
    have ht:=hr t (by simp)
    refine trodAll_cons_mk (Go.WideElems.Trod_stays hl ht.1 ht.2 h1 (fun p hp=>hb.same (hlt p (by simp [hp]))) (fun p hp=>hsp p (by simp [hp]))) (aBQ hl hb (fun t ht=>hr t (by simp [ht])) (fun p hp=>hlt p (by simp [hp])) (fun p hp=>hsp p (by simp [hp])) h2)
end
end Go.Proofs.YtnbpodjbemfpbaaGreat.Fw
set_option linter.all false
namespace Go.Proofs.YtnbpodjbemfpbaaGreat.Fw
open Go Go.ChangeShapes Go.WideShapes Go.ChangeAt Go.RowKit
theorem aDM {H:Type}:∀ (l:List (DataW H)),l.length<=Rows.uptoBulkAll l
  | []=>Nat.le_refl _
  | d::r=>by
    have:=aDM r
    have h1:1<=Rows.uptoBulk d:=by
      cases d with
      | lit l=>cases l <;> simp [Rows.uptoBulk]
      | _=>simp [Rows.uptoBulk]
    simp only[Rows.uptoBulkAll,List.length_cons]
    omega
theorem aDN {H:Type} {d:DataW H}:∀ {l:List (DataW H)},d ∈ l->Rows.uptoBulk d<=Rows.uptoBulkAll l
  | e::r,h=>by
    simp only[Rows.uptoBulkAll]
    rcases List.mem_cons.1 h with rfl|h
    · omega
    · have:=aDN h
      omega
section
variable {H:Type} {enc:TypeId×Value->H} {P:Program} {w:World} {base:Nat} {spare:Nat->Bool} {held:Bool} {fuel:Nat} {t:TypeId} {cs:List Value} {x:DataW H×List MemPlace}
theorem aJU {i o n:Nat} {U:TypeId} {ag:Bool} (hf:rZ P t i=some (o,U)) (hu:kJ P U=some (ag,n)) (h:DataW.trod enc P w base spare held fuel t cs=some x):∃ m y,DataW.trod enc P w base spare held m U ((cs.drop o).take n)=some y/\Rows.uptoBulk y.1<Rows.uptoBulk x.1:=by
  obtain⟨fs,f,h1,h2,rfl,rfl⟩:=tV hf
  obtain⟨xs,m,_,hx1,_,hx,hall⟩:=DataW.trod_struct h1 h
  have:=hall i f h2
  rw[nQ hu] at this
  have hi:i<xs.length:=by
    rw[hx]
    exact(Array.getElem?_eq_some_iff.1 h2).1
  refine⟨m,xs[i],by rw[this,List.getElem?_eq_getElem hi],?_⟩
  rw[hx1]
  simp only[Rows.uptoBulk]
  have:=aDN (List.mem_map_of_mem (f:=(·.1)) (List.getElem_mem hi))
  omega
end
end Go.Proofs.YtnbpodjbemfpbaaGreat.Fw
set_option linter.all false
namespace Go.Proofs.YtnbpodjbemfpbaaGreat.Fw
open Go Go.ChangeShapes Go.WideShapes Go.ChangeAt Go.RowKit
theorem aAT {H:Type} {a:DataW H}:∀ {l:List (DataW H)} {i:Nat},l[i]?=some a->Rows.uptoBulk a+Rows.uptoBulkAll (l.drop (i+1))<=Rows.uptoBulkAll l
  | [],_,h=>by simp at h
  | d::r,0,h=>by
    simp only[List.getElem?_cons_zero,Option.some.injEq] at h
    subst h
    simp [Rows.uptoBulkAll]
  | d::r,i+1,h=>by
    simp only[List.getElem?_cons_succ] at h
    have:=aAT h
    simp only[List.drop_succ_cons,Rows.uptoBulkAll]
    omega
theorem aKE {H:Type} {a b c:DataW H} {l:List (DataW H)} {i j k:Nat} (hi:l[i]?=some a) (hj:l[j]?=some b) (hk:l[k]?=some c) (hij:i<j) (hjk:j<k):Rows.uptoBulk a+Rows.uptoBulk b+Rows.uptoBulk c<=Rows.uptoBulkAll l:=by
  have h1:=aAT hi
  have h2:=aAT (l:=l.drop (i+1)) (i:=j-(i+1)) (a:=b) (by rw[List.getElem?_drop,show i+1+(j-(i+1))=j by omega];exact hj)
  have h3:=aAT (l:=(l.drop (i+1)).drop (j-(i+1)+1)) (i:=k-(j+1)) (a:=c) (by rw[List.getElem?_drop,List.getElem?_drop,show i+1+(j-(i+1)+1+(k-(j+1)))=k by omega];exact hk)
  omega
section
variable {H:Type} {enc:TypeId×Value->H} {P:Program} {w:World} {base:Nat} {spare:Nat->Bool} {held:Bool} {fuel:Nat} {t:TypeId} {cs:List Value} {x:DataW H×List MemPlace}
theorem aJT {i j k o1 o2 o3 n1 n2 n3:Nat} {U1 U2 U3:TypeId} {a1 a2 a3:Bool} (f1:rZ P t i=some (o1,U1)) (u1:kJ P U1=some (a1,n1)) (f2:rZ P t j=some (o2,U2)) (u2:kJ P U2=some (a2,n2)) (f3:rZ P t k=some (o3,U3)) (u3:kJ P U3=some (a3,n3)) (hij:Nat.blt i j=true) (hjk:Nat.blt j k=true)
    (h:DataW.trod enc P w base spare held fuel t cs=some x):∃ m y1 y2 y3,DataW.trod enc P w base spare held m U1 ((cs.drop o1).take n1)=some y1/\DataW.trod enc P w base spare held m U2 ((cs.drop o2).take n2)=some y2/\DataW.trod enc P w base spare held m U3 ((cs.drop o3).take n3)=some y3/\Rows.uptoBulk y1.1+Rows.uptoBulk y2.1+Rows.uptoBulk y3.1<Rows.uptoBulk x.1:=by
  obtain⟨fs,g1,h1,h2,rfl,rfl⟩:=tV f1
  obtain⟨fs',g2,h1',h2',rfl,rfl⟩:=tV f2
  obtain⟨fs'',g3,h1'',h2'',rfl,rfl⟩:=tV f3
  rw[h1] at h1' h1''
  cases h1'
  cases h1''
  obtain⟨xs,m,_,hx1,_,hx,hall⟩:=DataW.trod_struct h1 h
  have e1:=hall i g1 h2
  have e2:=hall j g2 h2'
  have e3:=hall k g3 h2''
  rw[nQ u1] at e1
  rw[nQ u2] at e2
  rw[nQ u3] at e3
  have l1:i<xs.length:=by rw[hx];exact(Array.getElem?_eq_some_iff.1 h2).1
  have l2:j<xs.length:=by rw[hx];exact(Array.getElem?_eq_some_iff.1 h2').1
  have l3:k<xs.length:=by rw[hx];exact(Array.getElem?_eq_some_iff.1 h2'').1
  refine⟨m,xs[i],xs[j],xs[k],by rw[e1,List.getElem?_eq_getElem l1],by rw[e2,List.getElem?_eq_getElem l2],by rw[e3,List.getElem?_eq_getElem l3],?_⟩
  rw[hx1]
  simp only[Rows.uptoBulk]
  have:=aKE (l:=xs.map (·.1)) (i:=i) (j:=j) (k:=k) (a:=xs[i].1) (b:=xs[j].1) (c:=xs[k].1) (by rw[List.getElem?_map,List.getElem?_eq_getElem l1];rfl) (by rw[List.getElem?_map,List.getElem?_eq_getElem l2];rfl) (by rw[List.getElem?_map,List.getElem?_eq_getElem l3];rfl) (Nat.le_of_ble_eq_true hij) (Nat.le_of_ble_eq_true hjk)
  omega
theorem wB {α:Type} {c:α->List Value} {E:TypeId} {ag:Bool} {k B:Nat} (ht:uX P t=some E) (hE:kJ P E=some (ag,k)) (hk:Nat.ble 1 k=true)
    (hel:∀ (m:Nat) (es:List Value) (y:DataW H×List MemPlace),DataW.trod enc P w base spare held m E es=some y->∃ z:α,es=c z) (hck:∀ z:α,(c z).length=k)
    (h:DataW.trod enc P w base spare held fuel t cs=some x) (hB:Rows.uptoBulk x.1<=B) (hB2:Nat.ble B 140737488355328=true) :
    ∃ (v:SH) (xs:List α),cs=[v.v]/\xs.length<Rows.uptoBulk x.1/\RdS (hh w) k v.v (xs.map c):=by
  obtain⟨v,xs,h1,h2,h3⟩:=aQO (c:=c) ht hE hk hel hck h
  have hB3:B<=140737488355328:=Nat.le_of_ble_eq_true hB2
  have hl:xs.length<Rows.uptoBulk x.1:=by
    rcases h2 with ⟨h4,rfl⟩|⟨els,sp,h4,h5⟩
    · rw[h4];simp [Rows.uptoBulk]
    · rw[h4]
      simp only[Rows.uptoBulk]
      have:=aDM els
      omega
  exact⟨v,xs,h1,hl,h3 (by omega)⟩
theorem aIC {α:Type} {f:α->Nat} {q:DataW H->α->Prop} (hq:∀ d z,q d z->f z<=Rows.uptoBulk d):∀ (els:List (DataW H)) (xs:List α),els.length=xs.length->(∀ (i:Nat) (z:α),xs[i]?=some z->∃ d,els[i]?=some d/\q d z)->(xs.map f).sum<=Rows.uptoBulkAll els
  | [],[],_,_=>by simp [Rows.uptoBulkAll]
  | [],_::_,h,_=>by simp at h
  | _::_,[],h,_=>by simp at h
  | d::els,z::xs,h,hx=>by
    have ih:=aIC hq els xs (by simpa using h) (fun i y hy=>by have:=hx (i+1) y (by simpa using hy);simpa using this)
    obtain⟨d',h1,h2⟩:=hx 0 z rfl
    simp only[List.getElem?_cons_zero,Option.some.injEq] at h1
    subst h1
    have:=hq _ _ h2
    simp only[List.map_cons,List.sum_cons,Rows.uptoBulkAll]
    omega
theorem aS3 {α:Type} {r:Hh->List Value->α->Prop} {f:α->Nat} {E:TypeId} {ag:Bool} {k B:Nat} (ht:uX P t=some E) (hE:kJ P E=some (ag,k)) (hk:Nat.ble 1 k=true)
    (hel:∀ (m:Nat) (es:List Value) (y:DataW H×List MemPlace),DataW.trod enc P w base spare held m E es=some y->Rows.uptoBulk y.1<=B->∃ z:α,es.length=k/\r (hh w) es z/\f z<=Rows.uptoBulk y.1)
    (h:DataW.trod enc P w base spare held fuel t cs=some x) (hB:Rows.uptoBulk x.1<=B) (hB2:Nat.ble B 140737488355328=true) (hlen:∀ (m:Nat) (es:List Value) (y:DataW H×List MemPlace),DataW.trod enc P w base spare held m E es=some y->es.length=k) :
    ∃ (v:SH) (zs:List α),cs=[v.v]/\(zs.map f).sum<=Rows.uptoBulk x.1/\RdN r (hh w) k v.v zs:=by
  have hB3:B<=140737488355328:=Nat.le_of_ble_eq_true hB2
  obtain⟨v,xs,h1,h2,h3⟩:=aF3 (α:={es:List Value // es.length=k}) (c:=fun z=>z.1) (q:=fun d z=>∃ m pl,DataW.trod enc P w base spare held m E z.1=some (d,pl)) ht hE hk (fun m es y h=>⟨⟨es,hlen m es y h⟩,rfl,m,y.2,h⟩) (fun z=>z.2) h
  have hl:xs.length<=B:=by
    rcases h2 with ⟨h4,rfl⟩|⟨els,sp,h4,h5,_⟩
    · simp
    · rw[h4] at hB
      simp only[Rows.uptoBulk] at hB
      have:=aDM els
      omega
  -- the elements' models
  have hz:∃ zs:List α,zs.length=xs.length/\(∀ (i:Nat) (cs:List Value) (z:α),(xs.map (fun z=>z.1))[i]?=some cs->zs[i]?=some z->r (hh w) cs z)/\(zs.map f).sum<=Rows.uptoBulk x.1:=by
    rcases h2 with ⟨h4,rfl⟩|⟨els,sp,h4,h5,h6⟩
    · exact⟨[],rfl,by simp,by simp⟩
    · rw[h4] at hB ⊢
      simp only[Rows.uptoBulk] at hB ⊢
      have oQ:∀ i,i<xs.length->∃ z:α,(∀ cs:List Value,(xs.map (fun z=>z.1))[i]?=some cs->r (hh w) cs z)/\∃ d,els[i]?=some d/\f z<=Rows.uptoBulk d:=by
        intro i hi
        obtain⟨d,hd,m,pl,ht⟩:=h6 i _ (List.getElem?_eq_getElem hi)
        have hb:=aDN (List.mem_of_getElem? hd)
        obtain⟨z,_,z2,z3⟩:=hel m _ _ ht (by simp only;omega)
        exact⟨z,fun cs hc=>by simp [List.getElem?_map,List.getElem?_eq_getElem hi] at hc;rw[<-hc];exact z2,d,hd,z3⟩
      have hzs:∀ n,n<=xs.length->∃ zs:List α,zs.length=n/\∀ (i:Nat) (z:α),zs[i]?=some z->(∀ cs:List Value,(xs.map (fun z=>z.1))[i]?=some cs->r (hh w) cs z)/\∃ d,els[i]?=some d/\f z<=Rows.uptoBulk d:=by
        intro n
        induction n with
        | zero=>intro _;exact⟨[],rfl,by simp⟩
        | succ n ih =>
          intro hn
          obtain⟨zs,g1,g2⟩:=ih (by omega)
          obtain⟨z,hz⟩:=oQ n (by omega)
          refine⟨zs++[z],by simp [g1],fun i y hy=>?_⟩
          rw[List.getElem?_append] at hy
          split at hy
          · exact g2 i y hy
          · have:i=n:=by
              have:=(List.getElem?_eq_some_iff.1 hy).1
              simp at this
              omega
            subst this
            rw[g1] at hy
            simp at hy
            subst hy
            exact hz
      obtain⟨zs,g1,g2⟩:=hzs xs.length (Nat.le_refl _)
      refine⟨zs,g1,fun i cs z hc hz=>(g2 i z hz).1 cs hc,?_⟩
      have:=aIC (f:=f) (q:=fun d z=>f z<=Rows.uptoBulk d) (fun _ _ h=>h) els zs (by omega) (fun i z hz=>(g2 i z hz).2)
      omega
  obtain⟨zs,g1,g2,g3⟩:=hz
  refine⟨v,zs,h1,g3,xs.map (fun z=>z.1),?_,by simp [g1],g2⟩
  rw[List.map_map]
  exact h3 (by omega)
end
end Go.Proofs.YtnbpodjbemfpbaaGreat.Fw
set_option linter.all false
namespace Go.Proofs.YtnbpodjbemfpbaaGreat.Fw
open Go
section
variable {H:Type} {enc:TypeId×Value->H} {w:World} {base:Nat} {spare:Nat->Bool} {held:Bool} {fuel:Nat} {cs:List Value} {x:DataW H×List MemPlace}
theorem aQF (h:DataW.trod enc Tryz.prog w base spare held fuel 44 cs=some x):∃ y:aT,cs=aO y:=by
  have hl:=pP a1V jQ h
  obtain⟨m0,x0,h0⟩:=hJ aV2 aN8 h
  obtain⟨y0,e0⟩:=iK aFE h0
  obtain⟨m1,x1,h1⟩:=hJ aV3 ty3 h
  obtain⟨y1,e1⟩:=iK zV h1
  match cs,hl with
  | [a0,a1],_ =>
    simp only[List.drop,List.take,List.cons.injEq,and_true] at e0 e1
    exact⟨⟨y0,y1⟩,by simp [aO,e0,e1]⟩
theorem aHD (h:DataW.trod enc Tryz.prog w base spare held fuel 46 cs=some x):∃ y:cK,cs=mU y:=by
  have hl:=aN7 xL aRF h
  obtain⟨m0,x0,h0⟩:=yZ (i:=0) xL ty5 rfl h
  obtain⟨y0,e0⟩:=iK in5 h0
  obtain⟨m1,x1,h1⟩:=yZ (i:=1) xL ty5 rfl h
  obtain⟨y1,e1⟩:=iK in5 h1
  obtain⟨m2,x2,h2⟩:=yZ (i:=2) xL ty5 rfl h
  obtain⟨y2,e2⟩:=iK in5 h2
  obtain⟨m3,x3,h3⟩:=yZ (i:=3) xL ty5 rfl h
  obtain⟨y3,e3⟩:=iK in5 h3
  obtain⟨m4,x4,h4⟩:=yZ (i:=4) xL ty5 rfl h
  obtain⟨y4,e4⟩:=iK in5 h4
  obtain⟨m5,x5,h5⟩:=yZ (i:=5) xL ty5 rfl h
  obtain⟨y5,e5⟩:=iK in5 h5
  match cs,hl with
  | [a0,a1,a2,a3,a4,a5],_ =>
    simp only[List.drop,List.take,List.cons.injEq,and_true] at e0 e1 e2 e3 e4 e5
    exact⟨⟨y0,y1,y2,y3,y4,y5⟩,by simp [mU,e0,e1,e2,e3,e4,e5]⟩
theorem aKZ (h:DataW.trod enc Tryz.prog w base spare held fuel 48 cs=some x):∃ y:TLease,cs=aV y:=by
  have hl:=pP aYE fZ h
  obtain⟨m0,x0,h0⟩:=hJ aV4 ty3 h
  obtain⟨y0,e0⟩:=iK zV h0
  obtain⟨m1,x1,h1⟩:=hJ aV5 jQ h
  obtain⟨y1,e1⟩:=aQF h1
  obtain⟨m2,x2,h2⟩:=hJ aV6 aN8 h
  obtain⟨y2,e2⟩:=iK aFE h2
  obtain⟨m3,x3,h3⟩:=hJ aV7 aRF h
  obtain⟨y3,e3⟩:=aHD h3
  obtain⟨m4,x4,h4⟩:=hJ aV8 ty2 h
  obtain⟨y4,e4⟩:=iK in2 h4
  obtain⟨m5,x5,h5⟩:=hJ aV9 ty2 h
  obtain⟨y5,e5⟩:=iK in2 h5
  match cs,hl with
  | [a0,a1,a2,a3,a4,a5,a6,a7,a8,a9,a10,a11],_ =>
    simp only[List.drop,List.take,mU,aO,List.cons.injEq,and_true] at e0 e1 e2 e3 e4 e5
    exact⟨⟨y0,y1,y2,y3,y4,y5⟩,by simp [aV,e0,e1,e2,e3,e4,e5]⟩
theorem aXN (h:DataW.trod enc Tryz.prog w base spare held fuel 51 cs=some x):∃ y:bD,cs=aM y:=by
  have hl:=pP aN1 gG h
  obtain⟨m0,x0,h0⟩:=hJ aWA jQ h
  obtain⟨y0,e0⟩:=aQF h0
  obtain⟨m1,x1,h1⟩:=hJ aWB aN8 h
  obtain⟨y1,e1⟩:=iK aFE h1
  obtain⟨m2,x2,h2⟩:=hJ aWC ty4 h
  obtain⟨y2,e2⟩:=aTK zM h2
  match cs,hl with
  | [a0,a1,a2,a3],_ =>
    simp only[List.drop,List.take,aO,List.cons.injEq,and_true] at e0 e1 e2
    exact⟨⟨y0,y1,y2⟩,by simp [aM,e0,e1,e2]⟩
theorem aXO (h:DataW.trod enc Tryz.prog w base spare held fuel 54 cs=some x):∃ y:bA,cs=aS y:=by
  have hl:=pP aQ9 gQ h
  obtain⟨m0,x0,h0⟩:=hJ aWD aN8 h
  obtain⟨y0,e0⟩:=iK aFE h0
  obtain⟨m1,x1,h1⟩:=hJ aWE aRF h
  obtain⟨y1,e1⟩:=aHD h1
  match cs,hl with
  | [a0,a1,a2,a3,a4,a5,a6],_ =>
    simp only[List.drop,List.take,mU,List.cons.injEq,and_true] at e0 e1
    exact⟨⟨y0,y1⟩,by simp [aS,e0,e1]⟩
theorem aXP (h:DataW.trod enc Tryz.prog w base spare held fuel 56 cs=some x):∃ y:cH,cs=cB y:=by
  have hl:=pP aN2 gS h
  obtain⟨m0,x0,h0⟩:=hJ aWF aRF h
  obtain⟨y0,e0⟩:=aHD h0
  obtain⟨m1,x1,h1⟩:=hJ aWG aN8 h
  obtain⟨y1,e1⟩:=iK aFE h1
  match cs,hl with
  | [a0,a1,a2,a3,a4,a5,a6],_ =>
    simp only[List.drop,List.take,mU,List.cons.injEq,and_true] at e0 e1
    exact⟨⟨y0,y1⟩,by simp [cB,e0,e1]⟩
theorem aQG (h:DataW.trod enc Tryz.prog w base spare held fuel 61 cs=some x):∃ y:kA,cs=eB y:=by
  have hl:=pP aYF a49 h
  obtain⟨m0,x0,h0⟩:=hJ aWH ty3 h
  obtain⟨y0,e0⟩:=iK zV h0
  obtain⟨m1,x1,h1⟩:=hJ aWI aN8 h
  obtain⟨y1,e1⟩:=iK aFE h1
  obtain⟨m2,x2,h2⟩:=hJ aWJ aRF h
  obtain⟨y2,e2⟩:=aHD h2
  obtain⟨m3,x3,h3⟩:=hJ aWK ty2 h
  obtain⟨y3,e3⟩:=iK in2 h3
  match cs,hl with
  | [a0,a1,a2,a3,a4,a5,a6,a7,a8],_ =>
    simp only[List.drop,List.take,mU,List.cons.injEq,and_true] at e0 e1 e2 e3
    exact⟨⟨y0,y1,y2,y3⟩,by simp [eB,e0,e1,e2,e3]⟩
theorem aXQ (h:DataW.trod enc Tryz.prog w base spare held fuel 72 cs=some x):∃ y:fC,cs=aC8 y:=by
  have hl:=pP a40 a2C h
  obtain⟨m0,x0,h0⟩:=hJ aWL a2B h
  obtain⟨y0,e0⟩:=iK a05 h0
  obtain⟨m1,x1,h1⟩:=hJ aWM fZ h
  obtain⟨y1,e1⟩:=aKZ h1
  obtain⟨m2,x2,h2⟩:=hJ aWN ty2 h
  obtain⟨y2,e2⟩:=iK in2 h2
  obtain⟨m3,x3,h3⟩:=hJ aWO ty2 h
  obtain⟨y3,e3⟩:=iK in2 h3
  match cs,hl with
  | [a0,a1,a2,a3,a4,a5,a6,a7,a8,a9,a10,a11,a12,a13,a14],_ =>
    simp only[List.drop,List.take,aV,List.cons.injEq,and_true] at e0 e1 e2 e3
    exact⟨⟨y0,y1,y2,y3⟩,by simp [aC8,e0,e1,e2,e3]⟩
theorem aSU (h:DataW.trod enc Tryz.prog w base spare held fuel 161 cs=some x):∃ y:TEvent,cs=eI y:=by
  have hl:=pP aUS oM h
  obtain⟨m0,x0,h0⟩:=hJ aSB ty2 h
  obtain⟨y0,e0⟩:=iK in2 h0
  obtain⟨m1,x1,h1⟩:=hJ aSC ty3 h
  obtain⟨y1,e1⟩:=iK zV h1
  obtain⟨m2,x2,h2⟩:=hJ aSD fZ h
  obtain⟨y2,e2⟩:=aKZ h2
  match cs,hl with
  | [a0,a1,a2,a3,a4,a5,a6,a7,a8,a9,a10,a11,a12,a13],_ =>
    simp only[List.drop,List.take,aV,List.cons.injEq,and_true] at e0 e1 e2
    exact⟨⟨y0,y1,y2⟩,by simp [eI,e0,e1,e2]⟩
end
end Go.Proofs.YtnbpodjbemfpbaaGreat.Fw
set_option linter.all false
set_option maxHeartbeats 2000000
namespace Go.Proofs.YtnbpodjbemfpbaaGreat.Fw
open Go Go.ChangeShapes Go.WideShapes
theorem aFY:∀ l:List yN,kQ l=(l.map aEK).sum
  | []=>rfl
  | o::r=>by simp only[kQ,List.map_cons,List.sum_cons,aFY r]
section
variable {H:Type} {enc:TypeId×Value->H} {w:World} {base:Nat} {spare:Nat->Bool} {held:Bool} {fuel:Nat} {cs:List Value} {x:DataW H×List MemPlace}
theorem aXR {B:Nat} (hB2:Nat.ble B 140737488355328=true) (h:DataW.trod enc Tryz.prog w base spare held fuel 79 cs=some x) (hB:Rows.uptoBulk x.1<=B):∃ z:yN,cs.length=26/\OqR (hh w) cs z/\aEK z<=Rows.uptoBulk x.1:=by
  have hl:=pP a1X aAJ h
  obtain⟨_,_,h0⟩:=hJ aWX ty3 h
  obtain⟨y0,e0⟩:=iK zV h0
  obtain⟨_,_,h1⟩:=hJ aWY ty3 h
  obtain⟨y1,e1⟩:=iK zV h1
  obtain⟨_,_,h2⟩:=hJ aWZ ty2 h
  obtain⟨y2,e2⟩:=iK in2 h2
  obtain⟨_,x3,h3,b3⟩:=aJU aW0 a5C h
  obtain⟨_,_,h4⟩:=hJ aWS a2B h3
  obtain⟨y4,e4⟩:=iK a05 h4
  obtain⟨_,_,h5⟩:=hJ aWT a2C h3
  obtain⟨y5,e5⟩:=aXQ h5
  obtain⟨_,x6,x7,x8,h6,h7,h8,b6⟩:=aJT aWU a5A aWV a5B aWW xH (by kernel_rfl) (by kernel_rfl) h3
  obtain⟨_,_,h9⟩:=hJ aWP ty2 h6
  obtain⟨y9,e9⟩:=iK in2 h9
  obtain⟨_,_,h10⟩:=hJ aWQ ty2 h6
  obtain⟨y10,e10⟩:=iK in2 h10
  obtain⟨_,x11,h11,b11⟩:=aJU aWR a45 h6
  obtain⟨_,x12,x13,x14,h12,h13,h14,b12⟩:=aJT aVZ a46 aV0 a47 aV1 a48 (by kernel_rfl) (by kernel_rfl) h8
  obtain⟨v1,l,g1,s1,R1⟩:=wB (c:=aV) (B:=B) eR fZ (by kernel_rfl) (fun m es y h=>aKZ h) aW8 h11 (by omega) hB2
  obtain⟨v2,ev,g2,s2,R2⟩:=wB (c:=eI) (B:=B) oP oM (by kernel_rfl) (fun m es y h=>aSU h) aW7 h7 (by omega) hB2
  obtain⟨v3,r,g3,s3,R3⟩:=wB (c:=aM) (B:=B) eY gG (by kernel_rfl) (fun m es y h=>aXN h) aXA h12 (by omega) hB2
  obtain⟨v4,n,g4,s4,R4⟩:=wB (c:=aS) (B:=B) fP gQ (by kernel_rfl) (fun m es y h=>aXO h) aW9 h13 (by omega) hB2
  obtain⟨v5,f,g5,s5,R5⟩:=wB (c:=cB) (B:=B) fQ gS (by kernel_rfl) (fun m es y h=>aXP h) a4D h14 (by omega) hB2
  refine⟨⟨y0,y1,y2,y4,y5,y9,y10,l,ev,r,n,f⟩,hl,⟨v1,v2,v3,v4,v5,?_,R1,R2,R3,R4,R5⟩,?_⟩
  · match cs,hl with
    | [a0,a1,a2,a3,a4,a5,a6,a7,a8,a9,a10,a11,a12,a13,a14,a15,a16,a17,a18,a19,a20,a21,a22,a23,a24,a25],_ =>
      simp only[List.drop,List.take,aC8,List.cons.injEq,and_true] at e0 e1 e2 e4 e5 e9 e10 g1 g2 g3 g4 g5
      simp [sV,e0,e1,e2,e4,e5,e9,e10,g1,g2,g3,g4,g5]
  · simp only[aEK]
    omega
theorem aNV (h:DataW.trod enc Tryz.prog w base spare held fuel 62 cs=some x) (hB:Rows.uptoBulk x.1<=1048576):∃ (v:SH) (ops:List yN),cs=[v.v]/\kQ ops<=1048576/\RdN OqR (hh w) 26 v.v ops:=by
  obtain⟨v,zs,h1,h2,h3⟩:=aS3 (f:=aEK) (r:=OqR) (B:=1048576) (k:=26) pG aAJ (by kernel_rfl) (fun m es y h hb=>aXR (by kernel_rfl) h hb) h hB (by kernel_rfl) (fun m es y h=>pP a1X aAJ h)
  exact⟨v,zs,h1,by rw[aFY];omega,h3⟩
end
end Go.Proofs.YtnbpodjbemfpbaaGreat.Fw
set_option linter.all false
set_option maxRecDepth 100000
namespace Go.Proofs.YtnbpodjbemfpbaaGreat.agentPlays
open Go Go.ChangeShapes Go.WideShapes Go.ChangeAt Go.RowKit Go.Proofs.YtnbpodjbemfpbaaGreat.Fw
theorem own:ownKnob Tryz.prog.godebug=none:=by kernel_rfl
theorem laid:laidOutB Tryz.prog=true:=by kernel_rfl
theorem aO9 (H:Type) (enc:TypeId×Value->H) (W:World) (base:Nat) (args:Array Value) (ds gs:List (DataW H)) (before:List MemPlace)
    (hk:Rows.uptoSmall H (ds++gs)=true)
    (hval:∀ (j:Nat) t v,Tryz.f7.params[j]?=some t->args[j]?=some v->Value.okWide Tryz.prog W .any base t v)
    (hW:DataW.Whole enc Tryz.prog Tryz.f7.params.toList Rows.agentPlaysSpec.vars false W args.toList ds gs before) :
    Calls Tryz.prog 7 args W fun e W'=>∃ v,e= .returned v/\Rows.agentPlaysSpec.post enc Tryz.prog Tryz.f7 false true false false W args v W':=by
  have hW':=hW
  obtain⟨p,q,hA0,hV,rfl,hfz,hnd⟩:=hW
  have hA:DataW.TrodAll enc Tryz.prog W 0 (fun _=>true) true Tryz.f7.params.toList args.toList ds p:=hA0
  have hp:Tryz.f7.params = #[61,61,62]:=by kernel_rfl
  rw[hp] at hA hval
  have hA1:=hA
  obtain⟨v0,vs0,d0,ds0,p0,q0,hargs,rfl,rfl,h0,r0⟩:=trodAll_cons hA
  obtain⟨v1,vs1,d1,ds1,p1,q1,rfl,rfl,rfl,h1,r1⟩:=trodAll_cons r0
  obtain⟨v2,vs2,d2,ds2,p2,q2,rfl,rfl,rfl,h2,r2⟩:=trodAll_cons r1
  obtain⟨rfl,rfl,rfl⟩:=trodAll_nil r2
  obtain rfl:args = #[v0,v1,v2]:=by cases args;simp_all
  obtain⟨rfl,rfl⟩:=trodVars_none hV
  have hk':Rows.uptoBulkAll ([d0,d1,d2]++[])<=1048576:=of_decide_eq_true hk
  simp only[List.cons_append,List.nil_append,Rows.uptoBulkAll] at hk'
  obtain⟨fs0,g0,_⟩:=aE0 aYF
  obtain⟨⟨c0⟩,rfl,_⟩:=okWide_struct g0 (hval 0 61 v0 rfl rfl)
  obtain⟨⟨c1⟩,rfl,_⟩:=okWide_struct g0 (hval 1 61 v1 rfl rfl)
  obtain⟨a2,l2,c2,rfl⟩:=okWide_slice (jY pG) (hval 2 62 v2 rfl rfl)
  obtain⟨fuel0,f0⟩:=h0
  obtain⟨fuel1,f1⟩:=h1
  obtain⟨fuel2,f2⟩:=h2
  obtain⟨s,e0⟩:=aQG f0
  obtain⟨t,e1⟩:=aQG f1
  obtain⟨x,ops,e2,hsz,hrd⟩:=aNV f2 (by simp only;omega)
  have hv:Value.slice a2 l2 c2=x.v:=by simpa [Value.cells] using e2
  simp only[Value.cells] at e0 e1
  subst e0
  subst e1
  rw[hv] at hA1 hW' ⊢
  refine(aGR s t x ops W hrd hsz).mono fun e W' ⟨he,hg⟩=>?_
  subst he
  have hb:=hg.below
  refine⟨_,rfl,aNR (pa:=p0++(p1++(p2++[]))) (pv:=[]) hW' hb (fun _ _ _=>trodAll_cons_mk (shut_bool zM _) trodAll_mk0) (fun sp hsp=>?_) (fun _ _=>rfl) (by simp) (ok_one (by kernel_rfl) rfl (okWide_bool_mk zM _))⟩
  rw[hp]
  exact aBQ laid hb (by simp only[List.mem_cons,List.not_mem_nil,or_false];rintro t (rfl|rfl|rfl);exact⟨by kernel_rfl,of_decide_eq_true (by kernel_rfl)⟩;exact⟨by kernel_rfl,of_decide_eq_true (by kernel_rfl)⟩;exact⟨by kernel_rfl,of_decide_eq_true (by kernel_rfl)⟩) (fun y hy=>hW'.lt y (by simpa using hy)) (fun y hy=>hsp y (by simpa using hy)) hA1
set_option maxRecDepth 100000 in
theorem aXB (os:Os) (started:os.Started) (H:Type) (enc:TypeId×Value->H) (F:Stop.Interp) :
    ReturnsInHanded {} Tryz.checked os 7 .any ((Rows.OpenSpec.upto Rows.agentPlaysSpec).pre6 enc Tryz.prog Tryz.f7 Rows.agentPlaysUptoRow.domain false) (((Rows.OpenSpec.upto Rows.agentPlaysSpec).at F).post enc Tryz.prog Tryz.f7 false true false false):=by
  refine returnsInHanded_of_cond (C:=Tryz.checked) (s:=Rows.OpenSpec.upto Rows.agentPlaysSpec) (k:=Rows.uptoSmall) rfl own started (by kernel_rfl) Tryz.func7
    (OpenSpec.witness (enc:=enc) (C:=Tryz.checked) (s:=Rows.OpenSpec.upto Rows.agentPlaysSpec) (k:=Rows.uptoSmall) rfl false ⟨#[],#[.agg #[.int .i64 0,.int .u32 0,.int .u8 0,.int .u8 0,.int .u8 0,.int .u8 0,.int .u8 0,.int .u8 0,.int .i64 0],.agg #[.int .i64 0,.int .u32 0,.int .u8 0,.int .u8 0,.int .u8 0,.int .u8 0,.int .u8 0,.int .u8 0,.int .i64 0],.slice none 0 0],[]⟩ 7 (by kernel_rfl) (by kernel_rfl) (by kernel_rfl)
      (x:=([.agg [.lit (.int .i64 0),.lit (.int .u32 0),.agg [.lit (.int .u8 0),.lit (.int .u8 0),.lit (.int .u8 0),.lit (.int .u8 0),.lit (.int .u8 0),.lit (.int .u8 0)],.lit (.int .i64 0)],.agg [.lit (.int .i64 0),.lit (.int .u32 0),.agg [.lit (.int .u8 0),.lit (.int .u8 0),.lit (.int .u8 0),.lit (.int .u8 0),.lit (.int .u8 0),.lit (.int .u8 0)],.lit (.int .i64 0)],.nil],[],[])) (by kernel_rfl) rfl (by kernel_rfl)) ?_
  intro W base args ds gs before hval hW _ hk _
  exact aO9 H enc W base args ds gs before hk hval hW
theorem over:Rows.agentPlaysUptoRow.holds Tryz.pinned (Rows.OpenSpec.upto Rows.agentPlaysSpec) :=
  OpenClaim.holds_of_cond 7 Tryz.f7 rfl rfl rfl rfl rfl rfl rfl ⟨rfl,rfl,rfl,rfl,rfl⟩ rfl rfl rfl rfl rfl (by kernel_rfl) Tryz.func7 (by kernel_rfl)
    (of_decide_eq_true (by kernel_rfl)) (by unfold Func.isWrapper;rw[if_neg (of_decide_eq_false (by kernel_rfl))];exact⟨rfl,rfl⟩)
    (fun os started H enc _ F=>aXB os started H enc F)
theorem proved:Rows.AgentPlaysUptoSaid :=
  over
end Go.Proofs.YtnbpodjbemfpbaaGreat.agentPlays
