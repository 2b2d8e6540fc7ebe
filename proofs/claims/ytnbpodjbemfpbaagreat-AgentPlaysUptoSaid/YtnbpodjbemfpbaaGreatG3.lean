/-
  Own work: walks and laws, joined by wip/tool/compact.py.
-/
import Derived.Test.YtnbpodjbemfpbaaGreatG2
import Derived.KernelRfl
import Derived.Laws.MakeOwn
import Derived.Test.YtnbpodjbemfpbaaGreatProg
set_option linter.all false
set_option linter.all false
namespace Go.Proofs.YtnbpodjbemfpbaaGreat.Fw
open Go
section
variable {P:Program} {C:World->Prop} {L:List (Nat×Value)} {d:Option Tmp} {ty:TypeId} {pos:String} {aft:Array Edge} {g:Option (Nat×Bool)}
theorem oT {f:Fn} {xs ys:List Operand} {us vs:List Value} (hx:evs L xs=some us) (hy:evs L ys=some vs):Ok P C L ⟨d,.makeFunc f ⟨xs⟩ ⟨ys⟩,ty,pos,aft,g⟩ (.func f ⟨us⟩ ⟨vs⟩):=fun ρ ha w _=>by
  have hm:∀ (os:List Operand) (us:List Value),evs L os=some us->os.map ρ=us:=by
    intro os
    induction os with
    | nil=>intro us h;simpa [evs] using h
    | cons o os ih =>
      intro us h
      simp only[evs] at h
      cases h1:ev L o with
      | none=>simp [h1] at h
      | some v =>
        cases h2:evs L os with
        | none=>simp [h1,h2] at h
        | some us' =>
          simp only[h1,h2,Option.some.injEq] at h
          subst h
          simp [ha o v h1,ih us' h2]
  simp [execOp,Instr.makeFunc,hm xs us hx,hm ys vs hy,bind,Sem.run_bind',pure,Sem.run,Result.andThen]
end
section
variable {x0 x1 x2 x3 x4 x5 x6 x7 x8 x9 x10 x11 x12 x13 x14 x15 x16 x17 x18 x19 x20 x21 x22 x23 x24 x25 x26 x27 x28 x29 p q:HP} {l:List HP}
theorem s12:Swp (x0::x1::x2::x3::x4::x5::x6::x7::x8::x9::x10::x11::p::l) p q (x0::x1::x2::x3::x4::x5::x6::x7::x8::x9::x10::x11::q::l):=⟨[x0,x1,x2,x3,x4,x5,x6,x7,x8,x9,x10,x11],l,rfl,rfl⟩
theorem r12:Rem (x0::x1::x2::x3::x4::x5::x6::x7::x8::x9::x10::x11::p::l) p (x0::x1::x2::x3::x4::x5::x6::x7::x8::x9::x10::x11::l):=⟨[x0,x1,x2,x3,x4,x5,x6,x7,x8,x9,x10,x11],l,rfl,rfl⟩
theorem s13:Swp (x0::x1::x2::x3::x4::x5::x6::x7::x8::x9::x10::x11::x12::p::l) p q (x0::x1::x2::x3::x4::x5::x6::x7::x8::x9::x10::x11::x12::q::l):=⟨[x0,x1,x2,x3,x4,x5,x6,x7,x8,x9,x10,x11,x12],l,rfl,rfl⟩
theorem r13:Rem (x0::x1::x2::x3::x4::x5::x6::x7::x8::x9::x10::x11::x12::p::l) p (x0::x1::x2::x3::x4::x5::x6::x7::x8::x9::x10::x11::x12::l):=⟨[x0,x1,x2,x3,x4,x5,x6,x7,x8,x9,x10,x11,x12],l,rfl,rfl⟩
theorem s14:Swp (x0::x1::x2::x3::x4::x5::x6::x7::x8::x9::x10::x11::x12::x13::p::l) p q (x0::x1::x2::x3::x4::x5::x6::x7::x8::x9::x10::x11::x12::x13::q::l):=⟨[x0,x1,x2,x3,x4,x5,x6,x7,x8,x9,x10,x11,x12,x13],l,rfl,rfl⟩
theorem r14:Rem (x0::x1::x2::x3::x4::x5::x6::x7::x8::x9::x10::x11::x12::x13::p::l) p (x0::x1::x2::x3::x4::x5::x6::x7::x8::x9::x10::x11::x12::x13::l):=⟨[x0,x1,x2,x3,x4,x5,x6,x7,x8,x9,x10,x11,x12,x13],l,rfl,rfl⟩
theorem s15:Swp (x0::x1::x2::x3::x4::x5::x6::x7::x8::x9::x10::x11::x12::x13::x14::p::l) p q (x0::x1::x2::x3::x4::x5::x6::x7::x8::x9::x10::x11::x12::x13::x14::q::l):=⟨[x0,x1,x2,x3,x4,x5,x6,x7,x8,x9,x10,x11,x12,x13,x14],l,rfl,rfl⟩
theorem r15:Rem (x0::x1::x2::x3::x4::x5::x6::x7::x8::x9::x10::x11::x12::x13::x14::p::l) p (x0::x1::x2::x3::x4::x5::x6::x7::x8::x9::x10::x11::x12::x13::x14::l):=⟨[x0,x1,x2,x3,x4,x5,x6,x7,x8,x9,x10,x11,x12,x13,x14],l,rfl,rfl⟩
theorem r16:Rem (x0::x1::x2::x3::x4::x5::x6::x7::x8::x9::x10::x11::x12::x13::x14::x15::p::l) p (x0::x1::x2::x3::x4::x5::x6::x7::x8::x9::x10::x11::x12::x13::x14::x15::l):=⟨[x0,x1,x2,x3,x4,x5,x6,x7,x8,x9,x10,x11,x12,x13,x14,x15],l,rfl,rfl⟩
theorem r17:Rem (x0::x1::x2::x3::x4::x5::x6::x7::x8::x9::x10::x11::x12::x13::x14::x15::x16::p::l) p (x0::x1::x2::x3::x4::x5::x6::x7::x8::x9::x10::x11::x12::x13::x14::x15::x16::l):=⟨[x0,x1,x2,x3,x4,x5,x6,x7,x8,x9,x10,x11,x12,x13,x14,x15,x16],l,rfl,rfl⟩
theorem r18:Rem (x0::x1::x2::x3::x4::x5::x6::x7::x8::x9::x10::x11::x12::x13::x14::x15::x16::x17::p::l) p (x0::x1::x2::x3::x4::x5::x6::x7::x8::x9::x10::x11::x12::x13::x14::x15::x16::x17::l):=⟨[x0,x1,x2,x3,x4,x5,x6,x7,x8,x9,x10,x11,x12,x13,x14,x15,x16,x17],l,rfl,rfl⟩
theorem r19:Rem (x0::x1::x2::x3::x4::x5::x6::x7::x8::x9::x10::x11::x12::x13::x14::x15::x16::x17::x18::p::l) p (x0::x1::x2::x3::x4::x5::x6::x7::x8::x9::x10::x11::x12::x13::x14::x15::x16::x17::x18::l):=⟨[x0,x1,x2,x3,x4,x5,x6,x7,x8,x9,x10,x11,x12,x13,x14,x15,x16,x17,x18],l,rfl,rfl⟩
end
def aIK (place:Nat->Option (Nat×Nat)):List Value->List (Nat×Value)->Option (List Value)
  | cs,[]=>some cs
  | cs,(i,v)::r=>match place i with
    | some (o,n)=>match Nat.beq v.cells.toList.length n,Nat.ble (o+n) cs.length with
      | true,true=>aIK place (lX cs o v.cells.toList) r
      | _,_=>none
    | none=>none
theorem aIL {place:Nat->Option (Nat×Nat)}:∀ (ps:List (Nat×Value)) (cs:List Value) (out:List Value),aIK place cs ps=some out->Instr.fill place ⟨cs⟩ ps=some ⟨out⟩
  | [],cs,out,h=>by simp [aIK] at h;simp [Instr.fill,h]
  | (i,v)::r,cs,out,h=>by
    simp only[aIK] at h
    cases hf:place i with
    | none=>simp [hf] at h
    | some on =>
      obtain⟨o,n⟩:=on
      simp only[hf] at h
      cases h1:Nat.beq v.cells.toList.length n with
      | false=>simp only[h1] at h;cases h
      | true =>
        cases h2:Nat.ble (o+n) cs.length with
        | false=>simp only[h1,h2] at h;cases h
        | true =>
          simp only[h1,h2] at h
          have e1:=Nat.eq_of_beq_eq_true h1
          have e2:=Nat.le_of_ble_eq_true h2
          simp only[Instr.fill,hf]
          have e1':v.cells.size=n:=by simpa using e1
          rw[if_neg (by simp [e1'];omega)]
          have:=aB3 v.cells.toList ⟨cs⟩ o 0
          have ih:=aIL r (lX cs o v.cells.toList) out h
          simp only[Nat.add_zero] at this
          rw[<-ih]
          congr 1
          rw[<-Array.foldl_toList,Array.toList_zipIdx]
          exact this
section
variable {P:Program} {C:World->Prop} {L:List (Nat×Value)} {d:Option Tmp} {ty:TypeId} {pos:String} {aft:Array Edge} {g:Option (Nat×Bool)}
theorem yA {T E:TypeId} {ag:Bool} {m k:Nat} {ps:List (Nat×Operand)} {zs cs:List Value} {vs:List (Nat×Value)} (hf:arI P T=some (m,E)) (hE:kJ P E=some (ag,k)) (hz:uO P T=some zs) (hx:sD L ps=some vs) (hc:aIK (fun i=>some (i*k,k)) zs vs=some cs) :
    Ok P C L ⟨d,.build T ⟨ps⟩,ty,pos,aft,g⟩ (.agg ⟨cs⟩):=fun ρ ha w _=>by
  obtain⟨z,h1,h2⟩:=yM hz w
  have h6:=aIL vs zs cs hc
  have h7:=yV ha ps vs hx
  simp [execOp,Instr.build,bind,Sem.run_bind',h1,Result.andThen,run_underlying (vM hf),gW hE,h2,h7,pure,Sem.run]
  simp only[h6,Sem.run]
end
def aUD (k:Nat) (ds:List (List Value)):Bool:=ds.all fun d=>Nat.beq d.length k
section
variable {P:Program} {ops:Array Oper} {Q:Exit->Act->World->Prop} {rest:List Oper} {n:Nat} {L:List (Nat×Value)} {a:Act} {w w0:World} {R:Hh} {Ps Qs:List HP}
  {d:Nat} {ty:TypeId} {pos:String} {aft:Array Edge}
theorem aNU {ys:List (List Value)} {T E:TypeId} {ag:Bool} {k len:Nat} {ps:List (Nat×Operand)} {vs:List (Nat×Value)} {zs:List Value} (hs:St n L a) (m:Hp w0 R Ps w) (hT:uX P T=some E) (hE:kJ P E=some (ag,k)) (hz:uO P E=some zs) (hzl:zs.length=k)
    (hx:sD L ps=some vs) (hf:aFS 0 vs=true) (hl:vs.length=len) (hd':vs.map (fun x=>x.2.cells.toList)=ys) (hk:aUD k ys=true) (hsz:Nat.ble (len*k) 16777216=true) (hsl:Nat.ble len 16777216=true) (hd:Nat.blt d n=true)
    (kk:∀ (v':SH) w',Hp w0 R (Sv k E v'.v (ys.map id)::Ps) w'->∀ a',St n ((d,v'.v)::L) a'->wpList P ops Q rest a' w') :
    wpList P ops Q (⟨some d,.buildSlice T len ⟨ps⟩,ty,pos,aft,none⟩::rest) a w :=
  aBJ hs m hT hE hz hzl hx hf hl hd' (by intro e he;simp only[aUD,List.all_eq_true] at hk;exact Nat.eq_of_beq_eq_true (hk e he)) hsz hsl hd (fun v' w' m'=>by
    obtain⟨x,rfl⟩:=m'.sh
    exact kk x w' (by rw[List.map_id];exact m'))
end
end Go.Proofs.YtnbpodjbemfpbaaGreat.Fw
set_option linter.unusedVariables false
set_option linter.all false
namespace Go.Proofs.YtnbpodjbemfpbaaGreat.Fw
open Go
section
variable {P:Program} {ops:Array Oper} {Q:Exit->Act->World->Prop} {n:Nat} {L:List (Nat×Value)} {a:Act} {w w0:World} {R:Hh} {Ps Qs:List HP} {S:World->Prop} {y:Code}
theorem a03 {i fuel d:Nat} {listed:Array Bool} {op:Op} {ty:TypeId} {pos:String} {aft:Array Edge} {v:Value} {j:Nat} {want b:Bool} {t:Nat} (hi:ops[i]?=some ⟨some d,op,ty,pos,aft,some (j,want)⟩) (hn:Region.noSelect ops=true) (hf:Region.free .any ops listed i=true) (hr:(Region.ready .any ops listed).contains i=true)
    (hs:St n L a) (hS:S w) (hj:(ops[j]?).bind (·.dst)=some t) (ht:lk L t=some (.bool b)) (hb:b=want) (h:Ok P S L ⟨some d,op,ty,pos,aft,some (j,want)⟩ v) (hd:Nat.blt d n=true)
    (k:∀ a',St n ((d,v)::L) a'->wpAnyH P .any ops (NP Q) S fuel (listed.setIfInBounds i true) a' w):wpAnyH P .any ops (NP Q) S (fuel+1) listed a w:=by
  have hy:Region.wanted ⟨some d,op,ty,pos,aft,some (j,want)⟩ (yielded ops a.tmps)=true:=by
    simp only[Region.wanted,yielded,hj,Option.bind_some,hs.at_ t _ ht,hb]
    simp
  exact wpAnyH_take (v:=v) hi hn hf hr (fun c a w q=>q.elim) (.inl ⟨hy,fun w' hw'=>h _ hs.evs w' hw'⟩) hS (k _ (hs.put hd))
theorem a04 {i fuel d:Nat} {listed:Array Bool} {op:Op} {ty:TypeId} {pos:String} {aft:Array Edge} {j:Nat} {want b:Bool} {t:Nat} (hi:ops[i]?=some ⟨some d,op,ty,pos,aft,some (j,want)⟩) (hn:Region.noSelect ops=true) (hf:Region.free .any ops listed i=true) (hr:(Region.ready .any ops listed).contains i=true)
    (hs:St n L a) (hS:S w) (hj:(ops[j]?).bind (·.dst)=some t) (ht:lk L t=some (.bool b)) (hb:b = !want) (hd:Nat.blt d n=true)
    (k:∀ a',St n ((d,undef)::L) a'->wpAnyH P .any ops (NP Q) S fuel (listed.setIfInBounds i true) a' w):wpAnyH P .any ops (NP Q) S (fuel+1) listed a w:=by
  have hy:Region.wanted ⟨some d,op,ty,pos,aft,some (j,want)⟩ (yielded ops a.tmps)=false:=by
    simp only[Region.wanted,yielded,hj,Option.bind_some,hs.at_ t _ ht,hb]
    cases want <;> simp
  exact wpAnyH_take (v:=undef) hi hn hf hr (fun c a w q=>q.elim) (.inr ⟨hy,rfl⟩) hS (k _ (hs.put hd))
theorem aW3 {i fuel d:Nat} {listed:Array Bool} {op:Op} {ty:TypeId} {pos:String} {aft:Array Edge} {j:Nat} {want:Bool} {t:Nat} (hi:ops[i]?=some ⟨some d,op,ty,pos,aft,some (j,want)⟩) (hn:Region.noSelect ops=true) (hf:Region.free .any ops listed i=true) (hr:(Region.ready .any ops listed).contains i=true)
    (hs:St n L a) (hS:S w) (hj:(ops[j]?).bind (·.dst)=some t) (ht:lk L t=some undef) (hd:Nat.blt d n=true)
    (k:∀ a',St n ((d,undef)::L) a'->wpAnyH P .any ops (NP Q) S fuel (listed.setIfInBounds i true) a' w):wpAnyH P .any ops (NP Q) S (fuel+1) listed a w:=by
  have hy:Region.wanted ⟨some d,op,ty,pos,aft,some (j,want)⟩ (yielded ops a.tmps)=false:=by
    simp [Region.wanted,yielded,hj,Option.bind_some,hs.at_ t _ ht,undef]
  exact wpAnyH_take (v:=undef) hi hn hf hr (fun c a w q=>q.elim) (.inr ⟨hy,rfl⟩) hS (k _ (hs.put hd))
end
end Go.Proofs.YtnbpodjbemfpbaaGreat.Fw
set_option linter.unusedVariables false
set_option linter.all false
namespace Go.Proofs.YtnbpodjbemfpbaaGreat.Fw
open Go
section
variable {w0 w:World} {R B:Hh} {Ps Qs:List HP} {k:Nat} {E:TypeId} {v:Value} {ds:List (List Value)}
end
section
variable {P:Program} {C:World->Prop} {L:List (Nat×Value)} {d:Option Tmp} {ty:TypeId} {pos:String} {aft:Array Edge} {g:Option (Nat×Bool)}
end
end Go.Proofs.YtnbpodjbemfpbaaGreat.Fw
set_option linter.unusedVariables false
set_option linter.all false
namespace Go.Proofs.YtnbpodjbemfpbaaGreat.Fw
open Go
section
variable {w0 w:World} {R:Hh} {Ps Qs Ls:List HP}
theorem Hp.ex {α:Sort _} {p:α->HP} (m:Hp w0 R ((fun h=>∃ x,p x h)::Ps) w):∃ x,Hp w0 R (p x::Ps) w:=by
  obtain⟨h,⟨h1,h2,a,⟨h3,h4,⟨x,b⟩,c,d1,e1⟩,d2,e2⟩,d,e⟩:=m.heap
  exact⟨x,m.os,m.tape,m.output,m.size,h,⟨h1,h2,a,⟨h3,h4,b,c,d1,e1⟩,d2,e2⟩,d,e⟩
theorem Hp.unex {α:Sort _} {p:α->HP} (x:α) (m:Hp w0 R (p x::Ps) w):Hp w0 R ((fun h=>∃ x,p x h)::Ps) w :=
  m.map fun _ s=>s.head fun _ h=>⟨x,h⟩
theorem Hp.sep (m:Hp w0 R ((fun h=>SepL Ls h)::Ps) w):Hp w0 R (Ls++Ps) w :=
  m.map fun h s=>by
    obtain⟨h1,h2,a,b,d,rfl⟩:=s
    exact SepL.append a b d
theorem Hp.unsep (m:Hp w0 R (Ls++Ps) w):Hp w0 R ((fun h=>SepL Ls h)::Ps) w :=
  m.map fun h s=>by
    obtain⟨a,b,x,y,d,rfl⟩:=s.unappend
    exact⟨a,b,x,y,d,rfl⟩
end
section
variable {P:Program} {ops:Array Oper} {Q:Exit->Act->World->Prop} {a:Act} {w:World} {S:World->Prop}
theorem kV {i j fuel:Nat} {listed:Array Bool} {oi oj:Oper} (hr:Region.ready .any ops listed=[i,j]) (hi:ops[i]?=some oi) (hj:ops[j]?=some oj)
    (h1:wpList P ops (Exit.then (fun a' w'=>S w'/\wpAnyH P .any ops (NP Q) S fuel (listed.setIfInBounds i true) a' w') (NP Q)) [oi] a w)
    (h2:wpList P ops (Exit.then (fun a' w'=>S w'/\wpAnyH P .any ops (NP Q) S fuel (listed.setIfInBounds j true) a' w') (NP Q)) [oj] a w):wpAnyH P .any ops (NP Q) S (fuel+1) listed a w:=by
  have key:∀ {i:Nat} {o:Oper},ops[i]?=some o->wpList P ops (Exit.then (fun a' w'=>S w'/\wpAnyH P .any ops (NP Q) S fuel (listed.setIfInBounds i true) a' w') (NP Q)) [o] a w->wpOp P ops (NP Q) i (fun a' w'=>S w'/\wpAnyH P .any ops (NP Q) S fuel (listed.setIfInBounds i true) a' w') a w:=by
    intro i o hi h
    unfold wpOp
    simp only[hi]
    unfold wpList at h
    by_cases hw:Region.wanted o (yielded ops a.tmps)=true
    · rw[if_pos hw] at h ⊢
      rcases h with h|h
      · refine .inl ?_
        unfold Oper.wp Oper.upon at h ⊢
        exact h
      · exact .inr h
    · rw[if_neg hw] at h ⊢
      exact h
  refine wpAnyH_all hr (by simp) fun m hm=>?_
  simp only[List.mem_cons,List.not_mem_nil,or_false] at hm
  rcases hm with rfl|rfl
  · exact key hi h1
  · exact key hj h2
end
end Go.Proofs.YtnbpodjbemfpbaaGreat.Fw
set_option linter.all false
namespace Go.Proofs.YtnbpodjbemfpbaaGreat.Fw
open Go
section
variable {P:Program} {C:World->Prop} {L:List (Nat×Value)} {d:Option Tmp} {ty:TypeId} {pos:String} {aft:Array Edge} {g:Option (Nat×Bool)}
theorem aJJ {T E:TypeId} (h:ptI P T=some E) (w:World):(Op.equal T (.pointer none) (.pointer none)).run P w= .ok true w:=by
  show (Op.equalIn (9999+1) T (.pointer none) (.pointer none)).run P w=_
  unfold Op.equalIn
  rw[Sem.run_bind,run_underlying (aI9 h)]
  rfl
theorem gY {T T' E:TypeId} {x y:Operand} (hx:ev L x=some (.pointer none)) (hy:ev L y=some (.pointer none)) (h:ptI P T=some E):Ok P C L ⟨d,.binOp .eql T x y T',ty,pos,aft,g⟩ (.bool true):=fun ρ ha w _=>by
  have r2:=aJJ h w
  simp [execOp,ha x _ hx,ha y _ hy,bind,Sem.run_bind',eqGuard,binOp,r2,pure,Sem.run,Result.andThen]
theorem fE {T T' E:TypeId} {x y:Operand} (hx:ev L x=some (.pointer none)) (hy:ev L y=some (.pointer none)) (h:ptI P T=some E):Ok P C L ⟨d,.binOp .neq T x y T',ty,pos,aft,g⟩ (.bool false):=fun ρ ha w _=>by
  have r2:=aJJ h w
  simp [execOp,ha x _ hx,ha y _ hy,bind,Sem.run_bind',eqGuard,binOp,r2,pure,Sem.run,Result.andThen]
theorem hO {T T' E:TypeId} {x y:Operand} {p:Addr} (hx:ev L x=some (.pointer (some p))) (hy:ev L y=some (.pointer none)) (h:ptI P T=some E):Ok P C L ⟨d,.binOp .neq T x y T',ty,pos,aft,g⟩ (.bool true):=fun ρ ha w _=>by
  have r2:=aJK h p w
  simp [execOp,ha x _ hx,ha y _ hy,bind,Sem.run_bind',eqGuard,binOp,r2,pure,Sem.run,Result.andThen]
end
def RdN {α:Type} (r:Hh->List Value->α->Prop) (h:Hh) (k:Nat) (v:Value) (xs:List α):Prop :=
  ∃ css:List (List Value),RdS h k v (css.map id)/\css.length=xs.length/\∀ (i:Nat) (cs:List Value) (x:α),css[i]?=some cs->xs[i]?=some x->r h cs x
theorem RdN.le {α:Type} {r:Hh->List Value->α->Prop} (hr:∀ {h g:Hh} {cs:List Value} {x:α},r h cs x->xE h g->r g cs x) {h g:Hh} {k:Nat} {v:Value} {xs:List α} (x:RdN r h k v xs) (l:xE h g):RdN r g k v xs:=by
  obtain⟨css,h1,h2,h3⟩:=x
  exact⟨css,h1.le l,h2,fun i cs x a b=>hr (h3 i cs x a b) l⟩
end Go.Proofs.YtnbpodjbemfpbaaGreat.Fw
set_option linter.all false
namespace Go.Proofs.YtnbpodjbemfpbaaGreat.Fw
open Go
section
variable {P:Program} {ops:Array Oper} {Q:Exit->Act->World->Prop} {rest:List Oper} {n:Nat} {L:List (Nat×Value)} {a:Act} {w w0:World} {C S:World->Prop} {d:Nat} {op:Op} {ty:TypeId} {pos:String} {aft:Array Edge} {v:Value} {j t:Nat} {want b:Bool} {R:Hh} {Ps Qs:List HP}
theorem eM {K:Act->World->Prop} (k:∀ a,St n L a->K a w):∀ a,St n L a->wpList P ops (Exit.then K Q) [] a w:=fun a hs=>wpList_nil (aB (k a hs))
theorem uN {y:Code} {id:Nat} {l:List Oper} (k:∀ a,St n L a->wpList P l.toArray (Exit.then (y.wp P Q) Q) l a w):∀ a,St n L a->(Code.seq (.region id l.toArray false) y).wp P Q a w:=fun a hs=>bN (k a hs)
end
section
variable {P:Program} {ops:Array Oper} {Q:Act->Prop} {rest:List Oper} {n:Nat} {L:List (Nat×Value)} {a:Act} {C:World->Prop} {d:Nat} {op:Op} {ty:TypeId} {pos:String} {aft:Array Edge} {v:Value}
end
theorem fK:(∀ a b:Bool,((a || b)=true)=(a=true\/b=true))/\(∀ a b:Bool,((a || b)=false)=(a=false/\b=false))/\(∀ a b:Bool,((a&&b)=true)=(a=true/\b=true))/\(∀ a b:Bool,((a&&b)=false)=(a=false\/b=false))/\(∀ b:Bool,((!b)=true)=(b=false))/\(∀ b:Bool,((!b)=false)=(b=true))
    /\ (∀ (p:Prop) [Decidable p],(decide p=true)=p)/\(∀ (p:Prop) [Decidable p],(decide p=false)= ¬ p)/\(∀ {α:Type} [BEq α] [LawfulBEq α] (a b:α),((a==b)=true)=(a=b))/\(∀ {α:Type} [BEq α] [LawfulBEq α] (a b:α),((a !=b)=true)= ¬ (a=b))/\(∀ {α:Type} [BEq α] [LawfulBEq α] (a b:α),((a==b)=false)= ¬ (a=b))/\(∀ {α:Type} [BEq α] [LawfulBEq α] (a b:α),((a !=b)=false)=(a=b))
    /\ (∀ a b:Int,(a>b)=(b<a))/\(∀ a b:Int,(a>=b)=(b<=a))/\(∀ a b:Int,(¬ (a<b))=(b<=a))/\(∀ a b:Int,(¬ (a<=b))=(b<a)):=by
  refine⟨?_,?_,?_,?_,?_,?_,?_,?_,?_,?_,?_,?_,?_,?_,?_,?_⟩ <;> intros <;> first|(simp;done)|(rename_i a b;cases a <;> cases b <;> simp)
end Go.Proofs.YtnbpodjbemfpbaaGreat.Fw
set_option linter.unusedVariables false
set_option linter.all false
namespace Go.Proofs.YtnbpodjbemfpbaaGreat.Fw
open Go
section
variable {P:Program} {ops:Array Oper} {Q:Exit->Act->World->Prop} {rest:List Oper} {a:Act} {w w0:World} {n d:Nat} {L:List (Nat×Value)} {ty:TypeId} {pos:String} {aft:Array Edge} {R:Hh} {Ps Qs:List HP}
theorem aRK {T:TypeId} {zs:List Value} (h:uO P T=some zs):∃ i z,P.info? T=some i/\i.zero=some z/\z.cells=⟨zs⟩:=by
  unfold uO at h
  cases hi:P.info? T with
  | none=>rw[hi] at h;cases h
  | some i =>
    rw[hi] at h
    cases hz:i.zero with
    | none=>rw[Option.bind_some,hz] at h;cases h
    | some z =>
      rw[Option.bind_some,hz] at h
      simp only[Option.map_some,Option.some.injEq] at h
      exact⟨i,z,rfl,hz,by rw[<-h]⟩
theorem eL {α:Type} {c:α->List Value} {T E:TypeId} {ag:Bool} {k bytes cap:Nat} {x y:Operand} {zs:List Value} (hs:St n L a) (m:Hp w0 R Ps w) (hx:ev L x=some (.int .i64 0)) (hy:ev L y=some (.int .i64 (cap:Int)))
    (hT:uX P T=some E) (hE:kJ P E=some (ag,k)) (hz:uO P E=some zs) (hB:byI P E=some bytes) (hb:Nat.ble (bytes*cap) 16777216=true) (hc:Nat.ble cap 16777216=true) (hd:Nat.blt d n=true)
    (kk:∀ v:SH,∀ w',Hp w0 R (Sv k E v.v (([]:List α).map c)::Ps) w'->∀ a',St n ((d,v.v)::L) a'->wpList P ops Q rest a' w') :
    wpList P ops Q (⟨some d,.makeSlice T x y,ty,pos,aft,none⟩::rest) a w:=by
  obtain⟨i,z,h1,h2,h3⟩:=aRK hz
  obtain⟨dd,i',_,h5,_,h7⟩:=uE hE
  have hii:i'=i:=by rw[h1] at h5;exact(Option.some.inj h5).symm
  subst hii
  have h8:i'.bytes=bytes:=by
    unfold byI at hB
    rw[h1] at hB
    simpa using hB
  have hb1:=Nat.le_of_ble_eq_true hb
  have hc1:=Nat.le_of_ble_eq_true hc
  have hbb:((i'.bytes:Int)*(cap:Int))<=281474976710656:=by
    rw[h8]
    have:((bytes*cap:Nat):Int)<=281474976710656:=by omega
    rwa [Int.natCast_mul] at this
  have hr:=run_make (P:=P) w T E i' z (jY hT) h1 h2 .i64 .i64 0 (cap:Int) (by omega) (by omega) hbb (by omega)
  simp only[Int.toNat_zero,Int.toNat_natCast] at hr
  refine pO rfl rfl hs hd (v:=.slice (some ⟨w.heap.size,0,none⟩) 0 cap) (w':=w.alloc (.cells (madeCells z.cells (cap*i'.size)) E)) ?_ ?_
  · have e1:=hs.evs x _ hx
    have e2:=hs.evs y _ hy
    simp only[execOp,e1,e2,bind,Sem.run_bind',hr,Result.andThen,pure,Sem.run]
  · intro a' hs'
    refine kk ⟨some ⟨w.heap.size,0,none⟩,0,cap⟩ _ ?_ a' hs'
    refine(m.alloc _).swp s0 fun h hh=>⟨⟨by simp,by simp⟩,.inr ⟨w.heap.size,0,cap,(madeCells z.cells (cap*i'.size)).toList,rfl,by simp,?_,by simp,?_⟩⟩
    · have:=size_madeCells z.cells (cap*i'.size)
      rw[Array.length_toList,this,h7];omega
    · exact hh
theorem Hp.cut0 {α:Type} {c:α->List Value} {xs:List α} {k:Nat} {E:TypeId} {x:SH} (m:Hp w0 R Ps w) (hP:Swp Ps (Sv k E x.v (xs.map c)) (Sv k E (hG x 0).v (([]:List α).map c)) Qs):Hp w0 R Qs w :=
  m.shrink (hi:=0) hP (Nat.zero_le _)
theorem aG1 {i j l fuel:Nat} {listed:Array Bool} {oi oj ol:Oper} {S:World->Prop} (hr:Region.ready .any ops listed=[i,j,l]) (hi:ops[i]?=some oi) (hj:ops[j]?=some oj) (hl:ops[l]?=some ol)
    (h1:wpList P ops (Exit.then (fun a' w'=>S w'/\wpAnyH P .any ops (NP Q) S fuel (listed.setIfInBounds i true) a' w') (NP Q)) [oi] a w)
    (h2:wpList P ops (Exit.then (fun a' w'=>S w'/\wpAnyH P .any ops (NP Q) S fuel (listed.setIfInBounds j true) a' w') (NP Q)) [oj] a w)
    (h3:wpList P ops (Exit.then (fun a' w'=>S w'/\wpAnyH P .any ops (NP Q) S fuel (listed.setIfInBounds l true) a' w') (NP Q)) [ol] a w):wpAnyH P .any ops (NP Q) S (fuel+1) listed a w:=by
  have key:∀ {i:Nat} {o:Oper},ops[i]?=some o->wpList P ops (Exit.then (fun a' w'=>S w'/\wpAnyH P .any ops (NP Q) S fuel (listed.setIfInBounds i true) a' w') (NP Q)) [o] a w->wpOp P ops (NP Q) i (fun a' w'=>S w'/\wpAnyH P .any ops (NP Q) S fuel (listed.setIfInBounds i true) a' w') a w:=by
    intro i o hi h
    unfold wpOp
    simp only[hi]
    unfold wpList at h
    by_cases hw:Region.wanted o (yielded ops a.tmps)=true
    · rw[if_pos hw] at h ⊢
      rcases h with h|h
      · refine .inl ?_
        unfold Oper.wp Oper.upon at h ⊢
        exact h
      · exact .inr h
    · rw[if_neg hw] at h ⊢
      exact h
  refine wpAnyH_all hr (by simp) fun m hm=>?_
  simp only[List.mem_cons,List.not_mem_nil,or_false] at hm
  rcases hm with rfl|rfl|rfl
  · exact key hi h1
  · exact key hj h2
  · exact key hl h3
theorem aW2 {i j l r fuel:Nat} {listed:Array Bool} {oi oj ol or':Oper} {S:World->Prop} (hr:Region.ready .any ops listed=[i,j,l,r]) (hi:ops[i]?=some oi) (hj:ops[j]?=some oj) (hl:ops[l]?=some ol) (hr':ops[r]?=some or')
    (h1:wpList P ops (Exit.then (fun a' w'=>S w'/\wpAnyH P .any ops (NP Q) S fuel (listed.setIfInBounds i true) a' w') (NP Q)) [oi] a w)
    (h2:wpList P ops (Exit.then (fun a' w'=>S w'/\wpAnyH P .any ops (NP Q) S fuel (listed.setIfInBounds j true) a' w') (NP Q)) [oj] a w)
    (h3:wpList P ops (Exit.then (fun a' w'=>S w'/\wpAnyH P .any ops (NP Q) S fuel (listed.setIfInBounds l true) a' w') (NP Q)) [ol] a w)
    (h4:wpList P ops (Exit.then (fun a' w'=>S w'/\wpAnyH P .any ops (NP Q) S fuel (listed.setIfInBounds r true) a' w') (NP Q)) [or'] a w):wpAnyH P .any ops (NP Q) S (fuel+1) listed a w:=by
  have key:∀ {i:Nat} {o:Oper},ops[i]?=some o->wpList P ops (Exit.then (fun a' w'=>S w'/\wpAnyH P .any ops (NP Q) S fuel (listed.setIfInBounds i true) a' w') (NP Q)) [o] a w->wpOp P ops (NP Q) i (fun a' w'=>S w'/\wpAnyH P .any ops (NP Q) S fuel (listed.setIfInBounds i true) a' w') a w:=by
    intro i o hi h
    unfold wpOp
    simp only[hi]
    unfold wpList at h
    by_cases hw:Region.wanted o (yielded ops a.tmps)=true
    · rw[if_pos hw] at h ⊢
      rcases h with h|h
      · refine .inl ?_
        unfold Oper.wp Oper.upon at h ⊢
        exact h
      · exact .inr h
    · rw[if_neg hw] at h ⊢
      exact h
  refine wpAnyH_all hr (by simp) fun m hm=>?_
  simp only[List.mem_cons,List.not_mem_nil,or_false] at hm
  rcases hm with rfl|rfl|rfl|rfl
  · exact key hi h1
  · exact key hj h2
  · exact key hl h3
  · exact key hr' h4
end
end Go.Proofs.YtnbpodjbemfpbaaGreat.Fw
set_option linter.unusedVariables false
set_option linter.all false
namespace Go.Proofs.YtnbpodjbemfpbaaGreat.Fw
open Go
structure aT where
  Addr:Fx .u32
  Len:Fx .i64
  deriving DecidableEq
def aO (x:aT):List Value:=[.int .u32 x.Addr.v,.int .i64 x.Len.v]
def aMA:List LK:=[.i .u32,.i .i64]
theorem lB (x:aT):gK aMA (aO x)=true:=rfl
theorem sA (x y:aT):decide (x=y)=true ↔ aO x=aO y:=by
  rw[decide_eq_true_eq]
  refine⟨fun h=>by rw[h],fun h=>?_⟩
  obtain⟨⟨x0,hx0⟩,⟨x1,hx1⟩⟩:=x
  obtain⟨⟨y0,hy0⟩,⟨y1,hy1⟩⟩:=y
  simp only[aO,List.cons.injEq,Value.int.injEq,Value.bool.injEq,Value.string.injEq,true_and,and_true] at h
  obtain⟨rfl,rfl⟩:=h
  rfl
structure cK where
  b0:Fx .u8
  b1:Fx .u8
  b2:Fx .u8
  b3:Fx .u8
  b4:Fx .u8
  b5:Fx .u8
  deriving DecidableEq
def mU (x:cK):List Value:=[.int .u8 x.b0.v,.int .u8 x.b1.v,.int .u8 x.b2.v,.int .u8 x.b3.v,.int .u8 x.b4.v,.int .u8 x.b5.v]
def a07:List LK:=[.i .u8,.i .u8,.i .u8,.i .u8,.i .u8,.i .u8]
theorem aAX (x:cK):gK a07 (mU x)=true:=rfl
theorem aKQ (x y:cK):decide (x=y)=true ↔ mU x=mU y:=by
  rw[decide_eq_true_eq]
  refine⟨fun h=>by rw[h],fun h=>?_⟩
  obtain⟨⟨x0,hx0⟩,⟨x1,hx1⟩,⟨x2,hx2⟩,⟨x3,hx3⟩,⟨x4,hx4⟩,⟨x5,hx5⟩⟩:=x
  obtain⟨⟨y0,hy0⟩,⟨y1,hy1⟩,⟨y2,hy2⟩,⟨y3,hy3⟩,⟨y4,hy4⟩,⟨y5,hy5⟩⟩:=y
  simp only[mU,List.cons.injEq,Value.int.injEq,Value.bool.injEq,Value.string.injEq,true_and,and_true] at h
  obtain⟨rfl,rfl,rfl,rfl,rfl,rfl⟩:=h
  rfl
structure TLease where
  Host:Fx .i64
  Subnet:aT
  Pub:Fx .u32
  MAC:cK
  Until:Fx .i64
  Rev:Fx .i64
  deriving DecidableEq
def aV (x:TLease):List Value:=[.int .i64 x.Host.v,.int .u32 x.Subnet.Addr.v,.int .i64 x.Subnet.Len.v,.int .u32 x.Pub.v,.int .u8 x.MAC.b0.v,.int .u8 x.MAC.b1.v,.int .u8 x.MAC.b2.v,.int .u8 x.MAC.b3.v,.int .u8 x.MAC.b4.v,.int .u8 x.MAC.b5.v,.int .i64 x.Until.v,.int .i64 x.Rev.v]
theorem aW8 (x:TLease):(aV x).length=12:=rfl
def aPX:List LK:=[.i .i64,.i .u32,.i .i64,.i .u32,.i .u8,.i .u8,.i .u8,.i .u8,.i .u8,.i .u8,.i .i64,.i .i64]
theorem aGY (x:TLease):gK aPX (aV x)=true:=rfl
theorem aPR (x y:TLease):decide (x=y)=true ↔ aV x=aV y:=by
  rw[decide_eq_true_eq]
  refine⟨fun h=>by rw[h],fun h=>?_⟩
  obtain⟨⟨x0,hx0⟩,⟨⟨x10,hx10⟩,⟨x11,hx11⟩⟩,⟨x2,hx2⟩,⟨⟨x30,hx30⟩,⟨x31,hx31⟩,⟨x32,hx32⟩,⟨x33,hx33⟩,⟨x34,hx34⟩,⟨x35,hx35⟩⟩,⟨x4,hx4⟩,⟨x5,hx5⟩⟩:=x
  obtain⟨⟨y0,hy0⟩,⟨⟨y10,hy10⟩,⟨y11,hy11⟩⟩,⟨y2,hy2⟩,⟨⟨y30,hy30⟩,⟨y31,hy31⟩,⟨y32,hy32⟩,⟨y33,hy33⟩,⟨y34,hy34⟩,⟨y35,hy35⟩⟩,⟨y4,hy4⟩,⟨y5,hy5⟩⟩:=y
  simp only[aV,List.cons.injEq,Value.int.injEq,Value.bool.injEq,Value.string.injEq,true_and,and_true] at h
  obtain⟨rfl,rfl,rfl,rfl,rfl,rfl,rfl,rfl,rfl,rfl,rfl,rfl⟩:=h
  rfl
structure bD where
  Dst:aT
  Via:Fx .u32
  Local:Bool
  deriving DecidableEq
def aM (x:bD):List Value:=[.int .u32 x.Dst.Addr.v,.int .i64 x.Dst.Len.v,.int .u32 x.Via.v,.bool x.Local]
theorem aXA (x:bD):(aM x).length=4:=rfl
def aPZ:List LK:=[.i .u32,.i .i64,.i .u32,.b]
theorem xN (x:bD):gK aPZ (aM x)=true:=rfl
theorem aG2 (x y:bD):decide (x=y)=true ↔ aM x=aM y:=by
  rw[decide_eq_true_eq]
  refine⟨fun h=>by rw[h],fun h=>?_⟩
  obtain⟨⟨⟨x00,hx00⟩,⟨x01,hx01⟩⟩,⟨x1,hx1⟩,x2⟩:=x
  obtain⟨⟨⟨y00,hy00⟩,⟨y01,hy01⟩⟩,⟨y1,hy1⟩,y2⟩:=y
  simp only[aM,List.cons.injEq,Value.int.injEq,Value.bool.injEq,Value.string.injEq,true_and,and_true] at h
  obtain⟨rfl,rfl,rfl,rfl⟩:=h
  rfl
structure bA where
  IP:Fx .u32
  MAC:cK
  deriving DecidableEq
def aS (x:bA):List Value:=[.int .u32 x.IP.v,.int .u8 x.MAC.b0.v,.int .u8 x.MAC.b1.v,.int .u8 x.MAC.b2.v,.int .u8 x.MAC.b3.v,.int .u8 x.MAC.b4.v,.int .u8 x.MAC.b5.v]
theorem aW9 (x:bA):(aS x).length=7:=rfl
def aPY:List LK:=[.i .u32,.i .u8,.i .u8,.i .u8,.i .u8,.i .u8,.i .u8]
theorem aB2 (x:bA):gK aPY (aS x)=true:=rfl
theorem aKR (x y:bA):decide (x=y)=true ↔ aS x=aS y:=by
  rw[decide_eq_true_eq]
  refine⟨fun h=>by rw[h],fun h=>?_⟩
  obtain⟨⟨x0,hx0⟩,⟨⟨x10,hx10⟩,⟨x11,hx11⟩,⟨x12,hx12⟩,⟨x13,hx13⟩,⟨x14,hx14⟩,⟨x15,hx15⟩⟩⟩:=x
  obtain⟨⟨y0,hy0⟩,⟨⟨y10,hy10⟩,⟨y11,hy11⟩,⟨y12,hy12⟩,⟨y13,hy13⟩,⟨y14,hy14⟩,⟨y15,hy15⟩⟩⟩:=y
  simp only[aS,List.cons.injEq,Value.int.injEq,Value.bool.injEq,Value.string.injEq,true_and,and_true] at h
  obtain⟨rfl,rfl,rfl,rfl,rfl,rfl,rfl⟩:=h
  rfl
structure cH where
  MAC:cK
  To:Fx .u32
  deriving DecidableEq
def cB (x:cH):List Value:=[.int .u8 x.MAC.b0.v,.int .u8 x.MAC.b1.v,.int .u8 x.MAC.b2.v,.int .u8 x.MAC.b3.v,.int .u8 x.MAC.b4.v,.int .u8 x.MAC.b5.v,.int .u32 x.To.v]
theorem a4D (x:cH):(cB x).length=7:=rfl
def a06:List LK:=[.i .u8,.i .u8,.i .u8,.i .u8,.i .u8,.i .u8,.i .u32]
theorem aII (x:cH):gK a06 (cB x)=true:=rfl
theorem aSE (x y:cH):decide (x=y)=true ↔ cB x=cB y:=by
  rw[decide_eq_true_eq]
  refine⟨fun h=>by rw[h],fun h=>?_⟩
  obtain⟨⟨⟨x00,hx00⟩,⟨x01,hx01⟩,⟨x02,hx02⟩,⟨x03,hx03⟩,⟨x04,hx04⟩,⟨x05,hx05⟩⟩,⟨x1,hx1⟩⟩:=x
  obtain⟨⟨⟨y00,hy00⟩,⟨y01,hy01⟩,⟨y02,hy02⟩,⟨y03,hy03⟩,⟨y04,hy04⟩,⟨y05,hy05⟩⟩,⟨y1,hy1⟩⟩:=y
  simp only[cB,List.cons.injEq,Value.int.injEq,Value.bool.injEq,Value.string.injEq,true_and,and_true] at h
  obtain⟨rfl,rfl,rfl,rfl,rfl,rfl,rfl⟩:=h
  rfl
structure eV where
  Kind:Fx .i64
  Route:bD
  Neigh:bA
  Fdb:cH
  deriving DecidableEq
def mO (x:eV):List Value:=[.int .i64 x.Kind.v,.int .u32 x.Route.Dst.Addr.v,.int .i64 x.Route.Dst.Len.v,.int .u32 x.Route.Via.v,.bool x.Route.Local,.int .u32 x.Neigh.IP.v,.int .u8 x.Neigh.MAC.b0.v,.int .u8 x.Neigh.MAC.b1.v,.int .u8 x.Neigh.MAC.b2.v,.int .u8 x.Neigh.MAC.b3.v,.int .u8 x.Neigh.MAC.b4.v,.int .u8 x.Neigh.MAC.b5.v,.int .u8 x.Fdb.MAC.b0.v,.int .u8 x.Fdb.MAC.b1.v,.int .u8 x.Fdb.MAC.b2.v,.int .u8 x.Fdb.MAC.b3.v,.int .u8 x.Fdb.MAC.b4.v,.int .u8 x.Fdb.MAC.b5.v,.int .u32 x.Fdb.To.v]
structure kA where
  Host:Fx .i64
  Pub:Fx .u32
  MAC:cK
  Renew:Fx .i64
  deriving DecidableEq
def eB (x:kA):List Value:=[.int .i64 x.Host.v,.int .u32 x.Pub.v,.int .u8 x.MAC.b0.v,.int .u8 x.MAC.b1.v,.int .u8 x.MAC.b2.v,.int .u8 x.MAC.b3.v,.int .u8 x.MAC.b4.v,.int .u8 x.MAC.b5.v,.int .i64 x.Renew.v]
structure fC where
  Err:Fx .i64
  Lease:TLease
  Rev:Fx .i64
  Now:Fx .i64
  deriving DecidableEq
def aC8 (x:fC):List Value:=[.int .i64 x.Err.v,.int .i64 x.Lease.Host.v,.int .u32 x.Lease.Subnet.Addr.v,.int .i64 x.Lease.Subnet.Len.v,.int .u32 x.Lease.Pub.v,.int .u8 x.Lease.MAC.b0.v,.int .u8 x.Lease.MAC.b1.v,.int .u8 x.Lease.MAC.b2.v,.int .u8 x.Lease.MAC.b3.v,.int .u8 x.Lease.MAC.b4.v,.int .u8 x.Lease.MAC.b5.v,.int .i64 x.Lease.Until.v,.int .i64 x.Lease.Rev.v,.int .i64 x.Rev.v,.int .i64 x.Now.v]
structure lT where
  Kind:Fx .i64
  Host:Fx .i64
  Subnet:aT
  Pub:Fx .u32
  MAC:cK
  N:Fx .i64
  deriving DecidableEq
def aDO (x:lT):List Value:=[.int .i64 x.Kind.v,.int .i64 x.Host.v,.int .u32 x.Subnet.Addr.v,.int .i64 x.Subnet.Len.v,.int .u32 x.Pub.v,.int .u8 x.MAC.b0.v,.int .u8 x.MAC.b1.v,.int .u8 x.MAC.b2.v,.int .u8 x.MAC.b3.v,.int .u8 x.MAC.b4.v,.int .u8 x.MAC.b5.v,.int .i64 x.N.v]
structure eH where
  Kind:Fx .i64
  Cmd:lT
  Op:eV
  From:Fx .i64
  Max:Fx .i64
  deriving DecidableEq
def eS (x:eH):List Value:=[.int .i64 x.Kind.v,.int .i64 x.Cmd.Kind.v,.int .i64 x.Cmd.Host.v,.int .u32 x.Cmd.Subnet.Addr.v,.int .i64 x.Cmd.Subnet.Len.v,.int .u32 x.Cmd.Pub.v,.int .u8 x.Cmd.MAC.b0.v,.int .u8 x.Cmd.MAC.b1.v,.int .u8 x.Cmd.MAC.b2.v,.int .u8 x.Cmd.MAC.b3.v,.int .u8 x.Cmd.MAC.b4.v,.int .u8 x.Cmd.MAC.b5.v,.int .i64 x.Cmd.N.v,.int .i64 x.Op.Kind.v,.int .u32 x.Op.Route.Dst.Addr.v,.int .i64 x.Op.Route.Dst.Len.v,.int .u32 x.Op.Route.Via.v,.bool x.Op.Route.Local,.int .u32 x.Op.Neigh.IP.v,.int .u8 x.Op.Neigh.MAC.b0.v,.int .u8 x.Op.Neigh.MAC.b1.v,.int .u8 x.Op.Neigh.MAC.b2.v,.int .u8 x.Op.Neigh.MAC.b3.v,.int .u8 x.Op.Neigh.MAC.b4.v,.int .u8 x.Op.Neigh.MAC.b5.v,.int .u8 x.Op.Fdb.MAC.b0.v,.int .u8 x.Op.Fdb.MAC.b1.v,.int .u8 x.Op.Fdb.MAC.b2.v,.int .u8 x.Op.Fdb.MAC.b3.v,.int .u8 x.Op.Fdb.MAC.b4.v,.int .u8 x.Op.Fdb.MAC.b5.v,.int .u32 x.Op.Fdb.To.v,.int .i64 x.From.v,.int .i64 x.Max.v]
def a08:List LK:=[.i .i64,.i .i64,.i .i64,.i .u32,.i .i64,.i .u32,.i .u8,.i .u8,.i .u8,.i .u8,.i .u8,.i .u8,.i .i64,.i .i64,.i .u32,.i .i64,.i .u32,.b,.i .u32,.i .u8,.i .u8,.i .u8,.i .u8,.i .u8,.i .u8,.i .u8,.i .u8,.i .u8,.i .u8,.i .u8,.i .u8,.i .u32,.i .i64,.i .i64]
theorem a0W (x:eH):gK a08 (eS x)=true:=rfl
theorem a4A (x y:eH):decide (x=y)=true ↔ eS x=eS y:=by
  rw[decide_eq_true_eq]
  refine⟨fun h=>by rw[h],fun h=>?_⟩
  obtain⟨⟨x0,hx0⟩,⟨⟨x10,hx10⟩,⟨x11,hx11⟩,⟨⟨x120,hx120⟩,⟨x121,hx121⟩⟩,⟨x13,hx13⟩,⟨⟨x140,hx140⟩,⟨x141,hx141⟩,⟨x142,hx142⟩,⟨x143,hx143⟩,⟨x144,hx144⟩,⟨x145,hx145⟩⟩,⟨x15,hx15⟩⟩,⟨⟨x20,hx20⟩,⟨⟨⟨x2100,hx2100⟩,⟨x2101,hx2101⟩⟩,⟨x211,hx211⟩,x212⟩,⟨⟨x220,hx220⟩,⟨⟨x2210,hx2210⟩,⟨x2211,hx2211⟩,⟨x2212,hx2212⟩,⟨x2213,hx2213⟩,⟨x2214,hx2214⟩,⟨x2215,hx2215⟩⟩⟩,⟨⟨⟨x2300,hx2300⟩,⟨x2301,hx2301⟩,⟨x2302,hx2302⟩,⟨x2303,hx2303⟩,⟨x2304,hx2304⟩,⟨x2305,hx2305⟩⟩,⟨x231,hx231⟩⟩⟩,⟨x3,hx3⟩,⟨x4,hx4⟩⟩:=x
  obtain⟨⟨y0,hy0⟩,⟨⟨y10,hy10⟩,⟨y11,hy11⟩,⟨⟨y120,hy120⟩,⟨y121,hy121⟩⟩,⟨y13,hy13⟩,⟨⟨y140,hy140⟩,⟨y141,hy141⟩,⟨y142,hy142⟩,⟨y143,hy143⟩,⟨y144,hy144⟩,⟨y145,hy145⟩⟩,⟨y15,hy15⟩⟩,⟨⟨y20,hy20⟩,⟨⟨⟨y2100,hy2100⟩,⟨y2101,hy2101⟩⟩,⟨y211,hy211⟩,y212⟩,⟨⟨y220,hy220⟩,⟨⟨y2210,hy2210⟩,⟨y2211,hy2211⟩,⟨y2212,hy2212⟩,⟨y2213,hy2213⟩,⟨y2214,hy2214⟩,⟨y2215,hy2215⟩⟩⟩,⟨⟨⟨y2300,hy2300⟩,⟨y2301,hy2301⟩,⟨y2302,hy2302⟩,⟨y2303,hy2303⟩,⟨y2304,hy2304⟩,⟨y2305,hy2305⟩⟩,⟨y231,hy231⟩⟩⟩,⟨y3,hy3⟩,⟨y4,hy4⟩⟩:=y
  simp only[eS,List.cons.injEq,Value.int.injEq,Value.bool.injEq,Value.string.injEq,true_and,and_true] at h
  obtain⟨rfl,rfl,rfl,rfl,rfl,rfl,rfl,rfl,rfl,rfl,rfl,rfl,rfl,rfl,rfl,rfl,rfl,rfl,rfl,rfl,rfl,rfl,rfl,rfl,rfl,rfl,rfl,rfl,rfl,rfl,rfl,rfl,rfl,rfl⟩:=h
  rfl
structure TEvent where
  Rev:Fx .i64
  Kind:Fx .i64
  Lease:TLease
  deriving DecidableEq
def eI (x:TEvent):List Value:=[.int .i64 x.Rev.v,.int .i64 x.Kind.v,.int .i64 x.Lease.Host.v,.int .u32 x.Lease.Subnet.Addr.v,.int .i64 x.Lease.Subnet.Len.v,.int .u32 x.Lease.Pub.v,.int .u8 x.Lease.MAC.b0.v,.int .u8 x.Lease.MAC.b1.v,.int .u8 x.Lease.MAC.b2.v,.int .u8 x.Lease.MAC.b3.v,.int .u8 x.Lease.MAC.b4.v,.int .u8 x.Lease.MAC.b5.v,.int .i64 x.Lease.Until.v,.int .i64 x.Lease.Rev.v]
theorem aW7 (x:TEvent):(eI x).length=14:=rfl
def aPW:List LK:=[.i .i64,.i .i64,.i .i64,.i .u32,.i .i64,.i .u32,.i .u8,.i .u8,.i .u8,.i .u8,.i .u8,.i .u8,.i .i64,.i .i64]
theorem aPJ (x:TEvent):gK aPW (eI x)=true:=rfl
theorem aW4 (x y:TEvent):decide (x=y)=true ↔ eI x=eI y:=by
  rw[decide_eq_true_eq]
  refine⟨fun h=>by rw[h],fun h=>?_⟩
  obtain⟨⟨x0,hx0⟩,⟨x1,hx1⟩,⟨⟨x20,hx20⟩,⟨⟨x210,hx210⟩,⟨x211,hx211⟩⟩,⟨x22,hx22⟩,⟨⟨x230,hx230⟩,⟨x231,hx231⟩,⟨x232,hx232⟩,⟨x233,hx233⟩,⟨x234,hx234⟩,⟨x235,hx235⟩⟩,⟨x24,hx24⟩,⟨x25,hx25⟩⟩⟩:=x
  obtain⟨⟨y0,hy0⟩,⟨y1,hy1⟩,⟨⟨y20,hy20⟩,⟨⟨y210,hy210⟩,⟨y211,hy211⟩⟩,⟨y22,hy22⟩,⟨⟨y230,hy230⟩,⟨y231,hy231⟩,⟨y232,hy232⟩,⟨y233,hy233⟩,⟨y234,hy234⟩,⟨y235,hy235⟩⟩,⟨y24,hy24⟩,⟨y25,hy25⟩⟩⟩:=y
  simp only[eI,List.cons.injEq,Value.int.injEq,Value.bool.injEq,Value.string.injEq,true_and,and_true] at h
  obtain⟨rfl,rfl,rfl,rfl,rfl,rfl,rfl,rfl,rfl,rfl,rfl,rfl,rfl,rfl⟩:=h
  rfl
structure Tagent_way where
  neigh:Bool
  entry:Bool
  mac:cK
  to:Fx .u32
  deriving DecidableEq
def mB (x:Tagent_way):List Value:=[.bool x.neigh,.bool x.entry,.int .u8 x.mac.b0.v,.int .u8 x.mac.b1.v,.int .u8 x.mac.b2.v,.int .u8 x.mac.b3.v,.int .u8 x.mac.b4.v,.int .u8 x.mac.b5.v,.int .u32 x.to.v]
def aEA:List LK:=[.b,.b,.i .u8,.i .u8,.i .u8,.i .u8,.i .u8,.i .u8,.i .u32]
theorem aD0 (x:Tagent_way):gK aEA (mB x)=true:=rfl
theorem aKS (x y:Tagent_way):decide (x=y)=true ↔ mB x=mB y:=by
  rw[decide_eq_true_eq]
  refine⟨fun h=>by rw[h],fun h=>?_⟩
  obtain⟨x0,x1,⟨⟨x20,hx20⟩,⟨x21,hx21⟩,⟨x22,hx22⟩,⟨x23,hx23⟩,⟨x24,hx24⟩,⟨x25,hx25⟩⟩,⟨x3,hx3⟩⟩:=x
  obtain⟨y0,y1,⟨⟨y20,hy20⟩,⟨y21,hy21⟩,⟨y22,hy22⟩,⟨y23,hy23⟩,⟨y24,hy24⟩,⟨y25,hy25⟩⟩,⟨y3,hy3⟩⟩:=y
  simp only[mB,List.cons.injEq,Value.int.injEq,Value.bool.injEq,Value.string.injEq,true_and,and_true] at h
  obtain⟨rfl,rfl,rfl,rfl,rfl,rfl,rfl,rfl,rfl⟩:=h
  rfl
structure Tweftref16_Way where
  N:bA
  F:cH
  Count:Fx .i64
  deriving DecidableEq
def eF (x:Tweftref16_Way):List Value:=[.int .u32 x.N.IP.v,.int .u8 x.N.MAC.b0.v,.int .u8 x.N.MAC.b1.v,.int .u8 x.N.MAC.b2.v,.int .u8 x.N.MAC.b3.v,.int .u8 x.N.MAC.b4.v,.int .u8 x.N.MAC.b5.v,.int .u8 x.F.MAC.b0.v,.int .u8 x.F.MAC.b1.v,.int .u8 x.F.MAC.b2.v,.int .u8 x.F.MAC.b3.v,.int .u8 x.F.MAC.b4.v,.int .u8 x.F.MAC.b5.v,.int .u32 x.F.To.v,.int .i64 x.Count.v]
def xX:List LK:=[.i .u32,.i .u8,.i .u8,.i .u8,.i .u8,.i .u8,.i .u8,.i .u8,.i .u8,.i .u8,.i .u8,.i .u8,.i .u8,.i .u32,.i .i64]
theorem xP (x:Tweftref16_Way):gK xX (eF x)=true:=rfl
theorem aD9 (x y:Tweftref16_Way):decide (x=y)=true ↔ eF x=eF y:=by
  rw[decide_eq_true_eq]
  refine⟨fun h=>by rw[h],fun h=>?_⟩
  obtain⟨⟨⟨x00,hx00⟩,⟨⟨x010,hx010⟩,⟨x011,hx011⟩,⟨x012,hx012⟩,⟨x013,hx013⟩,⟨x014,hx014⟩,⟨x015,hx015⟩⟩⟩,⟨⟨⟨x100,hx100⟩,⟨x101,hx101⟩,⟨x102,hx102⟩,⟨x103,hx103⟩,⟨x104,hx104⟩,⟨x105,hx105⟩⟩,⟨x11,hx11⟩⟩,⟨x2,hx2⟩⟩:=x
  obtain⟨⟨⟨y00,hy00⟩,⟨⟨y010,hy010⟩,⟨y011,hy011⟩,⟨y012,hy012⟩,⟨y013,hy013⟩,⟨y014,hy014⟩,⟨y015,hy015⟩⟩⟩,⟨⟨⟨y100,hy100⟩,⟨y101,hy101⟩,⟨y102,hy102⟩,⟨y103,hy103⟩,⟨y104,hy104⟩,⟨y105,hy105⟩⟩,⟨y11,hy11⟩⟩,⟨y2,hy2⟩⟩:=y
  simp only[eF,List.cons.injEq,Value.int.injEq,Value.bool.injEq,Value.string.injEq,true_and,and_true] at h
  obtain⟨rfl,rfl,rfl,rfl,rfl,rfl,rfl,rfl,rfl,rfl,rfl,rfl,rfl,rfl,rfl⟩:=h
  rfl
end Go.Proofs.YtnbpodjbemfpbaaGreat.Fw
set_option linter.all false
namespace Go.Proofs.YtnbpodjbemfpbaaGreat.Fw
open Go
theorem ty2:kJ Tryz.prog 2=some (false,1):=by kernel_rfl
theorem in2:inI Tryz.prog 2=some .i64:=by kernel_rfl
theorem ty3:kJ Tryz.prog 3=some (false,1):=by kernel_rfl
theorem zV:inI Tryz.prog 3=some .i64:=by kernel_rfl
theorem ze3:uO Tryz.prog 3=some [.int .i64 0]:=by kernel_rfl
theorem ty4:kJ Tryz.prog 4=some (false,1):=by kernel_rfl
theorem zM:Tryz.prog.underlying 4=some .bool:=by kernel_rfl
theorem ty5:kJ Tryz.prog 5=some (false,1):=by kernel_rfl
theorem in5:inI Tryz.prog 5=some .u8:=by kernel_rfl
theorem a45:kJ Tryz.prog 22=some (false,1):=by kernel_rfl
theorem eR:uX Tryz.prog 22=some 48:=by kernel_rfl
theorem xF:qW Tryz.prog 22=true:=by kernel_rfl
theorem a46:kJ Tryz.prog 25=some (false,1):=by kernel_rfl
theorem eY:uX Tryz.prog 25=some 51:=by kernel_rfl
theorem aB6:qW Tryz.prog 25=true:=by kernel_rfl
theorem a47:kJ Tryz.prog 26=some (false,1):=by kernel_rfl
theorem fP:uX Tryz.prog 26=some 54:=by kernel_rfl
theorem aB7:qW Tryz.prog 26=true:=by kernel_rfl
theorem a48:kJ Tryz.prog 27=some (false,1):=by kernel_rfl
theorem fQ:uX Tryz.prog 27=some 56:=by kernel_rfl
theorem aB8:qW Tryz.prog 27=true:=by kernel_rfl
theorem xH:kJ Tryz.prog 29=some (true,3):=by kernel_rfl
theorem aVZ:rZ Tryz.prog 29 0=some (0,25):=by kernel_rfl
theorem aV0:rZ Tryz.prog 29 1=some (1,26):=by kernel_rfl
theorem aV1:rZ Tryz.prog 29 2=some (2,27):=by kernel_rfl
theorem rI:stI Tryz.prog 29=some [(0,1),(1,1),(2,1)]:=by kernel_rfl
theorem jL:uO Tryz.prog 29=some [.slice none 0 0,.slice none 0 0,.slice none 0 0]:=by kernel_rfl
theorem oO:uX Tryz.prog 35=some 58:=by kernel_rfl
theorem aBG:qW Tryz.prog 35=true:=by kernel_rfl
theorem a2B:kJ Tryz.prog 36=some (false,1):=by kernel_rfl
theorem a05:inI Tryz.prog 36=some .i64:=by kernel_rfl
theorem aN8:kJ Tryz.prog 42=some (false,1):=by kernel_rfl
theorem aFE:inI Tryz.prog 42=some .u32:=by kernel_rfl
theorem jQ:kJ Tryz.prog 44=some (true,2):=by kernel_rfl
theorem aV2:rZ Tryz.prog 44 0=some (0,42):=by kernel_rfl
theorem aV3:rZ Tryz.prog 44 1=some (1,3):=by kernel_rfl
theorem a1V:stI Tryz.prog 44=some [(0,1),(1,1)]:=by kernel_rfl
theorem zE:EqT Tryz.prog 44 aMA:=⟨by kernel_rfl,by kernel_rfl,by kernel_rfl⟩
theorem uM:uO Tryz.prog 44=some [.int .u32 0,.int .i64 0]:=by kernel_rfl
theorem aFC:byI Tryz.prog 44=some 16:=by kernel_rfl
theorem aRF:kJ Tryz.prog 46=some (true,6):=by kernel_rfl
theorem aDZ:EqT Tryz.prog 46 a07:=⟨by kernel_rfl,by kernel_rfl,by kernel_rfl⟩
theorem xL:arI Tryz.prog 46=some (6,5):=by kernel_rfl
theorem a2M:uO Tryz.prog 46=some [.int .u8 0,.int .u8 0,.int .u8 0,.int .u8 0,.int .u8 0,.int .u8 0]:=by kernel_rfl
theorem fZ:kJ Tryz.prog 48=some (true,12):=by kernel_rfl
theorem aV4:rZ Tryz.prog 48 0=some (0,3):=by kernel_rfl
theorem aV5:rZ Tryz.prog 48 1=some (1,44):=by kernel_rfl
theorem aV6:rZ Tryz.prog 48 2=some (3,42):=by kernel_rfl
theorem aV7:rZ Tryz.prog 48 3=some (4,46):=by kernel_rfl
theorem aV8:rZ Tryz.prog 48 4=some (10,2):=by kernel_rfl
theorem aV9:rZ Tryz.prog 48 5=some (11,2):=by kernel_rfl
theorem aYE:stI Tryz.prog 48=some [(0,1),(1,2),(3,1),(4,6),(10,1),(11,1)]:=by kernel_rfl
theorem aUB:EqT Tryz.prog 48 aPX:=⟨by kernel_rfl,by kernel_rfl,by kernel_rfl⟩
theorem mY:uO Tryz.prog 48=some [.int .i64 0,.int .u32 0,.int .i64 0,.int .u32 0,.int .u8 0,.int .u8 0,.int .u8 0,.int .u8 0,.int .u8 0,.int .u8 0,.int .i64 0,.int .i64 0]:=by kernel_rfl
theorem vN:byI Tryz.prog 48=some 56:=by kernel_rfl
theorem gG:kJ Tryz.prog 51=some (true,4):=by kernel_rfl
theorem aWA:rZ Tryz.prog 51 0=some (0,44):=by kernel_rfl
theorem aWB:rZ Tryz.prog 51 1=some (2,42):=by kernel_rfl
theorem aWC:rZ Tryz.prog 51 2=some (3,4):=by kernel_rfl
theorem aN1:stI Tryz.prog 51=some [(0,2),(2,1),(3,1)]:=by kernel_rfl
theorem aL1:EqT Tryz.prog 51 aPZ:=⟨by kernel_rfl,by kernel_rfl,by kernel_rfl⟩
theorem kK:uO Tryz.prog 51=some [.int .u32 0,.int .i64 0,.int .u32 0,.bool false]:=by kernel_rfl
theorem qN:byI Tryz.prog 51=some 24:=by kernel_rfl
theorem gQ:kJ Tryz.prog 54=some (true,7):=by kernel_rfl
theorem aWD:rZ Tryz.prog 54 0=some (0,42):=by kernel_rfl
theorem aWE:rZ Tryz.prog 54 1=some (1,46):=by kernel_rfl
theorem aQ9:stI Tryz.prog 54=some [(0,1),(1,6)]:=by kernel_rfl
theorem aPI:EqT Tryz.prog 54 aPY:=⟨by kernel_rfl,by kernel_rfl,by kernel_rfl⟩
theorem lW:uO Tryz.prog 54=some [.int .u32 0,.int .u8 0,.int .u8 0,.int .u8 0,.int .u8 0,.int .u8 0,.int .u8 0]:=by kernel_rfl
theorem qO:byI Tryz.prog 54=some 12:=by kernel_rfl
theorem gS:kJ Tryz.prog 56=some (true,7):=by kernel_rfl
theorem aWF:rZ Tryz.prog 56 0=some (0,46):=by kernel_rfl
theorem aWG:rZ Tryz.prog 56 1=some (6,42):=by kernel_rfl
theorem aN2:stI Tryz.prog 56=some [(0,6),(6,1)]:=by kernel_rfl
theorem aL2:EqT Tryz.prog 56 a06:=⟨by kernel_rfl,by kernel_rfl,by kernel_rfl⟩
theorem lS:uO Tryz.prog 56=some [.int .u8 0,.int .u8 0,.int .u8 0,.int .u8 0,.int .u8 0,.int .u8 0,.int .u32 0]:=by kernel_rfl
theorem qP:byI Tryz.prog 56=some 12:=by kernel_rfl
theorem qL:kJ Tryz.prog 58=some (true,19):=by kernel_rfl
theorem aBP:stI Tryz.prog 58=some [(0,1),(1,4),(5,7),(12,7)]:=by kernel_rfl
theorem mZ:uO Tryz.prog 58=some [.int .i64 0,.int .u32 0,.int .i64 0,.int .u32 0,.bool false,.int .u32 0,.int .u8 0,.int .u8 0,.int .u8 0,.int .u8 0,.int .u8 0,.int .u8 0,.int .u8 0,.int .u8 0,.int .u8 0,.int .u8 0,.int .u8 0,.int .u8 0,.int .u32 0]:=by kernel_rfl
theorem aAU:byI Tryz.prog 58=some 56:=by kernel_rfl
theorem a49:kJ Tryz.prog 61=some (true,9):=by kernel_rfl
theorem aWH:rZ Tryz.prog 61 0=some (0,3):=by kernel_rfl
theorem aWI:rZ Tryz.prog 61 1=some (1,42):=by kernel_rfl
theorem aWJ:rZ Tryz.prog 61 2=some (2,46):=by kernel_rfl
theorem aWK:rZ Tryz.prog 61 3=some (8,2):=by kernel_rfl
theorem aYF:stI Tryz.prog 61=some [(0,1),(1,1),(2,6),(8,1)]:=by kernel_rfl
theorem a5E:uO Tryz.prog 61=some [.int .i64 0,.int .u32 0,.int .u8 0,.int .u8 0,.int .u8 0,.int .u8 0,.int .u8 0,.int .u8 0,.int .i64 0]:=by kernel_rfl
theorem pG:uX Tryz.prog 62=some 79:=by kernel_rfl
theorem tZ:ptI Tryz.prog 63=some 135:=by kernel_rfl
theorem a5F:uO Tryz.prog 63=some [.pointer none]:=by kernel_rfl
theorem iP:ptI Tryz.prog 66=some 140:=by kernel_rfl
theorem a2C:kJ Tryz.prog 72=some (true,15):=by kernel_rfl
theorem aWL:rZ Tryz.prog 72 0=some (0,36):=by kernel_rfl
theorem aWM:rZ Tryz.prog 72 1=some (1,48):=by kernel_rfl
theorem aWN:rZ Tryz.prog 72 2=some (13,2):=by kernel_rfl
theorem aWO:rZ Tryz.prog 72 3=some (14,2):=by kernel_rfl
theorem a40:stI Tryz.prog 72=some [(0,1),(1,12),(13,1),(14,1)]:=by kernel_rfl
theorem a5A:kJ Tryz.prog 74=some (true,3):=by kernel_rfl
theorem aWP:rZ Tryz.prog 74 0=some (0,2):=by kernel_rfl
theorem aWQ:rZ Tryz.prog 74 1=some (1,2):=by kernel_rfl
theorem aWR:rZ Tryz.prog 74 2=some (2,22):=by kernel_rfl
theorem a41:stI Tryz.prog 74=some [(0,1),(1,1),(2,1)]:=by kernel_rfl
theorem a5G:uO Tryz.prog 74=some [.int .i64 0,.int .i64 0,.slice none 0 0]:=by kernel_rfl
theorem a5B:kJ Tryz.prog 75=some (false,1):=by kernel_rfl
theorem oP:uX Tryz.prog 75=some 161:=by kernel_rfl
theorem aSR:qW Tryz.prog 75=true:=by kernel_rfl
theorem a5C:kJ Tryz.prog 77=some (true,23):=by kernel_rfl
theorem aWS:rZ Tryz.prog 77 0=some (0,36):=by kernel_rfl
theorem aWT:rZ Tryz.prog 77 1=some (1,72):=by kernel_rfl
theorem aWU:rZ Tryz.prog 77 2=some (16,74):=by kernel_rfl
theorem aWV:rZ Tryz.prog 77 3=some (19,75):=by kernel_rfl
theorem aWW:rZ Tryz.prog 77 4=some (20,29):=by kernel_rfl
theorem a1W:stI Tryz.prog 77=some [(0,1),(1,15),(16,3),(19,1),(20,3)]:=by kernel_rfl
theorem aYM:uO Tryz.prog 77=some [.int .i64 0,.int .i64 0,.int .i64 0,.int .u32 0,.int .i64 0,.int .u32 0,.int .u8 0,.int .u8 0,.int .u8 0,.int .u8 0,.int .u8 0,.int .u8 0,.int .i64 0,.int .i64 0,.int .i64 0,.int .i64 0,.int .i64 0,.int .i64 0,.slice none 0 0,.slice none 0 0,.slice none 0 0,.slice none 0 0,.slice none 0 0]:=by kernel_rfl
theorem aAJ:kJ Tryz.prog 79=some (true,26):=by kernel_rfl
theorem aWX:rZ Tryz.prog 79 0=some (0,3):=by kernel_rfl
theorem aWY:rZ Tryz.prog 79 1=some (1,3):=by kernel_rfl
theorem aWZ:rZ Tryz.prog 79 2=some (2,2):=by kernel_rfl
theorem aW0:rZ Tryz.prog 79 3=some (3,77):=by kernel_rfl
theorem a1X:stI Tryz.prog 79=some [(0,1),(1,1),(2,1),(3,23)]:=by kernel_rfl
theorem aOF:uO Tryz.prog 79=some [.int .i64 0,.int .i64 0,.int .i64 0,.int .i64 0,.int .i64 0,.int .i64 0,.int .u32 0,.int .i64 0,.int .u32 0,.int .u8 0,.int .u8 0,.int .u8 0,.int .u8 0,.int .u8 0,.int .u8 0,.int .i64 0,.int .i64 0,.int .i64 0,.int .i64 0,.int .i64 0,.int .i64 0,.slice none 0 0,.slice none 0 0,.slice none 0 0,.slice none 0 0,.slice none 0 0]:=by kernel_rfl
theorem hY:uX Tryz.prog 82=some 44:=by kernel_rfl
theorem aFF:qW Tryz.prog 82=true:=by kernel_rfl
theorem aTL:kJ Tryz.prog 84=some (true,21):=by kernel_rfl
theorem aLN:stI Tryz.prog 84=some [(0,1),(1,12),(13,1),(14,1),(15,1),(16,1),(17,1),(18,3)]:=by kernel_rfl
theorem xI:uO Tryz.prog 84=some [.bool false,.int .i64 0,.int .u32 0,.int .i64 0,.int .u32 0,.int .u8 0,.int .u8 0,.int .u8 0,.int .u8 0,.int .u8 0,.int .u8 0,.int .i64 0,.int .i64 0,.int .i64 0,.bool false,.bool false,.slice none 0 0,.slice none 0 0,.slice none 0 0,.slice none 0 0,.slice none 0 0]:=by kernel_rfl
theorem aN3:stI Tryz.prog 87=some [(0,1),(1,1),(2,2),(4,1),(5,6),(11,1)]:=by kernel_rfl
theorem aFK:uO Tryz.prog 87=some [.int .i64 0,.int .i64 0,.int .u32 0,.int .i64 0,.int .u32 0,.int .u8 0,.int .u8 0,.int .u8 0,.int .u8 0,.int .u8 0,.int .u8 0,.int .i64 0]:=by kernel_rfl
theorem pX:kJ Tryz.prog 89=some (true,34):=by kernel_rfl
theorem sU:stI Tryz.prog 89=some [(0,1),(1,12),(13,19),(32,1),(33,1)]:=by kernel_rfl
theorem a0V:EqT Tryz.prog 89 a08:=⟨by kernel_rfl,by kernel_rfl,by kernel_rfl⟩
theorem nC:uO Tryz.prog 89=some [.int .i64 0,.int .i64 0,.int .i64 0,.int .u32 0,.int .i64 0,.int .u32 0,.int .u8 0,.int .u8 0,.int .u8 0,.int .u8 0,.int .u8 0,.int .u8 0,.int .i64 0,.int .i64 0,.int .u32 0,.int .i64 0,.int .u32 0,.bool false,.int .u32 0,.int .u8 0,.int .u8 0,.int .u8 0,.int .u8 0,.int .u8 0,.int .u8 0,.int .u8 0,.int .u8 0,.int .u8 0,.int .u8 0,.int .u8 0,.int .u8 0,.int .u32 0,.int .i64 0,.int .i64 0]:=by kernel_rfl
theorem aOR:arI Tryz.prog 120=some (2,4):=by kernel_rfl
theorem a2J:uO Tryz.prog 120=some [.bool false,.bool false]:=by kernel_rfl
theorem wE:uX Tryz.prog 133=some 138:=by kernel_rfl
theorem a1T:stI Tryz.prog 135=some [(0,9),(9,1),(10,34),(44,1),(45,3),(48,1),(49,1),(50,1),(51,1),(52,1),(53,1),(54,1),(55,2),(57,1),(58,1)]:=by kernel_rfl
theorem a2K:uO Tryz.prog 135=some [.int .i64 0,.int .u32 0,.int .u8 0,.int .u8 0,.int .u8 0,.int .u8 0,.int .u8 0,.int .u8 0,.int .i64 0,.slice none 0 0,.int .i64 0,.int .i64 0,.int .i64 0,.int .u32 0,.int .i64 0,.int .u32 0,.int .u8 0,.int .u8 0,.int .u8 0,.int .u8 0,.int .u8 0,.int .u8 0,.int .i64 0,.int .i64 0,.int .u32 0,.int .i64 0,.int .u32 0,.bool false,.int .u32 0,.int .u8 0,.int .u8 0,.int .u8 0,.int .u8 0,.int .u8 0,.int .u8 0,.int .u8 0,.int .u8 0,.int .u8 0,.int .u8 0,.int .u8 0,.int .u8 0,.int .u32 0,.int .i64 0,.int .i64 0,.bool false,.slice none 0 0,.slice none 0 0,.slice none 0 0,.slice none 0 0,.int .i64 0,.bool false,.slice none 0 0,.bool false,.int .i64 0,.bool false,.int .u32 0,.int .i64 0,.bool false,.bool false]:=by kernel_rfl
theorem oY:kJ Tryz.prog 138=some (true,2):=by kernel_rfl
theorem aGB:stI Tryz.prog 138=some [(0,1),(1,1)]:=by kernel_rfl
theorem rL:uO Tryz.prog 138=some [.string .empty,.nilFunc]:=by kernel_rfl
theorem a1U:stI Tryz.prog 140=some [(0,9),(9,1),(10,34),(44,1),(45,3),(48,1),(49,1),(50,1),(51,1),(52,1),(53,1),(54,1),(55,2),(57,1),(58,1)]:=by kernel_rfl
theorem a2L:uO Tryz.prog 140=some [.int .i64 0,.int .u32 0,.int .u8 0,.int .u8 0,.int .u8 0,.int .u8 0,.int .u8 0,.int .u8 0,.int .i64 0,.bool false,.int .i64 0,.int .i64 0,.int .i64 0,.int .u32 0,.int .i64 0,.int .u32 0,.int .u8 0,.int .u8 0,.int .u8 0,.int .u8 0,.int .u8 0,.int .u8 0,.int .i64 0,.int .i64 0,.int .u32 0,.int .i64 0,.int .u32 0,.bool false,.int .u32 0,.int .u8 0,.int .u8 0,.int .u8 0,.int .u8 0,.int .u8 0,.int .u8 0,.int .u8 0,.int .u8 0,.int .u8 0,.int .u8 0,.int .u8 0,.int .u8 0,.int .u32 0,.int .i64 0,.int .i64 0,.bool false,.slice none 0 0,.slice none 0 0,.slice none 0 0,.slice none 0 0,.int .i64 0,.bool false,.slice none 0 0,.bool false,.int .i64 0,.bool false,.int .u32 0,.int .i64 0,.bool false,.bool false]:=by kernel_rfl
theorem aUR:stI Tryz.prog 142=some [(0,1),(1,1),(2,3)]:=by kernel_rfl
theorem aUZ:uO Tryz.prog 142=some [.slice none 0 0,.slice none 0 0,.slice none 0 0,.slice none 0 0,.slice none 0 0]:=by kernel_rfl
theorem oM:kJ Tryz.prog 161=some (true,14):=by kernel_rfl
theorem aSB:rZ Tryz.prog 161 0=some (0,2):=by kernel_rfl
theorem aSC:rZ Tryz.prog 161 1=some (1,3):=by kernel_rfl
theorem aSD:rZ Tryz.prog 161 2=some (2,48):=by kernel_rfl
theorem aUS:stI Tryz.prog 161=some [(0,1),(1,1),(2,12)]:=by kernel_rfl
theorem aVV:EqT Tryz.prog 161 aPW:=⟨by kernel_rfl,by kernel_rfl,by kernel_rfl⟩
theorem zN:uO Tryz.prog 161=some [.int .i64 0,.int .i64 0,.int .i64 0,.int .u32 0,.int .i64 0,.int .u32 0,.int .u8 0,.int .u8 0,.int .u8 0,.int .u8 0,.int .u8 0,.int .u8 0,.int .i64 0,.int .i64 0]:=by kernel_rfl
theorem aFN:byI Tryz.prog 161=some 72:=by kernel_rfl
theorem aUV:kJ Tryz.prog 180=some (true,9):=by kernel_rfl
theorem aUT:stI Tryz.prog 180=some [(0,1),(1,1),(2,6),(8,1)]:=by kernel_rfl
theorem aVW:EqT Tryz.prog 180 aEA:=⟨by kernel_rfl,by kernel_rfl,by kernel_rfl⟩
theorem aRJ:uO Tryz.prog 180=some [.bool false,.bool false,.int .u8 0,.int .u8 0,.int .u8 0,.int .u8 0,.int .u8 0,.int .u8 0,.int .u32 0]:=by kernel_rfl
theorem aUW:kJ Tryz.prog 187=some (true,15):=by kernel_rfl
theorem aVX:EqT Tryz.prog 187 xX:=⟨by kernel_rfl,by kernel_rfl,by kernel_rfl⟩
theorem aMY:uO Tryz.prog 187=some [.int .u32 0,.int .u8 0,.int .u8 0,.int .u8 0,.int .u8 0,.int .u8 0,.int .u8 0,.int .u8 0,.int .u8 0,.int .u8 0,.int .u8 0,.int .u8 0,.int .u8 0,.int .u32 0,.int .i64 0]:=by kernel_rfl
theorem zF:inI Tryz.prog 208=some .u64:=by kernel_rfl
theorem aQ3:uX Tryz.prog 232=some 3:=by kernel_rfl
theorem aRZ:bL Tryz.prog 10=true:=by kernel_rfl
theorem aVB:bL Tryz.prog 11=true:=by kernel_rfl
theorem a3A:bL Tryz.prog 12=true:=by kernel_rfl
theorem a3B:bL Tryz.prog 13=true:=by kernel_rfl
theorem aZP:bL Tryz.prog 14=true:=by kernel_rfl
theorem aZT:bL Tryz.prog 15=true:=by kernel_rfl
theorem aZZ:bL Tryz.prog 16=true:=by kernel_rfl
theorem a3C:bL Tryz.prog 17=true:=by kernel_rfl
theorem a3D:bL Tryz.prog 18=true:=by kernel_rfl
theorem a3E:bL Tryz.prog 19=true:=by kernel_rfl
theorem nA:bL Tryz.prog 26=true:=by kernel_rfl
theorem uP:bL Tryz.prog 27=true:=by kernel_rfl
theorem aR0:bL Tryz.prog 28=true:=by kernel_rfl
theorem vO:bL Tryz.prog 29=true:=by kernel_rfl
theorem a3F:bL Tryz.prog 30=true:=by kernel_rfl
theorem aR1:bL Tryz.prog 31=true:=by kernel_rfl
theorem aVC:bL Tryz.prog 32=true:=by kernel_rfl
theorem a3G:bL Tryz.prog 33=true:=by kernel_rfl
theorem aO3:bL Tryz.prog 43=true:=by kernel_rfl
theorem aVD:bL Tryz.prog 44=true:=by kernel_rfl
theorem aVE:bL Tryz.prog 45=true:=by kernel_rfl
theorem a0E:bL Tryz.prog 46=true:=by kernel_rfl
theorem aVF:bL Tryz.prog 47=true:=by kernel_rfl
theorem a0F:bL Tryz.prog 48=true:=by kernel_rfl
theorem aVG:bL Tryz.prog 49=true:=by kernel_rfl
theorem aO4:bL Tryz.prog 50=true:=by kernel_rfl
theorem aVH:bL Tryz.prog 51=true:=by kernel_rfl
theorem a0G:bL Tryz.prog 52=true:=by kernel_rfl
theorem a0H:bL Tryz.prog 53=true:=by kernel_rfl
theorem a3H:bL Tryz.prog 54=true:=by kernel_rfl
theorem a3I:bL Tryz.prog 55=true:=by kernel_rfl
theorem aVI:bL Tryz.prog 56=true:=by kernel_rfl
theorem aVJ:bL Tryz.prog 57=true:=by kernel_rfl
theorem a0I:bL Tryz.prog 58=true:=by kernel_rfl
theorem a0J:bL Tryz.prog 59=true:=by kernel_rfl
theorem a3J:bL Tryz.prog 60=true:=by kernel_rfl
theorem aVK:bL Tryz.prog 61=true:=by kernel_rfl
theorem aVL:bL Tryz.prog 62=true:=by kernel_rfl
theorem a0K:bL Tryz.prog 63=true:=by kernel_rfl
theorem a0L:bL Tryz.prog 64=true:=by kernel_rfl
theorem a0M:bL Tryz.prog 65=true:=by kernel_rfl
theorem a3K:bL Tryz.prog 71=true:=by kernel_rfl
theorem a3L:bL Tryz.prog 72=true:=by kernel_rfl
theorem a3M:bL Tryz.prog 73=true:=by kernel_rfl
theorem a3N:bL Tryz.prog 74=true:=by kernel_rfl
theorem a3O:bL Tryz.prog 75=true:=by kernel_rfl
theorem a3P:bL Tryz.prog 76=true:=by kernel_rfl
theorem a3Q:bL Tryz.prog 77=true:=by kernel_rfl
theorem a3R:bL Tryz.prog 78=true:=by kernel_rfl
theorem a3S:bL Tryz.prog 79=true:=by kernel_rfl
theorem a3T:bL Tryz.prog 80=true:=by kernel_rfl
theorem aVM:bL Tryz.prog 81=true:=by kernel_rfl
theorem aVN:bL Tryz.prog 82=true:=by kernel_rfl
theorem aO5:bL Tryz.prog 83=true:=by kernel_rfl
theorem aO6:bL Tryz.prog 84=true:=by kernel_rfl
theorem aVO:bL Tryz.prog 85=true:=by kernel_rfl
theorem a3U:bL Tryz.prog 86=true:=by kernel_rfl
theorem a3V:bL Tryz.prog 87=true:=by kernel_rfl
theorem a3W:bL Tryz.prog 88=true:=by kernel_rfl
theorem a0N:bL Tryz.prog 89=true:=by kernel_rfl
theorem a3X:bL Tryz.prog 90=true:=by kernel_rfl
theorem a3Y:bL Tryz.prog 96=true:=by kernel_rfl
theorem aVP:bL Tryz.prog 97=true:=by kernel_rfl
theorem a3Z:bL Tryz.prog 98=true:=by kernel_rfl
theorem aR2:bL Tryz.prog 99=true:=by kernel_rfl
theorem aOX:bL Tryz.prog 100=true:=by kernel_rfl
theorem aY1:bL Tryz.prog 101=true:=by kernel_rfl
theorem aTZ:bL Tryz.prog 102=true:=by kernel_rfl
theorem aOY:bL Tryz.prog 103=true:=by kernel_rfl
theorem aY2:bL Tryz.prog 104=true:=by kernel_rfl
theorem aY3:bL Tryz.prog 105=true:=by kernel_rfl
theorem aY4:bL Tryz.prog 106=true:=by kernel_rfl
theorem aCO:bL Tryz.prog 107=true:=by kernel_rfl
theorem aLV:bL Tryz.prog 108=true:=by kernel_rfl
theorem aY5:bL Tryz.prog 109=true:=by kernel_rfl
theorem aY6:bL Tryz.prog 110=true:=by kernel_rfl
theorem aY7:bL Tryz.prog 111=true:=by kernel_rfl
theorem aT0:bL Tryz.prog 112=true:=by kernel_rfl
theorem aT1:bL Tryz.prog 113=true:=by kernel_rfl
theorem aT2:bL Tryz.prog 114=true:=by kernel_rfl
theorem aT3:bL Tryz.prog 115=true:=by kernel_rfl
theorem aT4:bL Tryz.prog 116=true:=by kernel_rfl
theorem aY8:bL Tryz.prog 117=true:=by kernel_rfl
theorem aY9:bL Tryz.prog 118=true:=by kernel_rfl
theorem aOZ:bL Tryz.prog 119=true:=by kernel_rfl
theorem aZA:bL Tryz.prog 120=true:=by kernel_rfl
theorem aZB:bL Tryz.prog 121=true:=by kernel_rfl
theorem aZC:bL Tryz.prog 122=true:=by kernel_rfl
theorem aLW:bL Tryz.prog 123=true:=by kernel_rfl
theorem aLX:bL Tryz.prog 124=true:=by kernel_rfl
theorem aO0:bL Tryz.prog 125=true:=by kernel_rfl
theorem aZD:bL Tryz.prog 126=true:=by kernel_rfl
theorem aZE:bL Tryz.prog 127=true:=by kernel_rfl
theorem aZF:bL Tryz.prog 128=true:=by kernel_rfl
theorem aZG:bL Tryz.prog 129=true:=by kernel_rfl
theorem aZH:bL Tryz.prog 130=true:=by kernel_rfl
theorem aO1:bL Tryz.prog 131=true:=by kernel_rfl
theorem aZI:bL Tryz.prog 132=true:=by kernel_rfl
theorem aO2:bL Tryz.prog 133=true:=by kernel_rfl
theorem aZJ:bL Tryz.prog 134=true:=by kernel_rfl
theorem aZK:bL Tryz.prog 135=true:=by kernel_rfl
theorem aZL:bL Tryz.prog 136=true:=by kernel_rfl
theorem aZM:bL Tryz.prog 137=true:=by kernel_rfl
theorem aZN:bL Tryz.prog 138=true:=by kernel_rfl
theorem aZO:bL Tryz.prog 139=true:=by kernel_rfl
theorem aZQ:bL Tryz.prog 144=true:=by kernel_rfl
theorem aZR:bL Tryz.prog 147=true:=by kernel_rfl
theorem aZS:bL Tryz.prog 148=true:=by kernel_rfl
theorem aT5:bL Tryz.prog 151=true:=by kernel_rfl
theorem aZU:bL Tryz.prog 155=true:=by kernel_rfl
theorem aZV:bL Tryz.prog 156=true:=by kernel_rfl
theorem aZW:bL Tryz.prog 157=true:=by kernel_rfl
theorem aZX:bL Tryz.prog 158=true:=by kernel_rfl
theorem aZY:bL Tryz.prog 159=true:=by kernel_rfl
theorem aT6:bL Tryz.prog 160=true:=by kernel_rfl
theorem aZ0:bL Tryz.prog 161=true:=by kernel_rfl
theorem aT7:bL Tryz.prog 162=true:=by kernel_rfl
theorem aZ1:bL Tryz.prog 163=true:=by kernel_rfl
theorem aZ2:bL Tryz.prog 164=true:=by kernel_rfl
theorem aZ3:bL Tryz.prog 165=true:=by kernel_rfl
theorem aZ4:bL Tryz.prog 166=true:=by kernel_rfl
theorem aT8:bL Tryz.prog 167=true:=by kernel_rfl
theorem aZ5:bL Tryz.prog 168=true:=by kernel_rfl
theorem aZ6:bL Tryz.prog 169=true:=by kernel_rfl
theorem aZ7:bL Tryz.prog 170=true:=by kernel_rfl
theorem aT9:bL Tryz.prog 174=true:=by kernel_rfl
theorem aZ8:bL Tryz.prog 177=true:=by kernel_rfl
theorem aZ9:bL Tryz.prog 178=true:=by kernel_rfl
theorem a0A:bL Tryz.prog 179=true:=by kernel_rfl
theorem a0B:bL Tryz.prog 180=true:=by kernel_rfl
theorem a0C:bL Tryz.prog 181=true:=by kernel_rfl
theorem a0D:bL Tryz.prog 182=true:=by kernel_rfl
theorem mo:Tryz.prog.follows .mixedOrders=true:=by kernel_rfl
end Go.Proofs.YtnbpodjbemfpbaaGreat.Fw
set_option linter.all false
set_option maxRecDepth 100000
namespace Go.Proofs.YtnbpodjbemfpbaaGreat.Fw
open Go
def lkN {α:Type}:List (Nat×α)->Nat->Option α
  | [],_=>none
  | (i,x)::l,j=>match Nat.beq i j with|true=>some x|false=>lkN l j
theorem aG9 {α:Type}:∀ {l:List (Nat×α)} {j:Nat} {x:α},lkN l j=some x->(j,x) ∈ l
  | (i,y)::l,j,x,h=>by
    unfold lkN at h
    split at h
    · rename_i hb
      rw[Nat.eq_of_beq_eq_true hb]
      simp only[Option.some.injEq] at h
      subst h
      exact List.mem_cons_self
    · exact List.mem_cons_of_mem _ (aG9 h)
def tyTab:List (Nat×(Bool×Nat)):=[(2,false,1),(3,false,1),(4,false,1),(5,false,1),(9,false,1),(22,false,1),(25,false,1),(26,false,1),(27,false,1),(29,true,3),(35,false,1),(36,false,1),(42,false,1),(44,true,2),(46,true,6),(48,true,12),(51,true,4),(54,true,7),(56,true,7),(58,true,19),(61,true,9),(62,false,1),(63,false,1),(66,false,1),(69,false,1),(72,true,15),(74,true,3),(75,false,1),(77,true,23),(79,true,26),(82,false,1),(84,true,21),(87,true,12),(89,true,34),(94,false,1),(97,false,1),(98,false,1),(100,true,1),(120,true,2),(133,false,1),(135,true,59),(136,false,1),(138,true,2),(140,true,59),(142,true,5),(151,false,1),(153,true,12),(156,true,11),(161,true,14),(180,true,9),(187,true,15),(208,false,1),(232,false,1)]
def fdTab:List (Nat×List (Nat×Nat)):=[(29,[(0,25),(1,26),(2,27)]),(44,[(0,42),(1,3)]),(48,[(0,3),(1,44),(3,42),(4,46),(10,2),(11,2)]),(51,[(0,44),(2,42),(3,4)]),(54,[(0,42),(1,46)]),(56,[(0,46),(6,42)]),(58,[(0,3),(1,51),(5,54),(12,56)]),(61,[(0,3),(1,42),(2,46),(8,2)]),(72,[(0,36),(1,48),(13,2),(14,2)]),(74,[(0,2),(1,2),(2,22)]),(77,[(0,36),(1,72),(16,74),(19,75),(20,29)]),(79,[(0,3),(1,3),(2,2),(3,77)]),(84,[(0,4),(1,48),(13,2),(14,4),(15,4),(16,22),(17,82),(18,29)]),(87,[(0,3),(1,3),(2,44),(4,42),(5,46),(11,2)]),(89,[(0,3),(1,87),(13,58),(32,2),(33,3)]),(100,[(0,98)]),(135,[(0,61),(9,133),(10,89),(44,4),(45,29),(48,22),(49,2),(50,4),(51,82),(52,4),(53,2),(54,4),(55,44),(57,4),(58,4)]),(138,[(0,9),(1,136)]),(140,[(0,61),(9,4),(10,89),(44,4),(45,29),(48,22),(49,2),(50,4),(51,82),(52,4),(53,2),(54,4),(55,44),(57,4),(58,4)]),(142,[(0,22),(1,75),(2,29)]),(153,[(0,22),(1,69),(2,69),(3,3),(4,29),(7,151),(8,151),(9,98),(10,98),(11,3)]),(156,[(0,3),(1,22),(2,3),(3,29),(6,29),(9,3),(10,2)]),(161,[(0,2),(1,3),(2,48)]),(180,[(0,4),(1,4),(2,46),(8,42)]),(187,[(0,54),(7,56),(14,3)])]
theorem a5D:(tyTab.all fun p=>decide (kJ Tryz.prog p.1=some p.2))=true:=by kernel_rfl
theorem a38:(fdTab.all fun p=>(List.range p.2.length).all fun i=>decide (p.2[i]?=some (0,0)\/rZ Tryz.prog p.1 i=p.2[i]?))=true:=by kernel_rfl
theorem tt {T:TypeId} {x:Bool×Nat} (h:lkN tyTab T=some x):kJ Tryz.prog T=some x:=of_decide_eq_true (List.all_eq_true.1 a5D _ (aG9 h))
theorem ft {T:TypeId} {l:List (Nat×Nat)} {i:Nat} {x:Nat×Nat} (h:lkN fdTab T=some l) (hi:l[i]?=some x) (h0:Nat.blt 0 x.2=true:=by rfl):rZ Tryz.prog T i=some x:=by
  have h1:=List.all_eq_true.1 a38 _ (aG9 h)
  have hlt:=(List.getElem?_eq_some_iff.1 hi).1
  have h2:=of_decide_eq_true (List.all_eq_true.1 h1 i (List.mem_range.2 hlt))
  simp only[hi] at h2
  rcases h2 with h2|h2
  · simp only[Option.some.injEq] at h2;subst h2;cases h0
  · exact h2
end Go.Proofs.YtnbpodjbemfpbaaGreat.Fw
