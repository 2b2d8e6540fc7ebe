/-
  Own work: walks and laws, joined by wip/tool/compact.py.
-/
import Derived.Test.YtnbpodjbemfpbaaGreatG1
import Derived.OrdersHeld
import Derived.Lib.Overlaps
import Derived.Laws.Externs
import Derived.KernelRfl
import Derived.LoopN
set_option linter.all false
set_option linter.unusedVariables false
set_option linter.all false
namespace Go.Proofs.YtnbpodjbemfpbaaGreat.Fw
open Go
/-! ### 17. Numbers of a fixed width -/
structure Fx (k:IntKind) where
  v:Int
  h:k.wrap v=v
theorem Fx.ext {k:IntKind} {x y:Fx k} (h:x.v=y.v):x=y:=by
  cases x;cases y;simp_all
instance (k:IntKind):DecidableEq (Fx k):=fun x y =>
  if h:x.v=y.v then .isTrue (Fx.ext h) else .isFalse fun e=>h (by rw[e])
theorem aOE (k:IntKind) (n:Int):k.wrap (k.wrap n)=k.wrap n:=by
  cases k <;> simp only[IntKind.wrap,IntKind.bits,IntKind.signed] <;> simp <;> omega
def Fx.of (k:IntKind) (n:Int):Fx k:=⟨k.wrap n,aOE k n⟩
theorem cJ {n:Int} (h1:-9223372036854775808<=n) (h2:n<=9223372036854775807):IntKind.i64.wrap n=n:=by
  simp only[IntKind.wrap,IntKind.bits,IntKind.signed];simp;omega
theorem lR {n:Int} (h1:0<=n) (h2:n<=4294967295):IntKind.u32.wrap n=n:=by
  simp only[IntKind.wrap,IntKind.bits,IntKind.signed];simp;omega
theorem yL {n:Int} (h1:0<=n) (h2:n<=18446744073709551615):IntKind.u64.wrap n=n:=by
  simp only[IntKind.wrap,IntKind.bits,IntKind.signed];simp;omega
theorem Fx.i64 (x:Fx .i64):-9223372036854775808<=x.v/\x.v<=9223372036854775807:=by
  have:=x.h
  simp only[IntKind.wrap,IntKind.bits,IntKind.signed] at this
  simp at this
  omega
theorem Fx.u32 (x:Fx .u32):0<=x.v/\x.v<=4294967295:=by
  have:=x.h
  simp only[IntKind.wrap,IntKind.bits,IntKind.signed] at this
  simp at this
  omega
theorem Fx.u8 (x:Fx .u8):0<=x.v/\x.v<=255:=by
  have:=x.h
  simp only[IntKind.wrap,IntKind.bits,IntKind.signed] at this
  simp at this
  omega
theorem Fx.u64 (x:Fx .u64):0<=x.v/\x.v<=18446744073709551615:=by
  have:=x.h
  simp only[IntKind.wrap,IntKind.bits,IntKind.signed] at this
  simp at this
  omega
/-! ### 18. Calls that bH the heap «as» it was -/
def iL (P:Program) (f:FuncId) (args:List Value) (ret:Value) (w:World):Prop:=Calls P f ⟨args⟩ w fun e w'=>e= .returned ret/\Hp w (hh w) [] w'
section
variable {P:Program} {ops:Array Oper} {Q:Exit->Act->World->Prop} {rest:List Oper} {n:Nat} {L:List (Nat×Value)} {a:Act} {w w0:World} {R:Hh} {Ps Qs:List HP}
theorem cC {d:Nat} {c:Operand} {xs:List Operand} {tys:Array TypeId} {ty:TypeId} {pos:String} {aft:Array Edge} {f:FuncId} {first cap vs us:List Value} {v:Value}
    (hs:St n L a) (m:Hp w0 R Ps w) (hc:ev L c=some (.func (.func f) ⟨first⟩ ⟨cap⟩)) (hx:evs L xs=some vs) (hf:bL P f=true) (hu:first++vs++cap=us) (h:iL P f us v w) (hd:Nat.blt d n=true)
    (k:∀ w',Hp w0 R Ps w'->∀ a',St n ((d,v)::L) a'->wpList P ops Q rest a' w'):wpList P ops Q (⟨some d,.call ⟨.value c,⟨xs⟩,tys⟩,ty,pos,aft,none⟩::rest) a w :=
  xA (Rc:=fun u w'=>u=v/\Hp w (hh w) [] w') hs hc hx hf hu (h.mono fun e w' ⟨he,hm⟩=>⟨v,he,rfl,hm⟩) hd (fun u w' ⟨hu,hm⟩=>by subst hu;exact k w' (m.after hm))
end
section
variable {P:Program} {ops:Array Oper} {Q:Act->Prop} {rest:List Oper} {n:Nat} {L:List (Nat×Value)} {a:Act} {w0:World} {R:Hh} {Ps Qs:List HP}
theorem mL {d:Nat} {c:Operand} {xs:List Operand} {tys:Array TypeId} {ty:TypeId} {pos:String} {aft:Array Edge} {f:FuncId} {first cap vs us:List Value} {v:Value}
    (hs:St n L a) (hc:ev L c=some (.func (.func f) ⟨first⟩ ⟨cap⟩)) (hx:evs L xs=some vs) (hf:bL P f=true) (hu:first++vs++cap=us) (h:∀ w,Hp w0 R Ps w->iL P f us v w) (hd:Nat.blt d n=true)
    (k:∀ a',St n ((d,v)::L) a'->wpQuiet P ops (Hp w0 R Ps) Q rest a'):wpQuiet P ops (Hp w0 R Ps) Q (⟨some d,.call ⟨.value c,⟨xs⟩,tys⟩,ty,pos,aft,none⟩::rest) a :=
  aXU hs hc hx hf hu (fun w m=>(h w m).mono fun e w' ⟨he,hm⟩=>⟨he,m.after hm⟩) hd k
end
theorem dJ {α:Type} [BEq α] [LawfulBEq α] {a b:α} (h:(a !=b)=false):a=b:=by simpa using h
theorem fT {α:Type} [BEq α] [LawfulBEq α] {a b:α} (h:(a !=b)=true):a≠b:=by simpa using h
theorem bI {α:Type} {l:List α} {i:Nat} (h:i<l.length):∃ x,l[i]?=some x:=⟨l[i],List.getElem?_eq_getElem h⟩
theorem mV {α β:Type} (f:α->β) {l:List α} {i:Nat} {x:α} (h:l[i]?=some x):(l.map f)[i]?=some (f x):=by simp [h]
/-! ### 18b. Slices of typed elements -/
def cI {k:IntKind} (x:Fx k):List Value:=[.int k x.v]
structure SH where
  a:Option Addr
  n:Nat
  c:Nat
def SH.v (x:SH):Value:=.slice x.a x.n x.c
def nilH:SH:=⟨none,0,0⟩
def zD (k:Nat) (x:SH) (lo hi:Nat):SH:=⟨if x.c=lo then x.a else x.a.map (·.add (lo*k)),hi-lo,x.c-lo⟩
theorem aRC (k:Nat) (x:SH) (lo hi:Nat):(zD k x lo hi).v=subS k x.v lo hi:=rfl
theorem Sv.sh {k:Nat} {E:TypeId} {v:Value} {ds:List (List Value)} {h:Hh} (s:Sv k E v ds h):∃ x:SH,v=x.v:=by
  obtain⟨base,cap,rfl,_⟩:=s.shape
  exact⟨⟨base,_,cap⟩,rfl⟩
theorem Hp.sh {w0 w:World} {R:Hh} {Ps:List HP} {k:Nat} {E:TypeId} {v:Value} {ds:List (List Value)} (m:Hp w0 R (Sv k E v ds::Ps) w):∃ x:SH,v=x.v:=by
  obtain⟨g,hg,_⟩:=m.look r0
  exact hg.sh
theorem Hp.nilSvM {α:Type} (c:α->List Value) {w0 w:World} {R:Hh} {Ps:List HP} (m:Hp w0 R Ps w) (k:Nat) (E:TypeId):Hp w0 R (Sv k E nilH.v (([]:List α).map c)::Ps) w:=m.nilSv k E
theorem aCJ {Ps Qs:List HP} {y R:Hh} {k:Nat} {E:TypeId} {v:Value} {ds:List (List Value)} (s:SepL Ps y) (l:xE y R) (r:Rem Ps (Sv k E v ds) Qs):RdS R k v ds :=
  let ⟨_,a,b⟩:=s.look r
  a.reads.le (qD b l)
theorem RdS.len {h:Hh} {k:Nat} {x:SH} {ds:List (List Value)} (r:RdS h k x.v ds):x.n=ds.length:=by
  obtain⟨_,_,a,c,e,_⟩:=r
  simp only[SH.v,Value.slice.injEq] at e
  exact e.2.1
section
variable {P:Program} {ops:Array Oper} {Q:Exit->Act->World->Prop} {rest:List Oper} {n:Nat} {L:List (Nat×Value)} {a:Act} {w w0:World} {R:Hh} {Ps Qs:List HP}
  {d:Nat} {ty:TypeId} {pos:String} {aft:Array Edge}
theorem cF {α:Type} {c:α->List Value} {xs ys:List α} {T T2 E:TypeId} {ag:Bool} {k bytes:Nat} {x y:Operand} {v u:Value} {zs:List Value} (hs:St n L a) (m:Hp w0 R Ps w) (hx:ev L x=some v) (hy:ev L y=some u)
    (hT:uX P T=some E) (hT2:qW P T2=true) (hE:kJ P E=some (ag,k)) (hz:uO P E=some zs) (hzl:zs.length=k) (hb:byI P E=some bytes) (hbb:Nat.ble bytes 4096=true)
    (hP:Rem Ps (Sv k E v (xs.map c)) Qs) (hu:RdS (hh w) k u (ys.map c)) (ho:∀ z,pW (c z)=true) (hlen:xs.length+ys.length<=140737488355328/\(2*(xs.length+ys.length)+192)*bytes<=281474976710656) (hd:Nat.blt d n=true)
    (kk:∀ (v':SH) w',Hp w0 R (Sv k E v'.v ((xs++ys).map c)::Qs) w'->∀ a',St n ((d,v'.v)::L) a'->wpList P ops Q rest a' w') :
    wpList P ops Q (⟨some d,.call ⟨.builtin .append,#[x,y],#[T,T2]⟩,ty,pos,aft,none⟩::rest) a w :=
  aQM hs m hx hy hT hT2 hE hz hzl hb hbb hP hu (by intro e he;obtain⟨z,_,rfl⟩:=List.mem_map.1 he;exact ho z) (by simpa using hlen) hd (fun v' w' m'=>by
    obtain⟨x,rfl⟩:=m'.sh
    exact kk x w' (by rw[List.map_append];exact m'))
theorem dK {α:Type} {c:α->List Value} {ys:List α} {T E:TypeId} {ag:Bool} {k len:Nat} {ps:List (Nat×Operand)} {vs:List (Nat×Value)} {zs:List Value} (hs:St n L a) (m:Hp w0 R Ps w) (hT:uX P T=some E) (hE:kJ P E=some (ag,k)) (hz:uO P E=some zs) (hzl:zs.length=k)
    (hx:sD L ps=some vs) (hf:aFS 0 vs=true) (hl:vs.length=len) (hd':vs.map (fun x=>x.2.cells.toList)=ys.map c) (hk:∀ z,(c z).length=k) (hsz:Nat.ble (len*k) 16777216=true) (hsl:Nat.ble len 16777216=true) (hd:Nat.blt d n=true)
    (kk:∀ (v':SH) w',Hp w0 R (Sv k E v'.v (ys.map c)::Ps) w'->∀ a',St n ((d,v'.v)::L) a'->wpList P ops Q rest a' w') :
    wpList P ops Q (⟨some d,.buildSlice T len ⟨ps⟩,ty,pos,aft,none⟩::rest) a w :=
  aBJ hs m hT hE hz hzl hx hf hl hd' (by intro e he;obtain⟨z,_,rfl⟩:=List.mem_map.1 he;exact hk z) hsz hsl hd (fun v' w' m'=>by
    obtain⟨x,rfl⟩:=m'.sh
    exact kk x w' m')
end
section
variable {P:Program} {n:Nat} {L:List (Nat×Value)} {a:Act} {w w0:World} {R:Hh} {Ps Qs:List HP} {G:Prop}
theorem kE {α:Type} {c:α->List Value} {T E:TypeId} {ag:Bool} {k:Nat} {x ix:Operand} {v:Value} {K:IntKind} {i:Int} {xs:List α} {e:α} (hs:St n L a) (m:Hp w0 R Ps w) (hx:ev L x=some v) (hi:ev L ix=some (.int K i)) (hT:uX P T=some E) (hE:kJ P E=some (ag,k))
    (hr:RdS R k v (xs.map c)) (h0:0<=i) (he:xs[i.toNat]?=some e)
    (kk:∀ p,CellsAt R p (c e)->(∀ d ty pos aft g,Ok P (Hp w0 R Ps) L ⟨d,.indexAddr T x ix,ty,pos,aft,g⟩ (.pointer (some (bK p 0))))->G):G:=by
  obtain ⟨p, h1, h2⟩ := aP8 (P := P) (w0 := w0) (R := R) (Ps := Ps) (L := L) (d := none) (ty := 0) (pos := "") (aft := #[]) (g := none) hx hi hT hE hr h0 (mV c he)
  exact kk p h1 fun d ty pos aft g=>h2
theorem rY {α:Type} {c:α->List Value} {T E:TypeId} {ag:Bool} {k:Nat} {x ix:Operand} {v:Value} {K:IntKind} {i:Int} {xs:List α} {e:α} (hs:St n L a) (m:Hp w0 R Ps w) (hx:ev L x=some v) (hi:ev L ix=some (.int K i)) (hT:uX P T=some E) (hE:kJ P E=some (ag,k))
    (hr:Rem Ps (Sv k E v (xs.map c)) Qs) (h0:0<=i) (he:xs[i.toNat]?=some e)
    (kk:∀ p,aOO k v i.toNat p->(∀ d ty pos aft g,Ok P (Hp w0 R Ps) L ⟨d,.indexAddr T x ix,ty,pos,aft,g⟩ (.pointer (some (bK p 0))))->G):G:=by
  obtain ⟨p, h1, _, h2⟩ := aSS (P := P) (C := Hp w0 R Ps) (L := L) (d := none) (ty := 0) (pos := "") (aft := #[]) (g := none) m hx hi hT hE (fV hr) h0 (mV c he)
  exact kk p h1 fun d ty pos aft g=>h2
end
/-! ### 18c. Regions that draw their order and make or write memory -/
def NP (Q:Exit->Act->World->Prop):Exit->Act->World->Prop
  | .panic _,_,_=>False
  | e,a,w=>Q e a w
section
variable {P:Program} {ops:Array Oper} {Q:Exit->Act->World->Prop} {n:Nat} {L:List (Nat×Value)} {a:Act} {w w0:World} {R:Hh} {Ps Qs:List HP} {S:World->Prop} {y:Code}
theorem aRY (S:World->Prop) {id:Nat} {l:List Oper} (m:Hp w0 R Ps w) (hm:P.follows .mixedOrders=true)
    (h:∀ w',Hp w0 R Ps w'->wpAnyH P .any l.toArray (NP (Exit.then (y.wp P Q) Q)) S l.length (Array.replicate l.length false) a w'):(Code.seq (.region id l.toArray true) y).wp P Q a w:=by
  refine wp_seq (Code.wp_mono (Q:=NP (Exit.then (y.wp P Q) Q)) (fun e a w q=>by cases e <;> first|exact q|exact q.elim) ?_)
  refine wp_region_any hm (wpAny_of_held (S:=S) _ _ _ _ ?_)
  have:=h _ (m.drawn (w.drawn+1))
  simpa using this
theorem aCN (S:World->Prop) {id:Nat} {l:List Oper} (m:Hp w0 R Ps w) (hm:P.follows .mixedOrders=true)
    (h:∀ w',Hp w0 R Ps w'->wpAnyH P .any l.toArray (NP Q) S l.length (Array.replicate l.length false) a w'):(Code.region id l.toArray true).wp P Q a w:=by
  refine Code.wp_mono (Q:=NP Q) (fun e a w q=>by cases e <;> first|exact q|exact q.elim) ?_
  refine wp_region_any hm (wpAny_of_held (S:=S) _ _ _ _ ?_)
  have:=h _ (m.drawn (w.drawn+1))
  simpa using this
theorem a39 {i fuel d:Nat} {listed:Array Bool} {op:Op} {ty:TypeId} {pos:String} {aft:Array Edge} {v:Value} (hi:ops[i]?=some ⟨some d,op,ty,pos,aft,none⟩) (hn:Region.noSelect ops=true) (hf:Region.free .any ops listed i=true) (hr:(Region.ready .any ops listed).contains i=true)
    (hs:St n L a) (hS:S w) (h:Ok P S L ⟨some d,op,ty,pos,aft,none⟩ v) (hd:Nat.blt d n=true)
    (k:∀ a',St n ((d,v)::L) a'->wpAnyH P .any ops (NP Q) S fuel (listed.setIfInBounds i true) a' w):wpAnyH P .any ops (NP Q) S (fuel+1) listed a w :=
  wpAnyH_take (v:=v) hi hn hf hr (fun c a w q=>q.elim) (.inl ⟨by simp [Region.wanted],fun w' hw'=>h _ hs.evs w' hw'⟩) hS (k _ (hs.put hd))
theorem bU {i fuel:Nat} {listed:Array Bool} {o:Oper} (hr:Region.ready .any ops listed=[i]) (hi:ops[i]?=some o)
    (h:wpList P ops (Exit.then (fun a' w'=>S w'/\wpAnyH P .any ops (NP Q) S fuel (listed.setIfInBounds i true) a' w') (NP Q)) [o] a w):wpAnyH P .any ops (NP Q) S (fuel+1) listed a w:=by
  refine wpAnyH_all hr (by simp) fun j hj=>?_
  simp only[List.mem_singleton] at hj
  subst hj
  unfold wpOp
  simp only[hi]
  unfold wpList at h
  by_cases hw:Region.wanted o (yielded ops a.tmps)=true
  · rw[if_pos hw] at h ⊢
    rcases h with h|h
    · refine .inl ?_
      unfold Oper.wp Oper.upon at h ⊢
      exact h
    · exact .inr h
  · rw[if_neg hw] at h ⊢
    exact h
theorem dC {fuel:Nat} {listed:Array Bool} (hr:Region.ready .any ops listed=[]) (h:Q .normal a w):wpAnyH P .any ops (NP Q) S fuel listed a w:=by
  cases fuel with
  | zero=>exact⟨hr,h⟩
  | succ f=>exact⟨fun _=>h,by rw[hr];simp⟩
end
/-! ### 19. Guarded operations; a cut in a list of operations -/
inductive Spl {α:Type}:List α->List α->List α->Prop
  | n {l:List α}:Spl [] l l
  | c {x:α} {l1 l2 l:List α}:Spl l1 l2 l->Spl (x::l1) l2 (x::l)
theorem Spl.eq {α:Type} {l1 l2 l:List α} (h:Spl l1 l2 l):l=l1++l2:=by
  induction h with
  | n=>rfl
  | c _ ih=>rw[ih];rfl
section
variable {P:Program} {ops:Array Oper} {Q:Exit->Act->World->Prop} {rest:List Oper} {n:Nat} {L:List (Nat×Value)} {a:Act} {w w0:World} {C:World->Prop}
theorem aE4 (M:Act->World->Prop):∀ (l1 l2:List Oper) (a:Act) (w:World),wpList P ops (Exit.then M Q) l1 a w->(∀ a w,M a w->wpList P ops Q l2 a w)->wpList P ops Q (l1++l2) a w
  | [],l2,a,w,h,k=>k a w h
  | o::l1,l2,a,w,h,k=>by
    simp only[List.cons_append]
    unfold wpList at h ⊢
    have hmono:∀ a w,wpList P ops (Exit.then M Q) l1 a w->wpList P ops Q (l1++l2) a w:=fun a w h=>aE4 M l1 l2 a w h k
    by_cases hw:Region.wanted o (yielded ops a.tmps)=true
    · rw[if_pos hw] at h ⊢
      rcases h with h|⟨h1,h2⟩
      · refine .inl ?_
        have h3:o.wp P a w (wpList P ops (Exit.then M Q) l1) Q:=by
          unfold Oper.wp Oper.upon at h ⊢
          exact h
        exact Oper.wp_mono hmono h3
      · exact .inr ⟨h1,h2⟩
    · rw[if_neg hw] at h ⊢
      exact hmono _ _ h
theorem zG {l1 l2 l:List Oper} (hp:Spl l1 l2 l) (M:Act->World->Prop) (h:wpList P ops (Exit.then M Q) l1 a w) (k:∀ a w,M a w->wpList P ops Q l2 a w):wpList P ops Q l a w:=by
  rw[hp.eq];exact aE4 M l1 l2 a w h k
theorem a02 {d:Nat} {op:Op} {ty:TypeId} {pos:String} {aft:Array Edge} {j:Nat} {want b:Bool} {t:Nat} (hs:St n L a) (hj:(ops[j]?).bind (·.dst)=some t) (ht:lk L t=some (.bool b)) (hb:b = !want) (hd:Nat.blt d n=true)
    (k:∀ a',St n ((d,undef)::L) a'->wpList P ops Q rest a' w):wpList P ops Q (⟨some d,op,ty,pos,aft,some (j,want)⟩::rest) a w:=by
  refine wpList_step fun K hK=>?_
  have hy:Region.wanted ⟨some d,op,ty,pos,aft,some (j,want)⟩ (yielded ops a.tmps)=false:=by
    simp only[Region.wanted,yielded,hj,Option.bind_some,hs.at_ t _ ht,hb]
    cases want <;> simp
  rw[if_neg (by rw[hy];simp)]
  exact hK _ _ (k _ (hs.put hd))
theorem aW1 {d:Nat} {op:Op} {ty:TypeId} {pos:String} {aft:Array Edge} {j:Nat} {want:Bool} {t:Nat} (hs:St n L a) (hj:(ops[j]?).bind (·.dst)=some t) (ht:lk L t=some undef) (hd:Nat.blt d n=true)
    (k:∀ a',St n ((d,undef)::L) a'->wpList P ops Q rest a' w):wpList P ops Q (⟨some d,op,ty,pos,aft,some (j,want)⟩::rest) a w:=by
  refine wpList_step fun K hK=>?_
  have hy:Region.wanted ⟨some d,op,ty,pos,aft,some (j,want)⟩ (yielded ops a.tmps)=false:=by
    simp [Region.wanted,yielded,hj,Option.bind_some,hs.at_ t _ ht,undef]
  rw[if_neg (by rw[hy];simp)]
  exact hK _ _ (k _ (hs.put hd))
theorem a1K {d:Nat} {op:Op} {ty:TypeId} {pos:String} {aft:Array Edge} {v:Value} {j:Nat} {want b:Bool} {t:Nat} (hs:St n L a) (hj:(ops[j]?).bind (·.dst)=some t) (ht:lk L t=some (.bool b)) (hb:b=want) (m:C w)
    (h:Ok P C L ⟨some d,op,ty,pos,aft,some (j,want)⟩ v) (hd:Nat.blt d n=true)
    (k:∀ a',St n ((d,v)::L) a'->wpList P ops Q rest a' w):wpList P ops Q (⟨some d,op,ty,pos,aft,some (j,want)⟩::rest) a w:=by
  refine wpList_step fun K hK=>?_
  have hy:Region.wanted ⟨some d,op,ty,pos,aft,some (j,want)⟩ (yielded ops a.tmps)=true:=by
    simp only[Region.wanted,yielded,hj,Option.bind_some,hs.at_ t _ ht,hb]
    simp
  rw[if_pos hy]
  unfold Oper.wp
  rw[h _ hs.evs w m]
  exact hK _ _ (k _ (hs.put hd))
theorem sL {w0:World} {R:Hh} {Ps:List HP} {d:Nat} {c:Operand} {xs:List Operand} {tys:Array TypeId} {ty:TypeId} {pos:String} {aft:Array Edge} {f:FuncId} {first cap vs us:List Value} {v:Value} {j:Nat} {want b:Bool} {t:Nat}
    (hs:St n L a) (hj:(ops[j]?).bind (·.dst)=some t) (ht:lk L t=some (.bool b)) (hb:b=want) (m:Hp w0 R Ps w) (hc:ev L c=some (.func (.func f) ⟨first⟩ ⟨cap⟩)) (hx:evs L xs=some vs) (hf:bL P f=true) (hu:first++vs++cap=us) (h:iL P f us v w) (hd:Nat.blt d n=true)
    (k:∀ w',Hp w0 R Ps w'->∀ a',St n ((d,v)::L) a'->wpList P ops Q rest a' w'):wpList P ops Q (⟨some d,.call ⟨.value c,⟨xs⟩,tys⟩,ty,pos,aft,some (j,want)⟩::rest) a w:=by
  refine wpList_step fun K hK=>?_
  have hy:Region.wanted ⟨some d,.call ⟨.value c,⟨xs⟩,tys⟩,ty,pos,aft,some (j,want)⟩ (yielded ops a.tmps)=true:=by
    simp only[Region.wanted,yielded,hj,Option.bind_some,hs.at_ t _ ht,hb]
    simp
  rw[if_pos hy]
  unfold Oper.wp
  subst hu
  rw[aBK hs.evs hc hx hf w]
  simp only[Oper.upon]
  refine Calls.mono h fun e w' ⟨he,hm⟩=>?_
  subst he
  exact hK _ _ (k w' (m.after hm) _ (hs.put hd))
end
section
variable {P:Program} {ops:Array Oper} {Q:Act->Prop} {rest:List Oper} {n:Nat} {L:List (Nat×Value)} {a:Act} {C:World->Prop}
theorem aC1 (M:Act->Prop):∀ (l1 l2:List Oper) (a:Act),wpQuiet P ops C M l1 a->(∀ a,M a->wpQuiet P ops C Q l2 a)->wpQuiet P ops C Q (l1++l2) a
  | [],l2,a,h,k=>k a h
  | o::l1,l2,a,h,k=>by
    simp only[List.cons_append]
    unfold wpQuiet at h ⊢
    have hmono:∀ a,wpQuiet P ops C M l1 a->wpQuiet P ops C Q (l1++l2) a:=fun a h=>aC1 M l1 l2 a h k
    by_cases hw:Region.wanted o (yielded ops a.tmps)=true
    · rw[if_pos hw] at h ⊢
      exact Oper.quiet_mono hmono h
    · rw[if_neg hw] at h ⊢
      exact hmono _ h
theorem oU {l1 l2 l:List Oper} (hp:Spl l1 l2 l) (M:Act->Prop) (h:wpQuiet P ops C M l1 a) (k:∀ a,M a->wpQuiet P ops C Q l2 a):wpQuiet P ops C Q l a:=by
  rw[hp.eq];exact aC1 M l1 l2 a h k
theorem a1G {d:Nat} {op:Op} {ty:TypeId} {pos:String} {aft:Array Edge} {j:Nat} {want b:Bool} {t:Nat} (hs:St n L a) (hj:(ops[j]?).bind (·.dst)=some t) (ht:lk L t=some (.bool b)) (hb:b = !want) (hd:Nat.blt d n=true)
    (k:∀ a',St n ((d,undef)::L) a'->wpQuiet P ops C Q rest a'):wpQuiet P ops C Q (⟨some d,op,ty,pos,aft,some (j,want)⟩::rest) a:=by
  refine wpQuiet_step fun K hK=>?_
  have hy:Region.wanted ⟨some d,op,ty,pos,aft,some (j,want)⟩ (yielded ops a.tmps)=false:=by
    simp only[Region.wanted,yielded,hj,Option.bind_some,hs.at_ t _ ht,hb]
    cases want <;> simp
  rw[if_neg (by rw[hy];simp)]
  exact hK _ (k _ (hs.put hd))
theorem aXV {d:Nat} {op:Op} {ty:TypeId} {pos:String} {aft:Array Edge} {j:Nat} {want:Bool} {t:Nat} (hs:St n L a) (hj:(ops[j]?).bind (·.dst)=some t) (ht:lk L t=some undef) (hd:Nat.blt d n=true)
    (k:∀ a',St n ((d,undef)::L) a'->wpQuiet P ops C Q rest a'):wpQuiet P ops C Q (⟨some d,op,ty,pos,aft,some (j,want)⟩::rest) a:=by
  refine wpQuiet_step fun K hK=>?_
  have hy:Region.wanted ⟨some d,op,ty,pos,aft,some (j,want)⟩ (yielded ops a.tmps)=false:=by
    simp [Region.wanted,yielded,hj,Option.bind_some,hs.at_ t _ ht,undef]
  rw[if_neg (by rw[hy];simp)]
  exact hK _ (k _ (hs.put hd))
theorem a1F {d:Nat} {op:Op} {ty:TypeId} {pos:String} {aft:Array Edge} {v:Value} {j:Nat} {want b:Bool} {t:Nat} (hs:St n L a) (hj:(ops[j]?).bind (·.dst)=some t) (ht:lk L t=some (.bool b)) (hb:b=want)
    (h:Ok P C L ⟨some d,op,ty,pos,aft,some (j,want)⟩ v) (hd:Nat.blt d n=true)
    (k:∀ a',St n ((d,v)::L) a'->wpQuiet P ops C Q rest a'):wpQuiet P ops C Q (⟨some d,op,ty,pos,aft,some (j,want)⟩::rest) a:=by
  refine wpQuiet_step fun K hK=>?_
  have hy:Region.wanted ⟨some d,op,ty,pos,aft,some (j,want)⟩ (yielded ops a.tmps)=true:=by
    simp only[Region.wanted,yielded,hj,Option.bind_some,hs.at_ t _ ht,hb]
    simp
  rw[if_pos hy]
  refine⟨v,fun w hw=>?_,hK _ (k _ (hs.put hd))⟩
  unfold Oper.quietAt
  rw[h _ hs.evs w hw]
  exact⟨rfl,rfl⟩
theorem jI {w0:World} {R:Hh} {Ps:List HP} {d:Nat} {c:Operand} {xs:List Operand} {tys:Array TypeId} {ty:TypeId} {pos:String} {aft:Array Edge} {f:FuncId} {first cap vs us:List Value} {v:Value} {j:Nat} {want b:Bool} {t:Nat}
    (hs:St n L a) (hj:(ops[j]?).bind (·.dst)=some t) (ht:lk L t=some (.bool b)) (hb:b=want) (hc:ev L c=some (.func (.func f) ⟨first⟩ ⟨cap⟩)) (hx:evs L xs=some vs) (hf:bL P f=true) (hu:first++vs++cap=us) (h:∀ w,Hp w0 R Ps w->iL P f us v w) (hd:Nat.blt d n=true)
    (k:∀ a',St n ((d,v)::L) a'->wpQuiet P ops (Hp w0 R Ps) Q rest a'):wpQuiet P ops (Hp w0 R Ps) Q (⟨some d,.call ⟨.value c,⟨xs⟩,tys⟩,ty,pos,aft,some (j,want)⟩::rest) a:=by
  refine wpQuiet_step fun K hK=>?_
  have hy:Region.wanted ⟨some d,.call ⟨.value c,⟨xs⟩,tys⟩,ty,pos,aft,some (j,want)⟩ (yielded ops a.tmps)=true:=by
    simp only[Region.wanted,yielded,hj,Option.bind_some,hs.at_ t _ ht,hb]
    simp
  rw[if_pos hy]
  subst hu
  refine⟨v,fun w hw=>?_,hK _ (k _ (hs.put hd))⟩
  unfold Oper.quietAt
  rw[aBK hs.evs hc hx hf w]
  exact⟨rfl,(h w hw).mono fun e w' ⟨he,hm⟩=>⟨he,hw.after hm⟩⟩
end
end Go.Proofs.YtnbpodjbemfpbaaGreat.Fw
set_option linter.unusedVariables false
set_option linter.all false
namespace Go.Proofs.YtnbpodjbemfpbaaGreat.Fw
open Go
inductive LK where
  | i (k:IntKind)
  | b
  | s
  deriving DecidableEq
def LK.fits:LK->Value->Bool
  | .i k,.int k' _=>k==k'
  | .b,.bool _=>true
  | .s,.string _=>true
  | _,_=>false
def gK:List LK->List Value->Bool
  | [],[]=>true
  | k::ks,v::vs=>k.fits v&&gK ks vs
  | _,_=>false
def eq1:Value->Value->Bool
  | .int _ a,.int _ b=>a==b
  | .bool a,.bool b=>a==b
  | .string a,.string b=>a==b
  | _,_=>false
def nY:List Value->List Value->Bool
  | x::xs,y::ys=>eq1 x y&&nY xs ys
  | [],[]=>true
  | _,_=>false
def goF (P:Program) (lv:TypeId->Option (List LK)):List Field->Nat->Option (List LK)
  | [],_=>some []
  | f::fs,o=>match lv f.type,kJ P f.type,goF P lv fs (o+((lv f.type).getD []).length) with
    | some ks, some (_, m), some rs => if f.name == "_" || f.offset != o || ks.length != m then none else some (ks ++ rs)
    | _,_,_=>none
def vS (P:Program):Nat->TypeId->Option (List LK)
  | 0,_=>none
  | d+1,T=>match P.underlying T with
    | some (.int k)=>some [.i k]
    | some .bool=>some [.b]
    | some .string=>some [.s]
    | some (.struct fs)=>if P.stoodInHeld T then none else goF P (vS P d) fs.toList 0
    | some (.array n e)=>match vS P d e,kJ P e with
      | some ks,some (_,m)=>if ks.length==m then some (List.replicate n ks).flatten else none
      | _,_=>none
    | _=>none
theorem kT:∀ {ks:List LK} {vs:List Value},gK ks vs=true->vs.length=ks.length
  | [],[],_=>rfl
  | k::ks,v::vs,h=>by
    simp only[gK,Bool.and_eq_true] at h
    simp [kT h.2]
  | [],_::_,h=>by simp [gK] at h
  | _::_,[],h=>by simp [gK] at h
theorem pM:∀ {ks rs:List LK} {vs:List Value},gK (ks++rs) vs=true->gK ks (vs.take ks.length)=true/\gK rs (vs.drop ks.length)=true
  | [],rs,vs,h=>by simpa [gK] using h
  | k::ks,rs,[],h=>by simp [gK] at h
  | k::ks,rs,v::vs,h=>by
    simp only[List.cons_append,gK,Bool.and_eq_true] at h
    have:=pM h.2
    simp [gK,h.1,this]
theorem zT:∀ (n:Nat) {xs ys:List Value},xs.length=ys.length->nY xs ys=(nY (xs.take n) (ys.take n)&&nY (xs.drop n) (ys.drop n))
  | 0,xs,ys,h=>by simp [nY]
  | n+1,[],[],h=>by simp [nY]
  | n+1,x::xs,y::ys,h=>by
    simp only[List.take_succ_cons,List.drop_succ_cons,nY]
    rw[zT n (by simpa using h)]
    cases eq1 x y <;> simp
def xK (P:Program) (T:TypeId) (vs:List Value) (v:Value):Prop:=match kJ P T with
  | some (true,_)=>v= .agg ⟨vs⟩
  | some (false,_)=>vs=[v]
  | none=>False
theorem aBL {P:Program} {T:TypeId} {ag:Bool} {m o:Nat} (ht:kJ P T=some (ag,m)) {cs:List Value} (hl:o+m<=cs.length) (h1:ag=false->m=1) (w:World):∃ v,(part T ⟨cs⟩ o).run P w= .ok v w/\xK P T ((cs.drop o).take m) v:=by
  cases ag with
  | true =>
    refine⟨.agg ⟨(cs.drop o).take m⟩,?_,by simp [xK,ht]⟩
    have e:(⟨cs⟩:Array Value).extract o (o+m)=⟨(cs.drop o).take m⟩:=by
      apply Array.ext'
      simp [List.extract_eq_take_drop]
    simp [part,bind,Sem.run_bind',rW ht,gW ht,pure,Sem.run,Result.andThen]
  | false =>
    have hm:=h1 rfl
    subst hm
    have hlt:o<cs.length:=by omega
    refine⟨cs[o],?_,?_⟩
    · simp [part,bind,Sem.run_bind',rW ht,pure,Sem.run,Result.andThen,hlt]
    · simp only[xK,ht]
      rw[List.drop_eq_getElem_cons hlt,List.take_succ_cons,List.take_zero]
theorem aBA {P:Program} {d:Nat} {T:TypeId} {ks:List LK} {m:Nat} (h:vS P d T=some ks) (ht:kJ P T=some (false,m)):ks.length=1:=by
  obtain⟨D,i,h1,h2,h3,h4⟩:=uE ht
  cases d with
  | zero=>simp [vS] at h
  | succ d =>
    unfold vS at h
    rw[h1] at h
    cases D <;> simp_all [aM2] <;> (subst h;rfl)
theorem aJI {P:Program} (w:World):∀ (d:Nat) (T:TypeId) (ks:List LK),vS P d T=some ks->∀ (xs ys:List Value) (x y:Value),gK ks xs=true->gK ks ys=true->xK P T xs x->xK P T ys y->∀ e,(Op.equalIn (d+e) T x y).run P w= .ok (nY xs ys) w:=by
  intro d
  induction d with
  | zero=>intro T ks h;simp [vS] at h
  | succ d ih =>
    intro T ks h xs ys x y hx hy ax ay e
    rw[show d+1+e=(d+e)+1 from by omega]
    unfold vS at h
    cases hu:P.underlying T with
    | none=>rw[hu] at h;cases h
    | some D =>
      rw[hu] at h
      have haggF:∀ vs v,xK P T vs v->aM2 D=false->vs=[v]:=by
        intro vs v hv hD
        unfold xK at hv
        cases ht:kJ P T with
        | none=>simp [ht] at hv
        | some am =>
          obtain⟨ag,m⟩:=am
          obtain⟨D',i,h1,h2,h3,h4⟩:=uE ht
          rw[hu] at h1
          simp only[Option.some.injEq] at h1
          subst h1
          rw[hD] at h3
          subst h3
          simpa [ht] using hv
      have haggT:∀ vs v,xK P T vs v->aM2 D=true->v= .agg ⟨vs⟩:=by
        intro vs v hv hD
        unfold xK at hv
        cases ht:kJ P T with
        | none=>simp [ht] at hv
        | some am =>
          obtain⟨ag,m⟩:=am
          obtain⟨D',i,h1,h2,h3,h4⟩:=uE ht
          rw[hu] at h1
          simp only[Option.some.injEq] at h1
          subst h1
          rw[hD] at h3
          subst h3
          simpa [ht] using hv
      cases D with
      | int k =>
        simp only[Option.some.injEq] at h
        subst h
        obtain rfl:=haggF _ _ ax rfl
        obtain rfl:=haggF _ _ ay rfl
        cases x <;> simp [gK,LK.fits] at hx
        cases y <;> simp [gK,LK.fits] at hy
        subst hx;subst hy
        simp [Op.equalIn,bind,Sem.run_bind',run_underlying hu,Result.andThen,nY,eq1,pure,Sem.run]
      | bool =>
        simp only[Option.some.injEq] at h
        subst h
        obtain rfl:=haggF _ _ ax rfl
        obtain rfl:=haggF _ _ ay rfl
        cases x <;> simp [gK,LK.fits] at hx
        cases y <;> simp [gK,LK.fits] at hy
        simp [Op.equalIn,bind,Sem.run_bind',run_underlying hu,Result.andThen,nY,eq1,pure,Sem.run]
      | string =>
        simp only[Option.some.injEq] at h
        subst h
        obtain rfl:=haggF _ _ ax rfl
        obtain rfl:=haggF _ _ ay rfl
        cases x <;> simp [gK,LK.fits] at hx
        cases y <;> simp [gK,LK.fits] at hy
        simp [Op.equalIn,bind,Sem.run_bind',run_underlying hu,Result.andThen,nY,eq1,pure,Sem.run]
      | struct fs =>
        simp only at h
        by_cases hst:P.stoodInHeld T=true
        · simp [hst] at h
        · simp only[hst,if_false,Bool.false_eq_true] at h
          obtain rfl:=haggT _ _ ax rfl
          obtain rfl:=haggT _ _ ay rfl
          -- the fields, from one on
          have key:∀ (l:List Field) (o:Nat) (rs:List LK),goF P (vS P d) l o=some rs->∀ (pre pre' us vs:List Value),pre.length=o->pre'.length=o->gK rs us=true->gK rs vs=true ->
              (forIn (m:=Sem) l ((none,()):Option Bool×Unit) (fun f r =>
                if f.name ≠ "_" then do
                  if !(<-Op.equalIn (d+e) f.type (<-part f.type ⟨pre++us⟩ f.offset) (<-part f.type ⟨pre'++vs⟩ f.offset)) then pure (ForInStep.done (some false,())) else pure (ForInStep.yield (none,()))
                else pure (ForInStep.yield (none,())))).run P w= .ok (if nY us vs then (none,()) else (some false,())) w:=by
            intro l
            induction l with
            | nil =>
              intro o rs hrs pre pre' us vs _ _ hu1 hv1
              simp only[goF,Option.some.injEq] at hrs
              subst hrs
              have e1:us=[]:=List.eq_nil_of_length_eq_zero (by simpa using kT hu1)
              have e2:vs=[]:=List.eq_nil_of_length_eq_zero (by simpa using kT hv1)
              subst e1;subst e2
              simp [nY,pure,Sem.run]
            | cons f l ihl =>
              intro o rs hrs pre pre' us vs hp hp' hu1 hv1
              simp only[goF] at hrs
              cases hk:vS P d f.type with
              | none=>simp [hk] at hrs
              | some kf =>
                cases ht:kJ P f.type with
                | none=>simp [hk,ht] at hrs
                | some am =>
                  obtain⟨ag,m⟩:=am
                  cases hg:goF P (vS P d) l (o+kf.length) with
                  | none=>simp [hk,ht,hg] at hrs
                  | some rr =>
                    simp only[hk,ht,Option.getD_some,hg] at hrs
                    by_cases hc : (f.name == "_" || f.offset != o || kf.length != m) = true
                    · rw[if_pos hc] at hrs;cases hrs
                    · rw[if_neg hc] at hrs
                      simp only[Option.some.injEq] at hrs
                      subst hrs
                      simp only[Bool.or_eq_true,bne_iff_ne,beq_iff_eq,not_or,ne_eq,Decidable.not_not] at hc
                      obtain⟨⟨hn,ho⟩,hm⟩:=hc
                      have fu:=pM hu1
                      have fv:=pM hv1
                      have lu:=kT hu1
                      have lv:=kT hv1
                      simp only[List.length_append] at lu lv
                      have h1m:ag=false->m=1:=fun e=>by subst e;rw[<-hm];exact aBA hk ht
                      obtain⟨a1,r1,g1⟩:=aBL ht (o:=f.offset) (cs:=pre++us) (by simp;omega) h1m w
                      obtain⟨a2,r2,g2⟩:=aBL ht (o:=f.offset) (cs:=pre'++vs) (by simp;omega) h1m w
                      rw[ho,<-hp,List.drop_left,<-hm] at g1
                      rw[ho,<-hp',List.drop_left,<-hm] at g2
                      have re:=ih f.type kf hk _ _ a1 a2 fu.1 fv.1 g1 g2 e
                      have rest:=ihl (o+kf.length) rr hg (pre++us.take kf.length) (pre'++vs.take kf.length) (us.drop kf.length) (vs.drop kf.length) (by simp;omega) (by simp;omega) fu.2 fv.2
                      simp only[List.append_assoc,List.take_append_drop] at rest
                      rw[List.forIn_cons,if_pos hn,Sem.run_bind,Sem.run_bind,r1]
                      simp only[Result.andThen]
                      rw[Sem.run_bind,r2]
                      simp only[Result.andThen]
                      rw[Sem.run_bind,re]
                      simp only[Result.andThen]
                      rw[zT kf.length (by omega:us.length=vs.length)]
                      cases hb:nY (us.take kf.length) (vs.take kf.length) with
                      | false=>simp [pure,Sem.run]
                      | true =>
                        simp only[Bool.not_true,Bool.false_eq_true,if_false,pure,Sem.run,Bool.true_and]
                        exact rest
          have:=key fs.toList 0 ks h [] [] xs ys rfl rfl hx hy
          simp only[List.nil_append] at this
          unfold Op.equalIn
          rw[Sem.run_bind,run_underlying hu]
          simp only[Result.andThen]
          rw[Sem.run_bind,show (program).run P w= .ok P w from rfl]
          simp only[Result.andThen,hst,Bool.false_eq_true,if_false]
          rw[<-Array.forIn_toList,Sem.run_bind,this]
          simp only[Result.andThen]
          cases nY xs ys <;> simp [pure,Sem.run]
      | array n el =>
        simp only at h
        cases hk:vS P d el with
        | none=>simp [hk] at h
        | some kf =>
          cases ht:kJ P el with
          | none=>simp [hk,ht] at h
          | some am =>
            obtain⟨ag,m⟩:=am
            simp only[hk,ht] at h
            by_cases hm:(kf.length==m)=true
            · rw[if_pos hm] at h
              simp only[Option.some.injEq] at h
              subst h
              have hm':kf.length=m:=by simpa using hm
              obtain rfl:=haggT _ _ ax rfl
              obtain rfl:=haggT _ _ ay rfl
              have h1m:ag=false->m=1:=fun e=>by subst e;rw[<-hm'];exact aBA hk ht
              have key:∀ (c i:Nat),∀ (pre pre' us vs:List Value),pre.length=i*m->pre'.length=i*m->gK (List.replicate c kf).flatten us=true->gK (List.replicate c kf).flatten vs=true ->
                  (forIn (m:=Sem) (List.range' i c) ((none,()):Option Bool×Unit) (fun j r=>do
                      if !(<-Op.equalIn (d+e) el (<-part el ⟨pre++us⟩ (j*m)) (<-part el ⟨pre'++vs⟩ (j*m))) then pure (ForInStep.done (some false,())) else pure (ForInStep.yield (none,())))).run P w= .ok (if nY us vs then (none,()) else (some false,())) w:=by
                intro c
                induction c with
                | zero =>
                  intro i pre pre' us vs _ _ hu1 hv1
                  have e1:us=[]:=List.eq_nil_of_length_eq_zero (by simpa using kT hu1)
                  have e2:vs=[]:=List.eq_nil_of_length_eq_zero (by simpa using kT hv1)
                  subst e1;subst e2
                  simp [nY,pure,Sem.run]
                | succ c ihc =>
                  intro i pre pre' us vs hp hp' hu1 hv1
                  rw[List.replicate_succ,List.flatten_cons] at hu1 hv1
                  have fu:=pM hu1
                  have fv:=pM hv1
                  have lu:=kT hu1
                  have lv:=kT hv1
                  rw[List.length_append] at lu lv
                  obtain⟨a1,r1,g1⟩:=aBL ht (o:=i*m) (cs:=pre++us) (by rw[List.length_append];omega) h1m w
                  obtain⟨a2,r2,g2⟩:=aBL ht (o:=i*m) (cs:=pre'++vs) (by rw[List.length_append];omega) h1m w
                  rw[<-hp,List.drop_left,<-hm'] at g1
                  rw[<-hp',List.drop_left,<-hm'] at g2
                  have re:=ih el kf hk _ _ a1 a2 fu.1 fv.1 g1 g2 e
                  have rest:=ihc (i+1) (pre++us.take kf.length) (pre'++vs.take kf.length) (us.drop kf.length) (vs.drop kf.length) (by rw[List.length_append,List.length_take,Nat.add_mul];omega) (by rw[List.length_append,List.length_take,Nat.add_mul];omega) fu.2 fv.2
                  simp only[List.append_assoc,List.take_append_drop] at rest
                  rw[List.range'_succ,List.forIn_cons,Sem.run_bind,Sem.run_bind,r1]
                  simp only[Result.andThen]
                  rw[Sem.run_bind,r2]
                  simp only[Result.andThen]
                  rw[Sem.run_bind,re]
                  simp only[Result.andThen]
                  rw[zT kf.length (by omega:us.length=vs.length)]
                  cases hb:nY (us.take kf.length) (vs.take kf.length) with
                  | false=>simp [pure,Sem.run]
                  | true =>
                    simp only[Bool.not_true,Bool.false_eq_true,if_false,pure,Sem.run,Bool.true_and]
                    exact rest
              have:=key n 0 [] [] xs ys (by simp) (by simp) hx hy
              simp only[List.nil_append] at this
              unfold Op.equalIn
              rw[Sem.run_bind,run_underlying hu]
              simp only[Result.andThen]
              rw[Sem.run_bind,gW ht]
              simp only[Result.andThen,Std.Legacy.Range.forIn_eq_forIn_range',Std.Legacy.Range.size,Nat.sub_zero,Nat.add_sub_cancel,Nat.div_one]
              rw[Sem.run_bind,this]
              simp only[Result.andThen]
              cases nY xs ys <;> simp [pure,Sem.run]
            · rw[if_neg hm] at h;cases h
      | _=>simp at h
/-! the operation -/
theorem aYZ (s t:ByteArray):(s==t)=true ↔ s=t:=by
  constructor
  · intro h
    have:s.data==t.data:=h
    cases s;cases t
    simp_all
  · intro h;subst h
    show (s.data==s.data)=true
    simp
theorem tS:∀ {ks:List LK} {xs ys:List Value},gK ks xs=true->gK ks ys=true->(nY xs ys=true ↔ xs=ys)
  | [],[],[],_,_=>by simp [nY]
  | k::ks,x::xs,y::ys,hx,hy=>by
    simp only[gK,Bool.and_eq_true] at hx hy
    have ih:=tS hx.2 hy.2
    simp only[nY,Bool.and_eq_true,ih,List.cons.injEq]
    have:eq1 x y=true ↔ x=y:=by
      have h1:=hx.1
      have h2:=hy.1
      cases k with
      | i kk =>
        cases x <;> simp only[LK.fits,Bool.false_eq_true] at h1
        cases y <;> simp only[LK.fits,Bool.false_eq_true] at h2
        have e1:=eq_of_beq h1
        have e2:=eq_of_beq h2
        subst e1;subst e2
        simp [eq1]
      | b =>
        cases x <;> simp only[LK.fits,Bool.false_eq_true] at h1
        cases y <;> simp only[LK.fits,Bool.false_eq_true] at h2
        simp [eq1]
      | s =>
        cases x <;> simp only[LK.fits,Bool.false_eq_true] at h1
        cases y <;> simp only[LK.fits,Bool.false_eq_true] at h2
        simp only[eq1,aYZ,Value.string.injEq]
    rw[this]
  | [],[],_::_,_,h=>by simp [gK] at h
  | [],_::_,_,h,_=>by simp [gK] at h
  | _::_,[],_,h,_=>by simp [gK] at h
  | _::_,_::_,[],_,h=>by simp [gK] at h
structure EqT (P:Program) (T:TypeId) (ks:List LK):Prop where
  lf:vS P 100 T=some ks
  ag:(kJ P T).map (·.1)=some true
  gd:P.eqGuardType P.depth T=false
section
variable {P:Program} {C:World->Prop} {L:List (Nat×Value)} {d:Option Tmp} {ty:TypeId} {pos:String} {aft:Array Edge} {g:Option (Nat×Bool)}
theorem aF8 {T:TypeId} {ks:List LK} (h:EqT P T ks) {xs ys:List Value} (hx:gK ks xs=true) (hy:gK ks ys=true) (w:World):(Op.equal T (.agg ⟨xs⟩) (.agg ⟨ys⟩)).run P w= .ok (nY xs ys) w:=by
  have hag:∀ vs,xK P T vs (.agg ⟨vs⟩):=by
    intro vs
    have:=h.ag
    unfold xK
    cases ht:kJ P T with
    | none=>simp [ht] at this
    | some am =>
      obtain⟨a,m⟩:=am
      simp only[ht,Option.map_some,Option.some.injEq] at this
      subst this
      rfl
  exact aJI w 100 T ks h.lf xs ys _ _ hx hy (hag xs) (hag ys) 9900
theorem aF9 {T:TypeId} {ks:List LK} (h:EqT P T ks) (op:BinOp) (x y:Operand) (xs ys:List Value) (w:World):(eqGuard op T x y (.agg ⟨xs⟩) (.agg ⟨ys⟩)).run P w= .ok () w:=by
  unfold eqGuard
  have:=h.gd
  cases op <;> simp [program,bind,Sem.bind,Sem.run,pure,this]
theorem mP {T T':TypeId} {ks:List LK} {x y:Operand} {xs ys:List Value} {b:Bool} (hx:ev L x=some (.agg ⟨xs⟩)) (hy:ev L y=some (.agg ⟨ys⟩)) (h:EqT P T ks) (h1:gK ks xs=true) (h2:gK ks ys=true) (hb:b=true ↔ xs=ys) :
    Ok P C L ⟨d,.binOp .eql T x y T',ty,pos,aft,g⟩ (.bool b):=fun ρ ha w _=>by
  have e:nY xs ys=b:=by
    rw[Bool.eq_iff_iff,tS h1 h2,hb]
  have r1:=aF9 h .eql x y xs ys w
  have r2:=aF8 h h1 h2 w
  simp [execOp,ha x _ hx,ha y _ hy,bind,Sem.run_bind',r1,binOp,r2,e,pure,Sem.run,Result.andThen]
theorem sS {T T':TypeId} {ks:List LK} {x y:Operand} {xs ys:List Value} {b:Bool} (hx:ev L x=some (.agg ⟨xs⟩)) (hy:ev L y=some (.agg ⟨ys⟩)) (h:EqT P T ks) (h1:gK ks xs=true) (h2:gK ks ys=true) (hb:b=true ↔ xs=ys) :
    Ok P C L ⟨d,.binOp .neq T x y T',ty,pos,aft,g⟩ (.bool (!b)):=fun ρ ha w _=>by
  have e:nY xs ys=b:=by
    rw[Bool.eq_iff_iff,tS h1 h2,hb]
  have r1:=aF9 h .neq x y xs ys w
  have r2:=aF8 h h1 h2 w
  simp [execOp,ha x _ hx,ha y _ hy,bind,Sem.run_bind',r1,binOp,r2,e,pure,Sem.run,Result.andThen]
theorem aEV {T:TypeId} (h:P.underlying T=some .bool) (a b:Bool) (w:World):(Op.equal T (.bool a) (.bool b)).run P w= .ok (a==b) w:=by
  show (Op.equalIn (9999+1) T (.bool a) (.bool b)).run P w=_
  unfold Op.equalIn
  rw[Sem.run_bind,run_underlying h]
  rfl
theorem oJ {T T':TypeId} {x y:Operand} {a b:Bool} (hx:ev L x=some (.bool a)) (hy:ev L y=some (.bool b)) (h:P.underlying T=some .bool):Ok P C L ⟨d,.binOp .eql T x y T',ty,pos,aft,g⟩ (.bool (a==b)):=fun ρ ha w _=>by
  have r2:=aEV h a b w
  simp [execOp,ha x _ hx,ha y _ hy,bind,Sem.run_bind',eqGuard,binOp,r2,pure,Sem.run,Result.andThen]
theorem tY {T T':TypeId} {x y:Operand} {a b:Bool} (hx:ev L x=some (.bool a)) (hy:ev L y=some (.bool b)) (h:P.underlying T=some .bool):Ok P C L ⟨d,.binOp .neq T x y T',ty,pos,aft,g⟩ (.bool (a !=b)):=fun ρ ha w _=>by
  have r2:=aEV h a b w
  simp [execOp,ha x _ hx,ha y _ hy,bind,Sem.run_bind',eqGuard,binOp,r2,pure,Sem.run,Result.andThen,bne]
end
end Go.Proofs.YtnbpodjbemfpbaaGreat.Fw
set_option linter.unusedVariables false
set_option linter.all false
namespace Go.Proofs.YtnbpodjbemfpbaaGreat.Fw
open Go
/-! ### 20. The header turned -/
def hG (x:SH) (n:Nat):SH:=⟨x.a,n,x.c⟩
theorem aUY (x:SH) (n:Nat):(hG x n).c=x.c:=rfl
theorem aE3 (x:SH) (i n:Nat):hG (hG x i) n=hG x n:=rfl
theorem Sv.un {k:Nat} {E:TypeId} {x:SH} {ds:List (List Value)} {h:Hh} (s:Sv k E x.v ds h):((∀ d ∈ ds,d.length=k)/\ds.length<=140737488355328)/\x.n=ds.length /\
    ((x=nilH/\ds=[]/\h=aA0)\/∃ b off cs,x.a=some ⟨b,off,none⟩/\ds.length<=x.c/\off+x.c*k<=cs.length/\(cs.drop off).take (ds.length*k)=ds.flatten/\h=oQ b (.cells ⟨cs⟩ E (0,0))):=by
  obtain⟨h1,⟨e,rfl,rfl⟩|⟨b,off,cap,cs,e,h3,h4,h5,h6⟩⟩:=s
  · obtain⟨xa,xn,xc⟩:=x
    simp only[SH.v,Value.slice.injEq] at e
    obtain⟨rfl,rfl,rfl⟩:=e
    exact⟨h1,rfl,.inl ⟨rfl,rfl,rfl⟩⟩
  · obtain⟨xa,xn,xc⟩:=x
    simp only[SH.v,Value.slice.injEq] at e
    obtain⟨rfl,rfl,rfl⟩:=e
    exact⟨h1,rfl,.inr ⟨b,off,cs,rfl,h3,h4,h5,h6⟩⟩
theorem Sv.mk' {k:Nat} {E:TypeId} {x:SH} {ds:List (List Value)} {h:Hh} {b off:Nat} {cs:List Value} (h1:(∀ d ∈ ds,d.length=k)/\ds.length<=140737488355328) (hn:x.n=ds.length) (ha:x.a=some ⟨b,off,none⟩) (h2:ds.length<=x.c) (h3:off+x.c*k<=cs.length)
    (h4:(cs.drop off).take (ds.length*k)=ds.flatten) (h5:h=oQ b (.cells ⟨cs⟩ E (0,0))):Sv k E x.v ds h :=
  ⟨h1,.inr ⟨b,off,x.c,cs,by simp [SH.v,ha,hn],h2,h3,h4,h5⟩⟩
theorem aFR {k:Nat} {ds:List (List Value)} (hk:∀ d ∈ ds,d.length=k) {i:Nat} (hi:i<=ds.length):(ds.take i).flatten=ds.flatten.take (i*k):=by
  conv=>rhs;rw[<-List.take_append_drop i ds,List.flatten_append]
  have l1:(ds.take i).flatten.length=i*k:=by
    rw[lP (fun d hd=>hk d (List.mem_of_mem_take hd))];congr 1;simp;omega
  rw[<-l1,List.take_left]
theorem aNF {k:Nat} {ds:List (List Value)} (hk:∀ d ∈ ds,d.length=k) {i:Nat} (hi:i<=ds.length):(ds.drop i).flatten=ds.flatten.drop (i*k):=by
  conv=>rhs;rw[<-List.take_append_drop i ds,List.flatten_append]
  have l1:(ds.take i).flatten.length=i*k:=by
    rw[lP (fun d hd=>hk d (List.mem_of_mem_take hd))];congr 1;simp;omega
  rw[<-l1,List.drop_left]
section
variable {P:Program} {w0 w:World} {R:Hh} {Ps Qs:List HP} {k:Nat} {E:TypeId} {x:SH} {ds es:List (List Value)}
theorem Hp.shrink (m:Hp w0 R Ps w) {hi:Nat} (hP:Swp Ps (Sv k E x.v ds) (Sv k E (hG x hi).v (ds.take hi)) Qs) (hh':hi<=ds.length):Hp w0 R Qs w:=m.swp hP fun h s=>by
  obtain⟨h1,hn,⟨rfl,rfl,rfl⟩|⟨b,off,cs,ha,h2,h3,h4,h5⟩⟩:=s.un
  · simp only[List.length_nil,Nat.le_zero] at hh'
    subst hh'
    exact⟨by simpa using h1,.inl ⟨rfl,rfl,rfl⟩⟩
  · refine Sv.mk' (off:=off) (cs:=cs) (b:=b) ⟨fun d hd=>h1.1 d (List.mem_of_mem_take hd),by simp;omega⟩ (by simp [hG];omega) ha (by simp [hG];omega) h3 ?_ h5
    rw[aFR h1.1 hh',<-h4,List.take_take]
    congr 1
    rw[List.length_take,Nat.min_eq_left hh',Nat.min_eq_left (Nat.mul_le_mul_right k hh')]
theorem Hp.putOwn (m:Hp w0 R (Sv k E x.v ds::Ps) w) {ad:Addr} (ha:x.a=some ad) {lo:Nat} (hes:∀ e ∈ es,e.length=k) (ho:∀ e ∈ es,pW e=true) (hlo:lo<=ds.length) (hhi:lo+es.length<=x.c) (hb:lo+es.length<=140737488355328) :
    ∃ w',(storeCells (ad.add (lo*k)) es.flatten).run P w= .ok () w'/\Hp w0 R (Sv k E (hG x (max ds.length (lo+es.length))).v (ds.take lo++es++ds.drop (lo+es.length))::Ps) w':=by
  obtain⟨g,hg,gl,m1⟩:=m.exact
  obtain⟨h1,hn,⟨rfl,_,_⟩|⟨b,off,cs,ha',h2,h3,h4,rfl⟩⟩:=hg.un
  · cases ha
  rw[ha] at ha'
  simp only[Option.some.injEq] at ha'
  subst ha'
  have hbk:w.heap[b]?=some (.cells ⟨cs⟩ E (0,0)):=gl _ _ (by simp [oQ])
  have hesl:es.flatten.length=es.length*k:=lP hes
  have hdsl:ds.flatten.length=ds.length*k:=lP h1.1
  have hones:pW es.flatten=true:=by
    simp only[pW,List.all_eq_true,List.mem_flatten]
    rintro x ⟨e,he,hx⟩
    have:=ho e he
    simp only[pW,List.all_eq_true] at this
    exact this x hx
  have hmul:=Nat.mul_le_mul_right k hhi
  rw[Nat.add_mul] at hmul
  have hfit:off+lo*k+es.flatten.length<=cs.length:=by rw[hesl];omega
  obtain⟨w',k1,k2,k3,k4,k5⟩:=oV (P:=P) es.flatten w b (off+lo*k) 0 cs E hbk (by omega) hones
  refine⟨w',by rw[qM];exact k1,?_⟩
  have m3:=m1.block k2 k3 k4 k5
  have hlen:(ds.take lo++es++ds.drop (lo+es.length)).length=max ds.length (lo+es.length):=by
    simp;omega
  have hall:∀ d ∈ ds.take lo++es++ds.drop (lo+es.length),d.length=k:=by
    intro d hd
    simp only[List.mem_append] at hd
    rcases hd with (hd|hd)|hd
    · exact h1.1 d (List.mem_of_mem_take hd)
    · exact hes d hd
    · exact h1.1 d (List.mem_of_mem_drop hd)
  refine m3.swp s0 fun h hs=>Sv.mk' (off:=off) (cs:=lX cs (off+lo*k) es.flatten) (b:=b) ⟨hall,by rw[hlen];have:=h1.2;omega⟩ (by rw[hlen];rfl) ha (by rw[hlen];simp only[aUY];omega) (by rw[pE];exact h3) ?_ (by simpa using hs)
  rw[qY _ _ _ hfit,hlen]
  have e1:(cs.take (off+lo*k)).drop off=(ds.take lo).flatten:=by
    rw[List.drop_take,aFR h1.1 hlo,<-h4,List.take_take,Nat.min_eq_left (Nat.mul_le_mul_right k hlo)]
    congr 1;omega
  have e0:off<=(cs.take (off+lo*k)).length:=by simp;omega
  rw[List.append_assoc,List.drop_append_of_le_length e0,e1,List.flatten_append,List.flatten_append,<-List.append_assoc]
  have l1:((ds.take lo).flatten++es.flatten).length=(lo+es.length)*k:=by
    rw[List.length_append,lP (fun d hd=>h1.1 d (List.mem_of_mem_take hd)),hesl,Nat.add_mul,List.length_take,Nat.min_eq_left hlo]
  have hN:(lo+es.length)*k<=max ds.length (lo+es.length)*k:=Nat.mul_le_mul_right k (by omega)
  rw[List.take_append,l1,List.take_of_length_le (by rw[l1];exact hN)]
  congr 1
  rw[hesl,<-Nat.sub_mul]
  by_cases hc:lo+es.length<=ds.length
  · rw[aNF h1.1 hc,<-h4,List.drop_take,List.drop_drop,Nat.max_eq_left hc,Nat.sub_mul]
    congr 2
    rw[Nat.add_mul];omega
  · rw[Nat.max_eq_right (by omega),List.drop_eq_nil_of_le («as»:=ds) (i:=lo+es.length) (by omega),Nat.sub_self]
    simp
theorem Hp.putRoom (m:Hp w0 R (Sv k E x.v ds::Ps) w) {ad:Addr} (ha:x.a=some ad) {lo z:Nat} {vs:List Value} (hvs:vs.length=z*k) (ho:pW vs=true) (hlo:ds.length<=lo) (hhi:lo+z<=x.c) :
    ∃ w',(storeCells (ad.add (lo*k)) vs).run P w= .ok () w'/\Hp w0 R (Sv k E x.v ds::Ps) w':=by
  obtain⟨g,hg,gl,m1⟩:=m.exact
  obtain⟨h1,hn,⟨rfl,_,_⟩|⟨b,off,cs,ha',h2,h3,h4,rfl⟩⟩:=hg.un
  · cases ha
  rw[ha] at ha'
  simp only[Option.some.injEq] at ha'
  subst ha'
  have hbk:w.heap[b]?=some (.cells ⟨cs⟩ E (0,0)):=gl _ _ (by simp [oQ])
  have hmul:=Nat.mul_le_mul_right k hhi
  rw[Nat.add_mul] at hmul
  have hfit:off+lo*k+vs.length<=cs.length:=by rw[hvs];omega
  obtain⟨w',k1,k2,k3,k4,k5⟩:=oV (P:=P) vs w b (off+lo*k) 0 cs E hbk (by omega) ho
  refine⟨w',by rw[qM];exact k1,?_⟩
  have m3:=m1.block k2 k3 k4 k5
  refine m3.swp s0 fun h hs=>Sv.mk' (off:=off) (cs:=lX cs (off+lo*k) vs) (b:=b) h1 hn ha h2 (by rw[pE];exact h3) ?_ (by simpa using hs)
  rw[qY _ _ _ hfit,<-h4]
  have hml:=Nat.mul_le_mul_right k hlo
  rw[List.append_assoc,List.drop_append_of_le_length (by simp;omega),List.drop_take,List.take_append_of_le_length (by simp;omega),List.take_take]
  congr 1;omega
end
/-! ### 21. Copies, clears, appends that fit -/
theorem aC5 {P:Program} {w:World} {k n:Nat} {v:Value} {es:List (List Value)} (r:∃ a lu c,v= .slice a lu c/\RdS (hh w) k (.slice a es.length c) es) (hn:n=es.length):(Builtin.firstCells k n v).run P w= .ok ⟨es.flatten⟩ w:=by
  obtain⟨a,lu,c,rfl,r⟩:=r
  subst hn
  have:=nK (P:=P) r
  cases a <;> simpa [Builtin.firstCells] using this
section
variable {P:Program} {ops:Array Oper} {Q:Exit->Act->World->Prop} {rest:List Oper} {n:Nat} {L:List (Nat×Value)} {a:Act} {w w0:World} {R:Hh} {Ps Qs:List HP}
  {d:Nat} {ty:TypeId} {pos:String} {aft:Array Edge} {k:Nat} {E:TypeId} {x:SH} {ds es:List (List Value)}
theorem Hp.copyInto (m:Hp w0 R (Sv k E x.v ds::Ps) w) {T T2:TypeId} {ag:Bool} {v u:Value} {lo dl:Nat} (hT:uX P T=some E) (hE:kJ P E=some (ag,k)) (hv:v= .slice (x.a.map (·.add (lo*k))) dl (x.c-lo))
    (hu:∃ a lu c,u= .slice a lu c/\es.length=min lu dl/\RdS (hh w) k (.slice a es.length c) es) (ho:∀ e ∈ es,pW e=true) (hlo:lo<=ds.length) (hhi:lo+es.length<=x.c) (hb:lo+es.length<=140737488355328) :
    ∃ w',(Builtin.copy_ #[T,T2] ty #[v,u]).run P w= .ok (.int .i64 es.length) w'/\Hp w0 R (Sv k E (hG x (max ds.length (lo+es.length))).v (ds.take lo++es++ds.drop (lo+es.length))::Ps) w':=by
  obtain⟨ua,lu,uc,rfl,hl,hr⟩:=hu
  subst hv
  have hfc:=aC5 (P:=P) (w:=w) (k:=k) (n:=min lu dl) (v:=.slice ua lu uc) ⟨ua,lu,uc,rfl,hr⟩ hl.symm
  have hlen:(Builtin.lenOf (.slice ua lu uc)).run P w= .ok lu w:=by simp [Builtin.lenOf,pure,Sem.run]
  cases hxa:x.a with
  | none =>
    obtain⟨g,hg,gl,m1⟩:=m.exact
    obtain⟨h1,hn,⟨rfl,rfl,rfl⟩|⟨b,off,cs,ha',h2,h3,h4,rfl⟩⟩:=hg.un
    · simp only[List.length_nil,Nat.le_zero] at hlo
      subst hlo
      have he:es=[]:=List.eq_nil_of_length_eq_zero (by have:nilH.c=0:=rfl;omega)
      subst he
      have hz:min lu dl=0:=by simpa using hl.symm
      have hz':Nat.min lu dl=0:=hz
      refine⟨w,?_,by simpa [hG,nilH] using m⟩
      rw[hz] at hfc
      simp [Builtin.copy_,bind,Sem.run_bind',run_underlying (jY hT),Result.andThen,pure,Sem.run,hlen,gW hE,hfc,hz',goInt]
    · rw[hxa] at ha';cases ha'
  | some ad =>
    obtain⟨w',k1,k2⟩:=m.putOwn (P:=P) hxa (fun e he=>hr.1 e he) ho hlo hhi hb
    refine⟨w',?_,k2⟩
    have hl':Nat.min lu dl=es.length:=hl.symm
    rw[<-hl] at hfc
    simp [Builtin.copy_,bind,Sem.run_bind',run_underlying (jY hT),Result.andThen,pure,Sem.run,hlen,gW hE,hl',hfc,goInt,k1]
theorem aXX {T T2:TypeId} {ag:Bool} {o1 o2:Operand} {v u:Value} {lo dl:Nat} (hs:St n L a) (m:Hp w0 R Ps w) (hx:ev L o1=some v) (hy:ev L o2=some u) (hT:uX P T=some E) (hE:kJ P E=some (ag,k)) (hP:Rem Ps (Sv k E x.v ds) Qs)
    (hv:v= .slice (x.a.map (·.add (lo*k))) dl (x.c-lo)) (hu:∃ a lu c,u= .slice a lu c/\es.length=min lu dl/\RdS (hh w) k (.slice a es.length c) es) (ho:∀ e ∈ es,pW e=true) (hlo:lo<=ds.length) (hhi:lo+es.length<=x.c) (hb:lo+es.length<=140737488355328) (hd:Nat.blt d n=true)
    (kk:∀ w',Hp w0 R (Sv k E (hG x (max ds.length (lo+es.length))).v (ds.take lo++es++ds.drop (lo+es.length))::Qs) w'->∀ a',St n ((d,.int .i64 es.length)::L) a'->wpList P ops Q rest a' w') :
    wpList P ops Q (⟨some d,.call ⟨.builtin .copy,#[o1,o2],#[T,T2]⟩,ty,pos,aft,none⟩::rest) a w:=by
  obtain⟨w',h1,h2⟩:=(m.front hP).copyInto (P:=P) (T:=T) (T2:=T2) (ty:=ty) hT hE hv hu ho hlo hhi hb
  refine pO rfl rfl hs hd (v:=.int .i64 es.length) (w':=w') ?_ (kk w' h2)
  simp [execOp,resolve,invoke,builtin,hs.evs o1 _ hx,hs.evs o2 _ hy,bind,Sem.run_bind',h1,pure,Sem.run,Result.andThen]
theorem aJC {T T2:TypeId} {ag:Bool} {o1 o2:Operand} {u:Value} (hs:St n L a) (m:Hp w0 R Ps w) (hx:ev L o1=some x.v) (hy:ev L o2=some u) (hT:uX P T=some E) (hT2:qW P T2=true) (hE:kJ P E=some (ag,k)) (hP:Rem Ps (Sv k E x.v ds) Qs)
    (hu:RdS (hh w) k u es) (ho:∀ e ∈ es,pW e=true) (hlen:ds.length+es.length<=x.c) (hb:ds.length+es.length<=140737488355328) (hd:Nat.blt d n=true)
    (kk:∀ w',Hp w0 R (Sv k E (hG x (ds.length+es.length)).v (ds++es)::Qs) w'->∀ a',St n ((d,(hG x (ds.length+es.length)).v)::L) a'->wpList P ops Q rest a' w') :
    wpList P ops Q (⟨some d,.call ⟨.builtin .append,#[o1,o2],#[T,T2]⟩,ty,pos,aft,none⟩::rest) a w:=by
  obtain⟨D2,hD2,hD2n⟩:=aCS hT2
  have hlu:(Builtin.lenOf u).run P w= .ok es.length w:=by
    obtain⟨_,_,a,cap,rfl,_⟩:=hu
    simp [Builtin.lenOf,pure,Sem.run]
  have m1:=m.front hP
  have hn:x.n=ds.length:=by
    obtain⟨g,hg,gl⟩:=m1.look r0
    exact hg.un.2.1
  have hrun:=yF (P:=P) (w:=w) (T:=T) (T2:=T2) (ty:=ty) (n:=x.n) (cap:=x.c) (base:=x.a) (jY hT) hD2 hD2n hE hlu (nK hu) (by omega)
  cases hxa:x.a with
  | none =>
    rw[hxa] at hrun
    obtain⟨g,hg,gl,m2⟩:=m1.exact
    obtain⟨h1,_,⟨rfl,rfl,rfl⟩|⟨b,off,cs,ha',_,_,_,rfl⟩⟩:=hg.un
    · have he:es=[]:=List.eq_nil_of_length_eq_zero (by have:nilH.c=0:=rfl;simp only[List.length_nil] at hlen;omega)
      subst he
      refine pO rfl rfl hs hd (w':=w) ?_ (kk w (by simpa [hG,nilH] using m1))
      simp [execOp,resolve,invoke,builtin,hs.evs o1 _ hx,hs.evs o2 _ hy,bind,Sem.run_bind',pure,Sem.run,Result.andThen,SH.v,nilH,hG] at hrun ⊢
      simp [hrun]
    · rw[hxa] at ha';cases ha'
  | some ad =>
    rw[hxa] at hrun
    obtain⟨w',k1,k2⟩:=m1.putOwn (P:=P) hxa (fun e he=>hu.1 e he) ho (Nat.le_refl _) hlen hb
    have e1:max ds.length (ds.length+es.length)=ds.length+es.length:=by omega
    rw[e1,List.take_of_length_le (Nat.le_refl _),List.drop_eq_nil_of_le (by omega),List.append_nil] at k2
    refine pO rfl rfl hs hd (w':=w') ?_ (kk w' k2)
    rw[<-hn] at k1
    simp only[Sem.run_bind',k1,Result.andThen,Sem.run] at hrun
    simp [execOp,resolve,invoke,builtin,hs.evs o1 _ hx,hs.evs o2 _ hy,bind,Sem.run_bind',pure,Sem.run,Result.andThen,SH.v,hxa,hG,hn] at hrun ⊢
    simp [hrun]
theorem zO {z:Array Value} {k n:Nat} (h:z.size=k):(Builtin.zeroCells z n).toList.length=n*k:=by
  simp [Builtin.zeroCells,h]
theorem aE7 {zs:List Value} {n:Nat} (h:pW zs=true):pW (Builtin.zeroCells ⟨zs⟩ n).toList=true:=by
  simp only[pW,List.all_eq_true] at h ⊢
  intro v hv
  simp only[Builtin.zeroCells,Array.toList_map,List.mem_map] at hv
  obtain⟨i,hi,rfl⟩:=hv
  by_cases hz:zs.length=0
  · have:zs=[]:=List.eq_nil_of_length_eq_zero hz
    subst this
    simp at hi
  · have hlt:i % zs.length<zs.length:=Nat.mod_lt _ (by omega)
    apply h
    simp [getElem!_def,hlt]
theorem aCM {o:Oper} {v:Value} {w':World} (hg:o.guard=none) (hdst:o.dst=none) (hs:St n L a) (hr:(execOp a.eval o).run P w= .ok (.value v) w')
    (k:wpList P ops Q rest a w'):wpList P ops Q (o::rest) a w:=by
  refine wpList_plain hg fun K hK=>?_
  unfold Oper.wp
  rw[hr]
  simp only[Oper.upon,hdst]
  exact hK _ _ k
theorem aJD {T:TypeId} {ag:Bool} {o1:Operand} {v:Value} {lo z:Nat} {zs:List Value} (hs:St n L a) (m:Hp w0 R Ps w) (hx:ev L o1=some v) (hT:uX P T=some E) (hE:kJ P E=some (ag,k)) (hz:uO P E=some zs) (hzl:zs.length=k) (hzo:pW zs=true) (hP:Rem Ps (Sv k E x.v ds) Qs)
    (hv:v= .slice (x.a.map (·.add (lo*k))) z (x.c-lo)) (hlo:ds.length<=lo) (hhi:lo+z<=x.c)
    (kk:∀ w',Hp w0 R (Sv k E x.v ds::Qs) w'->wpList P ops Q rest a w') :
    wpList P ops Q (⟨none,.call ⟨.builtin .clear,#[o1],#[T]⟩,ty,pos,aft,none⟩::rest) a w:=by
  subst hv
  obtain⟨zv,hz1,hz2⟩:=yM hz w
  have m1:=m.front hP
  cases hxa:x.a with
  | none =>
    rw[hxa] at hx
    refine aCM rfl rfl hs (v:=.tuple #[]) (w':=w) ?_ (kk w m1)
    simp [execOp,resolve,invoke,builtin,Builtin.clear_,hs.evs o1 _ hx,bind,Sem.run_bind',pure,Sem.run,Result.andThen,run_underlying (jY hT)]
  | some ad =>
    rw[hxa] at hx
    cases z with
    | zero =>
      refine aCM rfl rfl hs (v:=.tuple #[]) (w':=w) ?_ (kk w m1)
      simp [execOp,resolve,invoke,builtin,Builtin.clear_,hs.evs o1 _ hx,bind,Sem.run_bind',pure,Sem.run,Result.andThen,run_underlying (jY hT)]
    | succ z =>
      have e1:=zO (z:=zv.cells) (k:=k) (n:=z+1) (by rw[hz2];simpa using hzl)
      have e2:pW (Builtin.zeroCells zv.cells (z+1)).toList=true:=by rw[hz2];exact aE7 hzo
      obtain⟨w',k1,k2⟩:=m1.putRoom (P:=P) hxa e1 e2 hlo hhi
      refine aCM rfl rfl hs (v:=.tuple #[]) (w':=w') ?_ (kk w' k2)
      simp [execOp,resolve,invoke,builtin,Builtin.clear_,hs.evs o1 _ hx,bind,Sem.run_bind',pure,Sem.run,Result.andThen,run_underlying (jY hT),hz1,k1]
end
end Go.Proofs.YtnbpodjbemfpbaaGreat.Fw
set_option linter.unusedVariables false
set_option linter.all false
namespace Go.Proofs.YtnbpodjbemfpbaaGreat.Fw
open Go
/-! ### 22. Windows -/
def kX (k:Nat) (x:SH) (lo hi mx:Nat):SH:=⟨if mx=lo then x.a else x.a.map (·.add (lo*k)),hi-lo,mx-lo⟩
theorem aJR (k:Nat) (x:SH) (lo hi:Nat):zD k x lo hi=kX k x lo hi x.c:=rfl
theorem aBY (a:Addr):a.add 0=a:=rfl
theorem aRB (k:Nat) (x:SH) (hi:Nat):zD k x 0 hi=hG x hi:=by
  obtain⟨a,n,c⟩:=x
  cases a <;> simp [zD,hG,aBY]
theorem aMT {k:Nat} {x:SH} {lo hi:Nat} (h:lo<x.c):(zD k x lo hi).v= .slice (x.a.map (·.add (lo*k))) (hi-lo) (x.c-lo):=by
  simp [zD,SH.v,show ¬ x.c=lo by omega]
theorem mW {P:Program} (K:IntKind) (r y:Nat) (code:BoundsCode) (u:World) (h:r<=y):(Instr.sliceBound (.int K (r:Int)) y code).run P u= .ok r u:=by
  have:((0:Int)<=(r:Int)/\(r:Int)<=(y:Int)):=by omega
  simp [Instr.sliceBound,asIntOf,bind,Sem.run_bind',pure,Sem.run,Result.andThen,h]
section
variable {P:Program} {C:World->Prop} {L:List (Nat×Value)} {d:Option Tmp} {ty:TypeId} {pos:String} {aft:Array Edge} {g:Option (Nat×Bool)}
theorem cE {T E:TypeId} {ag:Bool} {k:Nat} {o:Operand} {lo hi mx:Option Operand} {x:SH} {i j c:Nat} (hx:ev L o=some x.v) (hT:uX P T=some E) (hE:kJ P E=some (ag,k))
    (hlo:bnd L lo 0 i) (hhi:bnd L hi x.n j) (hmx:bnd L mx x.c c) (hm:hi=none->mx=none) (h1:i<=j) (h2:j<=c) (h3:c<=x.c):Ok P C L ⟨d,.slice T o lo hi mx,ty,pos,aft,g⟩ (kX k x i j c).v:=fun ρ ha w' hw'=>by
  have hT':=jY hT
  have hfin:∀ u:World,(Instr.sliceBounds true x.n x.c (lo.map ρ) (hi.map ρ) (mx.map ρ)).run P u= .ok (i,j,c) u:=by
    intro u
    cases mx with
    | none =>
      simp only[bnd] at hmx
      subst hmx
      cases hi with
      | none =>
        simp only[bnd] at hhi
        subst hhi
        cases lo with
        | none =>
          simp only[bnd] at hlo
          subst hlo
          simp [Instr.sliceBounds,bind,Sem.run_bind',pure,Sem.run,Result.andThen]
        | some o1 =>
          obtain⟨K,hK⟩:=hlo
          simp [Instr.sliceBounds,bind,Sem.run_bind',pure,Sem.run,Result.andThen,ha o1 _ hK,mW K i x.n _ u h1]
      | some o2 =>
        obtain⟨K',hK'⟩:=hhi
        cases lo with
        | none =>
          simp only[bnd] at hlo
          subst hlo
          simp [Instr.sliceBounds,bind,Sem.run_bind',pure,Sem.run,Result.andThen,ha o2 _ hK',mW K' j x.c _ u h2]
        | some o1 =>
          obtain⟨K,hK⟩:=hlo
          simp [Instr.sliceBounds,bind,Sem.run_bind',pure,Sem.run,Result.andThen,ha o1 _ hK,mW K i j _ u h1,ha o2 _ hK',mW K' j x.c _ u h2]
    | some o3 =>
      obtain⟨K3,hK3⟩:=hmx
      cases hi with
      | none=>cases hm rfl
      | some o2 =>
        obtain⟨K',hK'⟩:=hhi
        cases lo with
        | none =>
          simp only[bnd] at hlo
          subst hlo
          simp [Instr.sliceBounds,bind,Sem.run_bind',pure,Sem.run,Result.andThen,ha o2 _ hK',mW K' j c _ u h2,ha o3 _ hK3,mW K3 c x.c _ u h3]
        | some o1 =>
          obtain⟨K,hK⟩:=hlo
          simp [Instr.sliceBounds,bind,Sem.run_bind',pure,Sem.run,Result.andThen,ha o1 _ hK,mW K i j _ u h1,ha o2 _ hK',mW K' j c _ u h2,ha o3 _ hK3,mW K3 c x.c _ u h3]
  have hsl:(Instr.sliceAt T x.v (lo.map ρ) (hi.map ρ) (mx.map ρ)).run P w'= .ok (kX k x i j c).v w':=by
    simp only[SH.v,Instr.sliceAt,Instr.slice,bind,Sem.run_bind',run_underlying hT',Result.andThen,hfin,gW hE,pure,Sem.run,kX]
  simp only[execOp,ha o _ hx,bind,Sem.run_bind',Result.andThen,pure,Sem.run,hsl]
theorem aCU {T E:TypeId} {ag:Bool} {k n off:Nat} {o:Operand} {p:Addr} (hx:ev L o=some (.pointer (some (bK p off)))) (hT:arI P T=some (n,E)) (hE:kJ P E=some (ag,k)) :
    Ok P C L ⟨d,.slice T o none none none,ty,pos,aft,g⟩ (SH.v ⟨some (bK p off),n,n⟩):=fun ρ ha w' hw'=>by
  have hT':=vM hT
  have:(bK p off).add 0=bK p off:=rfl
  simp [execOp,ha o _ hx,Instr.sliceAt,Instr.sureAddr,Instr.sliceBounds,bind,Sem.run_bind',run_underlying hT',Result.andThen,gW hE,pure,Sem.run,SH.v,this]
theorem aEI {T E:TypeId} {o:Operand} {x:SH} (hx:ev L o=some x.v) (hT:uX P T=some E):Ok P C L ⟨d,.call ⟨.builtin .cap,#[o],#[T]⟩,ty,pos,aft,g⟩ (.int .i64 (x.c:Int)):=fun ρ ha w' hw'=>by
  simp [execOp,resolve,invoke,builtin,Builtin.cap_,ha o _ hx,bind,Sem.run_bind',run_underlying (jY hT),pure,Sem.run,Result.andThen,goInt,SH.v]
end
theorem aX1 {h:Hh} {p:Addr} {off n:Nat} {cs:List Value} (hc:CellsAt h p cs) (hl:off+n<=cs.length) (hb:n<=140737488355328):RdS h 1 (SH.v ⟨some (bK p off),n,n⟩) (((cs.drop off).take n).map fun v=>[v]):=by
  obtain⟨arr,T,fz,h1,h2⟩:=hc
  have hlen:((cs.drop off).take n).length=n:=by simp;omega
  refine⟨fun d hd=>by obtain⟨v,_,rfl⟩:=List.mem_map.1 hd;rfl,by rw[List.length_map,hlen];exact hb,some (bK p off),n,by rw[List.length_map,hlen];rfl,by rw[List.length_map,hlen];exact Nat.le_refl _,fun _=>⟨p.block,p.off+off,arr,T,fz,rfl,h1,?_⟩⟩
  have hf:∀ l:List Value,(l.map fun v=>[v]).flatten=l:=by
    intro l
    induction l with
    | nil=>rfl
    | cons a l ih=>simp [ih]
  rw[hf,List.length_map,hlen,Nat.mul_one,<-h2,List.drop_take,List.drop_drop,List.take_take]
  rw[Nat.min_eq_left (by omega)]
theorem Hp.ncap {w0 w:World} {R:Hh} {Ps Qs:List HP} {k:Nat} {E:TypeId} {x:SH} {ds:List (List Value)} (m:Hp w0 R Ps w) (h:Rem Ps (Sv k E x.v ds) Qs):x.n=ds.length/\x.n<=x.c:=by
  obtain⟨g,hg,gl⟩:=m.look h
  obtain⟨_,hn,⟨rfl,_,_⟩|⟨_,_,_,_,h2,_⟩⟩:=hg.un
  · exact⟨hn,Nat.le_refl _⟩
  · exact⟨hn,by omega⟩
theorem RdS.ncap {h:Hh} {k:Nat} {x:SH} {ds:List (List Value)} (r:RdS h k x.v ds):x.n=ds.length/\x.n<=x.c:=by
  obtain⟨_,_,a,c,e,h2,_⟩:=r
  simp only[SH.v,Value.slice.injEq] at e
  exact⟨e.2.1,by rw[e.2.1,e.2.2];exact h2⟩
/-! ### 23. Entries of the model's for Go's library -/
def entry (P : Program) (f : FuncId) (e : Array Value → Sem Value) : Prop := ∃ fn, P.funcs[f]? = some fn ∧ (fn.name == "runtime.NumGoroutine") = false ∧ fn.body.isNone = true ∧ Extern.findNext fn = none ∧ Extern.find fn = some e
theorem aNE {P:Program} {f:FuncId} {e:Array Value->Sem Value} (h:entry P f e) (args:Array Value) (w:World):(callFunc f args).run P w=((e args).run P w).andThen fun v w'=>.ok (.value v) w' :=
  let ⟨_,h1,h2,h3,h4,h5⟩:=h
  run_callFunc_extern h1 h2 h3 h4 h5 args w
section
variable {P:Program} {C:World->Prop} {L:List (Nat×Value)} {d:Option Tmp} {ty:TypeId} {pos:String} {aft:Array Edge} {g:Option (Nat×Bool)}
theorem vW {f:FuncId} {e:Array Value->Sem Value} {xs:List Operand} {vs:List Value} {tys:Array TypeId} {v:Value} (hf:entry P f e) (hx:evs L xs=some vs) (h:∀ w,C w->(e ⟨vs⟩).run P w= .ok v w) :
    Ok P C L ⟨d,.call ⟨.value (.func f),⟨xs⟩,tys⟩,ty,pos,aft,g⟩ v:=fun ρ ha w hw=>by
  have hm:∀ (os:List Operand) (us:List Value),evs L os=some us->os.map ρ=us:=by
    intro os
    induction os with
    | nil=>intro us h;simpa [evs] using h
    | cons o os ih =>
      intro us h
      simp only[evs] at h
      cases h1:ev L o with
      | none=>simp [h1] at h
      | some v =>
        cases h2:evs L os with
        | none=>simp [h1,h2] at h
        | some us' =>
          simp only[h1,h2,Option.some.injEq] at h
          subst h
          simp [ha o v h1,ih us' h2]
  have hm':=hm xs vs hx
  have hfv:=ha (.func f) _ rfl
  have hr:=aNE hf ⟨vs⟩ w
  rw[h w hw] at hr
  simp [execOp,resolve,Deferred.ofValue,hfv,invoke,bind,Sem.run_bind',pure,Sem.run,Result.andThen,hm'] at hr ⊢
  simp [hr]
end
theorem sJ {P:Program} {w0 w:World} {R:Hh} {Ps Qs Rs:List HP} {T U E E':TypeId} {ag:Bool} {k k' i j:Nat} {x y:SH} {xs ys:List (List Value)} (hT:uX P T=some E) (hE:kJ P E=some (ag,k)) (m:Hp w0 R Ps w) (h1:Rem Ps (Sv k' E' y.v ys) Qs) (h2:Rem Qs (Sv k E x.v xs) Rs) (hij:j<=x.c) :
    (Extern.SlicesOverlaps.overlaps #[T,T] #[U] #[y.v,(zD k x i j).v]).run P w= .ok (.bool false) w:=by
  have hT':=jY hT
  have hz:∀ w,(Go.sizeOf E).run P w= .ok k w:=fun w=>gW hE w
  obtain⟨h,s,dd,e⟩:=((m.perm h1.perm).perm (h2.perm.cons _)).heap
  obtain⟨g1,g2,_,⟨g3,g4,sy,⟨g5,g6,sx,_,d3,rfl⟩,d2,rfl⟩,d1,rfl⟩:=s
  have hw:∀ b o,(g3 b=some o\/g5 b=some o)->w.heap[b]?=some o:=by
    intro b o ho
    have:hh w b=some o:=by
      rw[e]
      rcases ho with ho|ho
      · exact aA1 (aA2 d1 (aA1 ho))
      · exact aA1 (aA2 d1 (aA2 d2 (aA1 ho)))
    exact this
  have triv:∀ (a b:Option Addr) (la ca lb cb:Nat),(a=none\/b=none\/lb=0\/k=0)->(Extern.SlicesOverlaps.overlaps #[T,T] #[U] #[.slice a la ca,.slice b lb cb]).run P w= .ok (.bool false) w:=by
    intro a b la ca lb cb hab
    have key:(Extern.SlicesOverlaps.overlaps #[T,T] #[U] #[.slice a la ca,.slice b lb cb]).run P w=(do
      let some t := (#[T, T] : Array TypeId)[0]? | stuck "slices.overlaps: no parameter types"
      let .slice elem ← underlying t | stuck "slices.overlaps: slice type expected"
      let size <-sizeOf elem
      match a,b with
      | some a,some b =>
        if la=0\/lb=0\/size=0 then pure (Value.bool false)
        else if a.block !=b.block&&(<-frozen a)&&(<-frozen b) then unsupported .addressObserved
        else do
          if a.block !=b.block then do
            Go.noView a;Go.noView b
            if ← mayBeOne a b then return Value.bool ((← choose (.extern "sameAddr.stringBytes" 2)) == 1)
          pure (Value.bool (a.block==b.block&&a.off<b.off+lb*size&&b.off<a.off+la*size))
      | _,_=>pure (Value.bool false):Sem Value).run P w:=rfl
    rw[key]
    cases a with
    | none=>simp [bind,Sem.run_bind',run_underlying hT',hz,Result.andThen,pure,Sem.run]
    | some a =>
      cases b with
      | none=>simp [bind,Sem.run_bind',run_underlying hT',hz,Result.andThen,pure,Sem.run]
      | some b =>
        have:lb=0\/k=0:=by simpa using hab
        simp [bind,Sem.run_bind',run_underlying hT',hz,Result.andThen,pure,Sem.run,this]
  have hy:y.v= .slice y.a y.n y.c:=rfl
  have hx:(zD k x i j).v= .slice (zD k x i j).a (zD k x i j).n (zD k x i j).c:=rfl
  rw[hy,hx]
  obtain⟨_,_,⟨rfl,_,_⟩|⟨b1,off1,cs1,ha1,hc1,_,_,rfl⟩⟩:=sy.un
  · exact triv _ _ _ _ _ _ (.inl rfl)
  obtain⟨hkx,_,⟨rfl,_,_⟩|⟨b2,off2,cs2,ha2,hc2,hf2,_,rfl⟩⟩:=sx.un
  · exact triv _ _ _ _ _ _ (.inr (.inl (by show (if 0=i then none else none)=none;by_cases h0:0=i <;> simp [h0])))
  by_cases hk0:k=0
  · exact triv _ _ _ _ _ _ (.inr (.inr (.inr hk0)))
  by_cases hc0:x.c=0
  · exact triv _ _ _ _ _ _ (.inr (.inr (.inl (by simp only[zD];omega))))
  have hb1:=hw b1 (.cells ⟨cs1⟩ E' (0,0)) (.inl (by simp [oQ]))
  have hb2:=hw b2 (.cells ⟨cs2⟩ E (0,0)) (.inr (by simp [oQ]))
  have hne:b1≠b2:=by
    intro hE
    subst hE
    have:=(gB.1 d2).1 b1
    simp [oQ] at this
  obtain⟨a2,ha2',hblk⟩:∃ a2,(zD k x i j).a=some a2/\a2.block=b2:=by
    simp only[zD,ha2]
    split
    · exact⟨_,rfl,rfl⟩
    · exact⟨_,rfl,by show (Addr.add ⟨b2,off2,none⟩ (i*k)).block=b2;rw[qM]⟩
  rw[ha1,ha2']
  have hsz:cs2.length≠0:=by
    have:0<x.c*k:=Nat.mul_pos (by omega) (by omega)
    omega
  refine Lib.run_overlaps_apart w T U E hT' k hz ⟨b1,off1,none⟩ a2 y.n y.c (zD k x i j).n (zD k x i j).c (by rw[hblk];exact hne) E' E cs1.length cs2.length ?_ ?_ hsz ?_ ?_
  · simp [World.shape?,hb1]
  · simp [World.shape?,hblk,hb2]
  · simp [World.frozen?,hb1]
  · simp [World.frozen?,hb1]
end Go.Proofs.YtnbpodjbemfpbaaGreat.Fw
set_option linter.unusedVariables false
set_option linter.all false
namespace Go.Proofs.YtnbpodjbemfpbaaGreat.Fw
open Go
theorem aSG {P:Program} {E:TypeId} {zs:List Value} {bytes:Nat} (hz:uO P E=some zs) (hb:byI P E=some bytes):∃ i,P.info? E=some i/\∃ z,i.zero=some z/\z.cells=⟨zs⟩/\i.bytes=bytes:=by
  unfold byI at hb
  unfold uO at hz
  cases hi:P.info? E with
  | none=>simp [hi] at hb
  | some i =>
    cases hz1:i.zero with
    | none=>simp [hi,hz1] at hz
    | some z =>
      simp only[hi,hz1,Option.bind_some,Option.map_some,Option.some.injEq] at hz
      exact⟨i,rfl,z,hz1,by rw[<-hz],by simpa [hi] using hb⟩
theorem aCG {P:Program} {w:World} {T T2 E ty:TypeId} {K:IntKind} {k n m cap:Nat} {base:Option Addr} {z:Value} {ag:Bool} {i:TypeInfo} {ds:Array Value}
    (hT:P.underlying T=some (.slice E)) (hT2:P.underlying T2=some (.int K)) (hE:kJ P E=some (ag,k)) (hi:P.info? E=some i) (hz:i.zero=some z)
    (hfv:(Builtin.firstCells k n (.slice base n cap)).run P w.drew= .ok ds w.drew)
    (hc:¬ n+m<=cap) (hm:0<m) (hk:0<k) (hlen:n+m<=140737488355328/\(2*(n+m)+192)*i.bytes<=281474976710656):∃ c,n+m<=c/\(Builtin.append_ #[T,T2] ty #[.slice base n cap,.int .i64 (m:Int)]).run P w =
      .ok (.slice (some ⟨w.heap.size,0,none⟩) (n+m) c) (w.drew.alloc (.cells (ds++Builtin.zeroCells z.cells m++Builtin.zeroCells z.cells (c-(n+m))) E)):=by
  have hnext:=aME (need:=n+m) (cap:=cap) (by omega)
  have h1:¬ 281474976710656<Builtin.nextslicecap (n+m) cap*i.bytes:=by
    have:Builtin.nextslicecap (n+m) cap*i.bytes<=(2*(n+m)+192)*i.bytes:=Nat.mul_le_mul hnext (Nat.le_refl _)
    omega
  have h2:¬ ((9223372036854775807:Int)<(n:Int)+(m:Int)):=by omega
  have hno:∀ c w',(askRoom c).run P w'= .ok () w':=fun c w'=>aCW c
  refine⟨(Question.appendCap (n+m) cap E).cut (w.tape w.drawn (Question.appendCap (n+m) cap E)),by simp [Question.cut],?_⟩
  have hty:∀ w,(typeInfo E).run P w= .ok i w:=fun w=>by simp [typeInfo,program,bind,Sem.bind,Sem.run,hi,pure]
  have hze:∀ w,(zeroValue E).run P w= .ok z w:=fun w=>by simp [zeroValue,typeInfo,program,bind,Sem.bind,Sem.run,hi,hz,pure]
  have hrow:∀ w' (cs:Array Value),(newRow E cs).run P w'= .ok ⟨w'.heap.size,0,none⟩ (w'.alloc (.cells cs E)):=fun w' cs=>rfl
  have hwr:IntKind.i64.wrap (m:Int)=(m:Int):=cJ (by omega) (by omega)
  have h3:¬ ((m:Int)*(i.bytes:Int)>281474976710656):=by
    have h0:m*i.bytes<=(2*(n+m)+192)*i.bytes:=Nat.mul_le_mul (by omega) (Nat.le_refl _)
    have h0':(m:Int)*(i.bytes:Int)=((m*i.bytes:Nat):Int):=by simp
    omega
  have h4:¬ (m*k=0):=by
    have:=Nat.mul_pos hm hk
    omega
  have h5:¬ (m=0\/k=0):=by omega
  have h6:¬ ((m:Int)<0):=by omega
  simp only[gt_iff_lt,Int.not_lt] at h3
  simp [Builtin.append_,bind,Sem.run_bind',run_underlying hT,run_underlying hT2,Result.andThen,gW hE,pure,Sem.run,hc,hty,h1,h2,hno,hfv,hze,hrow,Question.forced,asInt,asIntOf,hwr,h3,h4,h5,h6,Array.append_assoc]
  exact fun h=>absurd h (Int.not_lt.2 h3)
theorem aE6 {zs:List Value} {n:Nat}:(Builtin.zeroCells ⟨zs⟩ n).toList=(List.replicate n zs).flatten:=by
  induction n with
  | zero=>simp [Builtin.zeroCells]
  | succ n ih =>
    rw[List.replicate_succ',List.flatten_append,<-ih]
    simp only[Builtin.zeroCells,List.flatten_cons,List.flatten_nil,List.append_nil,Array.toList_map,Array.toList_range,List.size_toArray,Nat.add_mul,Nat.one_mul,List.range_add,List.map_append,List.map_map]
    congr 1
    apply List.ext_getElem
    · simp
    · intro i h1 h2
      have hlt:i<zs.length:=by simpa using h1
      simp [getElem!_def,Nat.add_mod,Nat.mod_eq_of_lt hlt,hlt]
section
variable {P:Program} {ops:Array Oper} {Q:Exit->Act->World->Prop} {rest:List Oper} {n:Nat} {L:List (Nat×Value)} {a:Act} {w w0:World} {R:Hh} {Ps Qs:List HP}
  {d:Nat} {ty:TypeId} {pos:String} {aft:Array Edge} {k:Nat} {E:TypeId} {x:SH} {ds es:List (List Value)}
theorem aNT {T T2:TypeId} {K:IntKind} {ag:Bool} {bytes i c:Nat} {o1 o2:Operand} {zs:List Value} (hs:St n L a) (m:Hp w0 R Ps w) (hx:ev L o1=some (hG x i).v) (hy:ev L o2=some (.int .i64 (c:Int))) (hT:uX P T=some E) (hT2:inI P T2=some K) (hE:kJ P E=some (ag,k))
    (hz:uO P E=some zs) (hzl:zs.length=k) (hb:byI P E=some bytes) (hbb:Nat.ble bytes 4096=true) (hk:Nat.ble 1 k=true) (hP:Rem Ps (Sv k E x.v ds) Qs)
    (hi:i<=ds.length) (hc:0<c) (hcap:x.c<i+c) (hlen:i+c<=140737488355328/\(2*(i+c)+192)*bytes<=281474976710656) (hd:Nat.blt d n=true)
    (kk:∀ (y:SH) w',y.n=i+c->i+c<=y.c->Hp w0 R (Sv k E y.v (ds.take i++List.replicate c zs)::Ps) w'->∀ a',St n ((d,y.v)::L) a'->wpList P ops Q rest a' w') :
    wpList P ops Q (⟨some d,.call ⟨.builtin .append,#[o1,o2],#[T,T2]⟩,ty,pos,aft,none⟩::rest) a w:=by
  obtain⟨ii,hii,z,hz1,hz2,hbi⟩:=aSG hz hb
  have hrd:RdS (hh w.drew) k x.v ds:=(m.rdv hP).le (aPQ _)
  have hrd':RdS (hh w.drew) k (hG x i).v (ds.take i):=by
    have:=hrd.subS (lo:=0) (hi:=i) (Nat.zero_le _) hi
    rw[<-aRC,aRB] at this
    simpa using this
  have hl:(ds.take i).length=i:=by simp;omega
  have hfv:=nK (P:=P) (w:=w.drew) hrd'
  rw[hl] at hfv
  obtain⟨cc,hc1,hrun⟩:=aCG (P:=P) (w:=w) (ty:=ty) (m:=c) (jY hT) (aA5 hT2) hE hii hz1 hfv (by rw[aUY];omega) hc (Nat.le_of_ble_eq_true hk) (by rw[hbi];exact hlen)
  have m2:=(m.drew).alloc (.cells ((⟨(ds.take i).flatten⟩:Array Value)++Builtin.zeroCells z.cells c++Builtin.zeroCells z.cells (cc-(i+c))) E)
  refine pO rfl rfl hs hd (v:=SH.v ⟨some ⟨w.heap.size,0,none⟩,i+c,cc⟩) (w':=w.drew.alloc (.cells ((⟨(ds.take i).flatten⟩:Array Value)++Builtin.zeroCells z.cells c++Builtin.zeroCells z.cells (cc-(i+c))) E)) ?_ (kk ⟨some ⟨w.heap.size,0,none⟩,i+c,cc⟩ _ rfl hc1 (m2.swp s0 fun h hs=>?_))
  · have e1:(hG x i).v= .slice x.a i x.c:=rfl
    have e2:(hG x i).a=x.a/\(hG x i).n=i/\(hG x i).c=x.c:=⟨rfl,rfl,rfl⟩
    rw[e1] at hx
    rw[e2.1,e2.2.2] at hrun
    simp [execOp,resolve,invoke,builtin,hs.evs o1 _ hx,hs.evs o2 _ hy,bind,Sem.run_bind',pure,Sem.run,Result.andThen,SH.v,hrun]
  · have hk1:=hrd.1
    have hall:∀ d ∈ ds.take i++List.replicate c zs,d.length=k:=by
      intro d hd
      rcases List.mem_append.1 hd with hd|hd
      · exact hk1 d (List.mem_of_mem_take hd)
      · rw[(List.mem_replicate.1 hd).2];exact hzl
    have hN:(ds.take i++List.replicate c zs).length=i+c:=by simp;omega
    have hfl:(ds.take i++List.replicate c zs).flatten.length=(i+c)*k:=by rw[lP hall,hN]
    refine Sv.mk' (b:=w.heap.size) (off:=0) (cs:=(ds.take i++List.replicate c zs).flatten++(Builtin.zeroCells z.cells (cc-(i+c))).toList) ⟨hall,by rw[hN];omega⟩ (by rw[hN]) rfl (by rw[hN];exact hc1) ?_ ?_ ?_
    · rw[List.length_append,hfl,zO (k:=k) (by rw[hz2];exact hzl),Nat.zero_add,<-Nat.add_mul]
      exact Nat.mul_le_mul_right k (by show cc<=_;omega)
    · rw[List.drop_zero,hN,<-hfl,List.take_left]
    · rw[hs]
      have:(⟨(ds.take i).flatten⟩:Array Value)++Builtin.zeroCells z.cells c++Builtin.zeroCells z.cells (cc-(i+c))=⟨(ds.take i++List.replicate c zs).flatten++(Builtin.zeroCells z.cells (cc-(i+c))).toList⟩:=by
        apply Array.ext'
        rw[List.flatten_append,hz2,<-aE6]
        simp
      rw[this]
      rfl
end
/-! ### 24. Stores into elements of a slice of the walk's own -/
theorem aIM {k:Nat}:∀ {ds:List (List Value)} {i:Nat} {d d':List Value},(∀ d ∈ ds,d.length=k)->ds[i]?=some d->d'.length=k->(ds.set i d').flatten=ds.flatten.take (i*k)++d'++ds.flatten.drop ((i+1)*k)
  | [],i,d,d',_,h,_=>by simp at h
  | e::ds,0,d,d',hk,h,hl=>by
    have:=hk e (by simp)
    simp [<-this]
  | e::ds,i+1,d,d',hk,h,hl=>by
    simp only[List.getElem?_cons_succ] at h
    have he:=hk e (by simp)
    have ih:=aIM (k:=k) (fun d hd=>hk d (by simp [hd])) h hl
    have e1:(i+1)*k=e.length+i*k:=by rw[he,Nat.add_mul];omega
    have e2:(i+1+1)*k=e.length+(i+1)*k:=by rw[he,Nat.add_mul];omega
    have k1:(e++ds.flatten).take ((i+1)*k)=e++ds.flatten.take (i*k):=by rw[e1,List.take_length_add_append]
    have k2:(e++ds.flatten).drop ((i+1+1)*k)=ds.flatten.drop ((i+1)*k):=by rw[e2,List.drop_length_add_append]
    rw[List.set_cons_succ,List.flatten_cons,ih,List.flatten_cons,k1,k2]
    simp only[List.append_assoc]
section
variable {P:Program} {ops:Array Oper} {Q:Exit->Act->World->Prop} {rest:List Oper} {n:Nat} {L:List (Nat×Value)} {a:Act} {w w0:World} {R:Hh} {Ps Qs:List HP}
  {d:Nat} {ty:TypeId} {pos:String} {aft:Array Edge} {k:Nat} {E:TypeId}
theorem Hp.setEl {x:SH} {ds:List (List Value)} (m:Hp w0 R (Sv k E x.v ds::Ps) w) {i:Nat} {p:Addr} {o sz:Nat} {T:TypeId} {ag:Bool} {e e' vs:List Value} {v:Value} (hp:aOO k x.v i p) (he:ds[i]?=some e) (ht:kJ P T=some (ag,sz)) (hv:v.cells=⟨vs⟩) (hn:vs.length=sz) (hl:o+sz<=k) (ho:pW vs=true) (hc:lX e o vs=e') :
    ∃ w',(storeVar T (bK p o) v).run P w= .ok () w'/\Hp w0 R (Sv k E x.v (ds.set i e')::Ps) w':=by
  obtain⟨g,hg,gl,m1⟩:=m.exact
  obtain⟨h1,hxn,⟨rfl,rfl,_⟩|⟨b,off,cs,ha,h2,h3,h4,rfl⟩⟩:=hg.un
  · simp at he
  obtain⟨a',n',c',e1,rfl⟩:=hp
  simp only[SH.v,Value.slice.injEq] at e1
  rw[ha] at e1
  simp only[Option.some.injEq] at e1
  obtain⟨rfl,_,_⟩:=e1
  have hlt:i<ds.length:=(List.getElem?_eq_some_iff.1 he).1
  have hel:e.length=k:=h1.1 e (List.mem_of_getElem? he)
  have hbk:w.heap[b]?=some (.cells ⟨cs⟩ E (0,0)):=gl _ _ (by simp [oQ])
  have hmul:(i+1)*k<=x.c*k:=Nat.mul_le_mul_right k (by omega)
  rw[Nat.add_mul] at hmul
  have hpo:bK (bK ⟨b,off,none⟩ (i*k)) o=⟨b,off+i*k+o,none⟩:=by simp [bK]
  obtain⟨w',k1,k2,k3,k4,k5⟩:=aBM (P:=P) (w:=w) ht (b:=b) (off:=off+i*k+o) (cs:=cs) hbk hv hn (by omega) ho
  refine⟨w',by rw[hpo];exact k1,?_⟩
  have m3:=m1.block k2 k3 k4 k5
  have hel':e'.length=k:=by rw[<-hc,pE,hel]
  refine m3.swp s0 fun h hs=>Sv.mk' (off:=off) (cs:=lX cs (off+i*k+o) vs) (b:=b) ⟨fun d hd=>?_,by simpa using h1.2⟩ (by simpa using hxn) ha (by simpa using h2) (by rw[pE];exact h3) ?_ (by simpa using hs)
  · rcases List.mem_or_eq_of_mem_set hd with hd|hd
    · exact h1.1 d hd
    · rw[hd];exact hel'
  · have hfc:=wQ h1.1 he
    have hmul2:(i+1)*k<=ds.length*k:=Nat.mul_le_mul_right k (by omega)
    rw[Nat.add_mul] at hmul2
    rw[aIM h1.1 he hel',<-h4,<-hc,List.length_set]
    rw[<-h4] at hfc
    have D:∀ D:List Value,ds.length*k<=D.length->(lX D (i*k+o) vs).take (ds.length*k)=(D.take (ds.length*k)).take (i*k)++lX (((D.take (ds.length*k)).drop (i*k)).take k) o vs++(D.take (ds.length*k)).drop ((i+1)*k):=by
      intro D hD
      have eD:D.take (ds.length*k)=(D.take (ds.length*k)).take (i*k)++((D.take (ds.length*k)).drop (i*k)).take k++(D.take (ds.length*k)).drop ((i+1)*k):=by
        rw[Nat.add_mul,Nat.one_mul,<-List.drop_drop,List.append_assoc,List.take_append_drop,List.take_append_drop]
      have l1:((D.take (ds.length*k)).take (i*k)).length=i*k:=by simp;omega
      have l2:(((D.take (ds.length*k)).drop (i*k)).take k).length=k:=by simp;omega
      rw[qY _ _ _ (by omega),qY _ _ _ (by omega)]
      generalize hA:(D.take (ds.length*k)).take (i*k)=A at *
      generalize hB:((D.take (ds.length*k)).drop (i*k)).take k=B at *
      generalize hC:(D.take (ds.length*k)).drop ((i+1)*k)=C at *
      have eD2:D=A++B++C++D.drop (ds.length*k):=by rw[<-eD,List.take_append_drop]
      have lC:(A++B++C).length=ds.length*k:=by rw[<-eD];simp;omega
      rw[eD2]
      have t1:(A++B++C++D.drop (ds.length*k)).take (i*k+o)=A++B.take o:=by
        rw[List.append_assoc,List.append_assoc,<-l1,List.take_length_add_append,List.take_append_of_le_length (by omega)]
      have t2:(A++B++C++D.drop (ds.length*k)).drop (i*k+o+vs.length)=B.drop (o+vs.length)++C++D.drop (ds.length*k):=by
        rw[List.append_assoc,List.append_assoc,<-l1,Nat.add_assoc,List.drop_length_add_append,List.drop_append_of_le_length (by omega),List.append_assoc]
      rw[t1,t2]
      have l3:(A++B.take o++vs++(B.drop (o+vs.length)++C)).length=ds.length*k:=by
        rw[<-lC];simp;omega
      rw[<-List.append_assoc (A++B.take o++vs),<-l3,List.take_left]
      simp [List.append_assoc]
    have hd2:(lX cs (off+i*k+o) vs).drop off=lX (cs.drop off) (i*k+o) vs:=by
      have l0:ds.length*k<=x.c*k:=Nat.mul_le_mul_right k h2
      rw[qY _ _ _ (by omega),qY _ _ _ (by simp;omega),List.append_assoc,List.drop_append_of_le_length (by simp;omega),List.drop_take,List.drop_drop,List.append_assoc]
      congr 2
      · omega
      · congr 1;omega
    rw[hd2,D _ (by simp;have:=Nat.mul_le_mul_right k h2;omega),hfc]
theorem rV {α:Type} {c:α->List Value} {x:SH} {xs:List α} {i:Nat} {p:Addr} {o sz:Nat} {T:TypeId} {ag:Bool} {e e':α} {vs:List Value} {v:Value} {o1 o2:Operand} (hs:St n L a) (m:Hp w0 R Ps w) (hx:ev L o1=some (.pointer (some (bK p o)))) (hy:ev L o2=some v) (hP:Rem Ps (Sv k E x.v (xs.map c)) Qs)
    (hp:aOO k x.v i p) (he:xs[i]?=some e) (ht:kJ P T=some (ag,sz)) (hv:v.cells=⟨vs⟩) (hn:vs.length=sz) (hl:Nat.ble (o+sz) k=true) (ho:pW vs=true) (hc:lX (c e) o vs=c e')
    (kk:∀ w',Hp w0 R (Sv k E x.v ((xs.set i e').map c)::Qs) w'->wpList P ops Q rest a w'):wpList P ops Q (⟨none,.store T o1 o2,ty,pos,aft,none⟩::rest) a w:=by
  obtain⟨w',h1,h2⟩:=(m.front hP).setEl (P:=P) (T:=T) hp (mV c he) ht hv hn (Nat.le_of_ble_eq_true hl) ho hc
  refine aGC rfl rfl hs (w':=w') ?_ (kk w' (by rw[List.map_set];exact h2))
  simp [execOp,hs.evs o1 _ hx,hs.evs o2 _ hy,Instr.storeAt,Instr.sureAddr,bind,Sem.run_bind',pure,Sem.run,Result.andThen,h1]
end
end Go.Proofs.YtnbpodjbemfpbaaGreat.Fw
set_option linter.unusedVariables false
set_option linter.all false
namespace Go.Proofs.YtnbpodjbemfpbaaGreat.Fw
open Go
section
variable {P:Program} {C:World->Prop} {L:List (Nat×Value)} {d:Option Tmp} {ty:TypeId} {pos:String} {aft:Array Edge} {g:Option (Nat×Bool)}
def ptI (P:Program) (T:TypeId):Option TypeId:=match P.underlying T with
  | some (.pointer e)=>some e
  | _=>none
theorem aI9 {T E:TypeId} (h:ptI P T=some E):P.underlying T=some (.pointer E):=by
  unfold ptI at h
  split at h
  · rename_i h1
    simp only[Option.some.injEq] at h
    rw[h1,h]
  · cases h
theorem aQY {T E:TypeId} (h:uX P T=some E) (x:SH) (w:World):(Op.equal T x.v (.slice none 0 0)).run P w= .ok x.a.isNone w:=by
  show (Op.equalIn (9999+1) T x.v (.slice none 0 0)).run P w=_
  obtain⟨xa,n,c⟩:=x
  unfold Op.equalIn
  rw[Sem.run_bind,run_underlying (jY h)]
  cases xa <;> rfl
theorem vX {T T' E:TypeId} {x y:Operand} {v:SH} (hx:ev L x=some v.v) (hy:ev L y=some (.slice none 0 0)) (h:uX P T=some E):Ok P C L ⟨d,.binOp .eql T x y T',ty,pos,aft,g⟩ (.bool v.a.isNone):=fun ρ ha w _=>by
  have r2:=aQY h v w
  simp only[SH.v] at r2 hx
  simp [execOp,ha x _ hx,ha y _ hy,bind,Sem.run_bind',eqGuard,binOp,r2,pure,Sem.run,Result.andThen]
theorem aJK {T E:TypeId} (h:ptI P T=some E) (p:Addr) (w:World):(Op.equal T (.pointer (some p)) (.pointer none)).run P w= .ok false w:=by
  show (Op.equalIn (9999+1) T (.pointer (some p)) (.pointer none)).run P w=_
  unfold Op.equalIn
  rw[Sem.run_bind,run_underlying (aI9 h)]
  rfl
theorem iJ {T T' E:TypeId} {x y:Operand} {p:Addr} (hx:ev L x=some (.pointer (some p))) (hy:ev L y=some (.pointer none)) (h:ptI P T=some E):Ok P C L ⟨d,.binOp .eql T x y T',ty,pos,aft,g⟩ (.bool false):=fun ρ ha w _=>by
  have r2:=aJK h p w
  simp [execOp,ha x _ hx,ha y _ hy,bind,Sem.run_bind',eqGuard,binOp,r2,pure,Sem.run,Result.andThen]
theorem aCT {T E:TypeId} {x ix:Operand} {K:IntKind} {i:Int} {n k:Nat} {cs:List Value} {v:Value} (hx:ev L x=some (.agg ⟨cs⟩)) (hi:ev L ix=some (.int K i)) (hT:arI P T=some (n,E)) (hE:kJ P E=some (false,k)) (h0:0<=i) (h1:i<n) (hv:cs[i.toNat*k]?=some v) :
    Ok P C L ⟨d,.index T x ix,ty,pos,aft,g⟩ v:=fun ρ ha w _=>by
  simp [execOp,ha x _ hx,ha ix _ hi,Instr.index,asIntOf,bind,Sem.run_bind',run_underlying (vM hT),h0,h1,part,asAgg,rW hE,gW hE,pure,Sem.run,Result.andThen,hv]
end
def qQ (xs:List (Fx .u8)):List UInt8:=xs.map fun b=>b.v.toNat.toUInt8
theorem zK {P:Program} {w:World}:∀ (xs:List (Fx .u8)) (a:Addr) (acc:ByteArray),a.spot=none->(∀ i,i<xs.length->w.cell? (a.add i)=(xs[i]?).map fun b=>.int .u8 b.v) ->
    (Extern.Bytes.loadBytes a xs.length acc).run P w= .ok ⟨acc.data++(qQ xs).toArray⟩ w
  | [],a,acc,_,_=>by simp [Extern.Bytes.loadBytes,qQ,pure,Sem.run]
  | x::xs,a,acc,hs,h=>by
    have h0:=h 0 (by simp)
    have ih:=zK (P:=P) (w:=w) xs (a.add 1) (acc.push x.v.toNat.toUInt8) (by simp [Addr.add,hs]) (fun i hi=>by
      have:=h (i+1) (by simp;omega)
      have e:(a.add 1).add i=a.add (i+1):=by
        obtain⟨b,off,spot⟩:=a
        simp only at hs
        subst hs
        rw[qM,qM,qM]
        congr 1;omega
      rw[e,this]
      simp)
    rw[aBY] at h0
    simp only[List.getElem?_cons_zero,Option.map_some] at h0
    simp only[List.length_cons,Extern.Bytes.loadBytes,bind,Sem.run_bind',load,Sem.run,h0,Result.andThen,ih]
    simp [qQ]
def aDR (xs ys:List (Fx .u8)):Int:=Extern.BytealgCompare.cmp ⟨(qQ xs).toArray⟩ ⟨(qQ ys).toArray⟩
theorem aCX {P:Program} {w:World} {v:Value} {xs:List (Fx .u8)} (r:RdS (hh w) 1 v (xs.map cI)):(Extern.Bytes.bytesOf v).run P w= .ok ⟨(qQ xs).toArray⟩ w:=by
  obtain⟨hk,hb,a,c,rfl,hc,hr⟩:=r
  cases xs with
  | nil=>cases a <;> simp [Extern.Bytes.bytesOf,Extern.Bytes.loadBytes,qQ,pure,Sem.run] <;> rfl
  | cons x xs =>
    obtain⟨b,off,arr,T,fz,rfl,e2,e3⟩:=hr (by simp)
    have hfl:((x::xs).map cI).flatten=(x::xs).map fun b=>Value.int .u8 b.v:=by
      generalize x::xs=l
      induction l with
      | nil=>rfl
      | cons a l ih=>simp [cI,ih]
    have:=zK (P:=P) (w:=w) (x::xs) ⟨b,off,none⟩ .empty rfl (fun i hi=>by
      rw[qM]
      have h1:=congrArg (·[i]?) e3
      simp only[List.length_map,Nat.mul_one] at h1
      rw[hfl,List.getElem?_take_of_lt hi,List.getElem?_drop] at h1
      simp only[hh] at e2
      simp only[World.cell?,e2]
      rw[<-List.getElem?_map,<-h1]
      simp)
    simp only[Extern.Bytes.bytesOf,List.length_map]
    rw[this]
    simp
theorem aJH {P:Program} {w:World} {u v:Value} {xs ys:List (Fx .u8)} (r:RdS (hh w) 1 u (xs.map cI)) (s:RdS (hh w) 1 v (ys.map cI)):(Extern.BytealgCompare.compare #[u,v]).run P w= .ok (.int .i64 (aDR xs ys)) w:=by
  have h1:=aCX (P:=P) r
  have h2:=aCX (P:=P) s
  show Sem.run P (do pure (goInt (Extern.BytealgCompare.cmp (<-Extern.Bytes.bytesOf u) (<-Extern.Bytes.bytesOf v)))) w=_
  simp [bind,Sem.run_bind',h1,h2,Result.andThen,pure,Sem.run,goInt,aDR]
theorem aKH (xs ys:List (Fx .u8)):aDR xs ys= -1\/aDR xs ys=0\/aDR xs ys=1:=by
  unfold aDR Extern.BytealgCompare.cmp
  split
  · split <;> simp
  · split
    · simp
    · split <;> simp
def aAV (xs ys:List (Fx .u8)):Fx .i64:=⟨aDR xs ys,by rcases aKH xs ys with h|h|h <;> rw[h] <;> rfl⟩
theorem aML {α:Type} {c:α->List Value} {h:Hh} {p:Addr} {off n:Nat} {cs:List Value} {xs:List α} (hc:CellsAt h p cs) (hl:Nat.ble (off+n) cs.length=true) (hb:Nat.ble n 140737488355328=true) (hx:((cs.drop off).take n).map (fun v=>[v])=xs.map c):RdS h 1 (SH.v ⟨some (bK p off),n,n⟩) (xs.map c):=by
  rw[<-hx]
  exact aX1 hc (Nat.le_of_ble_eq_true hl) (Nat.le_of_ble_eq_true hb)
end Go.Proofs.YtnbpodjbemfpbaaGreat.Fw
set_option linter.unusedVariables false
set_option linter.all false
namespace Go.Proofs.YtnbpodjbemfpbaaGreat.Fw
open Go
theorem mQ (k:Nat) (x:SH) (hi:Nat):kX k x 0 hi x.c=hG x hi:=by rw[<-aJR,aRB]
theorem gM {k:Nat} {x:SH} {lo hi:Nat} (h:lo<x.c):(kX k x lo hi x.c).v= .slice (x.a.map (·.add (lo*k))) (hi-lo) (x.c-lo):=by
  rw[<-aJR,aMT h]
theorem RdS.ncapM {α:Type} {c:α->List Value} {h:Hh} {k:Nat} {x:SH} {xs:List α} (r:RdS h k x.v (xs.map c)):x.n=xs.length/\x.n<=x.c:=by
  have:=r.ncap
  simpa using this
theorem Hp.ncapM {α:Type} {c:α->List Value} {w0 w:World} {R:Hh} {Ps Qs:List HP} {k:Nat} {E:TypeId} {x:SH} {xs:List α} (m:Hp w0 R Ps w) (h:Rem Ps (Sv k E x.v (xs.map c)) Qs):x.n=xs.length/\x.n<=x.c:=by
  have:=m.ncap h
  simpa using this
theorem RdS.cut {h:Hh} {k:Nat} {a:Option Addr} {n c c':Nat} {ds:List (List Value)} (r:RdS h k (.slice a n c) ds) (hc:ds.length<=c'):RdS h k (.slice a n c') ds:=by
  obtain⟨h1,h2,a',cap,e,h3,h4⟩:=r
  simp only[Value.slice.injEq] at e
  obtain⟨rfl,rfl,rfl⟩:=e
  exact⟨h1,h2,_,c',rfl,hc,h4⟩
theorem RdS.win {α:Type} {c:α->List Value} {h:Hh} {k:Nat} {x:SH} {xs ys:List α} (r:RdS h k x.v (xs.map c)) {lo hi mx:Nat} (h1:lo<=hi) (h2:hi<=xs.length) (h3:hi<=mx) (h4:mx<=x.c) (hy:(xs.take hi).drop lo=ys):RdS h k (kX k x lo hi mx).v (ys.map c):=by
  subst hy
  have h5:=r.subS (lo:=lo) (hi:=hi) h1 (by simpa using h2)
  rw[<-aRC,<-List.map_take,<-List.map_drop] at h5
  have hl:((xs.take hi).drop lo).length=hi-lo:=by simp;omega
  by_cases hlo:lo=hi
  · have aA0:(xs.take hi).drop lo=[]:=List.eq_nil_of_length_eq_zero (by omega)
    rw[aA0]
    refine⟨by simp,by simp,_,_,by simp only[kX,SH.v,List.map_nil,List.length_nil];rw[show hi-lo=0 by omega],by simp,fun h=>absurd rfl h⟩
  · have e1:(kX k x lo hi mx).v= .slice (x.a.map (·.add (lo*k))) (hi-lo) (mx-lo):=by
      simp [kX,SH.v,show ¬ mx=lo by omega]
    rw[e1]
    rw[aMT (by omega)] at h5
    exact h5.cut (by simp;omega)
theorem RdS.wln {α:Type} {c:α->List Value} {h:Hh} {k:Nat} {x:SH} {xs:List α} (r:RdS h k x.v (xs.map c)):RdS h k (.slice x.a xs.length x.c) (xs.map c):=by
  have:=r.ncapM
  rw[<-this.1]
  exact r
section
variable {P:Program} {ops:Array Oper} {Q:Exit->Act->World->Prop} {rest:List Oper} {n:Nat} {L:List (Nat×Value)} {a:Act} {w w0:World} {R:Hh} {Ps Qs:List HP}
  {d:Nat} {ty:TypeId} {pos:String} {aft:Array Edge} {k:Nat} {E:TypeId} {x:SH} {α:Type} {c:α->List Value} {xs es zs:List α}
theorem lJ {T T2:TypeId} {ag:Bool} {o1 o2:Operand} {v u:Value} {lo dl N:Nat} (hs:St n L a) (m:Hp w0 R Ps w) (hx:ev L o1=some v) (hy:ev L o2=some u) (hT:uX P T=some E) (hE:kJ P E=some (ag,k)) (hP:Rem Ps (Sv k E x.v (xs.map c)) Qs)
    (hv:v= .slice (x.a.map (·.add (lo*k))) dl (x.c-lo)) (hu:∃ a lu cc,u= .slice a lu cc/\es.length=min lu dl/\RdS (hh w) k (.slice a es.length cc) (es.map c)) (ho:∀ z,pW (c z)=true) (hlo:lo<=xs.length) (hhi:lo+es.length<=x.c) (hb:lo+es.length<=140737488355328)
    (hz:xs.take lo++es++xs.drop (lo+es.length)=zs) (hN:max xs.length (lo+es.length)=N) (hd:Nat.blt d n=true)
    (kk:∀ w',Hp w0 R (Sv k E (hG x N).v (zs.map c)::Qs) w'->∀ a',St n ((d,.int .i64 (es.length:Int))::L) a'->wpList P ops Q rest a' w') :
    wpList P ops Q (⟨some d,.call ⟨.builtin .copy,#[o1,o2],#[T,T2]⟩,ty,pos,aft,none⟩::rest) a w:=by
  subst hz hN
  obtain⟨ua,lu,uc,e1,e2,e3⟩:=hu
  refine aXX (es:=es.map c) hs m hx hy hT hE hP hv ⟨ua,lu,uc,e1,by simpa using e2,by simpa using e3⟩ (by intro e he;obtain⟨z,_,rfl⟩:=List.mem_map.1 he;exact ho z) (by simpa using hlo) (by simpa using hhi) (by simpa using hb) hd ?_
  intro w' m' a' hs'
  simp only[List.length_map] at m' hs'
  refine kk w' ?_ a' hs'
  rw[List.map_append,List.map_append,List.map_take,List.map_drop]
  exact m'
theorem rB {T T2:TypeId} {ag:Bool} {o1 o2:Operand} {u:Value} (hs:St n L a) (m:Hp w0 R Ps w) (hx:ev L o1=some x.v) (hy:ev L o2=some u) (hT:uX P T=some E) (hT2:qW P T2=true) (hE:kJ P E=some (ag,k)) (hP:Rem Ps (Sv k E x.v (xs.map c)) Qs)
    (hu:RdS (hh w) k u (es.map c)) (ho:∀ z,pW (c z)=true) (hlen:xs.length+es.length<=x.c) (hb:xs.length+es.length<=140737488355328) (hd:Nat.blt d n=true)
    (kk:∀ w',Hp w0 R (Sv k E (hG x (xs.length+es.length)).v ((xs++es).map c)::Qs) w'->∀ a',St n ((d,(hG x (xs.length+es.length)).v)::L) a'->wpList P ops Q rest a' w') :
    wpList P ops Q (⟨some d,.call ⟨.builtin .append,#[o1,o2],#[T,T2]⟩,ty,pos,aft,none⟩::rest) a w:=by
  refine aJC (es:=es.map c) hs m hx hy hT hT2 hE hP hu (by intro e he;obtain⟨z,_,rfl⟩:=List.mem_map.1 he;exact ho z) (by simpa using hlen) (by simpa using hb) hd ?_
  intro w' m' a' hs'
  simp only[List.length_map] at m' hs'
  exact kk w' (by rw[List.map_append];exact m') a' hs'
theorem Hp.shrinkM (m:Hp w0 R Ps w) {hi:Nat} (hP:Swp Ps (Sv k E x.v (xs.map c)) (Sv k E (hG x hi).v ((xs.take hi).map c)) Qs) (h:hi<=xs.length):Hp w0 R Qs w:=by
  rw[List.map_take] at hP
  exact m.shrink hP (by simpa using h)
theorem uC {z0:α} {T T2:TypeId} {K:IntKind} {ag:Bool} {bytes i cn:Nat} {o1 o2:Operand} {zs:List Value} (hs:St n L a) (m:Hp w0 R Ps w) (hx:ev L o1=some (hG x i).v) (hy:ev L o2=some (.int .i64 (cn:Int))) (hT:uX P T=some E) (hT2:inI P T2=some K) (hE:kJ P E=some (ag,k))
    (hz:uO P E=some zs) (hz0:c z0=zs) (hzl:zs.length=k) (hb:byI P E=some bytes) (hbb:Nat.ble bytes 4096=true) (hk:Nat.ble 1 k=true) (hP:Rem Ps (Sv k E x.v (xs.map c)) Qs)
    (hi:i<=xs.length) (hc:0<cn) (hcap:x.c<i+cn) (hlen:i+cn<=140737488355328/\(2*(i+cn)+192)*bytes<=281474976710656) (hd:Nat.blt d n=true)
    (kk:∀ (y:SH) w',y.n=i+cn->i+cn<=y.c->Hp w0 R (Sv k E y.v ((xs.take i++List.replicate cn z0).map c)::Ps) w'->∀ a',St n ((d,y.v)::L) a'->wpList P ops Q rest a' w') :
    wpList P ops Q (⟨some d,.call ⟨.builtin .append,#[o1,o2],#[T,T2]⟩,ty,pos,aft,none⟩::rest) a w:=by
  refine aNT hs m hx hy hT hT2 hE hz hzl hb hbb hk hP (by simpa using hi) hc hcap hlen hd ?_
  intro y w' h1 h2 m' a' hs'
  refine kk y w' h1 h2 ?_ a' hs'
  rw[List.map_append,List.map_take,List.map_replicate,hz0]
  exact m'
theorem rC {T:TypeId} {ag:Bool} {o1:Operand} {v:Value} {lo z:Nat} {zs:List Value} (hs:St n L a) (m:Hp w0 R Ps w) (hx:ev L o1=some v) (hT:uX P T=some E) (hE:kJ P E=some (ag,k)) (hz:uO P E=some zs) (hzl:zs.length=k) (hzo:pW zs=true) (hP:Rem Ps (Sv k E x.v (xs.map c)) Qs)
    (hv:v= .slice (x.a.map (·.add (lo*k))) z (x.c-lo)) (hlo:xs.length<=lo) (hhi:lo+z<=x.c)
    (kk:∀ w',Hp w0 R (Sv k E x.v (xs.map c)::Qs) w'->wpList P ops Q rest a w') :
    wpList P ops Q (⟨none,.call ⟨.builtin .clear,#[o1],#[T]⟩,ty,pos,aft,none⟩::rest) a w :=
  aJD hs m hx hT hE hz hzl hzo hP hv (by simpa using hlo) hhi kk
end
theorem pQ {x:SH} {n:Nat} (h:x.n=n):hG x n=x:=by subst h;rfl
theorem RdS.winS {α:Type} {c:α->List Value} {h:Hh} {k:Nat} {x:SH} {xs:List α} (r:RdS h k x.v (xs.map c)) {lo:Nat} (h1:lo<x.c) (h2:lo<=xs.length):RdS h k (.slice (x.a.map (·.add (lo*k))) (xs.drop lo).length (x.c-lo)) ((xs.drop lo).map c):=by
  have hn:=r.ncapM
  have:=r.win (lo:=lo) (hi:=xs.length) (mx:=x.c) h2 (Nat.le_refl _) (by omega) (Nat.le_refl _) rfl
  rw[gM h1] at this
  simpa using this
theorem RdS.isnil {α:Type} {c:α->List Value} {h:Hh} {k:Nat} {x:SH} {xs:List α} (r:RdS h k x.v (xs.map c)) (hn:x.a.isNone=true):xs=[]:=by
  obtain⟨_,_,a,cap,e,_,h4⟩:=r
  simp only[SH.v,Value.slice.injEq] at e
  cases xs with
  | nil=>rfl
  | cons y ys =>
    obtain⟨b,off,arr,T,fz,e1,_⟩:=h4 (by simp)
    rw[e.1,e1] at hn
    cases hn
theorem aDV {α:Type} {xs:List α} {i:Nat} (h:i<xs.length):xs.take (i+1)++xs.drop i++xs.drop (i+1+(xs.drop i).length)=xs.take (i+1)++xs.drop i:=by
  rw[List.drop_eq_nil_of_le («as»:=xs) (i:=i+1+(xs.drop i).length) (by simp;omega),List.append_nil]
theorem aD7 {α:Type} {xs ys:List α} {i:Nat} (h:i<xs.length) (hy:ys.length=1):(xs.take (i+1)++xs.drop i).take i++ys++(xs.take (i+1)++xs.drop i).drop (i+ys.length)=xs.take i++ys++xs.drop i:=by
  have l1:(xs.take (i+1)).length=i+1:=by simp;omega
  rw[hy,List.take_append_of_le_length (by omega),List.take_take,Nat.min_eq_left (by omega)]
  congr 1
  conv=>lhs;arg 1;rw[<-l1]
  rw[List.drop_left]
theorem aA6 {α:Type} {xs ys:List α} {z:α} {i m:Nat} (h:i<xs.length) (hy:ys.length=1) (hm:m=xs.length+1-i) :
    (((xs.take i++List.replicate m z).take i++ys++(xs.take i++List.replicate m z).drop (i+ys.length)).take (i+1)++xs.drop i++((xs.take i++List.replicate m z).take i++ys++(xs.take i++List.replicate m z).drop (i+ys.length)).drop (i+1+(xs.drop i).length))=xs.take i++ys++xs.drop i:=by
  have l1:(xs.take i).length=i:=by simp;omega
  have e1:(xs.take i++List.replicate m z).take i=xs.take i:=by
    conv=>lhs;arg 1;rw[<-l1]
    rw[List.take_left]
  have l2:(xs.take i++ys).length=i+1:=by simp;omega
  rw[e1]
  have e2:((xs.take i++ys)++(xs.take i++List.replicate m z).drop (i+ys.length)).take (i+1)=xs.take i++ys:=by
    conv=>lhs;arg 1;rw[<-l2]
    rw[List.take_left]
  rw[e2]
  rw[List.drop_eq_nil_of_le («as»:=xs.take i++ys++(xs.take i++List.replicate m z).drop (i+ys.length)) (by simp;omega),List.append_nil]
end Go.Proofs.YtnbpodjbemfpbaaGreat.Fw
set_option linter.unusedVariables false
set_option linter.all false
namespace Go.Proofs.YtnbpodjbemfpbaaGreat.Fw
open Go
theorem iF {P:Program} {Q:Exit->Act->World->Prop} {a:Act} {w:World} {c:Code} {n:Nat} (h:c.wp P (Exit.then (Code.rounds P c Q n) Q) a w):Code.rounds P c Q (n+1) a w:=h
section
variable {P:Program} {ops:Array Oper} {Q:Exit->Act->World->Prop} {rest:List Oper} {n:Nat} {L:List (Nat×Value)} {a:Act} {w:World}
theorem kU {d:Option Tmp} {op:Op} {ty:TypeId} {pos:String} {aft:Array Edge} {j:Nat} {want b:Bool} {t:Nat} (hs:St n L a) (hj:(ops[j]?).bind (·.dst)=some t) (ht:lk L t=some (.bool b)) (hb:b=want)
    (h:wpList P ops Q (⟨d,op,ty,pos,aft,none⟩::rest) a w):wpList P ops Q (⟨d,op,ty,pos,aft,some (j,want)⟩::rest) a w:=by
  have hy:Region.wanted ⟨d,op,ty,pos,aft,some (j,want)⟩ (yielded ops a.tmps)=true:=by
    simp only[Region.wanted,yielded,hj,Option.bind_some,hs.at_ t _ ht,hb]
    simp
  have hn:Region.wanted ⟨d,op,ty,pos,aft,none⟩ (yielded ops a.tmps)=true:=by simp [Region.wanted]
  unfold wpList at h ⊢
  rw[if_pos hn] at h
  rw[if_pos hy]
  rcases h with h|h
  · refine .inl ?_
    unfold Oper.wp Oper.upon at h ⊢
    exact h
  · exact .inr h
end
section
variable {P:Program} {C:World->Prop} {L:List (Nat×Value)} {d:Option Tmp} {ty:TypeId} {pos:String} {aft:Array Edge} {g:Option (Nat×Bool)}
theorem qE {T E:TypeId} {ag:Bool} {x ix:Operand} {K:IntKind} {i n k o r:Nat} {p:Addr} (hx:ev L x=some (.pointer (some (bK p o)))) (hi:ev L ix=some (.int K (i:Int))) (hT:arI P T=some (n,E)) (hE:kJ P E=some (ag,k)) (h1:Nat.blt i n=true) (hr:o+i*k=r) :
    Ok P C L ⟨d,.indexAddr T x ix,ty,pos,aft,g⟩ (.pointer (some (bK p r))):=fun ρ ha w _=>by
  subst hr
  have h1':i<n:=Nat.le_of_ble_eq_true h1
  have hlt:(i:Int)<(n:Int):=by omega
  simp [execOp,ha x _ hx,ha ix _ hi,Instr.indexAt,Instr.sureAddr,asIntOf,bind,Sem.run_bind',run_underlying (vM hT),h1',gW hE,pure,Sem.run,Result.andThen,aEN]
end
end Go.Proofs.YtnbpodjbemfpbaaGreat.Fw
