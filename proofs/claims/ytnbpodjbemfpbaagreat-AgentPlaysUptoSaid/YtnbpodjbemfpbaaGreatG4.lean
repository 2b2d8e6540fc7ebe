/-
  Own work: walks and laws, joined by wip/tool/compact.py.
-/
import Derived.Test.YtnbpodjbemfpbaaGreatG3

set_option linter.all false
set_option linter.all false
namespace Go.Proofs.YtnbpodjbemfpbaaGreat.Fw
open Go
section
variable {P:Program} {ops:Array Oper} {Q:Exit->Act->World->Prop} {n:Nat} {L:List (Nat×Value)} {a:Act} {w w0:World} {C S:World->Prop} {d:Nat} {op:Op} {ty:TypeId} {pos:String} {aft:Array Edge} {v:Value} {j t:Nat} {want b:Bool} {R:Hh} {Ps Qs:List HP} {gd:Option (Nat×Bool)} {od:Option Tmp} {o:Oper}
theorem bQ {T E:TypeId} {α:Type} {c:α->List Value} {x:Operand} {v:Value} {k:Nat} {xs:List α} {w:World} (m:C w) (hx:ev L x=some v) (hT:uX P T=some E) (hr:RC C k v (xs.map c)):Ok P C L ⟨od,.call ⟨.builtin .len,#[x],#[T]⟩,ty,pos,aft,gd⟩ (.int .i64 (xs.length:Int)):=aP9 m hx hT hr (by simp)
structure OkS (P:Program) (C:World->Prop) (L:List (Nat×Value)) (o:Oper) (v:Value):Prop where
  h:Ok P C L o v
variable {x y:Operand} {T U:TypeId} {p:Addr} {i z o1 o2 r k:Nat} {ag:Bool} {cs:List Value} {kk:IntKind} {n1 n2 n3:Int} {u:Value} {ll:List Value} {b1:Bool} {bo:BinOp} {T2:TypeId}
theorem e1_ (hx:ev L x=some v):OkS P C L ⟨od,.move x,ty,pos,aft,gd⟩ v:=⟨aST hx⟩
theorem e2_ (hx:ev L x=some v):OkS P C L ⟨od,.assign x,ty,pos,aft,gd⟩ v:=⟨aNN hx⟩
theorem e3_ (hx:ev L x=some (.pointer (some (bK p o1)))) (hf:rZ P T i=some (o2,U)) (ht:kJ P U=some (ag,z+1)):OkS P C L ⟨od,.fieldAddr T x i,ty,pos,aft,gd⟩ (.pointer (some (bK p (o1+o2)))):=⟨aHC hx hf ht rfl⟩
theorem e4_ (hx:ev L x=some (.pointer (some p))):OkS P C L ⟨od,.nilCheck x,ty,pos,aft,gd⟩ (.pointer (some p)):=⟨aI4 hx⟩
theorem e5_ (hx:ev L x=some (.pointer (some (bK p o1)))) (ht:kJ P T=some (false,z)) (hc:CAt C p cs) (hv:cs[o1]?=some v):OkS P C L ⟨od,.load T x,ty,pos,aft,gd⟩ v:=⟨aKY hx ht hc hv⟩
theorem e6_ (hx:ev L x=some (.bool b1)):OkS P C L ⟨od,.unOp .not T x,ty,pos,aft,gd⟩ (.bool (!b1)):=⟨aQB hx⟩
theorem e7_ (hx:ev L x=some (.tuple ⟨ll⟩)) (hv:ll[i]?=some v):OkS P C L ⟨od,.extract x i,ty,pos,aft,gd⟩ v:=⟨aKX hx hv⟩
theorem e8_ (hx:ev L x=some (.agg ⟨cs⟩)) (hf:rZ P T i=some (o2,U)) (ht:kJ P U=some (false,z)) (hv:cs[o2]?=some v):OkS P C L ⟨od,.field T x i,ty,pos,aft,gd⟩ v:=⟨aI3 hx hf ht hv⟩
theorem e9_ (hx:ev L x=some (.int .i64 n1)) (hy:ev L y=some (.int .i64 n2)) (h1:-9223372036854775808<=n1+n2) (h2:n1+n2<=9223372036854775807):OkS P C L ⟨od,.binOp .add T x y T2,ty,pos,aft,gd⟩ (.int .i64 (n1+n2)):=⟨fA hx hy (cJ h1 h2)⟩
theorem a30 (hx:ev L x=some (.int .i64 n1)) (hy:ev L y=some (.int .i64 n2)) (h1:-9223372036854775808<=n1-n2) (h2:n1-n2<=9223372036854775807):OkS P C L ⟨od,.binOp .sub T x y T2,ty,pos,aft,gd⟩ (.int .i64 (n1-n2)):=⟨qX hx hy (cJ h1 h2)⟩
theorem a31 (hx:ev L x=some (.int kk n1)) (hy:ev L y=some (.int kk n2)) (hv:ib bo kk n1 n2=some v):OkS P C L ⟨od,.binOp bo T x y T2,ty,pos,aft,gd⟩ v:=⟨fB hx hy hv⟩
theorem a32 (hx:ev L x=some (.pointer (some (bK p o1)))) (ht:kJ P T=some (true,z)) (hc:CAt C p cs) (vs:List Value) (hv:(cs.drop o1).take z=vs) (hl:vs.length=z):OkS P C L ⟨od,.load T x,ty,pos,aft,gd⟩ (.agg ⟨vs⟩):=⟨lM hx ht hc hv hl⟩
theorem a33 {b2:Bool} (hx:ev L x=some (.bool b1)) (hv:(!b1)=b2):OkS P C L ⟨od,.unOp .not T x,ty,pos,aft,gd⟩ (.bool b2):=⟨hv▸aQB hx⟩
theorem a34 {c:Operand} {u2:Value} (hc:ev L c=some (.bool b1)) (hx:ev L x=some v) (hy:ev L y=some u2):OkS P C L ⟨od,.pick c x y,ty,pos,aft,gd⟩ (bif b1 then v else u2):=⟨aP hc hx hy rfl⟩
theorem iU (h:OkS Tryz.prog C L ⟨od,op,ty,pos,aft,gd⟩ v:=by first
  | exact e1_ rfl
  | exact e3_ rfl (ft rfl rfl) (tt rfl)
  | (apply e5_ rfl (tt rfl);(first|(apply lO;(first|exact r0|exact r1|exact r2|exact r3|exact r4|exact r5|exact r6|exact r7|exact r8|exact r9|exact r10|exact r11|exact r12|exact r13|exact r14|exact r15))|(apply aPL;assumption)|(apply vP;assumption;(first|exact r0|exact r1|exact r2|exact r3|exact r4|exact r5|exact r6|exact r7|exact r8|exact r9|exact r10|exact r11|exact r12|exact r13|exact r14|exact r15);exact mV _ (by assumption)));rfl)
  | exact e4_ rfl
  | exact e2_ rfl
  | exact e6_ rfl
  | exact e7_ rfl rfl
  | exact e8_ rfl (ft rfl rfl) (tt rfl) rfl
  | exact e9_ rfl rfl (by omega) (by omega)
  | exact a30 rfl rfl (by omega) (by omega)
  | exact a31 rfl rfl rfl
  | exact a33 rfl rfl
  | exact a34 rfl rfl rfl):Ok Tryz.prog C L ⟨od,op,ty,pos,aft,gd⟩ v:=h.h
theorem cN (vs:List Value) (h:OkS Tryz.prog C L ⟨od,op,ty,pos,aft,gd⟩ (.agg ⟨vs⟩):=by(apply a32 rfl (tt rfl);(first|(apply lO;(first|exact r0|exact r1|exact r2|exact r3|exact r4|exact r5|exact r6|exact r7|exact r8|exact r9|exact r10|exact r11|exact r12|exact r13|exact r14|exact r15))|(apply aPL;assumption)|(apply vP;assumption;(first|exact r0|exact r1|exact r2|exact r3|exact r4|exact r5|exact r6|exact r7|exact r8|exact r9|exact r10|exact r11|exact r12|exact r13|exact r14|exact r15);exact mV _ (by assumption)));kernel_rfl;kernel_rfl)):Ok Tryz.prog C L ⟨od,op,ty,pos,aft,gd⟩ (.agg ⟨vs⟩):=h.h
structure sP (P:Program) (ops:Array Oper) (n:Nat) (C:World->Prop) (L:List (Nat×Value)) (o:Oper) (d:Nat) (v:Value):Prop where
  g:∀ (Q:Exit->Act->World->Prop) (rest:List Oper) (a:Act) (w:World),St n L a->C w->(∀ a',St n ((d,v)::L) a'->wpList P ops Q rest a' w)->wpList P ops Q (o::rest) a w
theorem p_ (h:Ok P C L ⟨some d,op,ty,pos,aft,none⟩ v) (hd:Nat.blt d n=true:=by rfl):sP P ops n C L ⟨some d,op,ty,pos,aft,none⟩ d v:=⟨fun _ _ _ _ hs m k=>a4Q hs m h hd k⟩
theorem dV (hb:b=want) (h:Ok P C L ⟨some d,op,ty,pos,aft,some (j,want)⟩ v) (hj:(ops[j]?).bind (·.dst)=some t:=by rfl) (ht:lk L t=some (.bool b):=by rfl) (hd:Nat.blt d n=true:=by rfl):sP P ops n C L ⟨some d,op,ty,pos,aft,some (j,want)⟩ d v:=⟨fun _ _ _ _ hs m k=>a1K hs hj ht hb m h hd k⟩
theorem iY (hb:b = !want) (hj:(ops[j]?).bind (·.dst)=some t:=by rfl) (ht:lk L t=some (.bool b):=by rfl) (hd:Nat.blt d n=true:=by rfl):sP P ops n C L ⟨some d,op,ty,pos,aft,some (j,want)⟩ d undef:=⟨fun _ _ _ _ hs m k=>a02 hs hj ht hb hd k⟩
theorem pu_ (hj:(ops[j]?).bind (·.dst)=some t:=by rfl) (ht:lk L t=some undef:=by rfl) (hd:Nat.blt d n=true:=by rfl):sP P ops n C L ⟨some d,op,ty,pos,aft,some (j,want)⟩ d undef:=⟨fun _ _ _ _ hs m k=>aW1 hs hj ht hd k⟩
theorem a4F (hj:(ops[j]?).bind (·.dst)=some t) (ht:lk L t=some (.bool b)) (hd:Nat.blt d n=true) (hb:b=want) (h:Ok P C L ⟨some d,op,ty,pos,aft,some (j,want)⟩ v):sP P ops n C L ⟨some d,op,ty,pos,aft,some (j,want)⟩ d v:=dV hb h hj ht hd
theorem a4J (hj:(ops[j]?).bind (·.dst)=some t) (ht:lk L t=some (.bool b)) (hd:Nat.blt d n=true) (hb:b = !want):sP P ops n C L ⟨some d,op,ty,pos,aft,some (j,want)⟩ d undef:=iY hb hj ht hd
theorem vA (h:sP Tryz.prog ops n C L o d v:=by first|exact p_ iU|exact a4F rfl rfl rfl (by first|rfl|assumption) iU|exact a4J rfl rfl rfl (by first|rfl|assumption)|exact pu_):sP Tryz.prog ops n C L o d v:=h
structure Sth (P:Program) (ops:Array Oper) (n:Nat) (S:World->Prop) (L:List (Nat×Value)) (i:Nat) (o:Oper) (d:Nat) (v:Value):Prop where
  e:ops[i]?=some o
  g:∀ (Q:Exit->Act->World->Prop) (listed:Array Bool) (fuel:Nat) (a:Act) (w:World),Region.noSelect ops=true->Region.free .any ops listed i=true->(Region.ready .any ops listed).contains i=true->St n L a->S w->(∀ a',St n ((d,v)::L) a'->wpAnyH P .any ops (NP Q) S fuel (listed.setIfInBounds i true) a' w)->wpAnyH P .any ops (NP Q) S (fuel+1) listed a w
theorem k_ {i:Nat} (hi:ops[i]?=some ⟨some d,op,ty,pos,aft,none⟩) (h:Ok P S L ⟨some d,op,ty,pos,aft,none⟩ v) (hd:Nat.blt d n=true:=by rfl):Sth P ops n S L i ⟨some d,op,ty,pos,aft,none⟩ d v:=⟨hi,fun _ _ _ _ _ hn hf hr hs m k=>a39 hi hn hf hr hs m h hd k⟩
theorem kg_ {i:Nat} (hi:ops[i]?=some ⟨some d,op,ty,pos,aft,some (j,want)⟩) (hb:b=want) (h:Ok P S L ⟨some d,op,ty,pos,aft,some (j,want)⟩ v) (hj:(ops[j]?).bind (·.dst)=some t:=by rfl) (ht:lk L t=some (.bool b):=by rfl) (hd:Nat.blt d n=true:=by rfl):Sth P ops n S L i ⟨some d,op,ty,pos,aft,some (j,want)⟩ d v:=⟨hi,fun _ _ _ _ _ hn hf hr hs m k=>a03 hi hn hf hr hs m hj ht hb h hd k⟩
theorem ko_ {i:Nat} (hi:ops[i]?=some ⟨some d,op,ty,pos,aft,some (j,want)⟩) (hb:b = !want) (hj:(ops[j]?).bind (·.dst)=some t:=by rfl) (ht:lk L t=some (.bool b):=by rfl) (hd:Nat.blt d n=true:=by rfl):Sth P ops n S L i ⟨some d,op,ty,pos,aft,some (j,want)⟩ d undef:=⟨hi,fun _ _ _ _ _ hn hf hr hs m k=>a04 hi hn hf hr hs m hj ht hb hd k⟩
theorem ku_ {i:Nat} (hi:ops[i]?=some ⟨some d,op,ty,pos,aft,some (j,want)⟩) (hj:(ops[j]?).bind (·.dst)=some t:=by rfl) (ht:lk L t=some undef:=by rfl) (hd:Nat.blt d n=true:=by rfl):Sth P ops n S L i ⟨some d,op,ty,pos,aft,some (j,want)⟩ d undef:=⟨hi,fun _ _ _ _ _ hn hf hr hs m k=>aW3 hi hn hf hr hs m hj ht hd k⟩
theorem a4B {i:Nat} (hi:ops[i]?=some ⟨some d,op,ty,pos,aft,some (j,want)⟩) (hj:(ops[j]?).bind (·.dst)=some t) (ht:lk L t=some (.bool b)) (hd:Nat.blt d n=true) (hb:b=want) (h:Ok P S L ⟨some d,op,ty,pos,aft,some (j,want)⟩ v):Sth P ops n S L i ⟨some d,op,ty,pos,aft,some (j,want)⟩ d v:=kg_ hi hb h hj ht hd
theorem a4C {i:Nat} (hi:ops[i]?=some ⟨some d,op,ty,pos,aft,some (j,want)⟩) (hj:(ops[j]?).bind (·.dst)=some t) (ht:lk L t=some (.bool b)) (hd:Nat.blt d n=true) (hb:b = !want):Sth P ops n S L i ⟨some d,op,ty,pos,aft,some (j,want)⟩ d undef:=ko_ hi hb hj ht hd
theorem SH_ {i:Nat} (h:Sth Tryz.prog ops n S L i o d v:=by first|exact k_ rfl iU|exact a4B rfl rfl rfl rfl (by assumption) iU|exact a4C rfl rfl rfl rfl (by assumption)|exact ku_ rfl):Sth Tryz.prog ops n S L i o d v:=h
end
section
variable {P:Program} {ops:Array Oper} {Q:Act->Prop} {n:Nat} {L:List (Nat×Value)} {a:Act} {C:World->Prop} {d:Nat} {op:Op} {ty:TypeId} {pos:String} {aft:Array Edge} {v:Value} {j t:Nat} {want b:Bool} {o:Oper}
structure Stq (P:Program) (ops:Array Oper) (n:Nat) (C:World->Prop) (L:List (Nat×Value)) (o:Oper) (d:Nat) (v:Value):Prop where
  g:∀ (Q:Act->Prop) (rest:List Oper) (a:Act),St n L a->(∀ a',St n ((d,v)::L) a'->wpQuiet P ops C Q rest a')->wpQuiet P ops C Q (o::rest) a
theorem q_ (h:Ok P C L ⟨some d,op,ty,pos,aft,none⟩ v) (hd:Nat.blt d n=true:=by rfl):Stq P ops n C L ⟨some d,op,ty,pos,aft,none⟩ d v:=⟨fun _ _ _ hs k=>a4L hs h hd k⟩
theorem kW (hb:b=want) (h:Ok P C L ⟨some d,op,ty,pos,aft,some (j,want)⟩ v) (hj:(ops[j]?).bind (·.dst)=some t:=by rfl) (ht:lk L t=some (.bool b):=by rfl) (hd:Nat.blt d n=true:=by rfl):Stq P ops n C L ⟨some d,op,ty,pos,aft,some (j,want)⟩ d v:=⟨fun _ _ _ hs k=>a1F hs hj ht hb h hd k⟩
theorem yX (hb:b = !want) (hj:(ops[j]?).bind (·.dst)=some t:=by rfl) (ht:lk L t=some (.bool b):=by rfl) (hd:Nat.blt d n=true:=by rfl):Stq P ops n C L ⟨some d,op,ty,pos,aft,some (j,want)⟩ d undef:=⟨fun _ _ _ hs k=>a1G hs hj ht hb hd k⟩
theorem qu_ (hj:(ops[j]?).bind (·.dst)=some t:=by rfl) (ht:lk L t=some undef:=by rfl) (hd:Nat.blt d n=true:=by rfl):Stq P ops n C L ⟨some d,op,ty,pos,aft,some (j,want)⟩ d undef:=⟨fun _ _ _ hs k=>aXV hs hj ht hd k⟩
theorem a4M (hj:(ops[j]?).bind (·.dst)=some t) (ht:lk L t=some (.bool b)) (hd:Nat.blt d n=true) (hb:b=want) (h:Ok P C L ⟨some d,op,ty,pos,aft,some (j,want)⟩ v):Stq P ops n C L ⟨some d,op,ty,pos,aft,some (j,want)⟩ d v:=kW hb h hj ht hd
theorem a4N (hj:(ops[j]?).bind (·.dst)=some t) (ht:lk L t=some (.bool b)) (hd:Nat.blt d n=true) (hb:b = !want):Stq P ops n C L ⟨some d,op,ty,pos,aft,some (j,want)⟩ d undef:=yX hb hj ht hd
theorem SQ_ (h:Stq Tryz.prog ops n C L o d v:=by first|exact q_ iU|exact a4M rfl rfl rfl (by assumption) iU|exact a4N rfl rfl rfl (by assumption)|exact qu_):Stq Tryz.prog ops n C L o d v:=h
end
section
variable {ops:Array Oper} {n:Nat} {L:List (Nat×Value)} {a:Act} {w:World} {C S:World->Prop} {o1 o2 o3 o4 o5 o6:Oper} {d1 d2 d3 d4 d5 d6:Nat} {v1 v2 v3 v4 v5 v6:Value} {i1 i2 i3 i4 i5 i6:Nat}
section
variable {Q:Exit->Act->World->Prop} {rest:List Oper}
theorem z1 (hs:St n L a) (m:C w) (h1:sP Tryz.prog ops n C (L) o1 d1 v1:=by exact vA) (k:∀ a,St n ((d1,v1)::L) a->wpList Tryz.prog ops Q rest a w):wpList Tryz.prog ops Q (o1::rest) a w:=h1.g _ _ _ _ hs m fun a hs=>k a hs
theorem y1 (m:C w) (h1:sP Tryz.prog ops n C (L) o1 d1 v1:=by exact vA) (k:∀ a,St n ((d1,v1)::L) a->wpList Tryz.prog ops Q rest a w):∀ a,St n L a->wpList Tryz.prog ops Q (o1::rest) a w:=fun a hs=>h1.g _ _ _ _ hs m fun a hs=>k a hs
theorem z2 (hs:St n L a) (m:C w) (h1:sP Tryz.prog ops n C (L) o1 d1 v1:=by exact vA) (h2:sP Tryz.prog ops n C ((d1,v1)::L) o2 d2 v2:=by exact vA) (k:∀ a,St n ((d2,v2)::(d1,v1)::L) a->wpList Tryz.prog ops Q rest a w):wpList Tryz.prog ops Q (o1::o2::rest) a w:=h1.g _ _ _ _ hs m fun a hs=>h2.g _ _ _ _ hs m fun a hs=>k a hs
theorem y2 (m:C w) (h1:sP Tryz.prog ops n C (L) o1 d1 v1:=by exact vA) (h2:sP Tryz.prog ops n C ((d1,v1)::L) o2 d2 v2:=by exact vA) (k:∀ a,St n ((d2,v2)::(d1,v1)::L) a->wpList Tryz.prog ops Q rest a w):∀ a,St n L a->wpList Tryz.prog ops Q (o1::o2::rest) a w:=fun a hs=>h1.g _ _ _ _ hs m fun a hs=>h2.g _ _ _ _ hs m fun a hs=>k a hs
theorem z3 (hs:St n L a) (m:C w) (h1:sP Tryz.prog ops n C (L) o1 d1 v1:=by exact vA) (h2:sP Tryz.prog ops n C ((d1,v1)::L) o2 d2 v2:=by exact vA) (h3:sP Tryz.prog ops n C ((d2,v2)::(d1,v1)::L) o3 d3 v3:=by exact vA) (k:∀ a,St n ((d3,v3)::(d2,v2)::(d1,v1)::L) a->wpList Tryz.prog ops Q rest a w):wpList Tryz.prog ops Q (o1::o2::o3::rest) a w:=h1.g _ _ _ _ hs m fun a hs=>h2.g _ _ _ _ hs m fun a hs=>h3.g _ _ _ _ hs m fun a hs=>k a hs
theorem y3 (m:C w) (h1:sP Tryz.prog ops n C (L) o1 d1 v1:=by exact vA) (h2:sP Tryz.prog ops n C ((d1,v1)::L) o2 d2 v2:=by exact vA) (h3:sP Tryz.prog ops n C ((d2,v2)::(d1,v1)::L) o3 d3 v3:=by exact vA) (k:∀ a,St n ((d3,v3)::(d2,v2)::(d1,v1)::L) a->wpList Tryz.prog ops Q rest a w):∀ a,St n L a->wpList Tryz.prog ops Q (o1::o2::o3::rest) a w:=fun a hs=>h1.g _ _ _ _ hs m fun a hs=>h2.g _ _ _ _ hs m fun a hs=>h3.g _ _ _ _ hs m fun a hs=>k a hs
theorem z4 (hs:St n L a) (m:C w) (h1:sP Tryz.prog ops n C (L) o1 d1 v1:=by exact vA) (h2:sP Tryz.prog ops n C ((d1,v1)::L) o2 d2 v2:=by exact vA) (h3:sP Tryz.prog ops n C ((d2,v2)::(d1,v1)::L) o3 d3 v3:=by exact vA) (h4:sP Tryz.prog ops n C ((d3,v3)::(d2,v2)::(d1,v1)::L) o4 d4 v4:=by exact vA) (k:∀ a,St n ((d4,v4)::(d3,v3)::(d2,v2)::(d1,v1)::L) a->wpList Tryz.prog ops Q rest a w):wpList Tryz.prog ops Q (o1::o2::o3::o4::rest) a w:=h1.g _ _ _ _ hs m fun a hs=>h2.g _ _ _ _ hs m fun a hs=>h3.g _ _ _ _ hs m fun a hs=>h4.g _ _ _ _ hs m fun a hs=>k a hs
theorem y4 (m:C w) (h1:sP Tryz.prog ops n C (L) o1 d1 v1:=by exact vA) (h2:sP Tryz.prog ops n C ((d1,v1)::L) o2 d2 v2:=by exact vA) (h3:sP Tryz.prog ops n C ((d2,v2)::(d1,v1)::L) o3 d3 v3:=by exact vA) (h4:sP Tryz.prog ops n C ((d3,v3)::(d2,v2)::(d1,v1)::L) o4 d4 v4:=by exact vA) (k:∀ a,St n ((d4,v4)::(d3,v3)::(d2,v2)::(d1,v1)::L) a->wpList Tryz.prog ops Q rest a w):∀ a,St n L a->wpList Tryz.prog ops Q (o1::o2::o3::o4::rest) a w:=fun a hs=>h1.g _ _ _ _ hs m fun a hs=>h2.g _ _ _ _ hs m fun a hs=>h3.g _ _ _ _ hs m fun a hs=>h4.g _ _ _ _ hs m fun a hs=>k a hs
theorem z5 (hs:St n L a) (m:C w) (h1:sP Tryz.prog ops n C (L) o1 d1 v1:=by exact vA) (h2:sP Tryz.prog ops n C ((d1,v1)::L) o2 d2 v2:=by exact vA) (h3:sP Tryz.prog ops n C ((d2,v2)::(d1,v1)::L) o3 d3 v3:=by exact vA) (h4:sP Tryz.prog ops n C ((d3,v3)::(d2,v2)::(d1,v1)::L) o4 d4 v4:=by exact vA) (h5:sP Tryz.prog ops n C ((d4,v4)::(d3,v3)::(d2,v2)::(d1,v1)::L) o5 d5 v5:=by exact vA) (k:∀ a,St n ((d5,v5)::(d4,v4)::(d3,v3)::(d2,v2)::(d1,v1)::L) a->wpList Tryz.prog ops Q rest a w):wpList Tryz.prog ops Q (o1::o2::o3::o4::o5::rest) a w:=h1.g _ _ _ _ hs m fun a hs=>h2.g _ _ _ _ hs m fun a hs=>h3.g _ _ _ _ hs m fun a hs=>h4.g _ _ _ _ hs m fun a hs=>h5.g _ _ _ _ hs m fun a hs=>k a hs
theorem y5 (m:C w) (h1:sP Tryz.prog ops n C (L) o1 d1 v1:=by exact vA) (h2:sP Tryz.prog ops n C ((d1,v1)::L) o2 d2 v2:=by exact vA) (h3:sP Tryz.prog ops n C ((d2,v2)::(d1,v1)::L) o3 d3 v3:=by exact vA) (h4:sP Tryz.prog ops n C ((d3,v3)::(d2,v2)::(d1,v1)::L) o4 d4 v4:=by exact vA) (h5:sP Tryz.prog ops n C ((d4,v4)::(d3,v3)::(d2,v2)::(d1,v1)::L) o5 d5 v5:=by exact vA) (k:∀ a,St n ((d5,v5)::(d4,v4)::(d3,v3)::(d2,v2)::(d1,v1)::L) a->wpList Tryz.prog ops Q rest a w):∀ a,St n L a->wpList Tryz.prog ops Q (o1::o2::o3::o4::o5::rest) a w:=fun a hs=>h1.g _ _ _ _ hs m fun a hs=>h2.g _ _ _ _ hs m fun a hs=>h3.g _ _ _ _ hs m fun a hs=>h4.g _ _ _ _ hs m fun a hs=>h5.g _ _ _ _ hs m fun a hs=>k a hs
theorem z6 (hs:St n L a) (m:C w) (h1:sP Tryz.prog ops n C (L) o1 d1 v1:=by exact vA) (h2:sP Tryz.prog ops n C ((d1,v1)::L) o2 d2 v2:=by exact vA) (h3:sP Tryz.prog ops n C ((d2,v2)::(d1,v1)::L) o3 d3 v3:=by exact vA) (h4:sP Tryz.prog ops n C ((d3,v3)::(d2,v2)::(d1,v1)::L) o4 d4 v4:=by exact vA) (h5:sP Tryz.prog ops n C ((d4,v4)::(d3,v3)::(d2,v2)::(d1,v1)::L) o5 d5 v5:=by exact vA) (h6:sP Tryz.prog ops n C ((d5,v5)::(d4,v4)::(d3,v3)::(d2,v2)::(d1,v1)::L) o6 d6 v6:=by exact vA) (k:∀ a,St n ((d6,v6)::(d5,v5)::(d4,v4)::(d3,v3)::(d2,v2)::(d1,v1)::L) a->wpList Tryz.prog ops Q rest a w):wpList Tryz.prog ops Q (o1::o2::o3::o4::o5::o6::rest) a w:=h1.g _ _ _ _ hs m fun a hs=>h2.g _ _ _ _ hs m fun a hs=>h3.g _ _ _ _ hs m fun a hs=>h4.g _ _ _ _ hs m fun a hs=>h5.g _ _ _ _ hs m fun a hs=>h6.g _ _ _ _ hs m fun a hs=>k a hs
theorem y6 (m:C w) (h1:sP Tryz.prog ops n C (L) o1 d1 v1:=by exact vA) (h2:sP Tryz.prog ops n C ((d1,v1)::L) o2 d2 v2:=by exact vA) (h3:sP Tryz.prog ops n C ((d2,v2)::(d1,v1)::L) o3 d3 v3:=by exact vA) (h4:sP Tryz.prog ops n C ((d3,v3)::(d2,v2)::(d1,v1)::L) o4 d4 v4:=by exact vA) (h5:sP Tryz.prog ops n C ((d4,v4)::(d3,v3)::(d2,v2)::(d1,v1)::L) o5 d5 v5:=by exact vA) (h6:sP Tryz.prog ops n C ((d5,v5)::(d4,v4)::(d3,v3)::(d2,v2)::(d1,v1)::L) o6 d6 v6:=by exact vA) (k:∀ a,St n ((d6,v6)::(d5,v5)::(d4,v4)::(d3,v3)::(d2,v2)::(d1,v1)::L) a->wpList Tryz.prog ops Q rest a w):∀ a,St n L a->wpList Tryz.prog ops Q (o1::o2::o3::o4::o5::o6::rest) a w:=fun a hs=>h1.g _ _ _ _ hs m fun a hs=>h2.g _ _ _ _ hs m fun a hs=>h3.g _ _ _ _ hs m fun a hs=>h4.g _ _ _ _ hs m fun a hs=>h5.g _ _ _ _ hs m fun a hs=>h6.g _ _ _ _ hs m fun a hs=>k a hs
end
section
variable {Q:Act->Prop} {rest:List Oper}
theorem uZ (hs:St n L a) (h1:Stq Tryz.prog ops n C (L) o1 d1 v1:=by exact SQ_) (k:∀ a,St n ((d1,v1)::L) a->wpQuiet Tryz.prog ops C Q rest a):wpQuiet Tryz.prog ops C Q (o1::rest) a:=h1.g _ _ _ hs fun a hs=>k a hs
theorem sO (hs:St n L a) (h1:Stq Tryz.prog ops n C (L) o1 d1 v1:=by exact SQ_) (h2:Stq Tryz.prog ops n C ((d1,v1)::L) o2 d2 v2:=by exact SQ_) (k:∀ a,St n ((d2,v2)::(d1,v1)::L) a->wpQuiet Tryz.prog ops C Q rest a):wpQuiet Tryz.prog ops C Q (o1::o2::rest) a:=h1.g _ _ _ hs fun a hs=>h2.g _ _ _ hs fun a hs=>k a hs
theorem nG (hs:St n L a) (h1:Stq Tryz.prog ops n C (L) o1 d1 v1:=by exact SQ_) (h2:Stq Tryz.prog ops n C ((d1,v1)::L) o2 d2 v2:=by exact SQ_) (h3:Stq Tryz.prog ops n C ((d2,v2)::(d1,v1)::L) o3 d3 v3:=by exact SQ_) (k:∀ a,St n ((d3,v3)::(d2,v2)::(d1,v1)::L) a->wpQuiet Tryz.prog ops C Q rest a):wpQuiet Tryz.prog ops C Q (o1::o2::o3::rest) a:=h1.g _ _ _ hs fun a hs=>h2.g _ _ _ hs fun a hs=>h3.g _ _ _ hs fun a hs=>k a hs
theorem vJ (hs:St n L a) (h1:Stq Tryz.prog ops n C (L) o1 d1 v1:=by exact SQ_) (h2:Stq Tryz.prog ops n C ((d1,v1)::L) o2 d2 v2:=by exact SQ_) (h3:Stq Tryz.prog ops n C ((d2,v2)::(d1,v1)::L) o3 d3 v3:=by exact SQ_) (h4:Stq Tryz.prog ops n C ((d3,v3)::(d2,v2)::(d1,v1)::L) o4 d4 v4:=by exact SQ_) (k:∀ a,St n ((d4,v4)::(d3,v3)::(d2,v2)::(d1,v1)::L) a->wpQuiet Tryz.prog ops C Q rest a):wpQuiet Tryz.prog ops C Q (o1::o2::o3::o4::rest) a:=h1.g _ _ _ hs fun a hs=>h2.g _ _ _ hs fun a hs=>h3.g _ _ _ hs fun a hs=>h4.g _ _ _ hs fun a hs=>k a hs
theorem xD (hs:St n L a) (h1:Stq Tryz.prog ops n C (L) o1 d1 v1:=by exact SQ_) (h2:Stq Tryz.prog ops n C ((d1,v1)::L) o2 d2 v2:=by exact SQ_) (h3:Stq Tryz.prog ops n C ((d2,v2)::(d1,v1)::L) o3 d3 v3:=by exact SQ_) (h4:Stq Tryz.prog ops n C ((d3,v3)::(d2,v2)::(d1,v1)::L) o4 d4 v4:=by exact SQ_) (h5:Stq Tryz.prog ops n C ((d4,v4)::(d3,v3)::(d2,v2)::(d1,v1)::L) o5 d5 v5:=by exact SQ_) (k:∀ a,St n ((d5,v5)::(d4,v4)::(d3,v3)::(d2,v2)::(d1,v1)::L) a->wpQuiet Tryz.prog ops C Q rest a):wpQuiet Tryz.prog ops C Q (o1::o2::o3::o4::o5::rest) a:=h1.g _ _ _ hs fun a hs=>h2.g _ _ _ hs fun a hs=>h3.g _ _ _ hs fun a hs=>h4.g _ _ _ hs fun a hs=>h5.g _ _ _ hs fun a hs=>k a hs
theorem kZ (hs:St n L a) (h1:Stq Tryz.prog ops n C (L) o1 d1 v1:=by exact SQ_) (h2:Stq Tryz.prog ops n C ((d1,v1)::L) o2 d2 v2:=by exact SQ_) (h3:Stq Tryz.prog ops n C ((d2,v2)::(d1,v1)::L) o3 d3 v3:=by exact SQ_) (h4:Stq Tryz.prog ops n C ((d3,v3)::(d2,v2)::(d1,v1)::L) o4 d4 v4:=by exact SQ_) (h5:Stq Tryz.prog ops n C ((d4,v4)::(d3,v3)::(d2,v2)::(d1,v1)::L) o5 d5 v5:=by exact SQ_) (h6:Stq Tryz.prog ops n C ((d5,v5)::(d4,v4)::(d3,v3)::(d2,v2)::(d1,v1)::L) o6 d6 v6:=by exact SQ_) (k:∀ a,St n ((d6,v6)::(d5,v5)::(d4,v4)::(d3,v3)::(d2,v2)::(d1,v1)::L) a->wpQuiet Tryz.prog ops C Q rest a):wpQuiet Tryz.prog ops C Q (o1::o2::o3::o4::o5::o6::rest) a:=h1.g _ _ _ hs fun a hs=>h2.g _ _ _ hs fun a hs=>h3.g _ _ _ hs fun a hs=>h4.g _ _ _ hs fun a hs=>h5.g _ _ _ hs fun a hs=>h6.g _ _ _ hs fun a hs=>k a hs
end
section
variable {Q:Exit->Act->World->Prop} {listed:Array Bool} {fuel:Nat}
theorem kY (hs:St n L a) (m:S w) (i1:Nat) (h1:Sth Tryz.prog ops n S (L) i1 o1 d1 v1:=by exact SH_) (k:∀ a,St n ((d1,v1)::L) a->wpAnyH Tryz.prog .any ops (NP Q) S fuel (listed.setIfInBounds i1 true) a w) (hn:Region.noSelect ops=true:=by kernel_rfl) (f1:(Region.free .any ops listed i1&&(Region.ready .any ops listed).contains i1)=true:=by kernel_rfl):wpAnyH Tryz.prog .any ops (NP Q) S (fuel+1) listed a w:=h1.g _ _ _ _ _ hn (Bool.and_eq_true_iff.1 f1).1 (Bool.and_eq_true_iff.1 f1).2 hs m fun a hs=>k a hs
theorem tI (hs:St n L a) (m:S w) (i1:Nat)  (i2:Nat) (h1:Sth Tryz.prog ops n S (L) i1 o1 d1 v1:=by exact SH_) (h2:Sth Tryz.prog ops n S ((d1,v1)::L) i2 o2 d2 v2:=by exact SH_) (k:∀ a,St n ((d2,v2)::(d1,v1)::L) a->wpAnyH Tryz.prog .any ops (NP Q) S fuel ((listed.setIfInBounds i1 true).setIfInBounds i2 true) a w) (hn:Region.noSelect ops=true:=by kernel_rfl) (f1:(Region.free .any ops listed i1&&(Region.ready .any ops listed).contains i1)=true:=by kernel_rfl) (f2:(Region.free .any ops (listed.setIfInBounds i1 true) i2&&(Region.ready .any ops (listed.setIfInBounds i1 true)).contains i2)=true:=by kernel_rfl):wpAnyH Tryz.prog .any ops (NP Q) S (fuel+2) listed a w:=h1.g _ _ _ _ _ hn (Bool.and_eq_true_iff.1 f1).1 (Bool.and_eq_true_iff.1 f1).2 hs m fun a hs=>h2.g _ _ _ _ _ hn (Bool.and_eq_true_iff.1 f2).1 (Bool.and_eq_true_iff.1 f2).2 hs m fun a hs=>k a hs
theorem zh3 (hs:St n L a) (m:S w) (i1:Nat)  (i2:Nat)  (i3:Nat) (h1:Sth Tryz.prog ops n S (L) i1 o1 d1 v1:=by exact SH_) (h2:Sth Tryz.prog ops n S ((d1,v1)::L) i2 o2 d2 v2:=by exact SH_) (h3:Sth Tryz.prog ops n S ((d2,v2)::(d1,v1)::L) i3 o3 d3 v3:=by exact SH_) (k:∀ a,St n ((d3,v3)::(d2,v2)::(d1,v1)::L) a->wpAnyH Tryz.prog .any ops (NP Q) S fuel (((listed.setIfInBounds i1 true).setIfInBounds i2 true).setIfInBounds i3 true) a w) (hn:Region.noSelect ops=true:=by kernel_rfl) (f1:(Region.free .any ops listed i1&&(Region.ready .any ops listed).contains i1)=true:=by kernel_rfl) (f2:(Region.free .any ops (listed.setIfInBounds i1 true) i2&&(Region.ready .any ops (listed.setIfInBounds i1 true)).contains i2)=true:=by kernel_rfl) (f3:(Region.free .any ops ((listed.setIfInBounds i1 true).setIfInBounds i2 true) i3&&(Region.ready .any ops ((listed.setIfInBounds i1 true).setIfInBounds i2 true)).contains i3)=true:=by kernel_rfl):wpAnyH Tryz.prog .any ops (NP Q) S (fuel+3) listed a w:=h1.g _ _ _ _ _ hn (Bool.and_eq_true_iff.1 f1).1 (Bool.and_eq_true_iff.1 f1).2 hs m fun a hs=>h2.g _ _ _ _ _ hn (Bool.and_eq_true_iff.1 f2).1 (Bool.and_eq_true_iff.1 f2).2 hs m fun a hs=>h3.g _ _ _ _ _ hn (Bool.and_eq_true_iff.1 f3).1 (Bool.and_eq_true_iff.1 f3).2 hs m fun a hs=>k a hs
theorem zh4 (hs:St n L a) (m:S w) (i1:Nat)  (i2:Nat)  (i3:Nat)  (i4:Nat) (h1:Sth Tryz.prog ops n S (L) i1 o1 d1 v1:=by exact SH_) (h2:Sth Tryz.prog ops n S ((d1,v1)::L) i2 o2 d2 v2:=by exact SH_) (h3:Sth Tryz.prog ops n S ((d2,v2)::(d1,v1)::L) i3 o3 d3 v3:=by exact SH_) (h4:Sth Tryz.prog ops n S ((d3,v3)::(d2,v2)::(d1,v1)::L) i4 o4 d4 v4:=by exact SH_) (k:∀ a,St n ((d4,v4)::(d3,v3)::(d2,v2)::(d1,v1)::L) a->wpAnyH Tryz.prog .any ops (NP Q) S fuel ((((listed.setIfInBounds i1 true).setIfInBounds i2 true).setIfInBounds i3 true).setIfInBounds i4 true) a w) (hn:Region.noSelect ops=true:=by kernel_rfl) (f1:(Region.free .any ops listed i1&&(Region.ready .any ops listed).contains i1)=true:=by kernel_rfl) (f2:(Region.free .any ops (listed.setIfInBounds i1 true) i2&&(Region.ready .any ops (listed.setIfInBounds i1 true)).contains i2)=true:=by kernel_rfl) (f3:(Region.free .any ops ((listed.setIfInBounds i1 true).setIfInBounds i2 true) i3&&(Region.ready .any ops ((listed.setIfInBounds i1 true).setIfInBounds i2 true)).contains i3)=true:=by kernel_rfl) (f4:(Region.free .any ops (((listed.setIfInBounds i1 true).setIfInBounds i2 true).setIfInBounds i3 true) i4&&(Region.ready .any ops (((listed.setIfInBounds i1 true).setIfInBounds i2 true).setIfInBounds i3 true)).contains i4)=true:=by kernel_rfl):wpAnyH Tryz.prog .any ops (NP Q) S (fuel+4) listed a w:=h1.g _ _ _ _ _ hn (Bool.and_eq_true_iff.1 f1).1 (Bool.and_eq_true_iff.1 f1).2 hs m fun a hs=>h2.g _ _ _ _ _ hn (Bool.and_eq_true_iff.1 f2).1 (Bool.and_eq_true_iff.1 f2).2 hs m fun a hs=>h3.g _ _ _ _ _ hn (Bool.and_eq_true_iff.1 f3).1 (Bool.and_eq_true_iff.1 f3).2 hs m fun a hs=>h4.g _ _ _ _ _ hn (Bool.and_eq_true_iff.1 f4).1 (Bool.and_eq_true_iff.1 f4).2 hs m fun a hs=>k a hs
theorem zh5 (hs:St n L a) (m:S w) (i1:Nat)  (i2:Nat)  (i3:Nat)  (i4:Nat)  (i5:Nat) (h1:Sth Tryz.prog ops n S (L) i1 o1 d1 v1:=by exact SH_) (h2:Sth Tryz.prog ops n S ((d1,v1)::L) i2 o2 d2 v2:=by exact SH_) (h3:Sth Tryz.prog ops n S ((d2,v2)::(d1,v1)::L) i3 o3 d3 v3:=by exact SH_) (h4:Sth Tryz.prog ops n S ((d3,v3)::(d2,v2)::(d1,v1)::L) i4 o4 d4 v4:=by exact SH_) (h5:Sth Tryz.prog ops n S ((d4,v4)::(d3,v3)::(d2,v2)::(d1,v1)::L) i5 o5 d5 v5:=by exact SH_) (k:∀ a,St n ((d5,v5)::(d4,v4)::(d3,v3)::(d2,v2)::(d1,v1)::L) a->wpAnyH Tryz.prog .any ops (NP Q) S fuel (((((listed.setIfInBounds i1 true).setIfInBounds i2 true).setIfInBounds i3 true).setIfInBounds i4 true).setIfInBounds i5 true) a w) (hn:Region.noSelect ops=true:=by kernel_rfl) (f1:(Region.free .any ops listed i1&&(Region.ready .any ops listed).contains i1)=true:=by kernel_rfl) (f2:(Region.free .any ops (listed.setIfInBounds i1 true) i2&&(Region.ready .any ops (listed.setIfInBounds i1 true)).contains i2)=true:=by kernel_rfl) (f3:(Region.free .any ops ((listed.setIfInBounds i1 true).setIfInBounds i2 true) i3&&(Region.ready .any ops ((listed.setIfInBounds i1 true).setIfInBounds i2 true)).contains i3)=true:=by kernel_rfl) (f4:(Region.free .any ops (((listed.setIfInBounds i1 true).setIfInBounds i2 true).setIfInBounds i3 true) i4&&(Region.ready .any ops (((listed.setIfInBounds i1 true).setIfInBounds i2 true).setIfInBounds i3 true)).contains i4)=true:=by kernel_rfl) (f5:(Region.free .any ops ((((listed.setIfInBounds i1 true).setIfInBounds i2 true).setIfInBounds i3 true).setIfInBounds i4 true) i5&&(Region.ready .any ops ((((listed.setIfInBounds i1 true).setIfInBounds i2 true).setIfInBounds i3 true).setIfInBounds i4 true)).contains i5)=true:=by kernel_rfl):wpAnyH Tryz.prog .any ops (NP Q) S (fuel+5) listed a w:=h1.g _ _ _ _ _ hn (Bool.and_eq_true_iff.1 f1).1 (Bool.and_eq_true_iff.1 f1).2 hs m fun a hs=>h2.g _ _ _ _ _ hn (Bool.and_eq_true_iff.1 f2).1 (Bool.and_eq_true_iff.1 f2).2 hs m fun a hs=>h3.g _ _ _ _ _ hn (Bool.and_eq_true_iff.1 f3).1 (Bool.and_eq_true_iff.1 f3).2 hs m fun a hs=>h4.g _ _ _ _ _ hn (Bool.and_eq_true_iff.1 f4).1 (Bool.and_eq_true_iff.1 f4).2 hs m fun a hs=>h5.g _ _ _ _ _ hn (Bool.and_eq_true_iff.1 f5).1 (Bool.and_eq_true_iff.1 f5).2 hs m fun a hs=>k a hs
theorem pA (hs:St n L a) (m:S w) (i1:Nat)  (i2:Nat)  (i3:Nat)  (i4:Nat)  (i5:Nat)  (i6:Nat) (h1:Sth Tryz.prog ops n S (L) i1 o1 d1 v1:=by exact SH_) (h2:Sth Tryz.prog ops n S ((d1,v1)::L) i2 o2 d2 v2:=by exact SH_) (h3:Sth Tryz.prog ops n S ((d2,v2)::(d1,v1)::L) i3 o3 d3 v3:=by exact SH_) (h4:Sth Tryz.prog ops n S ((d3,v3)::(d2,v2)::(d1,v1)::L) i4 o4 d4 v4:=by exact SH_) (h5:Sth Tryz.prog ops n S ((d4,v4)::(d3,v3)::(d2,v2)::(d1,v1)::L) i5 o5 d5 v5:=by exact SH_) (h6:Sth Tryz.prog ops n S ((d5,v5)::(d4,v4)::(d3,v3)::(d2,v2)::(d1,v1)::L) i6 o6 d6 v6:=by exact SH_) (k:∀ a,St n ((d6,v6)::(d5,v5)::(d4,v4)::(d3,v3)::(d2,v2)::(d1,v1)::L) a->wpAnyH Tryz.prog .any ops (NP Q) S fuel ((((((listed.setIfInBounds i1 true).setIfInBounds i2 true).setIfInBounds i3 true).setIfInBounds i4 true).setIfInBounds i5 true).setIfInBounds i6 true) a w) (hn:Region.noSelect ops=true:=by kernel_rfl) (f1:(Region.free .any ops listed i1&&(Region.ready .any ops listed).contains i1)=true:=by kernel_rfl) (f2:(Region.free .any ops (listed.setIfInBounds i1 true) i2&&(Region.ready .any ops (listed.setIfInBounds i1 true)).contains i2)=true:=by kernel_rfl) (f3:(Region.free .any ops ((listed.setIfInBounds i1 true).setIfInBounds i2 true) i3&&(Region.ready .any ops ((listed.setIfInBounds i1 true).setIfInBounds i2 true)).contains i3)=true:=by kernel_rfl) (f4:(Region.free .any ops (((listed.setIfInBounds i1 true).setIfInBounds i2 true).setIfInBounds i3 true) i4&&(Region.ready .any ops (((listed.setIfInBounds i1 true).setIfInBounds i2 true).setIfInBounds i3 true)).contains i4)=true:=by kernel_rfl) (f5:(Region.free .any ops ((((listed.setIfInBounds i1 true).setIfInBounds i2 true).setIfInBounds i3 true).setIfInBounds i4 true) i5&&(Region.ready .any ops ((((listed.setIfInBounds i1 true).setIfInBounds i2 true).setIfInBounds i3 true).setIfInBounds i4 true)).contains i5)=true:=by kernel_rfl) (f6:(Region.free .any ops (((((listed.setIfInBounds i1 true).setIfInBounds i2 true).setIfInBounds i3 true).setIfInBounds i4 true).setIfInBounds i5 true) i6&&(Region.ready .any ops (((((listed.setIfInBounds i1 true).setIfInBounds i2 true).setIfInBounds i3 true).setIfInBounds i4 true).setIfInBounds i5 true)).contains i6)=true:=by kernel_rfl):wpAnyH Tryz.prog .any ops (NP Q) S (fuel+6) listed a w:=h1.g _ _ _ _ _ hn (Bool.and_eq_true_iff.1 f1).1 (Bool.and_eq_true_iff.1 f1).2 hs m fun a hs=>h2.g _ _ _ _ _ hn (Bool.and_eq_true_iff.1 f2).1 (Bool.and_eq_true_iff.1 f2).2 hs m fun a hs=>h3.g _ _ _ _ _ hn (Bool.and_eq_true_iff.1 f3).1 (Bool.and_eq_true_iff.1 f3).2 hs m fun a hs=>h4.g _ _ _ _ _ hn (Bool.and_eq_true_iff.1 f4).1 (Bool.and_eq_true_iff.1 f4).2 hs m fun a hs=>h5.g _ _ _ _ _ hn (Bool.and_eq_true_iff.1 f5).1 (Bool.and_eq_true_iff.1 f5).2 hs m fun a hs=>h6.g _ _ _ _ _ hn (Bool.and_eq_true_iff.1 f6).1 (Bool.and_eq_true_iff.1 f6).2 hs m fun a hs=>k a hs
end
end
section
variable {ops:Array Oper} {Q:Exit->Act->World->Prop} {rest:List Oper} {n d:Nat} {L:List (Nat×Value)} {a:Act} {w w0:World} {R:Hh} {Ps:List HP} {c:Operand} {xs:List Operand} {tys:Array TypeId} {ty:TypeId} {pos:String} {aft:Array Edge} {f:FuncId} {first cap vs us:List Value} {P:Program}
theorem eW {F:Value} {G:List HP} (z:Nat) (m:Hp w0 R Ps w) (hs:St n L a) (hf:bL P f=true) (h:∀ R1,xE R R1->(∃ y,SepL (Ps.drop z) y/\xE y R1)->Hp w R1 (Ps.take z) w->Calls P f ⟨us⟩ w fun e w'=>∃ v,e= .returned v/\(v=F/\Hp w R1 (G) w'))
    (k:∀ w',Hp w0 R (G++Ps.drop z) w'->∀ a',St n ((d,F)::L) a'->wpList P ops Q rest a' w') (hc:ev L c=some (.func (.func f) ⟨first⟩ ⟨cap⟩):=by rfl) (hx:evs L xs=some vs:=by rfl) (hu:first++vs++cap=us:=by rfl) (hd:Nat.blt d n=true:=by rfl):wpList P ops Q (⟨some d,.call ⟨.value c,⟨xs⟩,tys⟩,ty,pos,aft,none⟩::rest) a w:=by
  obtain⟨R1,hR,hR2,sy,mc,back⟩:=Hp.split (Pc:=Ps.take z) (Ps:=Ps.drop z) (by rw[List.take_append_drop];exact m)
  refine xA hs hc hx hf hu (h R1 hR sy mc) hd ?_
  rintro _ w' ⟨rfl,hm⟩ a hs
  exact k w' (back _ _ hm) a hs
theorem jM {F:SH->Value} {G:SH->List HP} (z:Nat) (m:Hp w0 R Ps w) (hs:St n L a) (hf:bL P f=true) (h:∀ R1,xE R R1->(∃ y,SepL (Ps.drop z) y/\xE y R1)->Hp w R1 (Ps.take z) w->Calls P f ⟨us⟩ w fun e w'=>∃ v,e= .returned v/\(∃ x0:SH,v=F x0/\Hp w R1 (G x0) w'))
    (k:∀ (x0:SH) w',Hp w0 R (G x0++Ps.drop z) w'->∀ a',St n ((d,F x0)::L) a'->wpList P ops Q rest a' w') (hc:ev L c=some (.func (.func f) ⟨first⟩ ⟨cap⟩):=by rfl) (hx:evs L xs=some vs:=by rfl) (hu:first++vs++cap=us:=by rfl) (hd:Nat.blt d n=true:=by rfl):wpList P ops Q (⟨some d,.call ⟨.value c,⟨xs⟩,tys⟩,ty,pos,aft,none⟩::rest) a w:=by
  obtain⟨R1,hR,hR2,sy,mc,back⟩:=Hp.split (Pc:=Ps.take z) (Ps:=Ps.drop z) (by rw[List.take_append_drop];exact m)
  refine xA hs hc hx hf hu (h R1 hR sy mc) hd ?_
  rintro _ w' ⟨x0,rfl,hm⟩ a hs
  exact k x0 w' (back _ _ hm) a hs
theorem jS {F:SH->Value} {G:SH->List HP} (m:Hp w0 R Ps w) (hs:St n L a) (hf:bL P f=true) (h:Calls P f ⟨us⟩ w fun e w'=>∃ v,e= .returned v/\(∃ x0:SH,v=F x0/\Hp w (hh w) (G x0) w'))
    (k:∀ (x0:SH) w',Hp w0 R (G x0++Ps) w'->∀ a',St n ((d,F x0)::L) a'->wpList P ops Q rest a' w') (hc:ev L c=some (.func (.func f) ⟨first⟩ ⟨cap⟩):=by rfl) (hx:evs L xs=some vs:=by rfl) (hu:first++vs++cap=us:=by rfl) (hd:Nat.blt d n=true:=by rfl):wpList P ops Q (⟨some d,.call ⟨.value c,⟨xs⟩,tys⟩,ty,pos,aft,none⟩::rest) a w:=by
  refine xA hs hc hx hf hu h hd ?_
  rintro _ w' ⟨x0,rfl,hm⟩ a hs
  exact k x0 w' (m.after hm) a hs
theorem fH {F:Addr->Value} {G:Addr->List HP} (m:Hp w0 R Ps w) (hs:St n L a) (hf:bL P f=true) (h:Calls P f ⟨us⟩ w fun e w'=>∃ v,e= .returned v/\(∃ x0:Addr,v=F x0/\Hp w (hh w) (G x0) w'))
    (k:∀ (x0:Addr) w',Hp w0 R (G x0++Ps) w'->∀ a',St n ((d,F x0)::L) a'->wpList P ops Q rest a' w') (hc:ev L c=some (.func (.func f) ⟨first⟩ ⟨cap⟩):=by rfl) (hx:evs L xs=some vs:=by rfl) (hu:first++vs++cap=us:=by rfl) (hd:Nat.blt d n=true:=by rfl):wpList P ops Q (⟨some d,.call ⟨.value c,⟨xs⟩,tys⟩,ty,pos,aft,none⟩::rest) a w:=by
  refine xA hs hc hx hf hu h hd ?_
  rintro _ w' ⟨x0,rfl,hm⟩ a hs
  exact k x0 w' (m.after hm) a hs
theorem wL {F:SH->SH->SH->Value} {G:SH->SH->SH->List HP} (z:Nat) (m:Hp w0 R Ps w) (hs:St n L a) (hf:bL P f=true) (h:∀ R1,xE R R1->(∃ y,SepL (Ps.drop z) y/\xE y R1)->Hp w R1 (Ps.take z) w->Calls P f ⟨us⟩ w fun e w'=>∃ v,e= .returned v/\(∃ x0:SH,∃ x1:SH,∃ x2:SH,v=F x0 x1 x2/\Hp w R1 (G x0 x1 x2) w'))
    (k:∀ (x0:SH) (x1:SH) (x2:SH) w',Hp w0 R (G x0 x1 x2++Ps.drop z) w'->∀ a',St n ((d,F x0 x1 x2)::L) a'->wpList P ops Q rest a' w') (hc:ev L c=some (.func (.func f) ⟨first⟩ ⟨cap⟩):=by rfl) (hx:evs L xs=some vs:=by rfl) (hu:first++vs++cap=us:=by rfl) (hd:Nat.blt d n=true:=by rfl):wpList P ops Q (⟨some d,.call ⟨.value c,⟨xs⟩,tys⟩,ty,pos,aft,none⟩::rest) a w:=by
  obtain⟨R1,hR,hR2,sy,mc,back⟩:=Hp.split (Pc:=Ps.take z) (Ps:=Ps.drop z) (by rw[List.take_append_drop];exact m)
  refine xA hs hc hx hf hu (h R1 hR sy mc) hd ?_
  rintro _ w' ⟨x0,x1,x2,rfl,hm⟩ a hs
  exact k x0 x1 x2 w' (back _ _ hm) a hs
theorem oL {F:SH->SH->SH->Value} {G:SH->SH->SH->List HP} (m:Hp w0 R Ps w) (hs:St n L a) (hf:bL P f=true) (h:Calls P f ⟨us⟩ w fun e w'=>∃ v,e= .returned v/\(∃ x0:SH,∃ x1:SH,∃ x2:SH,v=F x0 x1 x2/\Hp w (hh w) (G x0 x1 x2) w'))
    (k:∀ (x0:SH) (x1:SH) (x2:SH) w',Hp w0 R (G x0 x1 x2++Ps) w'->∀ a',St n ((d,F x0 x1 x2)::L) a'->wpList P ops Q rest a' w') (hc:ev L c=some (.func (.func f) ⟨first⟩ ⟨cap⟩):=by rfl) (hx:evs L xs=some vs:=by rfl) (hu:first++vs++cap=us:=by rfl) (hd:Nat.blt d n=true:=by rfl):wpList P ops Q (⟨some d,.call ⟨.value c,⟨xs⟩,tys⟩,ty,pos,aft,none⟩::rest) a w:=by
  refine xA hs hc hx hf hu h hd ?_
  rintro _ w' ⟨x0,x1,x2,rfl,hm⟩ a hs
  exact k x0 x1 x2 w' (m.after hm) a hs
theorem aLY {F:SH->SH->SH->SH->SH->Value} {G:SH->SH->SH->SH->SH->List HP} (m:Hp w0 R Ps w) (hs:St n L a) (hf:bL P f=true) (h:Calls P f ⟨us⟩ w fun e w'=>∃ v,e= .returned v/\(∃ x0:SH,∃ x1:SH,∃ x2:SH,∃ x3:SH,∃ x4:SH,v=F x0 x1 x2 x3 x4/\Hp w (hh w) (G x0 x1 x2 x3 x4) w'))
    (k:∀ (x0:SH) (x1:SH) (x2:SH) (x3:SH) (x4:SH) w',Hp w0 R (G x0 x1 x2 x3 x4++Ps) w'->∀ a',St n ((d,F x0 x1 x2 x3 x4)::L) a'->wpList P ops Q rest a' w') (hc:ev L c=some (.func (.func f) ⟨first⟩ ⟨cap⟩):=by rfl) (hx:evs L xs=some vs:=by rfl) (hu:first++vs++cap=us:=by rfl) (hd:Nat.blt d n=true:=by rfl):wpList P ops Q (⟨some d,.call ⟨.value c,⟨xs⟩,tys⟩,ty,pos,aft,none⟩::rest) a w:=by
  refine xA hs hc hx hf hu h hd ?_
  rintro _ w' ⟨x0,x1,x2,x3,x4,rfl,hm⟩ a hs
  exact k x0 x1 x2 x3 x4 w' (m.after hm) a hs
end
theorem iG:(∀ (a:HP) (l m:List HP),(a::l)++m=a::(l++m))/\(∀ l:List HP,[]++l=l)/\(∀ (a:HP) (l:List HP) (n:Nat),(a::l).drop (n+1)=l.drop n)/\(∀ l:List HP,l.drop 0=l):=⟨fun _ _ _=>rfl,fun _=>rfl,fun _ _ _=>rfl,fun _=>rfl⟩
section
variable {P:Program} {ops:Array Oper} {Q:Exit->Act->World->Prop} {n d:Nat} {L T:List (Nat×Value)} {a:Act} {w w0:World} {R:Hh} {Ps Qs:List HP} {v:Value}
def xW (l:List (Nat×Value)) (j:Nat):Bool:=l.any fun e=>Nat.beq e.1 j
def apart (K T:List (Nat×Value)):Bool:=K.all fun e => !xW T e.1
theorem aUE:∀ {T:List (Nat×Value)} {j:Nat} {v:Value},lk T j=some v->xW T j=true
  | (i,u)::T,j,v,h=>by
    unfold lk at h
    unfold xW
    simp only[List.any_cons,Bool.or_eq_true]
    split at h
    · rename_i hb;exact .inl hb
    · exact .inr (aUE h)
theorem aP3:∀ {K T:List (Nat×Value)} {j:Nat},xW K j=false->lk (K++T) j=lk T j
  | [],_,_,_=>rfl
  | (i,u)::K,T,j,h=>by
    unfold xW at h
    simp only[List.any_cons,Bool.or_eq_false_iff] at h
    show lk ((i,u)::(K++T)) j=_
    rw[aBB u _ (fun e=>by have h1:=h.1;rw[e,Nat.beq_refl] at h1;cases h1)]
    exact aP3 h.2
theorem St.ct (z:Nat) (h:St n ((d,v)::T) a) (hk:apart (T.take z) (T.drop z)=true:=by rfl):St n ((d,v)::T.drop z) a :=
  h.weak fun i u hu=>by
    by_cases e:d=i
    · subst e
      rw[aHA] at hu ⊢
      exact hu
    · rw[aBB _ _ e] at hu ⊢
      have hin:=aUE hu
      have:xW (T.take z) i=false:=by
        cases hq:xW (T.take z) i with
        | false=>rfl
        | true =>
          unfold xW at hq
          rw[List.any_eq_true] at hq
          obtain⟨e,he,h2⟩:=hq
          unfold apart at hk
          have:=List.all_eq_true.1 hk e he
          rw[Nat.eq_of_beq_eq_true h2,hin] at this
          cases this
      have h3:lk T i=lk (T.take z++T.drop z) i:=by rw[List.take_append_drop]
      rw[h3,aP3 this]
      exact hu
theorem xY {l1 l2 l:List Oper} (hp:Spl l1 l2 l) (hs:St n L a) (m:Hp w0 R Ps w) (d:Nat) (v:Value) (h:wpList P ops (Exit.then (fun a w=>St n ((d,v)::L) a/\Hp w0 R Ps w) Q) l1 a w) (k:∀ a w,St n ((d,v)::L) a/\Hp w0 R Ps w->wpList P ops Q l2 a w):wpList P ops Q l a w:=zG hp _ h k
theorem qct {l1 l2 l:List Oper} {C:World->Prop} {Q:Act->Prop} (hp:Spl l1 l2 l) (hs:St n L a) (d:Nat) (v:Value) (h:wpQuiet P ops C (fun a=>St n ((d,v)::L) a) l1 a) (k:∀ a,St n ((d,v)::L) a->wpQuiet P ops C Q l2 a):wpQuiet P ops C Q l a:=oU hp _ h k
theorem a0 { p:HP} {l r:List HP} (h:Sub r (l)):Sub (p::r) (p::l):=.c r0 h
theorem a1 {x0 p:HP} {l r:List HP} (h:Sub r (x0::l)):Sub (p::r) (x0::p::l):=.c r1 h
theorem a2 {x0 x1 p:HP} {l r:List HP} (h:Sub r (x0::x1::l)):Sub (p::r) (x0::x1::p::l):=.c r2 h
theorem a3 {x0 x1 x2 p:HP} {l r:List HP} (h:Sub r (x0::x1::x2::l)):Sub (p::r) (x0::x1::x2::p::l):=.c r3 h
theorem a4 {x0 x1 x2 x3 p:HP} {l r:List HP} (h:Sub r (x0::x1::x2::x3::l)):Sub (p::r) (x0::x1::x2::x3::p::l):=.c r4 h
theorem a5 {x0 x1 x2 x3 x4 p:HP} {l r:List HP} (h:Sub r (x0::x1::x2::x3::x4::l)):Sub (p::r) (x0::x1::x2::x3::x4::p::l):=.c r5 h
theorem a6 {x0 x1 x2 x3 x4 x5 p:HP} {l r:List HP} (h:Sub r (x0::x1::x2::x3::x4::x5::l)):Sub (p::r) (x0::x1::x2::x3::x4::x5::p::l):=.c r6 h
theorem a7 {x0 x1 x2 x3 x4 x5 x6 p:HP} {l r:List HP} (h:Sub r (x0::x1::x2::x3::x4::x5::x6::l)):Sub (p::r) (x0::x1::x2::x3::x4::x5::x6::p::l):=.c r7 h
theorem a8 {x0 x1 x2 x3 x4 x5 x6 x7 p:HP} {l r:List HP} (h:Sub r (x0::x1::x2::x3::x4::x5::x6::x7::l)):Sub (p::r) (x0::x1::x2::x3::x4::x5::x6::x7::p::l):=.c r8 h
theorem a9 {x0 x1 x2 x3 x4 x5 x6 x7 x8 p:HP} {l r:List HP} (h:Sub r (x0::x1::x2::x3::x4::x5::x6::x7::x8::l)):Sub (p::r) (x0::x1::x2::x3::x4::x5::x6::x7::x8::p::l):=.c r9 h
theorem a10 {x0 x1 x2 x3 x4 x5 x6 x7 x8 x9 p:HP} {l r:List HP} (h:Sub r (x0::x1::x2::x3::x4::x5::x6::x7::x8::x9::l)):Sub (p::r) (x0::x1::x2::x3::x4::x5::x6::x7::x8::x9::p::l):=.c r10 h
theorem a11 {x0 x1 x2 x3 x4 x5 x6 x7 x8 x9 x10 p:HP} {l r:List HP} (h:Sub r (x0::x1::x2::x3::x4::x5::x6::x7::x8::x9::x10::l)):Sub (p::r) (x0::x1::x2::x3::x4::x5::x6::x7::x8::x9::x10::p::l):=.c r11 h
theorem a12 {x0 x1 x2 x3 x4 x5 x6 x7 x8 x9 x10 x11 p:HP} {l r:List HP} (h:Sub r (x0::x1::x2::x3::x4::x5::x6::x7::x8::x9::x10::x11::l)):Sub (p::r) (x0::x1::x2::x3::x4::x5::x6::x7::x8::x9::x10::x11::p::l):=.c r12 h
theorem a13 {x0 x1 x2 x3 x4 x5 x6 x7 x8 x9 x10 x11 x12 p:HP} {l r:List HP} (h:Sub r (x0::x1::x2::x3::x4::x5::x6::x7::x8::x9::x10::x11::x12::l)):Sub (p::r) (x0::x1::x2::x3::x4::x5::x6::x7::x8::x9::x10::x11::x12::p::l):=.c r13 h
theorem a14 {x0 x1 x2 x3 x4 x5 x6 x7 x8 x9 x10 x11 x12 x13 p:HP} {l r:List HP} (h:Sub r (x0::x1::x2::x3::x4::x5::x6::x7::x8::x9::x10::x11::x12::x13::l)):Sub (p::r) (x0::x1::x2::x3::x4::x5::x6::x7::x8::x9::x10::x11::x12::x13::p::l):=.c r14 h
theorem a15 {x0 x1 x2 x3 x4 x5 x6 x7 x8 x9 x10 x11 x12 x13 x14 p:HP} {l r:List HP} (h:Sub r (x0::x1::x2::x3::x4::x5::x6::x7::x8::x9::x10::x11::x12::x13::x14::l)):Sub (p::r) (x0::x1::x2::x3::x4::x5::x6::x7::x8::x9::x10::x11::x12::x13::x14::p::l):=.c r15 h
theorem a16 {x0 x1 x2 x3 x4 x5 x6 x7 x8 x9 x10 x11 x12 x13 x14 x15 p:HP} {l r:List HP} (h:Sub r (x0::x1::x2::x3::x4::x5::x6::x7::x8::x9::x10::x11::x12::x13::x14::x15::l)):Sub (p::r) (x0::x1::x2::x3::x4::x5::x6::x7::x8::x9::x10::x11::x12::x13::x14::x15::p::l):=.c r16 h
theorem a17 {x0 x1 x2 x3 x4 x5 x6 x7 x8 x9 x10 x11 x12 x13 x14 x15 x16 p:HP} {l r:List HP} (h:Sub r (x0::x1::x2::x3::x4::x5::x6::x7::x8::x9::x10::x11::x12::x13::x14::x15::x16::l)):Sub (p::r) (x0::x1::x2::x3::x4::x5::x6::x7::x8::x9::x10::x11::x12::x13::x14::x15::x16::p::l):=.c r17 h
theorem a18 {x0 x1 x2 x3 x4 x5 x6 x7 x8 x9 x10 x11 x12 x13 x14 x15 x16 x17 p:HP} {l r:List HP} (h:Sub r (x0::x1::x2::x3::x4::x5::x6::x7::x8::x9::x10::x11::x12::x13::x14::x15::x16::x17::l)):Sub (p::r) (x0::x1::x2::x3::x4::x5::x6::x7::x8::x9::x10::x11::x12::x13::x14::x15::x16::x17::p::l):=.c r18 h
theorem a19 {x0 x1 x2 x3 x4 x5 x6 x7 x8 x9 x10 x11 x12 x13 x14 x15 x16 x17 x18 p:HP} {l r:List HP} (h:Sub r (x0::x1::x2::x3::x4::x5::x6::x7::x8::x9::x10::x11::x12::x13::x14::x15::x16::x17::x18::l)):Sub (p::r) (x0::x1::x2::x3::x4::x5::x6::x7::x8::x9::x10::x11::x12::x13::x14::x15::x16::x17::x18::p::l):=.c r19 h
theorem vK {id:Nat} {l:List Oper} {y:Code} (m:Hp w0 R Ps w) (hq:Sub Qs Ps) (k:∀ w',Hp w0 R Ps w'->wpAnyH Tryz.prog .any l.toArray (NP (Exit.then (y.wp Tryz.prog Q) Q)) (Hp w0 R Qs) l.length (Array.replicate l.length false) a w'):(Code.seq (.region id l.toArray true) y).wp Tryz.prog Q a w:=aRY (Hp w0 R Qs) m mo k
theorem drL {id:Nat} {l:List Oper} (m:Hp w0 R Ps w) (hq:Sub Qs Ps) (k:∀ w',Hp w0 R Ps w'->wpAnyH Tryz.prog .any l.toArray (NP Q) (Hp w0 R Qs) l.length (Array.replicate l.length false) a w'):(Code.region id l.toArray true).wp Tryz.prog Q a w:=aCN (Hp w0 R Qs) m mo k
end
end Go.Proofs.YtnbpodjbemfpbaaGreat.Fw
set_option linter.all false
namespace Go.Proofs.YtnbpodjbemfpbaaGreat.Fw
open Go
def iI (p q:Addr):List (List Value):=[[.string (ByteArray.mk ⟨[100,117,109,112]⟩),.func (.func 71) ⟨[]⟩ ⟨[.pointer (some (bK q 0))]⟩],[.string (ByteArray.mk ⟨[115,110,97,112,115,104,111,116]⟩),.func (.func 72) ⟨[]⟩ ⟨[.pointer (some (bK q 0))]⟩],[.string (ByteArray.mk ⟨[107,101,114,110,101,108]⟩),.func (.func 73) ⟨[.pointer (some (bK p 0))]⟩ ⟨[]⟩],[.string (ByteArray.mk ⟨[97,99,113,117,105,114,101]⟩),.func (.func 74) ⟨[.pointer (some (bK p 0))]⟩ ⟨[]⟩],[.string (ByteArray.mk ⟨[114,101,110,101,119]⟩),.func (.func 75) ⟨[.pointer (some (bK p 0))]⟩ ⟨[]⟩],[.string (ByteArray.mk ⟨[119,97,116,99,104]⟩),.func (.func 76) ⟨[]⟩ ⟨[.pointer (some (bK q 0))]⟩]]
structure hF where
  self:kA
  opn:eH
  read:Bool
  Routes:List bD
  Neighs:List bA
  Fdbs:List cH
  view:List TLease
  cursor:Fx .i64
  stale:Bool
  skipped:List aT
  degraded:Bool
  granted:Fx .i64
  waiting:Bool
  wish:aT
  renewed:Bool
  quiet:Bool
def cAg (self:kA) (x_rules:Value) (opn:eH) (read:Bool) (aF:Value) (aA:Value) (aH:Value) (x_view:Value) (cursor:Fx .i64) (stale:Bool) (x_skipped:Value) (degraded:Bool) (granted:Fx .i64) (waiting:Bool) (wish:aT) (renewed:Bool) (quiet:Bool):List Value:=[.int .i64 self.Host.v,.int .u32 self.Pub.v,.int .u8 self.MAC.b0.v,.int .u8 self.MAC.b1.v,.int .u8 self.MAC.b2.v,.int .u8 self.MAC.b3.v,.int .u8 self.MAC.b4.v,.int .u8 self.MAC.b5.v,.int .i64 self.Renew.v,x_rules,.int .i64 opn.Kind.v,.int .i64 opn.Cmd.Kind.v,.int .i64 opn.Cmd.Host.v,.int .u32 opn.Cmd.Subnet.Addr.v,.int .i64 opn.Cmd.Subnet.Len.v,.int .u32 opn.Cmd.Pub.v,.int .u8 opn.Cmd.MAC.b0.v,.int .u8 opn.Cmd.MAC.b1.v,.int .u8 opn.Cmd.MAC.b2.v,.int .u8 opn.Cmd.MAC.b3.v,.int .u8 opn.Cmd.MAC.b4.v,.int .u8 opn.Cmd.MAC.b5.v,.int .i64 opn.Cmd.N.v,.int .i64 opn.Op.Kind.v,.int .u32 opn.Op.Route.Dst.Addr.v,.int .i64 opn.Op.Route.Dst.Len.v,.int .u32 opn.Op.Route.Via.v,.bool opn.Op.Route.Local,.int .u32 opn.Op.Neigh.IP.v,.int .u8 opn.Op.Neigh.MAC.b0.v,.int .u8 opn.Op.Neigh.MAC.b1.v,.int .u8 opn.Op.Neigh.MAC.b2.v,.int .u8 opn.Op.Neigh.MAC.b3.v,.int .u8 opn.Op.Neigh.MAC.b4.v,.int .u8 opn.Op.Neigh.MAC.b5.v,.int .u8 opn.Op.Fdb.MAC.b0.v,.int .u8 opn.Op.Fdb.MAC.b1.v,.int .u8 opn.Op.Fdb.MAC.b2.v,.int .u8 opn.Op.Fdb.MAC.b3.v,.int .u8 opn.Op.Fdb.MAC.b4.v,.int .u8 opn.Op.Fdb.MAC.b5.v,.int .u32 opn.Op.Fdb.To.v,.int .i64 opn.From.v,.int .i64 opn.Max.v,.bool read,aF,aA,aH,x_view,.int .i64 cursor.v,.bool stale,x_skipped,.bool degraded,.int .i64 granted.v,.bool waiting,.int .u32 wish.Addr.v,.int .i64 wish.Len.v,.bool renewed,.bool quiet]
def tP (p:Addr) (A:hF):HP:=fun h=>∃ q:Addr,∃ vRules:SH,∃ vRoutes:SH,∃ vNeighs:SH,∃ vFdbs:SH,∃ vView:SH,∃ vSkipped:SH,SepL [Bx p 135 (cAg A.self vRules.v A.opn A.read vRoutes.v vNeighs.v vFdbs.v vView.v A.cursor A.stale vSkipped.v A.degraded A.granted A.waiting A.wish A.renewed A.quiet),Bx q 63 [.pointer (some (bK p 0))],Sv 2 138 vRules.v ((iI p q).map id),Sv 4 51 vRoutes.v (A.Routes.map aM),Sv 7 54 vNeighs.v (A.Neighs.map aS),Sv 7 56 vFdbs.v (A.Fdbs.map cB),Sv 12 48 vView.v (A.view.map aV),Sv 2 44 vSkipped.v (A.skipped.map aO)] h
section
variable {w0 w:World} {R:Hh} {Ps Qs:List HP} {p:Addr} {A:hF}
theorem Hp.openAg (m:Hp w0 R Ps w) (hP:Rem Ps (tP p A) Qs):∃ (q:Addr) (vRules:SH) (vRoutes:SH) (vNeighs:SH) (vFdbs:SH) (vView:SH) (vSkipped:SH),Hp w0 R (Bx p 135 (cAg A.self vRules.v A.opn A.read vRoutes.v vNeighs.v vFdbs.v vView.v A.cursor A.stale vSkipped.v A.degraded A.granted A.waiting A.wish A.renewed A.quiet)::Bx q 63 [.pointer (some (bK p 0))]::Sv 2 138 vRules.v ((iI p q).map id)::Sv 4 51 vRoutes.v (A.Routes.map aM)::Sv 7 54 vNeighs.v (A.Neighs.map aS)::Sv 7 56 vFdbs.v (A.Fdbs.map cB)::Sv 12 48 vView.v (A.view.map aV)::Sv 2 44 vSkipped.v (A.skipped.map aO)::Qs) w:=by
  have m:=m.front hP
  obtain⟨q,m⟩:=m.ex
  obtain⟨vRules,m⟩:=m.ex
  obtain⟨vRoutes,m⟩:=m.ex
  obtain⟨vNeighs,m⟩:=m.ex
  obtain⟨vFdbs,m⟩:=m.ex
  obtain⟨vView,m⟩:=m.ex
  obtain⟨vSkipped,m⟩:=m.ex
  exact⟨q,vRules,vRoutes,vNeighs,vFdbs,vView,vSkipped,m.sep⟩
theorem Hp.closeAg {q:Addr} {vRules:SH} {vRoutes:SH} {vNeighs:SH} {vFdbs:SH} {vView:SH} {vSkipped:SH} (m:Hp w0 R (Bx p 135 (cAg A.self vRules.v A.opn A.read vRoutes.v vNeighs.v vFdbs.v vView.v A.cursor A.stale vSkipped.v A.degraded A.granted A.waiting A.wish A.renewed A.quiet)::Bx q 63 [.pointer (some (bK p 0))]::Sv 2 138 vRules.v ((iI p q).map id)::Sv 4 51 vRoutes.v (A.Routes.map aM)::Sv 7 54 vNeighs.v (A.Neighs.map aS)::Sv 7 56 vFdbs.v (A.Fdbs.map cB)::Sv 12 48 vView.v (A.view.map aV)::Sv 2 44 vSkipped.v (A.skipped.map aO)::Qs) w):Hp w0 R (tP p A::Qs) w:=by
  have m:Hp w0 R ([Bx p 135 (cAg A.self vRules.v A.opn A.read vRoutes.v vNeighs.v vFdbs.v vView.v A.cursor A.stale vSkipped.v A.degraded A.granted A.waiting A.wish A.renewed A.quiet),Bx q 63 [.pointer (some (bK p 0))],Sv 2 138 vRules.v ((iI p q).map id),Sv 4 51 vRoutes.v (A.Routes.map aM),Sv 7 54 vNeighs.v (A.Neighs.map aS),Sv 7 56 vFdbs.v (A.Fdbs.map cB),Sv 12 48 vView.v (A.view.map aV),Sv 2 44 vSkipped.v (A.skipped.map aO)]++Qs) w:=m
  have m:=m.unsep
  have m:=Hp.unex (p:=fun vSkipped=>(fun h=>SepL [Bx p 135 (cAg A.self vRules.v A.opn A.read vRoutes.v vNeighs.v vFdbs.v vView.v A.cursor A.stale vSkipped.v A.degraded A.granted A.waiting A.wish A.renewed A.quiet),Bx q 63 [.pointer (some (bK p 0))],Sv 2 138 vRules.v ((iI p q).map id),Sv 4 51 vRoutes.v (A.Routes.map aM),Sv 7 54 vNeighs.v (A.Neighs.map aS),Sv 7 56 vFdbs.v (A.Fdbs.map cB),Sv 12 48 vView.v (A.view.map aV),Sv 2 44 vSkipped.v (A.skipped.map aO)] h:HP)) vSkipped m
  have m:=Hp.unex (p:=fun vView=>(fun h=>∃ vSkipped:SH,SepL [Bx p 135 (cAg A.self vRules.v A.opn A.read vRoutes.v vNeighs.v vFdbs.v vView.v A.cursor A.stale vSkipped.v A.degraded A.granted A.waiting A.wish A.renewed A.quiet),Bx q 63 [.pointer (some (bK p 0))],Sv 2 138 vRules.v ((iI p q).map id),Sv 4 51 vRoutes.v (A.Routes.map aM),Sv 7 54 vNeighs.v (A.Neighs.map aS),Sv 7 56 vFdbs.v (A.Fdbs.map cB),Sv 12 48 vView.v (A.view.map aV),Sv 2 44 vSkipped.v (A.skipped.map aO)] h:HP)) vView m
  have m:=Hp.unex (p:=fun vFdbs=>(fun h=>∃ vView:SH,∃ vSkipped:SH,SepL [Bx p 135 (cAg A.self vRules.v A.opn A.read vRoutes.v vNeighs.v vFdbs.v vView.v A.cursor A.stale vSkipped.v A.degraded A.granted A.waiting A.wish A.renewed A.quiet),Bx q 63 [.pointer (some (bK p 0))],Sv 2 138 vRules.v ((iI p q).map id),Sv 4 51 vRoutes.v (A.Routes.map aM),Sv 7 54 vNeighs.v (A.Neighs.map aS),Sv 7 56 vFdbs.v (A.Fdbs.map cB),Sv 12 48 vView.v (A.view.map aV),Sv 2 44 vSkipped.v (A.skipped.map aO)] h:HP)) vFdbs m
  have m:=Hp.unex (p:=fun vNeighs=>(fun h=>∃ vFdbs:SH,∃ vView:SH,∃ vSkipped:SH,SepL [Bx p 135 (cAg A.self vRules.v A.opn A.read vRoutes.v vNeighs.v vFdbs.v vView.v A.cursor A.stale vSkipped.v A.degraded A.granted A.waiting A.wish A.renewed A.quiet),Bx q 63 [.pointer (some (bK p 0))],Sv 2 138 vRules.v ((iI p q).map id),Sv 4 51 vRoutes.v (A.Routes.map aM),Sv 7 54 vNeighs.v (A.Neighs.map aS),Sv 7 56 vFdbs.v (A.Fdbs.map cB),Sv 12 48 vView.v (A.view.map aV),Sv 2 44 vSkipped.v (A.skipped.map aO)] h:HP)) vNeighs m
  have m:=Hp.unex (p:=fun vRoutes=>(fun h=>∃ vNeighs:SH,∃ vFdbs:SH,∃ vView:SH,∃ vSkipped:SH,SepL [Bx p 135 (cAg A.self vRules.v A.opn A.read vRoutes.v vNeighs.v vFdbs.v vView.v A.cursor A.stale vSkipped.v A.degraded A.granted A.waiting A.wish A.renewed A.quiet),Bx q 63 [.pointer (some (bK p 0))],Sv 2 138 vRules.v ((iI p q).map id),Sv 4 51 vRoutes.v (A.Routes.map aM),Sv 7 54 vNeighs.v (A.Neighs.map aS),Sv 7 56 vFdbs.v (A.Fdbs.map cB),Sv 12 48 vView.v (A.view.map aV),Sv 2 44 vSkipped.v (A.skipped.map aO)] h:HP)) vRoutes m
  have m:=Hp.unex (p:=fun vRules=>(fun h=>∃ vRoutes:SH,∃ vNeighs:SH,∃ vFdbs:SH,∃ vView:SH,∃ vSkipped:SH,SepL [Bx p 135 (cAg A.self vRules.v A.opn A.read vRoutes.v vNeighs.v vFdbs.v vView.v A.cursor A.stale vSkipped.v A.degraded A.granted A.waiting A.wish A.renewed A.quiet),Bx q 63 [.pointer (some (bK p 0))],Sv 2 138 vRules.v ((iI p q).map id),Sv 4 51 vRoutes.v (A.Routes.map aM),Sv 7 54 vNeighs.v (A.Neighs.map aS),Sv 7 56 vFdbs.v (A.Fdbs.map cB),Sv 12 48 vView.v (A.view.map aV),Sv 2 44 vSkipped.v (A.skipped.map aO)] h:HP)) vRules m
  have m:=Hp.unex (p:=fun q=>(fun h=>∃ vRules:SH,∃ vRoutes:SH,∃ vNeighs:SH,∃ vFdbs:SH,∃ vView:SH,∃ vSkipped:SH,SepL [Bx p 135 (cAg A.self vRules.v A.opn A.read vRoutes.v vNeighs.v vFdbs.v vView.v A.cursor A.stale vSkipped.v A.degraded A.granted A.waiting A.wish A.renewed A.quiet),Bx q 63 [.pointer (some (bK p 0))],Sv 2 138 vRules.v ((iI p q).map id),Sv 4 51 vRoutes.v (A.Routes.map aM),Sv 7 54 vNeighs.v (A.Neighs.map aS),Sv 7 56 vFdbs.v (A.Fdbs.map cB),Sv 12 48 vView.v (A.view.map aV),Sv 2 44 vSkipped.v (A.skipped.map aO)] h:HP)) q m
  exact m
def AgR (h:Hh) (p:Addr) (A:hF):Prop:=∃ (q:Addr) (vRules:SH) (vRoutes:SH) (vNeighs:SH) (vFdbs:SH) (vView:SH) (vSkipped:SH),CellsAt h p (cAg A.self vRules.v A.opn A.read vRoutes.v vNeighs.v vFdbs.v vView.v A.cursor A.stale vSkipped.v A.degraded A.granted A.waiting A.wish A.renewed A.quiet)/\CellsAt h q [.pointer (some (bK p 0))]/\RdS h 2 vRules.v ((iI p q).map id)/\RdS h 4 vRoutes.v (A.Routes.map aM)/\RdS h 7 vNeighs.v (A.Neighs.map aS)/\RdS h 7 vFdbs.v (A.Fdbs.map cB)/\RdS h 12 vView.v (A.view.map aV)/\RdS h 2 vSkipped.v (A.skipped.map aO)
theorem AgR.le {h g:Hh} (x:AgR h p A) (l:xE h g):AgR g p A:=by
  obtain⟨q,vRules,vRoutes,vNeighs,vFdbs,vView,vSkipped,a0,a1,a2,a3,a4,a5,a6,a7⟩:=x
  exact⟨q,vRules,vRoutes,vNeighs,vFdbs,vView,vSkipped,a0.le l,a1.le l,a2.le l,a3.le l,a4.le l,a5.le l,a6.le l,a7.le l⟩
theorem Hp.rdAg (m:Hp w0 R Ps w) (hP:Rem Ps (tP p A) Qs):AgR (hh w) p A:=by
  obtain⟨q,vRules,vRoutes,vNeighs,vFdbs,vView,vSkipped,m⟩:=m.openAg hP
  exact⟨q,vRules,vRoutes,vNeighs,vFdbs,vView,vSkipped,lO r0 _ m,lO r1 _ m,m.rdv r2,m.rdv r3,m.rdv r4,m.rdv r5,m.rdv r6,m.rdv r7⟩
end
structure gU where
  self:kA
  opn:Bool
  request:eH
  read:Bool
  Routes:List bD
  Neighs:List bA
  Fdbs:List cH
  view:List TLease
  cursor:Fx .i64
  stale:Bool
  skipped:List aT
  degraded:Bool
  granted:Fx .i64
  waiting:Bool
  wish:aT
  renewed:Bool
  quiet:Bool
def cRa (self:kA) (opn:Bool) (request:eH) (read:Bool) (aF:Value) (aA:Value) (aH:Value) (x_view:Value) (cursor:Fx .i64) (stale:Bool) (x_skipped:Value) (degraded:Bool) (granted:Fx .i64) (waiting:Bool) (wish:aT) (renewed:Bool) (quiet:Bool):List Value:=[.int .i64 self.Host.v,.int .u32 self.Pub.v,.int .u8 self.MAC.b0.v,.int .u8 self.MAC.b1.v,.int .u8 self.MAC.b2.v,.int .u8 self.MAC.b3.v,.int .u8 self.MAC.b4.v,.int .u8 self.MAC.b5.v,.int .i64 self.Renew.v,.bool opn,.int .i64 request.Kind.v,.int .i64 request.Cmd.Kind.v,.int .i64 request.Cmd.Host.v,.int .u32 request.Cmd.Subnet.Addr.v,.int .i64 request.Cmd.Subnet.Len.v,.int .u32 request.Cmd.Pub.v,.int .u8 request.Cmd.MAC.b0.v,.int .u8 request.Cmd.MAC.b1.v,.int .u8 request.Cmd.MAC.b2.v,.int .u8 request.Cmd.MAC.b3.v,.int .u8 request.Cmd.MAC.b4.v,.int .u8 request.Cmd.MAC.b5.v,.int .i64 request.Cmd.N.v,.int .i64 request.Op.Kind.v,.int .u32 request.Op.Route.Dst.Addr.v,.int .i64 request.Op.Route.Dst.Len.v,.int .u32 request.Op.Route.Via.v,.bool request.Op.Route.Local,.int .u32 request.Op.Neigh.IP.v,.int .u8 request.Op.Neigh.MAC.b0.v,.int .u8 request.Op.Neigh.MAC.b1.v,.int .u8 request.Op.Neigh.MAC.b2.v,.int .u8 request.Op.Neigh.MAC.b3.v,.int .u8 request.Op.Neigh.MAC.b4.v,.int .u8 request.Op.Neigh.MAC.b5.v,.int .u8 request.Op.Fdb.MAC.b0.v,.int .u8 request.Op.Fdb.MAC.b1.v,.int .u8 request.Op.Fdb.MAC.b2.v,.int .u8 request.Op.Fdb.MAC.b3.v,.int .u8 request.Op.Fdb.MAC.b4.v,.int .u8 request.Op.Fdb.MAC.b5.v,.int .u32 request.Op.Fdb.To.v,.int .i64 request.From.v,.int .i64 request.Max.v,.bool read,aF,aA,aH,x_view,.int .i64 cursor.v,.bool stale,x_skipped,.bool degraded,.int .i64 granted.v,.bool waiting,.int .u32 wish.Addr.v,.int .i64 wish.Len.v,.bool renewed,.bool quiet]
def sX (p:Addr) (A:gU):HP:=fun h=>∃ vRoutes:SH,∃ vNeighs:SH,∃ vFdbs:SH,∃ vView:SH,∃ vSkipped:SH,SepL [Bx p 140 (cRa A.self A.opn A.request A.read vRoutes.v vNeighs.v vFdbs.v vView.v A.cursor A.stale vSkipped.v A.degraded A.granted A.waiting A.wish A.renewed A.quiet),Sv 4 51 vRoutes.v (A.Routes.map aM),Sv 7 54 vNeighs.v (A.Neighs.map aS),Sv 7 56 vFdbs.v (A.Fdbs.map cB),Sv 12 48 vView.v (A.view.map aV),Sv 2 44 vSkipped.v (A.skipped.map aO)] h
section
variable {w0 w:World} {R:Hh} {Ps Qs:List HP} {p:Addr} {A:gU}
theorem Hp.openRa (m:Hp w0 R Ps w) (hP:Rem Ps (sX p A) Qs):∃ (vRoutes:SH) (vNeighs:SH) (vFdbs:SH) (vView:SH) (vSkipped:SH),Hp w0 R (Bx p 140 (cRa A.self A.opn A.request A.read vRoutes.v vNeighs.v vFdbs.v vView.v A.cursor A.stale vSkipped.v A.degraded A.granted A.waiting A.wish A.renewed A.quiet)::Sv 4 51 vRoutes.v (A.Routes.map aM)::Sv 7 54 vNeighs.v (A.Neighs.map aS)::Sv 7 56 vFdbs.v (A.Fdbs.map cB)::Sv 12 48 vView.v (A.view.map aV)::Sv 2 44 vSkipped.v (A.skipped.map aO)::Qs) w:=by
  have m:=m.front hP
  obtain⟨vRoutes,m⟩:=m.ex
  obtain⟨vNeighs,m⟩:=m.ex
  obtain⟨vFdbs,m⟩:=m.ex
  obtain⟨vView,m⟩:=m.ex
  obtain⟨vSkipped,m⟩:=m.ex
  exact⟨vRoutes,vNeighs,vFdbs,vView,vSkipped,m.sep⟩
theorem Hp.closeRa {vRoutes:SH} {vNeighs:SH} {vFdbs:SH} {vView:SH} {vSkipped:SH} (m:Hp w0 R (Bx p 140 (cRa A.self A.opn A.request A.read vRoutes.v vNeighs.v vFdbs.v vView.v A.cursor A.stale vSkipped.v A.degraded A.granted A.waiting A.wish A.renewed A.quiet)::Sv 4 51 vRoutes.v (A.Routes.map aM)::Sv 7 54 vNeighs.v (A.Neighs.map aS)::Sv 7 56 vFdbs.v (A.Fdbs.map cB)::Sv 12 48 vView.v (A.view.map aV)::Sv 2 44 vSkipped.v (A.skipped.map aO)::Qs) w):Hp w0 R (sX p A::Qs) w:=by
  have m:Hp w0 R ([Bx p 140 (cRa A.self A.opn A.request A.read vRoutes.v vNeighs.v vFdbs.v vView.v A.cursor A.stale vSkipped.v A.degraded A.granted A.waiting A.wish A.renewed A.quiet),Sv 4 51 vRoutes.v (A.Routes.map aM),Sv 7 54 vNeighs.v (A.Neighs.map aS),Sv 7 56 vFdbs.v (A.Fdbs.map cB),Sv 12 48 vView.v (A.view.map aV),Sv 2 44 vSkipped.v (A.skipped.map aO)]++Qs) w:=m
  have m:=m.unsep
  have m:=Hp.unex (p:=fun vSkipped=>(fun h=>SepL [Bx p 140 (cRa A.self A.opn A.request A.read vRoutes.v vNeighs.v vFdbs.v vView.v A.cursor A.stale vSkipped.v A.degraded A.granted A.waiting A.wish A.renewed A.quiet),Sv 4 51 vRoutes.v (A.Routes.map aM),Sv 7 54 vNeighs.v (A.Neighs.map aS),Sv 7 56 vFdbs.v (A.Fdbs.map cB),Sv 12 48 vView.v (A.view.map aV),Sv 2 44 vSkipped.v (A.skipped.map aO)] h:HP)) vSkipped m
  have m:=Hp.unex (p:=fun vView=>(fun h=>∃ vSkipped:SH,SepL [Bx p 140 (cRa A.self A.opn A.request A.read vRoutes.v vNeighs.v vFdbs.v vView.v A.cursor A.stale vSkipped.v A.degraded A.granted A.waiting A.wish A.renewed A.quiet),Sv 4 51 vRoutes.v (A.Routes.map aM),Sv 7 54 vNeighs.v (A.Neighs.map aS),Sv 7 56 vFdbs.v (A.Fdbs.map cB),Sv 12 48 vView.v (A.view.map aV),Sv 2 44 vSkipped.v (A.skipped.map aO)] h:HP)) vView m
  have m:=Hp.unex (p:=fun vFdbs=>(fun h=>∃ vView:SH,∃ vSkipped:SH,SepL [Bx p 140 (cRa A.self A.opn A.request A.read vRoutes.v vNeighs.v vFdbs.v vView.v A.cursor A.stale vSkipped.v A.degraded A.granted A.waiting A.wish A.renewed A.quiet),Sv 4 51 vRoutes.v (A.Routes.map aM),Sv 7 54 vNeighs.v (A.Neighs.map aS),Sv 7 56 vFdbs.v (A.Fdbs.map cB),Sv 12 48 vView.v (A.view.map aV),Sv 2 44 vSkipped.v (A.skipped.map aO)] h:HP)) vFdbs m
  have m:=Hp.unex (p:=fun vNeighs=>(fun h=>∃ vFdbs:SH,∃ vView:SH,∃ vSkipped:SH,SepL [Bx p 140 (cRa A.self A.opn A.request A.read vRoutes.v vNeighs.v vFdbs.v vView.v A.cursor A.stale vSkipped.v A.degraded A.granted A.waiting A.wish A.renewed A.quiet),Sv 4 51 vRoutes.v (A.Routes.map aM),Sv 7 54 vNeighs.v (A.Neighs.map aS),Sv 7 56 vFdbs.v (A.Fdbs.map cB),Sv 12 48 vView.v (A.view.map aV),Sv 2 44 vSkipped.v (A.skipped.map aO)] h:HP)) vNeighs m
  have m:=Hp.unex (p:=fun vRoutes=>(fun h=>∃ vNeighs:SH,∃ vFdbs:SH,∃ vView:SH,∃ vSkipped:SH,SepL [Bx p 140 (cRa A.self A.opn A.request A.read vRoutes.v vNeighs.v vFdbs.v vView.v A.cursor A.stale vSkipped.v A.degraded A.granted A.waiting A.wish A.renewed A.quiet),Sv 4 51 vRoutes.v (A.Routes.map aM),Sv 7 54 vNeighs.v (A.Neighs.map aS),Sv 7 56 vFdbs.v (A.Fdbs.map cB),Sv 12 48 vView.v (A.view.map aV),Sv 2 44 vSkipped.v (A.skipped.map aO)] h:HP)) vRoutes m
  exact m
def RaR (h:Hh) (p:Addr) (A:gU):Prop:=∃ (vRoutes:SH) (vNeighs:SH) (vFdbs:SH) (vView:SH) (vSkipped:SH),CellsAt h p (cRa A.self A.opn A.request A.read vRoutes.v vNeighs.v vFdbs.v vView.v A.cursor A.stale vSkipped.v A.degraded A.granted A.waiting A.wish A.renewed A.quiet)/\RdS h 4 vRoutes.v (A.Routes.map aM)/\RdS h 7 vNeighs.v (A.Neighs.map aS)/\RdS h 7 vFdbs.v (A.Fdbs.map cB)/\RdS h 12 vView.v (A.view.map aV)/\RdS h 2 vSkipped.v (A.skipped.map aO)
theorem RaR.le {h g:Hh} (x:RaR h p A) (l:xE h g):RaR g p A:=by
  obtain⟨vRoutes,vNeighs,vFdbs,vView,vSkipped,a0,a1,a2,a3,a4,a5⟩:=x
  exact⟨vRoutes,vNeighs,vFdbs,vView,vSkipped,a0.le l,a1.le l,a2.le l,a3.le l,a4.le l,a5.le l⟩
theorem Hp.rdRa (m:Hp w0 R Ps w) (hP:Rem Ps (sX p A) Qs):RaR (hh w) p A:=by
  obtain⟨vRoutes,vNeighs,vFdbs,vView,vSkipped,m⟩:=m.openRa hP
  exact⟨vRoutes,vNeighs,vFdbs,vView,vSkipped,lO r0 _ m,m.rdv r1,m.rdv r2,m.rdv r3,m.rdv r4,m.rdv r5⟩
end
structure pT where
  Err:Fx .i64
  Answer:fC
  Rev:Fx .i64
  Now:Fx .i64
  Leases:List TLease
  Events:List TEvent
  Routes:List bD
  Neighs:List bA
  Fdbs:List cH
def sY (Err:Fx .i64) (Answer:fC) (Rev:Fx .i64) (Now:Fx .i64) (nM:Value) (aE5:Value) (aF:Value) (aA:Value) (aH:Value):List Value:=[.int .i64 Err.v,.int .i64 Answer.Err.v,.int .i64 Answer.Lease.Host.v,.int .u32 Answer.Lease.Subnet.Addr.v,.int .i64 Answer.Lease.Subnet.Len.v,.int .u32 Answer.Lease.Pub.v,.int .u8 Answer.Lease.MAC.b0.v,.int .u8 Answer.Lease.MAC.b1.v,.int .u8 Answer.Lease.MAC.b2.v,.int .u8 Answer.Lease.MAC.b3.v,.int .u8 Answer.Lease.MAC.b4.v,.int .u8 Answer.Lease.MAC.b5.v,.int .i64 Answer.Lease.Until.v,.int .i64 Answer.Lease.Rev.v,.int .i64 Answer.Rev.v,.int .i64 Answer.Now.v,.int .i64 Rev.v,.int .i64 Now.v,nM,aE5,aF,aA,aH]
def ReR (h:Hh) (cs:List Value) (A:pT):Prop:=∃ (vLeases vEvents vRoutes vNeighs vFdbs:SH),cs=sY A.Err A.Answer A.Rev A.Now vLeases.v vEvents.v vRoutes.v vNeighs.v vFdbs.v/\RdS h 12 vLeases.v (A.Leases.map aV)/\RdS h 14 vEvents.v (A.Events.map eI)/\RdS h 4 vRoutes.v (A.Routes.map aM)/\RdS h 7 vNeighs.v (A.Neighs.map aS)/\RdS h 7 vFdbs.v (A.Fdbs.map cB)
theorem ReR.le {h g:Hh} {cs:List Value} {A:pT} (x:ReR h cs A) (l:xE h g):ReR g cs A:=by
  obtain⟨vLeases,vEvents,vRoutes,vNeighs,vFdbs,e,a0,a1,a2,a3,a4⟩:=x
  exact⟨vLeases,vEvents,vRoutes,vNeighs,vFdbs,e,a0.le l,a1.le l,a2.le l,a3.le l,a4.le l⟩
structure yN where
  Kind:Fx .i64
  On:Fx .i64
  Now:Fx .i64
  Err:Fx .i64
  Answer:fC
  Rev:Fx .i64
  Snap_Now:Fx .i64
  Leases:List TLease
  Events:List TEvent
  Routes:List bD
  Neighs:List bA
  Fdbs:List cH
def sV (Kind:Fx .i64) (On:Fx .i64) (Now:Fx .i64) (Err:Fx .i64) (Answer:fC) (Rev:Fx .i64) (Snap_Now:Fx .i64) (nM:Value) (aE5:Value) (aF:Value) (aA:Value) (aH:Value):List Value:=[.int .i64 Kind.v,.int .i64 On.v,.int .i64 Now.v,.int .i64 Err.v,.int .i64 Answer.Err.v,.int .i64 Answer.Lease.Host.v,.int .u32 Answer.Lease.Subnet.Addr.v,.int .i64 Answer.Lease.Subnet.Len.v,.int .u32 Answer.Lease.Pub.v,.int .u8 Answer.Lease.MAC.b0.v,.int .u8 Answer.Lease.MAC.b1.v,.int .u8 Answer.Lease.MAC.b2.v,.int .u8 Answer.Lease.MAC.b3.v,.int .u8 Answer.Lease.MAC.b4.v,.int .u8 Answer.Lease.MAC.b5.v,.int .i64 Answer.Lease.Until.v,.int .i64 Answer.Lease.Rev.v,.int .i64 Answer.Rev.v,.int .i64 Answer.Now.v,.int .i64 Rev.v,.int .i64 Snap_Now.v,nM,aE5,aF,aA,aH]
def OqR (h:Hh) (cs:List Value) (A:yN):Prop:=∃ (vLeases vEvents vRoutes vNeighs vFdbs:SH),cs=sV A.Kind A.On A.Now A.Err A.Answer A.Rev A.Snap_Now vLeases.v vEvents.v vRoutes.v vNeighs.v vFdbs.v/\RdS h 12 vLeases.v (A.Leases.map aV)/\RdS h 14 vEvents.v (A.Events.map eI)/\RdS h 4 vRoutes.v (A.Routes.map aM)/\RdS h 7 vNeighs.v (A.Neighs.map aS)/\RdS h 7 vFdbs.v (A.Fdbs.map cB)
theorem OqR.le {h g:Hh} {cs:List Value} {A:yN} (x:OqR h cs A) (l:xE h g):OqR g cs A:=by
  obtain⟨vLeases,vEvents,vRoutes,vNeighs,vFdbs,e,a0,a1,a2,a3,a4⟩:=x
  exact⟨vLeases,vEvents,vRoutes,vNeighs,vFdbs,e,a0.le l,a1.le l,a2.le l,a3.le l,a4.le l⟩
structure VwM where
  Has:Bool
  Lease:TLease
  Cursor:Fx .i64
  Synced:Bool
  Degraded:Bool
  Leases:List TLease
  Skipped:List aT
  Routes:List bD
  Neighs:List bA
  Fdbs:List cH
def sZ (Has:Bool) (Lease:TLease) (Cursor:Fx .i64) (Synced:Bool) (Degraded:Bool) (nM:Value) (oF:Value) (aF:Value) (aA:Value) (aH:Value):List Value:=[.bool Has,.int .i64 Lease.Host.v,.int .u32 Lease.Subnet.Addr.v,.int .i64 Lease.Subnet.Len.v,.int .u32 Lease.Pub.v,.int .u8 Lease.MAC.b0.v,.int .u8 Lease.MAC.b1.v,.int .u8 Lease.MAC.b2.v,.int .u8 Lease.MAC.b3.v,.int .u8 Lease.MAC.b4.v,.int .u8 Lease.MAC.b5.v,.int .i64 Lease.Until.v,.int .i64 Lease.Rev.v,.int .i64 Cursor.v,.bool Synced,.bool Degraded,nM,oF,aF,aA,aH]
def VwR (h:Hh) (cs:List Value) (A:VwM):Prop:=∃ (vLeases vSkipped vRoutes vNeighs vFdbs:SH),cs=sZ A.Has A.Lease A.Cursor A.Synced A.Degraded vLeases.v vSkipped.v vRoutes.v vNeighs.v vFdbs.v/\RdS h 12 vLeases.v (A.Leases.map aV)/\RdS h 2 vSkipped.v (A.Skipped.map aO)/\RdS h 4 vRoutes.v (A.Routes.map aM)/\RdS h 7 vNeighs.v (A.Neighs.map aS)/\RdS h 7 vFdbs.v (A.Fdbs.map cB)
theorem VwR.le {h g:Hh} {cs:List Value} {A:VwM} (x:VwR h cs A) (l:xE h g):VwR g cs A:=by
  obtain⟨vLeases,vSkipped,vRoutes,vNeighs,vFdbs,e,a0,a1,a2,a3,a4⟩:=x
  exact⟨vLeases,vSkipped,vRoutes,vNeighs,vFdbs,e,a0.le l,a1.le l,a2.le l,a3.le l,a4.le l⟩
end Go.Proofs.YtnbpodjbemfpbaaGreat.Fw
set_option linter.all false
namespace Go.Proofs.YtnbpodjbemfpbaaGreat.Fw
open Go
theorem nX {a b:Int} (e:a=b):Value.int .i64 a=Value.int .i64 b:=by rw[e]
section
variable {w0 w:World} {R:Hh} {Qs:List HP} {p:Addr} {A B:hF}
theorem kM {q:Addr} {vRules:SH} {vRoutes:SH} {vNeighs:SH} {vFdbs:SH} {vView:SH} {vSkipped:SH} (e:A=B) (m:Hp w0 R (Bx p 135 (cAg A.self vRules.v A.opn A.read vRoutes.v vNeighs.v vFdbs.v vView.v A.cursor A.stale vSkipped.v A.degraded A.granted A.waiting A.wish A.renewed A.quiet)::Bx q 63 [.pointer (some (bK p 0))]::Sv 2 138 vRules.v ((iI p q).map id)::Sv 4 51 vRoutes.v (A.Routes.map aM)::Sv 7 54 vNeighs.v (A.Neighs.map aS)::Sv 7 56 vFdbs.v (A.Fdbs.map cB)::Sv 12 48 vView.v (A.view.map aV)::Sv 2 44 vSkipped.v (A.skipped.map aO)::Qs) w):Hp w0 R [tP p B] w:=by rw[<-e];exact(m.closeAg).sub (.c r0 .n)
end
section
variable {w0 w:World} {R:Hh} {Qs:List HP} {p:Addr} {A B:gU}
theorem jF {vRoutes:SH} {vNeighs:SH} {vFdbs:SH} {vView:SH} {vSkipped:SH} (e:A=B) (m:Hp w0 R (Bx p 140 (cRa A.self A.opn A.request A.read vRoutes.v vNeighs.v vFdbs.v vView.v A.cursor A.stale vSkipped.v A.degraded A.granted A.waiting A.wish A.renewed A.quiet)::Sv 4 51 vRoutes.v (A.Routes.map aM)::Sv 7 54 vNeighs.v (A.Neighs.map aS)::Sv 7 56 vFdbs.v (A.Fdbs.map cB)::Sv 12 48 vView.v (A.view.map aV)::Sv 2 44 vSkipped.v (A.skipped.map aO)::Qs) w):Hp w0 R [sX p B] w:=by rw[<-e];exact(m.closeRa).sub (.c r0 .n)
end
end Go.Proofs.YtnbpodjbemfpbaaGreat.Fw
set_option linter.all false
namespace Go.Proofs.YtnbpodjbemfpbaaGreat.Fw
open Go
structure PcM where
  leases:List TLease
  events:List TEvent
  Routes:List bD
  Neighs:List bA
  Fdbs:List cH
def cPc (x_leases:Value) (x_events:Value) (aF:Value) (aA:Value) (aH:Value):List Value:=[x_leases,x_events,aF,aA,aH]
def PcP (p:Addr) (A:PcM):HP:=fun h=>∃ vLeases:SH,∃ vEvents:SH,∃ vRoutes:SH,∃ vNeighs:SH,∃ vFdbs:SH,SepL [Bx p 142 (cPc vLeases.v vEvents.v vRoutes.v vNeighs.v vFdbs.v),Sv 12 48 vLeases.v (A.leases.map aV),Sv 14 161 vEvents.v (A.events.map eI),Sv 4 51 vRoutes.v (A.Routes.map aM),Sv 7 54 vNeighs.v (A.Neighs.map aS),Sv 7 56 vFdbs.v (A.Fdbs.map cB)] h
section
variable {w0 w:World} {R:Hh} {Ps Qs:List HP} {p:Addr} {A:PcM}
theorem Hp.openPc (m:Hp w0 R Ps w) (hP:Rem Ps (PcP p A) Qs):∃ (vLeases:SH) (vEvents:SH) (vRoutes:SH) (vNeighs:SH) (vFdbs:SH),Hp w0 R (Bx p 142 (cPc vLeases.v vEvents.v vRoutes.v vNeighs.v vFdbs.v)::Sv 12 48 vLeases.v (A.leases.map aV)::Sv 14 161 vEvents.v (A.events.map eI)::Sv 4 51 vRoutes.v (A.Routes.map aM)::Sv 7 54 vNeighs.v (A.Neighs.map aS)::Sv 7 56 vFdbs.v (A.Fdbs.map cB)::Qs) w:=by
  have m:=m.front hP
  obtain⟨vLeases,m⟩:=m.ex
  obtain⟨vEvents,m⟩:=m.ex
  obtain⟨vRoutes,m⟩:=m.ex
  obtain⟨vNeighs,m⟩:=m.ex
  obtain⟨vFdbs,m⟩:=m.ex
  exact⟨vLeases,vEvents,vRoutes,vNeighs,vFdbs,m.sep⟩
theorem Hp.closePc {vLeases:SH} {vEvents:SH} {vRoutes:SH} {vNeighs:SH} {vFdbs:SH} (m:Hp w0 R (Bx p 142 (cPc vLeases.v vEvents.v vRoutes.v vNeighs.v vFdbs.v)::Sv 12 48 vLeases.v (A.leases.map aV)::Sv 14 161 vEvents.v (A.events.map eI)::Sv 4 51 vRoutes.v (A.Routes.map aM)::Sv 7 54 vNeighs.v (A.Neighs.map aS)::Sv 7 56 vFdbs.v (A.Fdbs.map cB)::Qs) w):Hp w0 R (PcP p A::Qs) w:=by
  have m:Hp w0 R ([Bx p 142 (cPc vLeases.v vEvents.v vRoutes.v vNeighs.v vFdbs.v),Sv 12 48 vLeases.v (A.leases.map aV),Sv 14 161 vEvents.v (A.events.map eI),Sv 4 51 vRoutes.v (A.Routes.map aM),Sv 7 54 vNeighs.v (A.Neighs.map aS),Sv 7 56 vFdbs.v (A.Fdbs.map cB)]++Qs) w:=m
  have m:=m.unsep
  have m:=Hp.unex (p:=fun vFdbs=>(fun h=>SepL [Bx p 142 (cPc vLeases.v vEvents.v vRoutes.v vNeighs.v vFdbs.v),Sv 12 48 vLeases.v (A.leases.map aV),Sv 14 161 vEvents.v (A.events.map eI),Sv 4 51 vRoutes.v (A.Routes.map aM),Sv 7 54 vNeighs.v (A.Neighs.map aS),Sv 7 56 vFdbs.v (A.Fdbs.map cB)] h:HP)) vFdbs m
  have m:=Hp.unex (p:=fun vNeighs=>(fun h=>∃ vFdbs:SH,SepL [Bx p 142 (cPc vLeases.v vEvents.v vRoutes.v vNeighs.v vFdbs.v),Sv 12 48 vLeases.v (A.leases.map aV),Sv 14 161 vEvents.v (A.events.map eI),Sv 4 51 vRoutes.v (A.Routes.map aM),Sv 7 54 vNeighs.v (A.Neighs.map aS),Sv 7 56 vFdbs.v (A.Fdbs.map cB)] h:HP)) vNeighs m
  have m:=Hp.unex (p:=fun vRoutes=>(fun h=>∃ vNeighs:SH,∃ vFdbs:SH,SepL [Bx p 142 (cPc vLeases.v vEvents.v vRoutes.v vNeighs.v vFdbs.v),Sv 12 48 vLeases.v (A.leases.map aV),Sv 14 161 vEvents.v (A.events.map eI),Sv 4 51 vRoutes.v (A.Routes.map aM),Sv 7 54 vNeighs.v (A.Neighs.map aS),Sv 7 56 vFdbs.v (A.Fdbs.map cB)] h:HP)) vRoutes m
  have m:=Hp.unex (p:=fun vEvents=>(fun h=>∃ vRoutes:SH,∃ vNeighs:SH,∃ vFdbs:SH,SepL [Bx p 142 (cPc vLeases.v vEvents.v vRoutes.v vNeighs.v vFdbs.v),Sv 12 48 vLeases.v (A.leases.map aV),Sv 14 161 vEvents.v (A.events.map eI),Sv 4 51 vRoutes.v (A.Routes.map aM),Sv 7 54 vNeighs.v (A.Neighs.map aS),Sv 7 56 vFdbs.v (A.Fdbs.map cB)] h:HP)) vEvents m
  have m:=Hp.unex (p:=fun vLeases=>(fun h=>∃ vEvents:SH,∃ vRoutes:SH,∃ vNeighs:SH,∃ vFdbs:SH,SepL [Bx p 142 (cPc vLeases.v vEvents.v vRoutes.v vNeighs.v vFdbs.v),Sv 12 48 vLeases.v (A.leases.map aV),Sv 14 161 vEvents.v (A.events.map eI),Sv 4 51 vRoutes.v (A.Routes.map aM),Sv 7 54 vNeighs.v (A.Neighs.map aS),Sv 7 56 vFdbs.v (A.Fdbs.map cB)] h:HP)) vLeases m
  exact m
def PcR (h:Hh) (p:Addr) (A:PcM):Prop:=∃ (vLeases:SH) (vEvents:SH) (vRoutes:SH) (vNeighs:SH) (vFdbs:SH),CellsAt h p (cPc vLeases.v vEvents.v vRoutes.v vNeighs.v vFdbs.v)/\RdS h 12 vLeases.v (A.leases.map aV)/\RdS h 14 vEvents.v (A.events.map eI)/\RdS h 4 vRoutes.v (A.Routes.map aM)/\RdS h 7 vNeighs.v (A.Neighs.map aS)/\RdS h 7 vFdbs.v (A.Fdbs.map cB)
theorem PcR.le {h g:Hh} (x:PcR h p A) (l:xE h g):PcR g p A:=by
  obtain⟨vLeases,vEvents,vRoutes,vNeighs,vFdbs,a0,a1,a2,a3,a4,a5⟩:=x
  exact⟨vLeases,vEvents,vRoutes,vNeighs,vFdbs,a0.le l,a1.le l,a2.le l,a3.le l,a4.le l,a5.le l⟩
end
end Go.Proofs.YtnbpodjbemfpbaaGreat.Fw
set_option linter.all false
namespace Go.Proofs.YtnbpodjbemfpbaaGreat.Fw
open Go
inductive GF where
  | li (P:Program) (ops:Array Oper) (Q:Exit->Act->World->Prop) (l:List Oper)
  | co (P:Program) (c:Code) (Q:Exit->Act->World->Prop)
  | ex (Q:Exit->Act->World->Prop) (e:Exit)
@[reducible] def GF.sat:GF->Act->World->Prop
  | .li P ops Q l,a,w=>wpList P ops Q l a w
  | .co P c Q,a,w=>c.wp P Q a w
  | .ex Q e,a,w=>Q e a w
section
variable {P:Program} {ops:Array Oper} {Q:Exit->Act->World->Prop} {rest:List Oper} {n:Nat} {L L1 L':List (Nat×Value)} {a:Act} {w w0:World} {R:Hh} {Ps Ps1 Ps' Qs:List HP} {F F1 F':GF} {o:Oper} {d:Nat} {v:Value} {ty:TypeId} {pos:String} {aft:Array Edge} {x y:Code} {id:Nat} {l:List Oper} {b:Bool} {c:Operand}
structure Av (n:Nat) (w0:World) (R:Hh) (L:List (Nat×Value)) (Ps:List HP) (F:GF) (L':List (Nat×Value)) (Ps':List HP) (F':GF):Prop where
  g:(∀ a w,St n L' a->Hp w0 R Ps' w->F'.sat a w)->∀ a w,St n L a->Hp w0 R Ps w->F.sat a w
theorem bP (hs:St n L a) (m:Hp w0 R Ps w) (h:Av n w0 R L Ps (.li P ops Q l) L' Ps' F') (k:∀ a w,St n L' a->Hp w0 R Ps' w->F'.sat a w):wpList P ops Q l a w:=h.g k a w hs m
theorem bT (hs:St n L a) (m:Hp w0 R Ps w) (h:Av n w0 R L Ps (.co P x Q) L' Ps' F') (k:∀ a w,St n L' a->Hp w0 R Ps' w->F'.sat a w):x.wp P Q a w:=h.g k a w hs m
theorem x_ (h:Av n w0 R L Ps F L1 Ps1 F1) (t:Av n w0 R L1 Ps1 F1 L' Ps' F'):Av n w0 R L Ps F L' Ps' F':=⟨fun k=>h.g (t.g k)⟩
theorem bR:Av n w0 R L Ps F L Ps F:=⟨fun k=>k⟩
theorem e_ (s:sP P ops n (Hp w0 R Ps) L o d v) (t:Av n w0 R ((d,v)::L) Ps (.li P ops Q rest) L' Ps' F'):Av n w0 R L Ps (.li P ops Q (o::rest)) L' Ps' F':=⟨fun k a w hs m=>s.g Q rest a w hs m fun a hs=>t.g k a w hs m⟩
theorem aU4 (t:Av n w0 R L Ps (.ex Q .normal) L' Ps' F'):Av n w0 R L Ps (.li P ops Q []) L' Ps' F':=⟨t.g⟩
theorem aRW (t:Av n w0 R L Ps (.co P x Q) L' Ps' F') {Q':Exit->Act->World->Prop}:Av n w0 R L Ps (.ex (Exit.then (x.wp P Q) Q') .normal) L' Ps' F':=⟨t.g⟩
theorem aOU {K:Act->World->Prop} {Q':Exit->Act->World->Prop} (t:Av n w0 R L Ps (.ex (fun _=>K) .normal) L' Ps' F'):Av n w0 R L Ps (.ex (Exit.then K Q') .normal) L' Ps' F':=⟨t.g⟩
theorem aU3 (t:Av n w0 R L Ps (.ex Q .normal) L' Ps' F'):Av n w0 R L Ps (.ex (Exit.inBlock id Q) .normal) L' Ps' F':=⟨t.g⟩
theorem aU5 (t:Av n w0 R L Ps (.li P l.toArray (Exit.then (y.wp P Q) Q) l) L' Ps' F'):Av n w0 R L Ps (.co P (.seq (.region id l.toArray false) y) Q) L' Ps' F':=⟨fun k a w hs m=>bN (t.g k a w hs m)⟩
theorem aRT (t:Av n w0 R L Ps (.li P l.toArray Q l) L' Ps' F'):Av n w0 R L Ps (.co P (.region id l.toArray false) Q) L' Ps' F':=⟨fun k a w hs m=>fD (t.g k a w hs m)⟩
theorem aU7 (t:Av n w0 R L Ps (.co P x (Exit.then (y.wp P Q) Q)) L' Ps' F'):Av n w0 R L Ps (.co P (.seq x y) Q) L' Ps' F':=⟨fun k a w hs m=>dG (t.g k a w hs m)⟩
theorem aRV (t:Av n w0 R L Ps (.ex Q .normal) L' Ps' F'):Av n w0 R L Ps (.co P .skip Q) L' Ps' F':=⟨fun k a w hs m=>wp_skip (t.g k a w hs m)⟩
theorem aOS (t:Av n w0 R L Ps (.co P x (Exit.inBlock id Q)) L' Ps' F'):Av n w0 R L Ps (.co P (.block id x) Q) L' Ps' F':=⟨fun k a w hs m=>wp_block (t.g k a w hs m)⟩
theorem aU6 (t:Av n w0 R L Ps (.ex Q .ret) L' Ps' F'):Av n w0 R L Ps (.co P .ret Q) L' Ps' F':=⟨fun k a w hs m=>wp_ret (t.g k a w hs m)⟩
theorem aRS (t:Av n w0 R L Ps (.ex Q (.exit id)) L' Ps' F'):Av n w0 R L Ps (.co P (.exit id) Q) L' Ps' F':=⟨fun k a w hs m=>wp_exit (t.g k a w hs m)⟩
theorem aOT {K:Act->World->Prop} (t:Av n w0 R L Ps (.ex Q .ret) L' Ps' F'):Av n w0 R L Ps (.ex (Exit.then K Q) .ret) L' Ps' F':=⟨t.g⟩
theorem aRU (t:Av n w0 R L Ps (.ex Q .ret) L' Ps' F'):Av n w0 R L Ps (.ex (Exit.inBlock id Q) .ret) L' Ps' F':=⟨t.g⟩
theorem aOV {K:Act->World->Prop} (t:Av n w0 R L Ps (.ex Q (.exit id)) L' Ps' F'):Av n w0 R L Ps (.ex (Exit.then K Q) (.exit id)) L' Ps' F':=⟨t.g⟩
theorem aRX (t:Av n w0 R L Ps (.ex Q .normal) L' Ps' F'):Av n w0 R L Ps (.ex (Exit.inBlock id Q) (.exit id)) L' Ps' F':=⟨fun k a w hs m=>lL (t.g k a w hs m)⟩
theorem a28 (hc:ev L c=some (.bool false)) (t:Av n w0 R L Ps (.co P y Q) L' Ps' F'):Av n w0 R L Ps (.co P (.cond c x y) Q) L' Ps' F':=⟨fun k a w hs m=>bV hs hc rfl (t.g k a w hs m)⟩
theorem aYW (hc:ev L c=some (.bool true)) (t:Av n w0 R L Ps (.co P x Q) L' Ps' F'):Av n w0 R L Ps (.co P (.cond c x y) Q) L' Ps' F':=⟨fun k a w hs m=>lU hs hc rfl (t.g k a w hs m)⟩
end
section
variable {P:Program} {ops:Array Oper} {Q:Exit->Act->World->Prop} {rest:List Oper} {n:Nat} {L L':List (Nat×Value)} {w0:World} {R:Hh} {Ps Ps' Qs:List HP} {F F':GF} {v:Value} {ty:TypeId} {pos:String} {aft:Array Edge}
theorem u_ {T E:TypeId} {ag:Bool} {x y:Operand} {p:Addr} {o s:Nat} {cs vs cs':List Value} (hx:ev L x=some (.pointer (some (bK p o)))) (hy:ev L y=some v) (ht:kJ P T=some (ag,s)) (hv:v.cells=⟨vs⟩) (hP:Swp Ps (Bx p E cs) (Bx p E cs') Qs) (hc:lX cs o vs=cs')
    (hq:(vs.length==s&&Nat.ble (o+s) cs.length&&pW vs)=true) (t:Av n w0 R L Qs (.li P ops Q rest) L' Ps' F'):Av n w0 R L Ps (.li P ops Q (⟨none,.store T x y,ty,pos,aft,none⟩::rest)) L' Ps' F' :=
  ⟨fun k a w hs m=>by
    rw[Bool.and_eq_true,Bool.and_eq_true] at hq
    exact xB hs m hx hy ht hP hv (eq_of_beq hq.1.1) hq.1.2 hq.2 hc fun w m=>t.g k a w hs m⟩
theorem dZ {T E:TypeId} {ag:Bool} {x y:Operand} {p:Addr} {o s:Nat} {cs cs' vs:List Value} (hP:Swp Ps (Bx p E cs) (Bx p E cs') Qs) (hx:ev L x=some (.pointer (some (bK p o))):=by rfl) (hy:ev L y=some v:=by rfl) (ht:kJ Tryz.prog T=some (ag,s):=by exact tt rfl) (hv:v.cells=⟨vs⟩:=by rfl)
    (hc:lX cs o vs=cs':=by(conv=>lhs;simp only[aO,mU,aV,aM,aS,cB,mO,eB,aC8,aDO,eS,eI,cAg,cRa,sY,sV,sZ,cPc,lX,List.set_cons_succ,List.set_cons_zero]);try rfl) (hq:(vs.length==s&&Nat.ble (o+s) cs.length&&pW vs)=true:=by kernel_rfl) (t:Av n w0 R L Qs (.li Tryz.prog ops Q rest) L' Ps' F'):Av n w0 R L Ps (.li Tryz.prog ops Q (⟨none,.store T x y,ty,pos,aft,none⟩::rest)) L' Ps' F':=u_ hx hy ht hv hP hc hq t
end
section
variable {n:Nat} {L L':List (Nat×Value)} {w0:World} {R:Hh} {Ps Ps':List HP} {F F':GF}
theorem eO (h:Av n w0 R L Ps F L' Ps' F':=by first
  | exact e_ vA bR
  | exact aU4 bR
  | exact aRW bR
  | exact aU5 bR
  | exact aRV bR
  | exact aU7 bR
  | exact aRT bR
  | exact a28 rfl bR
  | exact aYW rfl bR
  | exact aU3 bR
  | exact aOS bR
  | exact aU6 bR
  | exact aRS bR
  | exact aOT bR
  | exact aRU bR
  | exact aOV bR
  | exact aRX bR
  | exact aOU bR):Av n w0 R L Ps F L' Ps' F':=h
theorem iA (h:Av n w0 R L Ps F L' Ps' F':=by exact x_ eO eO):Av n w0 R L Ps F L' Ps' F':=h
theorem eZ (h:Av n w0 R L Ps F L' Ps' F':=by exact x_ iA eO):Av n w0 R L Ps F L' Ps' F':=h
theorem gC (h:Av n w0 R L Ps F L' Ps' F':=by exact x_ iA iA):Av n w0 R L Ps F L' Ps' F':=h
theorem gI (h:Av n w0 R L Ps F L' Ps' F':=by exact x_ eZ iA):Av n w0 R L Ps F L' Ps' F':=h
theorem gX (h:Av n w0 R L Ps F L' Ps' F':=by exact x_ eZ eZ):Av n w0 R L Ps F L' Ps' F':=h
theorem gZ (h:Av n w0 R L Ps F L' Ps' F':=by exact x_ gC eZ):Av n w0 R L Ps F L' Ps' F':=h
theorem lA (h:Av n w0 R L Ps F L' Ps' F':=by exact x_ gC gC):Av n w0 R L Ps F L' Ps' F':=h
theorem hQ (h:Av n w0 R L Ps F L' Ps' F':=by exact x_ gI gC):Av n w0 R L Ps F L' Ps' F':=h
theorem fW (h:Av n w0 R L Ps F L' Ps' F':=by exact x_ gI gI):Av n w0 R L Ps F L' Ps' F':=h
theorem mT (h:Av n w0 R L Ps F L' Ps' F':=by exact x_ gX gI):Av n w0 R L Ps F L' Ps' F':=h
theorem nP (h:Av n w0 R L Ps F L' Ps' F':=by exact x_ gX gX):Av n w0 R L Ps F L' Ps' F':=h
theorem aBW (h:Av n w0 R L Ps F L' Ps' F':=by exact x_ gZ gX):Av n w0 R L Ps F L' Ps' F':=h
theorem aAM (h:Av n w0 R L Ps F L' Ps' F':=by exact x_ gZ gZ):Av n w0 R L Ps F L' Ps' F':=h
theorem aJ3 (h:Av n w0 R L Ps F L' Ps' F':=by exact x_ lA gZ):Av n w0 R L Ps F L' Ps' F':=h
theorem aMZ (h:Av n w0 R L Ps F L' Ps' F':=by exact x_ lA lA):Av n w0 R L Ps F L' Ps' F':=h
theorem a2U (h:Av n w0 R L Ps F L' Ps' F':=by exact x_ hQ lA):Av n w0 R L Ps F L' Ps' F':=h
theorem aYR (h:Av n w0 R L Ps F L' Ps' F':=by exact x_ hQ hQ):Av n w0 R L Ps F L' Ps' F':=h
theorem aYS (h:Av n w0 R L Ps F L' Ps' F':=by exact x_ fW hQ):Av n w0 R L Ps F L' Ps' F':=h
theorem aU0 (h:Av n w0 R L Ps F L' Ps' F':=by exact x_ aBW aBW):Av n w0 R L Ps F L' Ps' F':=h
theorem E0_ {P:Program} {ops:Array Oper} {Q:Exit->Act->World->Prop} (h:Av n w0 R L Ps F L' Ps' (.li P ops Q []):=by exact bR):Av n w0 R L Ps F L' Ps' (.li P ops Q []):=h
theorem E1_ {P:Program} {ops:Array Oper} {Q:Exit->Act->World->Prop} (h:Av n w0 R L Ps F L' Ps' (.li P ops Q []):=by first|exact bR|exact x_ eO E0_):Av n w0 R L Ps F L' Ps' (.li P ops Q []):=h
theorem E2_ {P:Program} {ops:Array Oper} {Q:Exit->Act->World->Prop} (h:Av n w0 R L Ps F L' Ps' (.li P ops Q []):=by first|exact bR|exact x_ eO E1_):Av n w0 R L Ps F L' Ps' (.li P ops Q []):=h
theorem E3_ {P:Program} {ops:Array Oper} {Q:Exit->Act->World->Prop} (h:Av n w0 R L Ps F L' Ps' (.li P ops Q []):=by first|exact bR|exact x_ eO E2_):Av n w0 R L Ps F L' Ps' (.li P ops Q []):=h
theorem E4_ {P:Program} {ops:Array Oper} {Q:Exit->Act->World->Prop} (h:Av n w0 R L Ps F L' Ps' (.li P ops Q []):=by first|exact bR|exact x_ eO E3_):Av n w0 R L Ps F L' Ps' (.li P ops Q []):=h
theorem E5_ {P:Program} {ops:Array Oper} {Q:Exit->Act->World->Prop} (h:Av n w0 R L Ps F L' Ps' (.li P ops Q []):=by first|exact bR|exact x_ eO E4_):Av n w0 R L Ps F L' Ps' (.li P ops Q []):=h
theorem E6_ {P:Program} {ops:Array Oper} {Q:Exit->Act->World->Prop} (h:Av n w0 R L Ps F L' Ps' (.li P ops Q []):=by first|exact bR|exact x_ eO E5_):Av n w0 R L Ps F L' Ps' (.li P ops Q []):=h
theorem E7_ {P:Program} {ops:Array Oper} {Q:Exit->Act->World->Prop} (h:Av n w0 R L Ps F L' Ps' (.li P ops Q []):=by first|exact bR|exact x_ eO E6_):Av n w0 R L Ps F L' Ps' (.li P ops Q []):=h
theorem E8_ {P:Program} {ops:Array Oper} {Q:Exit->Act->World->Prop} (h:Av n w0 R L Ps F L' Ps' (.li P ops Q []):=by first|exact bR|exact x_ eO E7_):Av n w0 R L Ps F L' Ps' (.li P ops Q []):=h
theorem E9_ {P:Program} {ops:Array Oper} {Q:Exit->Act->World->Prop} (h:Av n w0 R L Ps F L' Ps' (.li P ops Q []):=by first|exact bR|exact x_ eO E8_):Av n w0 R L Ps F L' Ps' (.li P ops Q []):=h
theorem a2V {P:Program} {ops:Array Oper} {Q:Exit->Act->World->Prop} (h:Av n w0 R L Ps F L' Ps' (.li P ops Q []):=by first|exact bR|exact x_ eO E9_):Av n w0 R L Ps F L' Ps' (.li P ops Q []):=h
theorem a2W {P:Program} {ops:Array Oper} {Q:Exit->Act->World->Prop} (h:Av n w0 R L Ps F L' Ps' (.li P ops Q []):=by first|exact bR|exact x_ eO a2V):Av n w0 R L Ps F L' Ps' (.li P ops Q []):=h
theorem a2X {P:Program} {ops:Array Oper} {Q:Exit->Act->World->Prop} (h:Av n w0 R L Ps F L' Ps' (.li P ops Q []):=by first|exact bR|exact x_ eO a2W):Av n w0 R L Ps F L' Ps' (.li P ops Q []):=h
theorem a2Y {P:Program} {ops:Array Oper} {Q:Exit->Act->World->Prop} (h:Av n w0 R L Ps F L' Ps' (.li P ops Q []):=by first|exact bR|exact x_ eO a2X):Av n w0 R L Ps F L' Ps' (.li P ops Q []):=h
theorem a2Z {P:Program} {ops:Array Oper} {Q:Exit->Act->World->Prop} (h:Av n w0 R L Ps F L' Ps' (.li P ops Q []):=by first|exact bR|exact x_ eO a2Y):Av n w0 R L Ps F L' Ps' (.li P ops Q []):=h
theorem a26 {P:Program} {ops:Array Oper} {Q:Exit->Act->World->Prop} (h:Av n w0 R L Ps F L' Ps' (.li P ops Q []):=by first|exact bR|exact x_ eO a2Z):Av n w0 R L Ps F L' Ps' (.li P ops Q []):=h
theorem aYT {P:Program} {ops:Array Oper} {Q:Exit->Act->World->Prop} (h:Av n w0 R L Ps F L' Ps' (.li P ops Q []):=by first|exact bR|exact x_ eO a26):Av n w0 R L Ps F L' Ps' (.li P ops Q []):=h
end
section
variable {ops:Array Oper} {Q:Exit->Act->World->Prop} {n:Nat} {L T:List (Nat×Value)} {w0:World} {R:Hh} {Ps:List HP} {a:Act} {w:World} {d:Nat} {v v':Value} {l1 l2 l:List Oper}
theorem nN (hs:St n ((d,v')::T) a) (m:Hp w0 R Ps w) (z:Nat) (hv:v'=v) (hk:apart (T.take z) (T.drop z)=true:=by rfl):wpList Tryz.prog ops (Exit.then (fun a w=>St n ((d,v)::T.drop z) a/\Hp w0 R Ps w) Q) [] a w:=wpList_nil (aB ⟨hv▸hs.ct z hk,m⟩)
theorem jO (hp:Spl l1 l2 l) (hs:St n L a) (m:Hp w0 R Ps w) (d:Nat) (x:Bool) (v:Value) (k:∀ a w,St n ((d,v)::L) a/\Hp w0 R Ps w->wpList Tryz.prog ops Q l2 a w)
    (ht:x=true->∀ a w,St n L a->Hp w0 R Ps w->wpList Tryz.prog ops (Exit.then (fun a w=>St n ((d,v)::L) a/\Hp w0 R Ps w) Q) l1 a w:=by(intro hb a w hs m;refine bP hs m aYT fun a w hs m=>?_;first|exact nN hs m 1 (by rw[hb];rfl)|exact nN hs m 2 (by rw[hb];rfl)|exact nN hs m 3 (by rw[hb];rfl)|exact nN hs m 4 (by rw[hb];rfl)|exact nN hs m 5 (by rw[hb];rfl)|exact nN hs m 6 (by rw[hb];rfl)|exact nN hs m 7 (by rw[hb];rfl)|exact nN hs m 8 (by rw[hb];rfl)|exact nN hs m 9 (by rw[hb];rfl)|exact nN hs m 10 (by rw[hb];rfl)|exact nN hs m 11 (by rw[hb];rfl)|exact nN hs m 12 (by rw[hb];rfl)|exact nN hs m 13 (by rw[hb];rfl)|exact nN hs m 14 (by rw[hb];rfl)|exact nN hs m 15 (by rw[hb];rfl)|exact nN hs m 16 (by rw[hb];rfl)))
    (hf:x=false->∀ a w,St n L a->Hp w0 R Ps w->wpList Tryz.prog ops (Exit.then (fun a w=>St n ((d,v)::L) a/\Hp w0 R Ps w) Q) l1 a w:=by(intro hb a w hs m;refine bP hs m aYT fun a w hs m=>?_;first|exact nN hs m 1 (by rw[hb];rfl)|exact nN hs m 2 (by rw[hb];rfl)|exact nN hs m 3 (by rw[hb];rfl)|exact nN hs m 4 (by rw[hb];rfl)|exact nN hs m 5 (by rw[hb];rfl)|exact nN hs m 6 (by rw[hb];rfl)|exact nN hs m 7 (by rw[hb];rfl)|exact nN hs m 8 (by rw[hb];rfl)|exact nN hs m 9 (by rw[hb];rfl)|exact nN hs m 10 (by rw[hb];rfl)|exact nN hs m 11 (by rw[hb];rfl)|exact nN hs m 12 (by rw[hb];rfl)|exact nN hs m 13 (by rw[hb];rfl)|exact nN hs m 14 (by rw[hb];rfl)|exact nN hs m 15 (by rw[hb];rfl)|exact nN hs m 16 (by rw[hb];rfl))):wpList Tryz.prog ops Q l a w :=
  zG hp _ (by cases h:x;exact hf h a w hs m;exact ht h a w hs m) k
end
end Go.Proofs.YtnbpodjbemfpbaaGreat.Fw
