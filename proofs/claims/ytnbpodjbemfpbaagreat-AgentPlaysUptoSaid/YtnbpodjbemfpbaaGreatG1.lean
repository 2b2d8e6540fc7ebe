/-
  Own work: walks and laws, joined by wip/tool/compact.py.
-/
import Derived.Calls
import Derived.Tactics
import Derived.Deep.Quiet
import Derived.Below
import Derived.WalkLawsBesides
import Derived.Deep.LoopGhost
set_option linter.all false
set_option linter.unusedVariables false
set_option linter.all false
namespace Go.Proofs.YtnbpodjbemfpbaaGreat.Fw
open Go
/-! ### 1. Slots -/
def lk:List (Nat×Value)->Nat->Option Value
  | [],_=>none
  | (i,v)::L,j=>match Nat.beq i j with|true=>some v|false=>lk L j
theorem aHA (i:Nat) (v:Value) (L:List (Nat×Value)):lk ((i,v)::L) i=some v:=by
  simp [lk]
theorem aBB {i j:Nat} (v:Value) (L:List (Nat×Value)) (h:i≠j):lk ((i,v)::L) j=lk L j:=by
  have:Nat.beq i j=false:=by
    cases hb:Nat.beq i j
    · rfl
    · exact absurd (Nat.eq_of_beq_eq_true hb) h
  simp [lk,this]
structure St (n:Nat) (L:List (Nat×Value)) (a:Act):Prop where
  size:a.tmps.size=n
  nod:a.defers=[]
  at_:∀ i v,lk L i=some v->a.tmps[i]?=some v
def ev (L:List (Nat×Value)):Operand->Option Value
  | .tmp t=>lk L t
  | .const v=>some v
  | .global g=>some (.pointer (some ⟨g,0,none⟩))
  | .func f=>some (.func (.func f) #[] #[])
def evs (L:List (Nat×Value)):List Operand->Option (List Value)
  | []=>some []
  | o::os=>match ev L o,evs L os with
    | some v,some vs=>some (v::vs)
    | _,_=>none
def Evs (L:List (Nat×Value)) (a:Act):Prop:=∀ x u,ev L x=some u->a.eval x=u
theorem St.evs {n:Nat} {L:List (Nat×Value)} {a:Act} (h:St n L a):Evs L a:=by
  intro x u hx
  cases x with
  | tmp t =>
    have:=h.at_ t u hx
    simp [Act.eval,Array.getD_eq_getD_getElem?,this]
  | const v=>simpa [ev,Act.eval] using hx
  | global g=>simpa [ev,Act.eval] using hx
  | func f=>simpa [ev,Act.eval] using hx
theorem St.put {n:Nat} {L:List (Nat×Value)} {a:Act} (h:St n L a) {d:Nat} {v:Value} (hd:Nat.blt d n=true):St n ((d,v)::L) (a.put (some d) v):=by
  have hlt:d<n:=Nat.le_of_ble_eq_true hd
  refine⟨by simp [Act.put,h.size],by simpa [Act.put] using h.nod,fun i u hu=>?_⟩
  by_cases e:d=i
  · subst e
    rw[aHA] at hu
    simp only[Option.some.injEq] at hu
    subst hu
    simp [Act.put,h.size,hlt]
  · rw[aBB _ _ e] at hu
    simp only[Act.put,Array.getElem?_setIfInBounds_ne e]
    exact h.at_ i u hu
theorem St.weak {n:Nat} {L L':List (Nat×Value)} {a:Act} (h:St n L a) (hs:∀ i v,lk L' i=some v->lk L i=some v):St n L' a :=
  ⟨h.size,h.nod,fun i v hv=>h.at_ i v (hs i v hv)⟩
def sub (L:List (Nat×Value)):List (Nat×Value)->Prop
  | []=>True
  | (i,v)::r=>lk L i=some v/\sub L r
theorem aRD {L:List (Nat×Value)}:∀ {L':List (Nat×Value)},sub L L'->∀ i v,lk L' i=some v->lk L i=some v
  | [],_,i,v,h=>by simp [lk] at h
  | (j,u)::r,hs,i,v,h=>by
    by_cases e:j=i
    · subst e
      rw[aHA] at h
      simp only[Option.some.injEq] at h
      subst h
      exact hs.1
    · rw[aBB _ _ e] at h
      exact aRD hs.2 i v h
theorem St.to {n:Nat} {L L':List (Nat×Value)} {a:Act} (h:St n L a) (hs:sub L L'):St n L' a:=h.weak (aRD hs)
/-! ### 2. The heap: pieces -/
abbrev Hh:=Nat->Option Obj
abbrev HP:=Hh->Prop
def hh (w:World):Hh:=fun i=>w.heap[i]?
def hu (h g:Hh):Hh:=fun i=>(h i).or (g i)
def hd (h g:Hh):Prop:=∀ i,h i=none\/g i=none
def oQ (b:Nat) (o:Obj):Hh:=fun i=>if i=b then some o else none
def xE (h g:Hh):Prop:=∀ i o,h i=some o->g i=some o
theorem aL8 {h g:Hh} (d:hd h g):hu h g=hu g h:=by
  funext i
  rcases d i with e|e <;> simp [hu,e]
theorem oR (a b c:Hh):hu (hu a b) c=hu a (hu b c):=by
  funext i
  simp only[hu]
  cases a i <;> simp
theorem pD {h g:Hh} (d:hd h g):hd g h:=fun i=>(d i).symm
theorem eX {a b c:Hh}:hd (hu a b) c ↔ hd a c/\hd b c:=by
  constructor
  · intro h
    refine⟨fun i=>?_,fun i=>?_⟩
    · rcases h i with e|e
      · simp only[hu] at e;left;cases ha:a i <;> simp_all
      · exact .inr e
    · rcases h i with e|e
      · simp only[hu] at e;left;cases ha:a i <;> simp_all
      · exact .inr e
  · rintro ⟨h1,h2⟩ i
    rcases h1 i with e|e
    · rcases h2 i with f|f
      · left;simp [hu,e,f]
      · exact .inr f
    · exact .inr e
theorem gB {a b c:Hh}:hd a (hu b c) ↔ hd a b/\hd a c :=
  ⟨fun h=>let ⟨x,y⟩:=eX.1 (pD h);⟨pD x,pD y⟩,fun⟨x,y⟩=>pD (eX.2 ⟨pD x,pD y⟩)⟩
theorem aA1 {h g:Hh} {i:Nat} {o:Obj} (e:h i=some o):hu h g i=some o:=by simp [hu,e]
theorem aA2 {h g:Hh} (d:hd h g) {i:Nat} {o:Obj} (e:g i=some o):hu h g i=some o:=by
  rcases d i with f|f
  · simp [hu,e,f]
  · rw[e] at f;cases f
theorem aPQ (h:Hh):xE h h:=fun _ _ e=>e
theorem qD {a b c:Hh} (h:xE a b) (k:xE b c):xE a c:=fun i o e=>k i o (h i o e)
theorem qU (h g:Hh):xE h (hu h g):=fun _ _ e=>aA1 e
theorem qC {h g:Hh} (d:hd h g):xE g (hu h g):=fun _ _ e=>aA2 d e
def aA0:Hh:=fun _=>none
theorem aB4 (h:Hh):hu aA0 h=h:=by funext i;simp [hu,aA0]
theorem aD6 (h:Hh):hd aA0 h:=fun _=>.inl rfl
def tru:HP:=fun _=>True
def SepL:List HP->Hh->Prop
  | [],h=>h=aA0
  | p::ps,h=>∃ h1 h2,p h1/\SepL ps h2/\hd h1 h2/\h=hu h1 h2
theorem SepL.swap {p q:HP} {ps:List HP} {h:Hh} (s:SepL (p::q::ps) h):SepL (q::p::ps) h:=by
  obtain⟨h1,h2,a,⟨h3,h4,b,c,d,rfl⟩,e,rfl⟩:=s
  have e':=gB.1 e
  refine⟨h3,hu h1 h4,b,⟨h1,h4,a,c,e'.2,rfl⟩,gB.2 ⟨pD e'.1,d⟩,?_⟩
  rw[<-oR,<-oR,aL8 e'.1]
theorem SepL.tail {p:HP} {ps qs:List HP} (f:∀ h,SepL ps h->SepL qs h) {h:Hh} (s:SepL (p::ps) h):SepL (p::qs) h:=by
  obtain⟨h1,h2,a,b,c,d⟩:=s
  exact⟨h1,h2,a,f _ b,c,d⟩
theorem SepL.head {p q:HP} {ps:List HP} (f:∀ h,p h->q h) {h:Hh} (s:SepL (p::ps) h):SepL (q::ps) h:=by
  obtain⟨h1,h2,a,b,c,d⟩:=s
  exact⟨h1,h2,f _ a,b,c,d⟩
theorem SepL.perm {ps qs:List HP} (hp:ps.Perm qs):∀ {h:Hh},SepL ps h->SepL qs h:=by
  induction hp with
  | nil=>exact id
  | cons x _ ih=>exact fun s=>s.tail (fun _=>ih)
  | swap x y l=>exact fun s=>s.swap
  | trans _ _ ih1 ih2=>exact fun s=>ih2 (ih1 s)
theorem SepL.append {ps qs:List HP} {h g:Hh} (s:SepL ps h) (t:SepL qs g) (d:hd h g):SepL (ps++qs) (hu h g):=by
  induction ps generalizing h with
  | nil=>obtain rfl:=s;simpa [aB4] using t
  | cons p ps ih =>
    obtain⟨h1,h2,a,b,c,rfl⟩:=s
    have d':=eX.1 d
    exact⟨h1,hu h2 g,a,ih b d'.2,gB.2 ⟨c,d'.1⟩,by rw[oR]⟩
theorem SepL.unappend {ps qs:List HP} {h:Hh} (s:SepL (ps++qs) h):∃ a b,SepL ps a/\SepL qs b/\hd a b/\h=hu a b:=by
  induction ps generalizing h with
  | nil=>exact⟨aA0,h,rfl,s,aD6 _,(aB4 _).symm⟩
  | cons p ps ih =>
    obtain⟨h1,h2,a,b,c,rfl⟩:=s
    obtain⟨x,y,hx,hy,e,rfl⟩:=ih b
    have c':=gB.1 c
    exact⟨hu h1 x,y,⟨h1,x,a,hx,c'.1,rfl⟩,hy,eX.2 ⟨c'.2,e⟩,by rw[oR]⟩
structure Hp (w0:World) (R:Hh) (Ps:List HP) (w:World):Prop where
  os:w.os=w0.os
  tape:w.tape=w0.tape
  output:w.output=w0.output
  size:w0.heap.size<=w.heap.size
  heap:∃ h,SepL (tru::Ps) h/\hd h R/\hh w=hu h R
variable {P:Program} {w0 w w':World} {R:Hh} {Ps Qs:List HP}
theorem Hp.start (w:World):Hp w (hh w) [] w :=
  ⟨rfl,rfl,rfl,Nat.le_refl _,aA0,⟨aA0,aA0,trivial,rfl,aD6 _,(aB4 _).symm⟩,aD6 _,(aB4 _).symm⟩
theorem Hp.map (f:∀ h,SepL Ps h->SepL Qs h) (m:Hp w0 R Ps w):Hp w0 R Qs w :=
  let ⟨h,s,d,e⟩:=m.heap
  ⟨m.os,m.tape,m.output,m.size,h,s.tail f,d,e⟩
theorem Hp.perm (m:Hp w0 R Ps w) (hp:Ps.Perm Qs):Hp w0 R Qs w:=m.map fun _=>SepL.perm hp
theorem Hp.drop {p:HP} (m:Hp w0 R (p::Ps) w):Hp w0 R Ps w:=by
  obtain⟨h,⟨h1,h2,_,⟨h3,h4,_,c,d1,rfl⟩,d2,rfl⟩,d,e⟩:=m.heap
  have d2':=gB.1 d2
  exact⟨m.os,m.tape,m.output,m.size,_,⟨hu h1 h3,h4,trivial,c,eX.2 ⟨d2'.2,d1⟩,rfl⟩,by rw[oR];exact d,by rw[oR h1];exact e⟩
theorem Hp.frame (m:Hp w0 R Ps w):xE R (hh w):=by
  obtain⟨h,_,d,e⟩:=m.heap
  rw[e]
  exact qC d
/-! Places in a list of pieces -/
def Swp (Ps:List HP) (p q:HP) (Qs:List HP):Prop:=∃ a b,Ps=a++p::b/\Qs=a++q::b
def Rem (Ps:List HP) (p:HP) (Qs:List HP):Prop:=∃ a b,Ps=a++p::b/\Qs=a++b
section
variable {x0 x1 x2 x3 x4 x5 x6 x7 x8 x9 x10 x11 p q:HP} {l:List HP}
theorem s0:Swp (p::l) p q (q::l):=⟨[],l,rfl,rfl⟩
theorem s1:Swp (x0::p::l) p q (x0::q::l):=⟨[x0],l,rfl,rfl⟩
theorem s2:Swp (x0::x1::p::l) p q (x0::x1::q::l):=⟨[x0,x1],l,rfl,rfl⟩
theorem s3:Swp (x0::x1::x2::p::l) p q (x0::x1::x2::q::l):=⟨[x0,x1,x2],l,rfl,rfl⟩
theorem s4:Swp (x0::x1::x2::x3::p::l) p q (x0::x1::x2::x3::q::l):=⟨[x0,x1,x2,x3],l,rfl,rfl⟩
theorem s5:Swp (x0::x1::x2::x3::x4::p::l) p q (x0::x1::x2::x3::x4::q::l):=⟨[x0,x1,x2,x3,x4],l,rfl,rfl⟩
theorem s6:Swp (x0::x1::x2::x3::x4::x5::p::l) p q (x0::x1::x2::x3::x4::x5::q::l):=⟨[x0,x1,x2,x3,x4,x5],l,rfl,rfl⟩
theorem s7:Swp (x0::x1::x2::x3::x4::x5::x6::p::l) p q (x0::x1::x2::x3::x4::x5::x6::q::l):=⟨[x0,x1,x2,x3,x4,x5,x6],l,rfl,rfl⟩
theorem s9:Swp (x0::x1::x2::x3::x4::x5::x6::x7::x8::p::l) p q (x0::x1::x2::x3::x4::x5::x6::x7::x8::q::l):=⟨[x0,x1,x2,x3,x4,x5,x6,x7,x8],l,rfl,rfl⟩
theorem s10:Swp (x0::x1::x2::x3::x4::x5::x6::x7::x8::x9::p::l) p q (x0::x1::x2::x3::x4::x5::x6::x7::x8::x9::q::l):=⟨[x0,x1,x2,x3,x4,x5,x6,x7,x8,x9],l,rfl,rfl⟩
theorem s11:Swp (x0::x1::x2::x3::x4::x5::x6::x7::x8::x9::x10::p::l) p q (x0::x1::x2::x3::x4::x5::x6::x7::x8::x9::x10::q::l):=⟨[x0,x1,x2,x3,x4,x5,x6,x7,x8,x9,x10],l,rfl,rfl⟩
theorem r0:Rem (p::l) p l:=⟨[],l,rfl,rfl⟩
theorem r1:Rem (x0::p::l) p (x0::l):=⟨[x0],l,rfl,rfl⟩
theorem r2:Rem (x0::x1::p::l) p (x0::x1::l):=⟨[x0,x1],l,rfl,rfl⟩
theorem r3:Rem (x0::x1::x2::p::l) p (x0::x1::x2::l):=⟨[x0,x1,x2],l,rfl,rfl⟩
theorem r4:Rem (x0::x1::x2::x3::p::l) p (x0::x1::x2::x3::l):=⟨[x0,x1,x2,x3],l,rfl,rfl⟩
theorem r5:Rem (x0::x1::x2::x3::x4::p::l) p (x0::x1::x2::x3::x4::l):=⟨[x0,x1,x2,x3,x4],l,rfl,rfl⟩
theorem r6:Rem (x0::x1::x2::x3::x4::x5::p::l) p (x0::x1::x2::x3::x4::x5::l):=⟨[x0,x1,x2,x3,x4,x5],l,rfl,rfl⟩
theorem r7:Rem (x0::x1::x2::x3::x4::x5::x6::p::l) p (x0::x1::x2::x3::x4::x5::x6::l):=⟨[x0,x1,x2,x3,x4,x5,x6],l,rfl,rfl⟩
theorem r8:Rem (x0::x1::x2::x3::x4::x5::x6::x7::p::l) p (x0::x1::x2::x3::x4::x5::x6::x7::l):=⟨[x0,x1,x2,x3,x4,x5,x6,x7],l,rfl,rfl⟩
theorem r9:Rem (x0::x1::x2::x3::x4::x5::x6::x7::x8::p::l) p (x0::x1::x2::x3::x4::x5::x6::x7::x8::l):=⟨[x0,x1,x2,x3,x4,x5,x6,x7,x8],l,rfl,rfl⟩
theorem r10:Rem (x0::x1::x2::x3::x4::x5::x6::x7::x8::x9::p::l) p (x0::x1::x2::x3::x4::x5::x6::x7::x8::x9::l):=⟨[x0,x1,x2,x3,x4,x5,x6,x7,x8,x9],l,rfl,rfl⟩
theorem r11:Rem (x0::x1::x2::x3::x4::x5::x6::x7::x8::x9::x10::p::l) p (x0::x1::x2::x3::x4::x5::x6::x7::x8::x9::x10::l):=⟨[x0,x1,x2,x3,x4,x5,x6,x7,x8,x9,x10],l,rfl,rfl⟩
end
theorem Rem.perm {p:HP} (h:Rem Ps p Qs):Ps.Perm (p::Qs):=by
  obtain⟨a,b,rfl,rfl⟩:=h
  exact List.perm_middle
theorem Swp.rem {p q:HP} (h:Swp Ps p q Qs):∃ l,Ps.Perm (p::l)/\(q::l).Perm Qs:=by
  obtain⟨a,b,rfl,rfl⟩:=h
  exact⟨a++b,List.perm_middle,List.perm_middle.symm⟩
theorem Hp.front {p:HP} (m:Hp w0 R Ps w) (h:Rem Ps p Qs):Hp w0 R (p::Qs) w:=m.perm h.perm
theorem Hp.rem {p:HP} (m:Hp w0 R Ps w) (h:Rem Ps p Qs):Hp w0 R Qs w:=(m.front h).drop
inductive Sub:List HP->List HP->Prop
  | n {l:List HP}:Sub [] l
  | c {p:HP} {l l' r:List HP}:Rem l p l'->Sub r l'->Sub (p::r) l
theorem Sub.perm {qs l:List HP} (h:Sub qs l):∃ r,l.Perm (qs++r):=by
  induction h with
  | @n l=>exact⟨l,.refl _⟩
  | c h _ ih =>
    obtain⟨r,hr⟩:=ih
    exact⟨r,h.perm.trans (hr.cons _)⟩
theorem Hp.dropAll {rs:List HP}:∀ {qs:List HP},Hp w0 R (qs++rs) w->Hp w0 R qs w:=by
  induction rs with
  | nil=>intro qs m;simpa using m
  | cons r rs ih =>
    intro qs m
    exact ih ((m.perm (Qs:=r::(qs++rs)) List.perm_middle).drop)
theorem Hp.sub {qs:List HP} (m:Hp w0 R Ps w) (h:Sub qs Ps):Hp w0 R qs w:=by
  obtain⟨r,hr⟩:=h.perm
  exact(m.perm hr).dropAll
theorem Swp.out {p q:HP} (h:Swp Ps p q Qs):∃ l,Rem Ps p l:=by
  obtain⟨a,b,rfl,rfl⟩:=h
  exact⟨a++b,a,b,rfl,rfl⟩
theorem Hp.swp {p q:HP} (m:Hp w0 R Ps w) (h:Swp Ps p q Qs) (f:∀ h,p h->q h):Hp w0 R Qs w:=by
  obtain⟨l,a,b⟩:=h.rem
  exact((m.perm a).map fun _=>SepL.head f).perm b
theorem Hp.look {p:HP} (m:Hp w0 R Ps w) (h:Rem Ps p Qs):∃ g,p g/\xE g (hh w):=by
  obtain⟨h,s,d,e⟩:=(m.perm h.perm).heap
  obtain⟨h1,h2,_,⟨h3,h4,hp,_,d1,rfl⟩,d2,rfl⟩:=s
  refine⟨h3,hp,?_⟩
  rw[e]
  exact qD (qD (qU _ _) (qC d2)) (qU _ _)
theorem Hp.exact {p:HP} (m:Hp w0 R (p::Ps) w):∃ g,p g/\xE g (hh w)/\Hp w0 R ((fun h=>h=g)::Ps) w:=by
  obtain⟨h,s,d,e⟩:=m.heap
  obtain⟨h1,h2,_,⟨h3,h4,hp,t,d1,rfl⟩,d2,rfl⟩:=s
  refine⟨h3,hp,?_,⟨m.os,m.tape,m.output,m.size,_,⟨h1,_,trivial,⟨h3,h4,rfl,t,d1,rfl⟩,d2,rfl⟩,d,e⟩⟩
  rw[e]
  exact qD (qD (qU _ _) (qC d2)) (qU _ _)
theorem SepL.look {p:HP} {h:Hh} (s:SepL Ps h) (r:Rem Ps p Qs):∃ g,p g/\xE g h:=by
  obtain⟨h1,h2,hp,_,d,rfl⟩:=s.perm r.perm
  exact⟨h1,hp,qU _ _⟩
/-! ### 3. Calls and the heap -/
theorem Hp.after (m:Hp w0 R Ps w) (k:Hp w (hh w) Qs w'):Hp w0 R (Qs++Ps) w':=by
  obtain⟨h,⟨h1,h2,_,s,d1,rfl⟩,d,e⟩:=m.heap
  obtain⟨g,⟨g1,g2,_,t,c1,rfl⟩,c,f⟩:=k.heap
  rw[e] at c f
  have c':=gB.1 c
  have c'':=gB.1 c'.1
  have c3:=eX.1 c''.1
  have c4:=eX.1 c''.2
  refine⟨k.os.trans m.os,k.tape.trans m.tape,k.output.trans m.output,Nat.le_trans m.size k.size,hu (hu g1 h1) (hu g2 h2),?_,?_,?_⟩
  · refine⟨hu g1 h1,hu g2 h2,trivial,t.append s c4.2,?_,rfl⟩
    exact eX.2 ⟨gB.2 ⟨c1,c4.1⟩,gB.2 ⟨pD c3.2,d1⟩⟩
  · have:=eX.1 d
    have c5:=eX.1 c'.2
    exact eX.2 ⟨eX.2 ⟨c5.1,this.1⟩,eX.2 ⟨c5.2,this.2⟩⟩
  · rw[f]
    rw[<-oR]
    congr 1
    funext i
    simp only[hu]
    have:=c3.2 i
    cases x1:g1 i <;> cases x2:g2 i <;> cases x3:h1 i <;> cases x4:h2 i <;> simp_all
theorem Hp.split {Pc:List HP} (m:Hp w0 R (Pc++Ps) w):∃ R',xE R R'/\xE R' (hh w)/\(∃ y,SepL Ps y/\xE y R')/\Hp w R' Pc w/\∀ (Qc:List HP) (w':World),Hp w R' Qc w'->Hp w0 R (Qc++Ps) w':=by
  obtain⟨h,⟨h1,h2,_,s,d1,rfl⟩,d,e⟩:=m.heap
  obtain⟨x,y,sx,sy,dxy,rfl⟩:=s.unappend
  have d1':=gB.1 d1
  have d2:=eX.1 d
  have d3:=eX.1 d2.2
  -- the frame: h1, y, R
  have dA:hd (hu h1 y) R:=eX.2 ⟨d2.1,d3.2⟩
  have dB:hd x (hu (hu h1 y) R):=gB.2 ⟨gB.2 ⟨pD d1'.1,dxy⟩,d3.1⟩
  have hw:hh w=hu x (hu (hu h1 y) R):=by
    rw[e,<-oR,<-oR,<-oR]
    congr 1
    rw[aL8 d1'.1]
  refine⟨hu (hu h1 y) R,qC dA,?_,⟨y,sy,qD (qC d1'.2) (qU _ _)⟩,⟨rfl,rfl,rfl,Nat.le_refl _,x,⟨aA0,x,trivial,sx,aD6 _,(aB4 _).symm⟩,dB,hw⟩,?_⟩
  · rw[hw];exact qC dB
  · intro Qc w' k
    obtain⟨g,⟨g1,g2,_,t,c1,rfl⟩,c,f⟩:=k.heap
    have c':=gB.1 c
    have c2:=eX.1 c'.1
    have c3:=gB.1 c2.1
    have c4:=gB.1 c2.2
    refine⟨k.os.trans m.os,k.tape.trans m.tape,k.output.trans m.output,Nat.le_trans m.size k.size,hu (hu g1 h1) (hu g2 y),⟨hu g1 h1,hu g2 y,trivial,t.append sy c4.2,?_,rfl⟩,?_,?_⟩
    · exact eX.2 ⟨gB.2 ⟨c1,c3.2⟩,gB.2 ⟨pD c4.1,d1'.2⟩⟩
    · have c5:=eX.1 c'.2
      exact eX.2 ⟨eX.2 ⟨c5.1,d2.1⟩,eX.2 ⟨c5.2,d3.2⟩⟩
    · rw[f,<-oR]
      congr 1
      funext i
      simp only[hu]
      have:=c4.1 i
      cases x1:g1 i <;> cases x2:g2 i <;> cases x3:h1 i <;> cases x4:y i <;> simp_all
theorem Hp.alloc (m:Hp w0 R Ps w) (o:Obj):Hp w0 R ((fun h=>h=oQ w.heap.size o)::Ps) (w.alloc o):=by
  obtain⟨h,⟨h1,h2,_,s,d1,rfl⟩,d,e⟩:=m.heap
  have hfree:∀ g,xE g (hh w)->g w.heap.size=none:=by
    intro g hg
    cases hx:g w.heap.size with
    | none=>rfl
    | some o' =>
      have:=hg _ _ hx
      simp [hh] at this
  have l1:xE h1 (hh w):=by rw[e];exact qD (qU _ _) (qU _ _)
  have l2:xE h2 (hh w):=by rw[e];exact qD (qC d1) (qU _ _)
  have l3:xE R (hh w):=by rw[e];exact qC d
  have dn:∀ g,xE g (hh w)->hd (oQ w.heap.size o) g:=by
    intro g hg i
    by_cases hi:i=w.heap.size
    · exact .inr (hi▸hfree g hg)
    · exact .inl (by simp [oQ,hi])
  refine⟨m.os,m.tape,m.output,by have:=m.size;simp;omega,hu h1 (hu (oQ w.heap.size o) h2),?_,?_,?_⟩
  · exact⟨h1,_,trivial,⟨_,h2,rfl,s,dn h2 l2,rfl⟩,gB.2 ⟨pD (dn h1 l1),d1⟩,rfl⟩
  · have d':=eX.1 d
    exact eX.2 ⟨d'.1,eX.2 ⟨dn R l3,d'.2⟩⟩
  · funext i
    have e':=congrFun e i
    have f1:=hfree h1 l1
    have f2:=hfree h2 l2
    have f3:=hfree R l3
    simp only[hh] at e' ⊢
    simp only[World.alloc,Array.getElem?_push]
    by_cases hi:i=w.heap.size
    · subst hi
      simp [hu,oQ,f1]
    · rw[if_neg hi,e']
      simp [hu,oQ,hi]
theorem Hp.block {b:Nat} {o o':Obj} (m:Hp w0 R ((fun h=>h=oQ b o)::Ps) w) (hw:w'.heap=w.heap.setIfInBounds b o') (hos:w'.os=w.os) (htape:w'.tape=w.tape) (hout:w'.output=w.output) :
    Hp w0 R ((fun h=>h=oQ b o')::Ps) w':=by
  obtain⟨h,⟨h1,h2,_,⟨h3,h4,rfl,s,d1,rfl⟩,d2,rfl⟩,d,e⟩:=m.heap
  have hdd:∀ g,hd (oQ b o) g->hd (oQ b o') g:=by
    intro g hg i
    rcases hg i with x|x
    · left
      by_cases hi:i=b
      · simp [oQ,hi] at x
      · simp [oQ,hi]
    · exact .inr x
  have d2':=gB.1 d2
  have d':=eX.1 d
  have d'':=eX.1 d'.2
  refine⟨hos.trans m.os,htape.trans m.tape,hout.trans m.output,by have:=m.size;simp [hw];omega,hu h1 (hu (oQ b o') h4),⟨h1,_,trivial,⟨_,h4,rfl,s,hdd _ d1,rfl⟩,gB.2 ⟨pD (hdd _ (pD d2'.1)),d2'.2⟩,rfl⟩,
    eX.2 ⟨d'.1,eX.2 ⟨hdd _ d''.1,d''.2⟩⟩,?_⟩
  have hin:w.heap[b]?=some o:=by
    have:=congrFun e b
    simp only[hh] at this
    rw[this]
    have:=d2'.1 b
    simp only[oQ,if_true] at this
    rcases this with x|x
    · simp [hu,oQ,x]
    · cases x
  have hlt:b<w.heap.size:=(Array.getElem?_eq_some_iff.1 hin).1
  funext i
  have e':=congrFun e i
  simp only[hh] at e' ⊢
  rw[hw,Array.getElem?_setIfInBounds]
  by_cases hi:b=i
  · subst hi
    have:=d2'.1 b
    simp only[oQ,if_true] at this
    rcases this with x|x
    · simp [hu,oQ,x,hlt]
    · cases x
  · rw[if_neg hi,e']
    have:¬ i=b:=fun h=>hi h.symm
    simp [hu,oQ,this]
theorem Hp.drew (m:Hp w0 R Ps w):Hp w0 R Ps w.drew:=⟨m.os,m.tape,m.output,m.size,m.heap⟩
theorem Hp.drawn (m:Hp w0 R Ps w) (n:Nat):Hp w0 R Ps { w with drawn:=n }:=⟨m.os,m.tape,m.output,m.size,m.heap⟩
end Go.Proofs.YtnbpodjbemfpbaaGreat.Fw
set_option linter.unusedVariables false
set_option linter.all false
namespace Go.Proofs.YtnbpodjbemfpbaaGreat.Fw
open Go
/-! ### 4. Types, «as» the tables have them -/
def aM2:TypeDesc->Bool
  | .struct _| .array _ _=>true
  | _=>false
def kJ (P:Program) (T:TypeId):Option (Bool×Nat) :=
  match P.underlying T,P.info? T with
  | some d,some i=>some (aM2 d,i.size)
  | _,_=>none
def rZ (P:Program) (T:TypeId) (i:Nat):Option (Nat×TypeId) :=
  match P.underlying T with
  | some (.struct fs)=>(fs[i]?).map fun f=>(f.offset,f.type)
  | _=>none
def uX (P:Program) (T:TypeId):Option TypeId :=
  match P.underlying T with
  | some (.slice e)=>some e
  | _=>none
def arI (P:Program) (T:TypeId):Option (Nat×TypeId) :=
  match P.underlying T with
  | some (.array n e)=>some (n,e)
  | _=>none
def inI (P:Program) (T:TypeId):Option IntKind :=
  match P.underlying T with
  | some (.int k)=>some k
  | _=>none
section
variable {P:Program} {w:World} {T:TypeId} {ag:Bool} {n:Nat}
theorem uE (h:kJ P T=some (ag,n)):∃ d i,P.underlying T=some d/\P.info? T=some i/\aM2 d=ag/\i.size=n:=by
  unfold kJ at h
  split at h
  · rename_i d i h1 h2
    simp only[Option.some.injEq,Prod.mk.injEq] at h
    exact⟨d,i,h1,h2,h.1,h.2⟩
  · cases h
theorem tV {i o:Nat} {U:TypeId} (h:rZ P T i=some (o,U)):∃ fs f,P.underlying T=some (.struct fs)/\fs[i]?=some f/\f.offset=o/\f.type=U:=by
  unfold rZ at h
  split at h
  · rename_i fs h1
    cases hf:fs[i]? with
    | none=>simp [hf] at h
    | some f =>
      simp only[hf,Option.map_some,Option.some.injEq,Prod.mk.injEq] at h
      exact⟨fs,f,h1,hf,h.1,h.2⟩
  · cases h
theorem jY {E:TypeId} (h:uX P T=some E):P.underlying T=some (.slice E):=by
  unfold uX at h
  split at h
  · rename_i h1
    simp only[Option.some.injEq] at h
    rw[h1,h]
  · cases h
theorem vM {E:TypeId} (h:arI P T=some (n,E)):P.underlying T=some (.array n E):=by
  unfold arI at h
  split at h
  · rename_i h1
    simp only[Option.some.injEq,Prod.mk.injEq] at h
    rw[h1,h.1,h.2]
  · cases h
theorem aA5 {k:IntKind} (h:inI P T=some k):P.underlying T=some (.int k):=by
  unfold inI at h
  split at h
  · rename_i h1
    simp only[Option.some.injEq] at h
    rw[h1,h]
  · cases h
theorem rW (h:kJ P T=some (ag,n)) (w:World):(isAgg T).run P w= .ok ag w:=by
  obtain⟨d,i,h1,h2,h3,h4⟩:=uE h
  cases d <;> simp [isAgg,go_sem,run_underlying h1] <;> simp_all [aM2]
theorem gW (h:kJ P T=some (ag,n)) (w:World):(sizeOf T).run P w= .ok n w:=by
  obtain⟨d,i,h1,h2,h3,h4⟩:=uE h
  simp [sizeOf,typeInfo,go_sem,h2,h4]
end
/-! ### 5. Addresses and cells -/
def bK (p:Addr) (o:Nat):Addr:=⟨p.block,p.off+o,none⟩
theorem aEN (p:Addr) (o n:Nat):(bK p o).add n=bK p (o+n):=by
  unfold Addr.add bK
  by_cases h:n=0
  · simp [h]
  · simp [h,Nat.add_assoc]
theorem aFZ (p:Addr) (o n:Nat):bK (bK p o) n=bK p (o+n):=by simp [bK,Nat.add_assoc]
def CellsAt (h:Hh) (p:Addr) (cs:List Value):Prop:=∃ arr T fz,h p.block=some (.cells arr T fz)/\(arr.toList.drop p.off).take cs.length=cs
theorem CellsAt.le {h g:Hh} {p:Addr} {cs:List Value} (c:CellsAt h p cs) (l:xE h g):CellsAt g p cs :=
  let ⟨arr,T,fz,a,b⟩:=c
  ⟨arr,T,fz,l _ _ a,b⟩
theorem CellsAt.cell {w:World} {p:Addr} {cs:List Value} (c:CellsAt (hh w) p cs) {o:Nat} {v:Value} (h:cs[o]?=some v):w.cell? (bK p o)=some v:=by
  obtain⟨arr,T,fz,a,b⟩:=c
  have hlt:o<cs.length:=(List.getElem?_eq_some_iff.1 h).1
  have:(arr.toList.drop p.off)[o]?=some v:=by
    rw[<-b,List.getElem?_take_of_lt hlt] at h
    exact h
  rw[List.getElem?_drop] at this
  simp only[hh] at a
  simp only[World.cell?,bK,a]
  simpa using this
def CAt (C:World->Prop) (p:Addr) (cs:List Value):Prop:=∀ w,C w->CellsAt (hh w) p cs
theorem rD {P:Program} {w:World} {a:Addr}:∀ (n i:Nat) (vs:List Value) (acc:Array Value),vs.length=n->(∀ j v,vs[j]?=some v->w.cell? (a.add (i+j))=some v) ->
    (loadCellsFrom a i n acc).run P w= .ok (acc++vs.toArray) w
  | 0,i,vs,acc,hl,_=>by
    have:vs=[]:=List.eq_nil_of_length_eq_zero hl
    subst this
    simp [loadCellsFrom,go_sem]
  | n+1,i,vs,acc,hl,h=>by
    match vs,hl with
    | v::vs,hl =>
      have h0:=h 0 v rfl
      simp only[Nat.add_zero] at h0
      have ih:=rD (P:=P) (w:=w) (a:=a) n (i+1) vs (acc.push v) (by simpa using hl) (fun j u hj=>by
        have:=h (j+1) u (by simpa using hj)
        rw[show i+(j+1)=i+1+j from by omega] at this
        exact this)
      simp only[loadCellsFrom,load,bind,Sem.bind,Sem.run,h0]
      rw[ih]
      simp
theorem yG {P:Program} {w:World} {T:TypeId} {n:Nat} (ht:kJ P T=some (true,n)) {p:Addr} {o:Nat} {cs vs:List Value} (c:CellsAt (hh w) p cs) (hv:(cs.drop o).take n=vs) (hl:vs.length=n) :
    (loadVar T (bK p o)).run P w= .ok (.agg ⟨vs⟩) w:=by
  have hL:=rD (P:=P) (w:=w) (a:=bK p o) n 0 vs #[] hl (fun j v hj=>by
    rw[aEN]
    refine c.cell ?_
    have hlt:j<vs.length:=(List.getElem?_eq_some_iff.1 hj).1
    rw[<-hv,List.getElem?_take_of_lt (by omega),List.getElem?_drop] at hj
    simpa using hj)
  unfold loadVar
  simp only[bind,Sem.run_bind',Result.andThen,rW ht,if_true,gW ht,loadCells]
  rw[hL]
  simp [pure]
theorem aEW {P:Program} {w:World} {T:TypeId} {n:Nat} (ht:kJ P T=some (false,n)) {p:Addr} {o:Nat} {cs:List Value} {v:Value} (c:CellsAt (hh w) p cs) (hv:cs[o]?=some v) :
    (loadVar T (bK p o)).run P w= .ok v w:=by
  unfold loadVar
  simp [bind,Sem.run_bind',Result.andThen,rW ht,load,Sem.run,c.cell hv]
/-! ### 6. Operations that bH the world alone -/
def Ok (P:Program) (C:World->Prop) (L:List (Nat×Value)) (o:Oper) (v:Value):Prop :=
  ∀ a:Operand->Value,(∀ x u,ev L x=some u->a x=u)->∀ w,C w->(execOp a o).run P w= .ok (.value v) w
def aYX (k:IntKind) (m n:Int):Int:=k.wrap (BitVec.ofInt k.bits m &&& BitVec.ofInt k.bits n).toNat
def bOr (k:IntKind) (m n:Int):Int:=k.wrap (BitVec.ofInt k.bits m ||| BitVec.ofInt k.bits n).toNat
def aYY (k:IntKind) (m n:Int):Int:=k.wrap (BitVec.ofInt k.bits m ^^^ BitVec.ofInt k.bits n).toNat
def aAQ (k:IntKind) (m n:Int):Int:=k.wrap (BitVec.ofInt k.bits m &&& ~~~BitVec.ofInt k.bits n).toNat
def ib:BinOp->IntKind->Int->Int->Option Value
  | .add,k,m,n=>some (.int k (k.wrap (m+n)))
  | .sub,k,m,n=>some (.int k (k.wrap (m-n)))
  | .mul,k,m,n=>some (.int k (k.wrap (m*n)))
  | .and,k,m,n=>some (.int k (aYX k m n))
  | .or,k,m,n=>some (.int k (bOr k m n))
  | .xor,k,m,n=>some (.int k (aYY k m n))
  | .andNot,k,m,n=>some (.int k (aAQ k m n))
  | .eql,_,m,n=>some (.bool (m==n))
  | .neq,_,m,n=>some (.bool (m !=n))
  | .lss,_,m,n=>some (.bool (decide (m<n)))
  | .leq,_,m,n=>some (.bool (decide (m<=n)))
  | .gtr,_,m,n=>some (.bool (decide (m>n)))
  | .geq,_,m,n=>some (.bool (decide (m>=n)))
  | _,_,_,_=>none
section
variable {P:Program} {C:World->Prop} {L:List (Nat×Value)} {d:Option Tmp} {ty:TypeId} {pos:String} {aft:Array Edge} {g:Option (Nat×Bool)}
theorem aST {x:Operand} {v:Value} (hx:ev L x=some v):Ok P C L ⟨d,.move x,ty,pos,aft,g⟩ v:=fun a ha w _=>by
  simp [execOp,ha x v hx,pure,Sem.run]
theorem aNN {x:Operand} {v:Value} (hx:ev L x=some v):Ok P C L ⟨d,.assign x,ty,pos,aft,g⟩ v:=fun a ha w _=>by
  simp [execOp,ha x v hx,pure,Sem.run]
theorem oA (op:BinOp) (T:TypeId) (x y:Operand) (k k':IntKind) (m n:Int) (w:World):(eqGuard op T x y (.int k m) (.int k' n)).run P w= .ok () w:=by
  unfold eqGuard
  cases op <;> simp [go_sem]
theorem aYB {op:BinOp} {T:TypeId} {k:IntKind} {m n:Int} {v:Value} (hv:ib op k m n=some v) (w:World):(binOp op T (.int k m) (.int k n)).run P w= .ok v w:=by
  cases op <;> simp only[ib,Option.some.injEq,reduceCtorEq] at hv <;> subst hv <;>
    simp [binOp,Op.intArith,Op.intBits,Op.intCmp,pure,Sem.run,aYX,bOr,aYY,aAQ]
theorem fB {op:BinOp} {T T':TypeId} {x y:Operand} {k:IntKind} {m n:Int} {v:Value} (hx:ev L x=some (.int k m)) (hy:ev L y=some (.int k n)) (hv:ib op k m n=some v) :
    Ok P C L ⟨d,.binOp op T x y T',ty,pos,aft,g⟩ v:=fun a ha w _=>by
  have h1:=oA (P:=P) op T x y k k m n w
  have h2:=aYB (P:=P) (T:=T) hv w
  simp [execOp,ha x _ hx,ha y _ hy,bind,Sem.run_bind',h1,h2,pure,Sem.run,Result.andThen]
theorem fA {T T':TypeId} {x y:Operand} {k:IntKind} {m n r:Int} (hx:ev L x=some (.int k m)) (hy:ev L y=some (.int k n)) (hr:k.wrap (m+n)=r) :
    Ok P C L ⟨d,.binOp .add T x y T',ty,pos,aft,g⟩ (.int k r):=fB hx hy (by rw[<-hr];rfl)
theorem qX {T T':TypeId} {x y:Operand} {k:IntKind} {m n r:Int} (hx:ev L x=some (.int k m)) (hy:ev L y=some (.int k n)) (hr:k.wrap (m-n)=r) :
    Ok P C L ⟨d,.binOp .sub T x y T',ty,pos,aft,g⟩ (.int k r):=fB hx hy (by rw[<-hr];rfl)
theorem tX {T T':TypeId} {x y:Operand} {k:IntKind} {m n r:Int} (hx:ev L x=some (.int k m)) (hy:ev L y=some (.int k n)) (hr:k.wrap (m*n)=r) :
    Ok P C L ⟨d,.binOp .mul T x y T',ty,pos,aft,g⟩ (.int k r):=fB hx hy (by rw[<-hr];rfl)
theorem mE {T T':TypeId} {x y:Operand} {k:IntKind} {m n r:Int} (hx:ev L x=some (.int k m)) (hy:ev L y=some (.int k n)) (hn:n≠0) (hr:k.wrap (m.tdiv n)=r) :
    Ok P C L ⟨d,.binOp .quo T x y T',ty,pos,aft,g⟩ (.int k r):=fun a ha w _=>by
  have h1:=oA (P:=P) .quo T x y k k m n w
  subst hr
  simp [execOp,ha x _ hx,ha y _ hy,bind,Sem.run_bind',h1,binOp,Op.intDiv,hn,pure,Sem.run,Result.andThen]
theorem aQC {T T':TypeId} {x y:Operand} {k:IntKind} {m n r:Int} (hx:ev L x=some (.int k m)) (hy:ev L y=some (.int k n)) (hn:n≠0) (hr:m.tmod n=r) :
    Ok P C L ⟨d,.binOp .rem T x y T',ty,pos,aft,g⟩ (.int k r):=fun a ha w _=>by
  have h1:=oA (P:=P) .rem T x y k k m n w
  subst hr
  simp [execOp,ha x _ hx,ha y _ hy,bind,Sem.run_bind',h1,binOp,Op.intDiv,hn,pure,Sem.run,Result.andThen]
theorem aXM {T T':TypeId} {x y:Operand} {k k':IntKind} {m n r:Int} (hx:ev L x=some (.int k m)) (hy:ev L y=some (.int k' n)) (hn:0<=n) (hr:k.wrap (m*2 ^ (min n.toNat k.bits))=r) :
    Ok P C L ⟨d,.binOp .shl T x y T',ty,pos,aft,g⟩ (.int k r):=fun a ha w _=>by
  have h1:=oA (P:=P) .shl T x y k k' m n w
  have hn':¬ n<0:=by omega
  subst hr
  simp [execOp,ha x _ hx,ha y _ hy,bind,Sem.run_bind',h1,binOp,Op.shift,hn',pure,Sem.run,Result.andThen]
theorem aEJ {T T':TypeId} {x y:Operand} {k k':IntKind} {m n r:Int} (hx:ev L x=some (.int k m)) (hy:ev L y=some (.int k' n)) (hn:0<=n) (hr:m.fdiv (2 ^ (min n.toNat k.bits))=r) :
    Ok P C L ⟨d,.binOp .shr T x y T',ty,pos,aft,g⟩ (.int k r):=fun a ha w _=>by
  have h1:=oA (P:=P) .shr T x y k k' m n w
  have hn':¬ n<0:=by omega
  subst hr
  simp [execOp,ha x _ hx,ha y _ hy,bind,Sem.run_bind',h1,binOp,Op.shift,hn',pure,Sem.run,Result.andThen]
theorem aQB {T:TypeId} {x:Operand} {b:Bool} (hx:ev L x=some (.bool b)):Ok P C L ⟨d,.unOp .not T x,ty,pos,aft,g⟩ (.bool (!b)):=fun a ha w _=>by
  simp [execOp,ha x _ hx,Op.unary,bind,Sem.run_bind',pure,Sem.run,Result.andThen]
theorem aQA {T:TypeId} {x:Operand} {k:IntKind} {n r:Int} (hx:ev L x=some (.int k n)) (hr:k.wrap (0-n)=r):Ok P C L ⟨d,.unOp .neg T x,ty,pos,aft,g⟩ (.int k r):=fun a ha w _=>by
  subst hr
  simp [execOp,ha x _ hx,Op.unary,Op.intArith,bind,Sem.run_bind',pure,Sem.run,Result.andThen]
theorem lH {src dst:TypeId} {x:Operand} {k k':IntKind} {n r:Int} (hx:ev L x=some (.int k n)) (hs:inI P src=some k) (ht:inI P dst=some k') (hr:k'.wrap n=r) :
    Ok P C L ⟨d,.convert src dst x,ty,pos,aft,g⟩ (.int k' r):=fun a ha w _=>by
  subst hr
  have h1:=aA5 hs
  have h2:=aA5 ht
  simp [execOp,ha x _ hx,convert,Conv.intToInt,bind,Sem.run_bind',run_underlying h1,run_underlying h2,pure,Sem.run,Result.andThen]
theorem aP {c x y:Operand} {b:Bool} {v u r:Value} (hc:ev L c=some (.bool b)) (hx:ev L x=some v) (hy:ev L y=some u) (hr:(bif b then v else u)=r) :
    Ok P C L ⟨d,.pick c x y,ty,pos,aft,g⟩ r:=fun a ha w _=>by
  subst hr
  cases b <;> simp [execOp,ha c _ hc,ha x _ hx,ha y _ hy,asBool,bind,Sem.run_bind',pure,Sem.run,Result.andThen]
theorem aKX {x:Operand} {l:List Value} {i:Nat} {v:Value} (hx:ev L x=some (.tuple ⟨l⟩)) (hv:l[i]?=some v):Ok P C L ⟨d,.extract x i,ty,pos,aft,g⟩ v:=fun a ha w _=>by
  simp [execOp,ha x _ hx,Instr.extract,hv,bind,Sem.run_bind',pure,Sem.run,Result.andThen]
theorem aI3 {T U:TypeId} {x:Operand} {i o n:Nat} {cs:List Value} {v:Value} (hx:ev L x=some (.agg ⟨cs⟩)) (hf:rZ P T i=some (o,U)) (ht:kJ P U=some (false,n)) (hv:cs[o]?=some v) :
    Ok P C L ⟨d,.field T x i,ty,pos,aft,g⟩ v:=fun a ha w _=>by
  obtain⟨fs,f,h1,h2,rfl,rfl⟩:=tV hf
  simp [execOp,ha x _ hx,Instr.field,part,asAgg,bind,Sem.run_bind',run_underlying h1,h2,rW ht,pure,Sem.run,Result.andThen,hv]
theorem aHC {T U:TypeId} {x:Operand} {i o o' r n:Nat} {ag:Bool} {p:Addr} (hx:ev L x=some (.pointer (some (bK p o)))) (hf:rZ P T i=some (o',U)) (ht:kJ P U=some (ag,n+1)) (hr:o+o'=r) :
    Ok P C L ⟨d,.fieldAddr T x i,ty,pos,aft,g⟩ (.pointer (some (bK p r))):=fun a ha w _=>by
  obtain⟨fs,f,h1,h2,rfl,rfl⟩:=tV hf
  subst hr
  simp [execOp,ha x _ hx,Instr.fieldAt,Instr.sureAddr,fieldPlace,bind,Sem.run_bind',run_underlying h1,h2,gW ht,pure,Sem.run,Result.andThen,aEN]
theorem lM {T:TypeId} {x:Operand} {p:Addr} {o n:Nat} {cs vs:List Value} (hx:ev L x=some (.pointer (some (bK p o)))) (ht:kJ P T=some (true,n)) (hc:CAt C p cs) (hv:(cs.drop o).take n=vs) (hl:vs.length=n) :
    Ok P C L ⟨d,.load T x,ty,pos,aft,g⟩ (.agg ⟨vs⟩):=fun a ha w hw=>by
  simp [execOp,ha x _ hx,Instr.loadAt,Instr.sureAddr,bind,Sem.run_bind',pure,Sem.run,Result.andThen,yG ht (hc w hw) hv hl]
theorem aKY {T:TypeId} {x:Operand} {p:Addr} {o n:Nat} {cs:List Value} {v:Value} (hx:ev L x=some (.pointer (some (bK p o)))) (ht:kJ P T=some (false,n)) (hc:CAt C p cs) (hv:cs[o]?=some v) :
    Ok P C L ⟨d,.load T x,ty,pos,aft,g⟩ v:=fun a ha w hw=>by
  simp [execOp,ha x _ hx,Instr.loadAt,Instr.sureAddr,bind,Sem.run_bind',pure,Sem.run,Result.andThen,aEW ht (hc w hw) hv]
theorem aI4 {x:Operand} {p:Addr} (hx:ev L x=some (.pointer (some p))):Ok P C L ⟨d,.nilCheck x,ty,pos,aft,g⟩ (.pointer (some p)):=fun a ha w _=>by
  simp [execOp,ha x _ hx,pure,Sem.run]
end
end Go.Proofs.YtnbpodjbemfpbaaGreat.Fw
set_option linter.unusedVariables false
set_option linter.all false
namespace Go.Proofs.YtnbpodjbemfpbaaGreat.Fw
open Go
/-! ### 7. Pieces -/
def Bx (p:Addr) (E:TypeId) (cs:List Value):HP:=fun h=>p.off=0/\h=oQ p.block (.cells ⟨cs⟩ E (0,0))
def RdS (h:Hh) (k:Nat) (v:Value) (ds:List (List Value)):Prop :=
  (∀ d ∈ ds,d.length=k)/\ds.length<=140737488355328/\∃ a cap,v= .slice a ds.length cap/\ds.length<=cap /\
    (ds≠[]->∃ b off arr T fz,a=some ⟨b,off,none⟩/\h b=some (.cells arr T fz)/\(arr.toList.drop off).take (ds.length*k)=ds.flatten)
theorem RdS.le {h g:Hh} {k:Nat} {v:Value} {ds:List (List Value)} (r:RdS h k v ds) (l:xE h g):RdS g k v ds:=by
  obtain⟨h1,hb,a,cap,h2,h3,h4⟩:=r
  refine⟨h1,hb,a,cap,h2,h3,fun hn=>?_⟩
  obtain⟨b,off,arr,T,fz,e1,e2,e3⟩:=h4 hn
  exact⟨b,off,arr,T,fz,e1,l _ _ e2,e3⟩
theorem RdS.nil (h:Hh) (k:Nat):RdS h k (.slice none 0 0) []:=⟨by simp,by simp,none,0,rfl,Nat.le_refl _,fun h=>absurd rfl h⟩
def Sv (k:Nat) (E:TypeId) (v:Value) (ds:List (List Value)):HP:=fun h =>
  ((∀ d ∈ ds,d.length=k)/\ds.length<=140737488355328) /\
  ((v= .slice none 0 0/\ds=[]/\h=aA0) \/
   ∃ (b off cap:Nat) (cs:List Value),v= .slice (some ⟨b,off,none⟩) ds.length cap/\ds.length<=cap/\off+cap*k<=cs.length/\(cs.drop off).take (ds.length*k)=ds.flatten/\h=oQ b (.cells ⟨cs⟩ E (0,0)))
theorem Sv.reads {k:Nat} {E:TypeId} {v:Value} {ds:List (List Value)} {h:Hh} (s:Sv k E v ds h):RdS h k v ds:=by
  obtain⟨h1,h2|⟨b,off,cap,cs,h2,h3,h4,h5,h6⟩⟩:=s
  · obtain⟨rfl,rfl,rfl⟩:=h2
    exact RdS.nil _ _
  · refine⟨h1.1,h1.2,_,cap,h2,h3,fun _=>⟨b,off,⟨cs⟩,E,(0,0),rfl,?_,h5⟩⟩
    rw[h6];simp [oQ]
section
variable {P:Program} {w0 w w':World} {R:Hh} {Ps Qs:List HP}
theorem Hp.rd (m:Hp w0 R Ps w) {k:Nat} {v:Value} {ds:List (List Value)} (r:RdS R k v ds):RdS (hh w) k v ds:=r.le m.frame
theorem Hp.rdv (m:Hp w0 R Ps w) {k:Nat} {E:TypeId} {v:Value} {ds:List (List Value)} (h:Rem Ps (Sv k E v ds) Qs):RdS (hh w) k v ds :=
  let ⟨_,s,l⟩:=m.look h
  s.reads.le l
theorem lO {p:Addr} {E:TypeId} {cs:List Value} (h:Rem Ps (Bx p E cs) Qs):CAt (Hp w0 R Ps) p cs:=fun w m=>by
  obtain⟨g,⟨h1,h2⟩,l⟩:=m.look h
  refine⟨⟨cs⟩,E,(0,0),l _ _ (by rw[h2];simp [oQ]),?_⟩
  simp [h1]
theorem aPL {p:Addr} {cs:List Value} (c:CellsAt R p cs):CAt (Hp w0 R Ps) p cs:=fun w m=>c.le m.frame
end
def RC (C:World->Prop) (k:Nat) (v:Value) (ds:List (List Value)):Prop:=∀ w,C w->RdS (hh w) k v ds
theorem fV {w0:World} {R:Hh} {Ps Qs:List HP} {k:Nat} {E:TypeId} {v:Value} {ds:List (List Value)} (h:Rem Ps (Sv k E v ds) Qs):RC (Hp w0 R Ps) k v ds:=fun _ m=>m.rdv h
theorem dX {w0:World} {R:Hh} {Ps:List HP} {k:Nat} {v:Value} {ds:List (List Value)} (h:RdS R k v ds):RC (Hp w0 R Ps) k v ds:=fun _ m=>m.rd h
def aOO (k:Nat) (v:Value) (i:Nat) (p:Addr):Prop:=∃ a n c,v= .slice (some a) n c/\p=bK a (i*k)
theorem wQ {k:Nat}:∀ {ds:List (List Value)} {i:Nat} {d:List Value},(∀ d ∈ ds,d.length=k)->ds[i]?=some d->(ds.flatten.drop (i*k)).take k=d
  | [],i,d,_,h=>by simp at h
  | e::ds,0,d,hk,h=>by
    simp only[List.getElem?_cons_zero,Option.some.injEq] at h
    subst h
    have:=hk e (by simp)
    simp [<-this]
  | e::ds,i+1,d,hk,h=>by
    simp only[List.getElem?_cons_succ] at h
    have he:=hk e (by simp)
    have ih:=wQ (k:=k) (fun d hd=>hk d (by simp [hd])) h
    rw[List.flatten_cons,show (i+1)*k=e.length+i*k from by rw[he];rw[Nat.add_mul];omega,<-List.drop_drop,List.drop_left]
    exact ih
theorem lP {k:Nat}:∀ {ds:List (List Value)},(∀ d ∈ ds,d.length=k)->ds.flatten.length=ds.length*k
  | [],_=>by simp
  | d::ds,h=>by
    rw[List.flatten_cons,List.length_append,h d (by simp),lP (fun x hx=>h x (by simp [hx])),List.length_cons,Nat.add_mul]
    omega
theorem RdS.bd {α:Type} {c:α->List Value} {h:Hh} {k:Nat} {v:Value} {xs:List α} (r:RdS h k v (xs.map c)):xs.length<=140737488355328:=by simpa using r.2.1
theorem RdS.elem {h:Hh} {k:Nat} {v:Value} {ds:List (List Value)} (r:RdS h k v ds) {i:Nat} {d:List Value} (hd:ds[i]?=some d):∃ a n c,v= .slice (some a) n c/\a.spot=none/\CellsAt h (bK a (i*k)) d:=by
  obtain⟨h1,hb,a,cap,h2,h3,h4⟩:=r
  have hi:i<ds.length:=(List.getElem?_eq_some_iff.1 hd).1
  obtain⟨b,off,arr,T,fz,rfl,e2,e3⟩:=h4 (by intro e;subst e;simp at hi)
  refine⟨_,_,_,h2,rfl,arr,T,fz,e2,?_⟩
  have hdl:d.length=k:=h1 d (List.mem_of_getElem? hd)
  have:=wQ h1 hd
  rw[<-e3,List.drop_take,List.drop_drop,List.take_take] at this
  simp only[bK,hdl]
  rw[<-this]
  have:k<=ds.length*k-i*k:=by
    rw[<-Nat.sub_mul]
    have:1<=ds.length-i:=by omega
    calc k=1*k:=by omega
      _<=_:=Nat.mul_le_mul_right k this
  rw[Nat.min_eq_left this]
section
variable {P:Program} {C:World->Prop} {L:List (Nat×Value)} {d:Option Tmp} {ty:TypeId} {pos:String} {aft:Array Edge} {g:Option (Nat×Bool)}
theorem aCY {P:Program} {w:World} {T E:TypeId} {ag:Bool} {k:Nat} (hT:uX P T=some E) (hE:kJ P E=some (ag,k)) {a:Addr} {n c:Nat} {K:IntKind} {i:Int} (h0:0<=i) (h1:i<n) :
    (Instr.indexAt T (.slice (some a) n c) (.int K i)).run P w= .ok (.pointer (some (a.add (i.toNat*k)))) w:=by
  have e1:=jY hT
  simp [Instr.indexAt,asIntOf,bind,Sem.run_bind',pure,Sem.run,Result.andThen,run_underlying e1,h0,h1,gW hE]
theorem aSS {w:World} (m:C w) {T E:TypeId} {ag:Bool} {k:Nat} {x ix:Operand} {v:Value} {K:IntKind} {i:Int} {ds:List (List Value)} {e:List Value} (hx:ev L x=some v) (hi:ev L ix=some (.int K i)) (hT:uX P T=some E) (hE:kJ P E=some (ag,k))
    (hr:RC C k v ds) (h0:0<=i) (he:ds[i.toNat]?=some e) :
    ∃ p,aOO k v i.toNat p/\CAt C p e/\Ok P C L ⟨d,.indexAddr T x ix,ty,pos,aft,g⟩ (.pointer (some (bK p 0))):=by
  obtain⟨a,n,c,rfl,hs,_⟩:=(hr w m).elem he
  have hn:n=ds.length:=by
    obtain⟨_,_,a',cap,h2,_⟩:=hr w m
    simp only[Value.slice.injEq] at h2
    exact h2.2.1
  have hlt:i.toNat<ds.length:=(List.getElem?_eq_some_iff.1 he).1
  refine⟨bK a (i.toNat*k),⟨a,n,c,rfl,rfl⟩,fun w' m'=>?_,fun ρ ha w' hw'=>?_⟩
  · obtain⟨a',n',c',e1,_,e2⟩:=(hr w' m').elem he
    simp only[Value.slice.injEq,Option.some.injEq] at e1
    rw[e1.1]
    exact e2
  · have:=aCY (P:=P) (w:=w') (a:=a) (n:=n) (c:=c) (K:=K) (i:=i) hT hE h0 (by omega)
    have e2:a.add (i.toNat*k)=bK (bK a (i.toNat*k)) 0:=by
      rw[aFZ]
      unfold Addr.add bK
      by_cases hz:i.toNat*k=0
      · cases a;simp_all
      · simp [hz]
    simp [execOp,ha x _ hx,ha ix _ hi,bind,Sem.run_bind',this,pure,Sem.run,Result.andThen,e2]
theorem aP8 {w0:World} {R:Hh} {Ps:List HP} {T E:TypeId} {ag:Bool} {k:Nat} {x ix:Operand} {v:Value} {K:IntKind} {i:Int} {ds:List (List Value)} {e:List Value} (hx:ev L x=some v) (hi:ev L ix=some (.int K i)) (hT:uX P T=some E) (hE:kJ P E=some (ag,k))
    (hr:RdS R k v ds) (h0:0<=i) (he:ds[i.toNat]?=some e) :
    ∃ p,CellsAt R p e/\Ok P (Hp w0 R Ps) L ⟨d,.indexAddr T x ix,ty,pos,aft,g⟩ (.pointer (some (bK p 0))):=by
  obtain⟨a,n,c,rfl,hs,h2⟩:=hr.elem he
  have hn:n=ds.length:=by
    obtain⟨_,_,a',cap,h2,_⟩:=hr
    simp only[Value.slice.injEq] at h2
    exact h2.2.1
  have hlt:i.toNat<ds.length:=(List.getElem?_eq_some_iff.1 he).1
  refine⟨_,h2,fun ρ ha w' hw'=>?_⟩
  have:=aCY (P:=P) (w:=w') (a:=a) (n:=n) (c:=c) (K:=K) (i:=i) hT hE h0 (by omega)
  have e2:a.add (i.toNat*k)=bK (bK a (i.toNat*k)) 0:=by
    rw[aFZ]
    unfold Addr.add bK
    by_cases hz:i.toNat*k=0
    · cases a;simp_all
    · simp [hz]
  simp [execOp,ha x _ hx,ha ix _ hi,bind,Sem.run_bind',this,pure,Sem.run,Result.andThen,e2]
theorem vP {w0:World} {R:Hh} {Ps Qs:List HP} {k i:Nat} {E:TypeId} {v:Value} {ds:List (List Value)} {p:Addr} {e:List Value} (h:aOO k v i p) (hP:Rem Ps (Sv k E v ds) Qs) (hd:ds[i]?=some e):CAt (Hp w0 R Ps) p e:=fun w m=>by
  obtain⟨a,n,c,e1,rfl⟩:=h
  obtain⟨a',n',c',e2,_,e3⟩:=(m.rdv hP).elem hd
  rw[e1] at e2
  simp only[Value.slice.injEq,Option.some.injEq] at e2
  rw[e2.1]
  exact e3
theorem aP9 {T E:TypeId} {x:Operand} {v:Value} {k:Nat} {ds:List (List Value)} {r:Int} {w:World} (m:C w) (hx:ev L x=some v) (hT:uX P T=some E) (hr:RC C k v ds) (hl:(ds.length:Int)=r) :
    Ok P C L ⟨d,.call ⟨.builtin .len,#[x],#[T]⟩,ty,pos,aft,g⟩ (.int .i64 r):=fun ρ ha w' hw'=>by
  subst hl
  obtain⟨_,_,a,cap,rfl,_⟩:=hr w m
  have e1:=jY hT
  simp [execOp,resolve,invoke,builtin,Builtin.len_,ha x _ hx,bind,Sem.run_bind',run_underlying e1,pure,Sem.run,Result.andThen,goInt]
end
/-! ### 8. The steps of a walk: regions in the order of the text -/
section
variable {P:Program} {ops:Array Oper} {Q:Exit->Act->World->Prop} {rest:List Oper} {n:Nat} {L:List (Nat×Value)} {a:Act} {w:World} {C:World->Prop}
theorem pO {o:Oper} {d:Nat} {v:Value} {w':World} (hg:o.guard=none) (hdst:o.dst=some d) (hs:St n L a) (hd:Nat.blt d n=true) (hr:(execOp a.eval o).run P w= .ok (.value v) w')
    (k:∀ a',St n ((d,v)::L) a'->wpList P ops Q rest a' w'):wpList P ops Q (o::rest) a w:=by
  refine wpList_plain hg fun K hK=>?_
  unfold Oper.wp
  rw[hr]
  simp only[Oper.upon,hdst]
  exact hK _ _ (k _ (hs.put hd))
theorem aGC {o:Oper} {w':World} (hg:o.guard=none) (hdst:o.dst=none) (hs:St n L a) (hr:(execOp a.eval o).run P w= .ok .skip w')
    (k:wpList P ops Q rest a w'):wpList P ops Q (o::rest) a w:=by
  refine wpList_plain hg fun K hK=>?_
  unfold Oper.wp
  rw[hr]
  simp only[Oper.upon,hdst]
  exact hK _ _ k
theorem a4Q {d:Nat} {op:Op} {ty:TypeId} {pos:String} {aft:Array Edge} {v:Value} (hs:St n L a) (m:C w) (h:Ok P C L ⟨some d,op,ty,pos,aft,none⟩ v) (hd:Nat.blt d n=true)
    (k:∀ a',St n ((d,v)::L) a'->wpList P ops Q rest a' w):wpList P ops Q (⟨some d,op,ty,pos,aft,none⟩::rest) a w :=
  pO rfl rfl hs hd (h _ hs.evs w m) k
end
-- in a region that draws its order
section
variable {P:Program} {ops:Array Oper} {Q:Act->Prop} {rest:List Oper} {n:Nat} {L:List (Nat×Value)} {a:Act} {C:World->Prop}
theorem a4L {d:Nat} {op:Op} {ty:TypeId} {pos:String} {aft:Array Edge} {v:Value} (hs:St n L a) (h:Ok P C L ⟨some d,op,ty,pos,aft,none⟩ v) (hd:Nat.blt d n=true)
    (k:∀ a',St n ((d,v)::L) a'->wpQuiet P ops C Q rest a'):wpQuiet P ops C Q (⟨some d,op,ty,pos,aft,none⟩::rest) a:=by
  refine wpQuiet_step fun K hK=>?_
  simp only[Region.wanted,if_true]
  refine⟨v,fun w hw=>?_,hK _ (k _ (hs.put hd))⟩
  unfold Oper.quietAt
  rw[h _ hs.evs w hw]
  exact⟨rfl,rfl⟩
end
/-! ### 9. Calls -/
def bL (P:Program) (f:FuncId):Bool:=match P.funcs[f]? with
  | some fn => !(fn.name == "runtime.NumGoroutine") && fn.body.isSome
  | none=>false
theorem aHT {P:Program} {f:FuncId} (h:bL P f=true) (args:Array Value) (w:World):(callFunc f args).run P w= .ok (.enter f args) w:=by
  unfold bL at h
  split at h
  · rename_i fn hf
    simp only[Bool.and_eq_true,Bool.not_eq_true'] at h
    have hb:fn.body.isNone=false:=by
      cases hb:fn.body with
      | none=>simp [hb] at h
      | some c=>rfl
    simp only[callFunc,program,bind,Sem.bind,Sem.run,hf,h.1,Bool.false_eq_true,if_false,hb,pure]
  · cases h
theorem aBK {P:Program} {L:List (Nat×Value)} {ρ:Operand->Value} (ha:∀ x u,ev L x=some u->ρ x=u) {d:Option Tmp} {c:Operand} {xs:List Operand} {tys:Array TypeId} {ty:TypeId} {pos:String} {aft:Array Edge} {g:Option (Nat×Bool)} {f:FuncId} {first cap vs:List Value}
    (hc:ev L c=some (.func (.func f) ⟨first⟩ ⟨cap⟩)) (hx:evs L xs=some vs) (hf:bL P f=true) (w:World) :
    (execOp ρ ⟨d,.call ⟨.value c,⟨xs⟩,tys⟩,ty,pos,aft,g⟩).run P w= .ok (.enter f ⟨first++vs++cap⟩) w:=by
  have hm:∀ (os:List Operand) (us:List Value),evs L os=some us->os.map ρ=us:=by
    intro os
    induction os with
    | nil=>intro us h;simpa [evs] using h
    | cons o os ih =>
      intro us h
      simp only[evs] at h
      cases h1:ev L o with
      | none=>simp [h1] at h
      | some v =>
        cases h2:evs L os with
        | none=>simp [h1,h2] at h
        | some us' =>
          simp only[h1,h2,Option.some.injEq] at h
          subst h
          simp [ha o v h1,ih us' h2]
  have hm':=hm xs vs hx
  have h2:=aHT (P:=P) hf (⟨first++vs++cap⟩) w
  simp [execOp,resolve,Deferred.ofValue,ha c _ hc,invoke,bind,Sem.run_bind',pure,Sem.run,Result.andThen,hm',List.append_toArray]
  simpa using h2
section
variable {P:Program} {ops:Array Oper} {Q:Exit->Act->World->Prop} {rest:List Oper} {n:Nat} {L:List (Nat×Value)} {a:Act} {w:World}
theorem xA {d:Nat} {c:Operand} {xs:List Operand} {tys:Array TypeId} {ty:TypeId} {pos:String} {aft:Array Edge} {f:FuncId} {first cap vs us:List Value} {Rc:Value->World->Prop}
    (hs:St n L a) (hc:ev L c=some (.func (.func f) ⟨first⟩ ⟨cap⟩)) (hx:evs L xs=some vs) (hf:bL P f=true) (hu:first++vs++cap=us) (h:Calls P f ⟨us⟩ w fun e w'=>∃ v,e= .returned v/\Rc v w') (hd:Nat.blt d n=true)
    (k:∀ v w',Rc v w'->∀ a',St n ((d,v)::L) a'->wpList P ops Q rest a' w'):wpList P ops Q (⟨some d,.call ⟨.value c,⟨xs⟩,tys⟩,ty,pos,aft,none⟩::rest) a w:=by
  subst hu
  refine wpList_plain rfl fun K hK=>?_
  unfold Oper.wp
  rw[aBK hs.evs hc hx hf w]
  simp only[Oper.upon]
  refine h.mono fun e w' he=>?_
  obtain⟨v,rfl,hR⟩:=he
  exact hK _ _ (k v w' hR _ (hs.put hd))
end
section
variable {P:Program} {ops:Array Oper} {Q:Act->Prop} {rest:List Oper} {n:Nat} {L:List (Nat×Value)} {a:Act} {C:World->Prop}
theorem aXU {d:Nat} {c:Operand} {xs:List Operand} {tys:Array TypeId} {ty:TypeId} {pos:String} {aft:Array Edge} {f:FuncId} {first cap vs us:List Value} {v:Value}
    (hs:St n L a) (hc:ev L c=some (.func (.func f) ⟨first⟩ ⟨cap⟩)) (hx:evs L xs=some vs) (hf:bL P f=true) (hu:first++vs++cap=us) (h:∀ w,C w->Calls P f ⟨us⟩ w fun e w'=>e= .returned v/\C w') (hd:Nat.blt d n=true)
    (k:∀ a',St n ((d,v)::L) a'->wpQuiet P ops C Q rest a'):wpQuiet P ops C Q (⟨some d,.call ⟨.value c,⟨xs⟩,tys⟩,ty,pos,aft,none⟩::rest) a:=by
  subst hu
  refine wpQuiet_step fun K hK=>?_
  simp only[Region.wanted,if_true]
  refine⟨v,fun w hw=>?_,hK _ (k _ (hs.put hd))⟩
  unfold Oper.quietAt
  rw[aBK hs.evs hc hx hf w]
  exact⟨rfl,h w hw⟩
end
end Go.Proofs.YtnbpodjbemfpbaaGreat.Fw
set_option linter.unusedVariables false
set_option linter.all false
namespace Go.Proofs.YtnbpodjbemfpbaaGreat.Fw
open Go
/-! ### 10. New variables -/
def uO (P:Program) (T:TypeId):Option (List Value):=((P.info? T).bind fun i=>i.zero).map fun v=>v.cells.toList
theorem yM {P:Program} {T:TypeId} {zs:List Value} (h:uO P T=some zs) (w:World):∃ z,(zeroValue T).run P w= .ok z w/\z.cells=⟨zs⟩:=by
  unfold uO at h
  cases hi:P.info? T with
  | none=>simp [hi] at h
  | some i =>
    cases hz:i.zero with
    | none=>simp [hi,hz] at h
    | some z =>
      simp only[hi,hz,Option.bind_some,Option.map_some,Option.some.injEq] at h
      refine⟨z,by simp [zeroValue,typeInfo,program,bind,Sem.bind,Sem.run,hi,hz,pure],?_⟩
      rw[<-h]
theorem aFL {P:Program} {w:World} (o:Obj):(newObj o).run P w= .ok w.heap.size (w.alloc o):=rfl
theorem Hp.newBx {w0 w:World} {R:Hh} {Ps:List HP} (m:Hp w0 R Ps w) (E:TypeId) (cs:List Value):Hp w0 R (Bx ⟨w.heap.size,0,none⟩ E cs::Ps) (w.alloc (.cells ⟨cs⟩ E)) :=
  (m.alloc _).swp s0 fun h e=>⟨rfl,e⟩
section
variable {P:Program} {ops:Array Oper} {Q:Exit->Act->World->Prop} {rest:List Oper} {n:Nat} {L:List (Nat×Value)} {a:Act} {w w0:World} {R:Hh} {Ps Qs:List HP}
  {d:Nat} {ty:TypeId} {pos:String} {aft:Array Edge}
theorem dU {E:TypeId} {x:Operand} {v:Value} {cs:List Value} (hs:St n L a) (m:Hp w0 R Ps w) (hx:ev L x=some v) (hc:v.cells=⟨cs⟩) (hd:Nat.blt d n=true)
    (k:∀ p w',Hp w0 R (Bx p E cs::Ps) w'->∀ a',St n ((d,.pointer (some (bK p 0)))::L) a'->wpList P ops Q rest a' w'):wpList P ops Q (⟨some d,.box E x,ty,pos,aft,none⟩::rest) a w:=by
  refine pO rfl rfl hs hd (v:=.pointer (some ⟨w.heap.size,0,none⟩)) (w':=w.alloc (.cells ⟨cs⟩ E)) ?_ (k ⟨w.heap.size,0,none⟩ _ (m.newBx E cs))
  simp [execOp,hs.evs x _ hx,Instr.box,newVar,newRow,bind,Sem.run_bind',aFL,pure,Sem.run,Result.andThen,hc]
theorem bZ {E:TypeId} {cs:List Value} (hs:St n L a) (m:Hp w0 R Ps w) (hz:uO P E=some cs) (hd:Nat.blt d n=true)
    (k:∀ p w',Hp w0 R (Bx p E cs::Ps) w'->∀ a',St n ((d,.pointer (some (bK p 0)))::L) a'->wpList P ops Q rest a' w'):wpList P ops Q (⟨some d,.alloc E,ty,pos,aft,none⟩::rest) a w:=by
  obtain⟨z,h1,h2⟩:=yM hz w
  refine pO rfl rfl hs hd (v:=.pointer (some ⟨w.heap.size,0,none⟩)) (w':=w.alloc (.cells ⟨cs⟩ E)) ?_ (k ⟨w.heap.size,0,none⟩ _ (m.newBx E cs))
  simp [execOp,Instr.alloc,newVar,newRow,bind,Sem.run_bind',aFL,h1,pure,Sem.run,Result.andThen,h2]
end
/-! ### 11. Stores -/
def lX (cs:List Value) (o:Nat) (vs:List Value):List Value:=match vs with
  | []=>cs
  | v::r=>lX (cs.set o v) (o+1) r
theorem pE:∀ (vs cs:List Value) (o:Nat),(lX cs o vs).length=cs.length
  | [],_,_=>rfl
  | v::r,cs,o=>by simp [lX,pE r]
def one:Value->Bool
  | .agg _| .tuple _=>false
  | _=>true
def pW (vs:List Value):Bool:=vs.all one
theorem aLC {P:Program} {w:World} {b off:Nat} {arr:Array Value} {T:TypeId} (hb:w.heap[b]?=some (.cells arr T (0,0))) (ho:off<arr.size) {v:Value} (h1:one v=true) :
    (store ⟨b,off,none⟩ v).run P w= .ok () (w.setCell ⟨b,off,none⟩ v):=by
  have hc:w.cell? ⟨b,off,none⟩=some arr[off]:=by
    simp [World.cell?,hb,ho]
  have hf:w.frozen? ⟨b,off,none⟩=false:=by
    simp [World.frozen?,hb]
  cases v <;> first
    | (simp [one] at h1;done)
    | simp [store,Sem.run,hc,hf]
theorem aHW {w:World} {b off:Nat} {arr:Array Value} {T:TypeId} (hb:w.heap[b]?=some (.cells arr T (0,0))) (v:Value) :
    (w.setCell ⟨b,off,none⟩ v).heap=w.heap.setIfInBounds b (.cells (arr.setIfInBounds off v) T (0,0)):=by
  apply Array.ext_getElem?
  intro i
  simp only[World.setCell,Array.getElem?_modify,Array.getElem?_setIfInBounds]
  by_cases h:b=i
  · subst h
    have hlt:b<w.heap.size:=(Array.getElem?_eq_some_iff.1 hb).1
    simp only[if_true,hb,Option.map_some,hlt]
    simp
  · simp [h]
theorem oV {P:Program}:∀ (vs:List Value) (w:World) (b off i:Nat) (cs:List Value) (T:TypeId),w.heap[b]?=some (.cells ⟨cs⟩ T (0,0))->off+i+vs.length<=cs.length->pW vs=true ->
    ∃ w',(storeCells ⟨b,off,none⟩ vs i).run P w= .ok () w'/\w'.heap=w.heap.setIfInBounds b (.cells ⟨lX cs (off+i) vs⟩ T (0,0))/\w'.os=w.os/\w'.tape=w.tape/\w'.output=w.output
  | [],w,b,off,i,cs,T,hb,_,_=>by
    refine⟨w,by simp [storeCells,pure,Sem.run],?_,rfl,rfl,rfl⟩
    apply Array.ext_getElem?
    intro j
    rw[Array.getElem?_setIfInBounds]
    by_cases h:b=j
    · subst h
      have hlt:b<w.heap.size:=(Array.getElem?_eq_some_iff.1 hb).1
      simp only[if_true,hlt,hb,lX]
    · simp [h]
  | v::r,w,b,off,i,cs,T,hb,hl,ho=>by
    simp only[pW,List.all_cons,Bool.and_eq_true] at ho
    simp only[List.length_cons] at hl
    have e:(⟨b,off,none⟩:Addr).add i=⟨b,off+i,none⟩:=by
      unfold Addr.add
      by_cases h:i=0
      · simp [h]
      · simp [h]
    have h1:=aLC (P:=P) (off:=off+i) hb (by simp;omega) ho.1
    have hh:=aHW (off:=off+i) hb v
    have hb':(w.setCell ⟨b,off+i,none⟩ v).heap[b]?=some (.cells ⟨cs.set (off+i) v⟩ T (0,0)):=by
      rw[hh,Array.getElem?_setIfInBounds_self_of_lt]
      · simp
      · exact(Array.getElem?_eq_some_iff.1 hb).1
    obtain⟨w',k1,k2,k3,k4,k5⟩:=oV r (w.setCell ⟨b,off+i,none⟩ v) b off (i+1) (cs.set (off+i) v) T hb' (by simp;omega) ho.2
    refine⟨w',?_,?_,k3,k4,k5⟩
    · simp only[storeCells,bind,Sem.run_bind',e,h1,Result.andThen]
      exact k1
    · rw[k2,hh]
      apply Array.ext_getElem?
      intro j
      simp only[Array.getElem?_setIfInBounds,Array.size_setIfInBounds]
      by_cases h:b=j
      · simp [h,lX,Nat.add_assoc]
      · simp [h]
theorem aBM {P:Program} {w:World} {T:TypeId} {ag:Bool} {n:Nat} (ht:kJ P T=some (ag,n)) {b off:Nat} {cs vs:List Value} {E:TypeId} {v:Value} (hb:w.heap[b]?=some (.cells ⟨cs⟩ E (0,0))) (hv:v.cells=⟨vs⟩) (hn:vs.length=n) (hl:off+n<=cs.length) (ho:pW vs=true) :
    ∃ w',(storeVar T ⟨b,off,none⟩ v).run P w= .ok () w'/\w'.heap=w.heap.setIfInBounds b (.cells ⟨lX cs off vs⟩ E (0,0))/\w'.os=w.os/\w'.tape=w.tape/\w'.output=w.output:=by
  obtain⟨w',h1,h2,h3,h4,h5⟩:=oV (P:=P) vs w b off 0 cs E hb (by omega) ho
  refine⟨w',?_,by simpa using h2,h3,h4,h5⟩
  simp [storeVar,bind,Sem.run_bind',gW ht,Result.andThen,hv,hn,h1]
section
variable {P:Program} {ops:Array Oper} {Q:Exit->Act->World->Prop} {rest:List Oper} {n:Nat} {L:List (Nat×Value)} {a:Act} {w w0:World} {R:Hh} {Ps Qs:List HP}
  {d:Nat} {ty:TypeId} {pos:String} {aft:Array Edge}
theorem xB {T E:TypeId} {ag:Bool} {x y:Operand} {p:Addr} {o s:Nat} {cs vs cs':List Value} {v:Value} (hs:St n L a) (m:Hp w0 R Ps w) (hx:ev L x=some (.pointer (some (bK p o)))) (hy:ev L y=some v) (ht:kJ P T=some (ag,s)) (hP:Swp Ps (Bx p E cs) (Bx p E cs') Qs)
    (hv:v.cells=⟨vs⟩) (hn:vs.length=s) (hl:Nat.ble (o+s) cs.length=true) (ho:pW vs=true) (hc:lX cs o vs=cs')
    (k:∀ w',Hp w0 R Qs w'->wpList P ops Q rest a w'):wpList P ops Q (⟨none,.store T x y,ty,pos,aft,none⟩::rest) a w:=by
  subst hc
  obtain⟨l,p1,p2⟩:=hP.rem
  have m1:=m.perm p1
  obtain⟨lo,hlo⟩:=hP.out
  obtain⟨g,⟨g1,g2⟩,gl⟩:=m.look hlo
  have hb:w.heap[p.block]?=some (.cells ⟨cs⟩ E (0,0)):=gl _ _ (by rw[g2];simp [oQ])
  obtain⟨w',h1,h2,h3,h4,h5⟩:=aBM (P:=P) ht (off:=p.off+o) hb hv hn (by have:=Nat.le_of_ble_eq_true hl;omega) ho
  refine aGC rfl rfl hs (w':=w') ?_ (k w' ?_)
  · simp [execOp,hs.evs x _ hx,hs.evs y _ hy,Instr.storeAt,Instr.sureAddr,bind,Sem.run_bind',pure,Sem.run,Result.andThen,bK,h1]
  · have m2:Hp w0 R ((fun h=>h=oQ p.block (.cells ⟨cs⟩ E (0,0)))::l) w:=m1.swp s0 fun h e=>e.2
    have m3:=m2.block h2 h3 h4 h5
    refine(m3.swp s0 (q:=Bx p E (lX cs o vs)) fun h e=>⟨g1,?_⟩).perm p2
    rw[e,g1,Nat.zero_add]
end
/-! ### 12. Aggregates -/
def stI (P:Program) (T:TypeId):Option (List (Nat×Nat)) :=
  match P.underlying T with
  | some (.struct fs)=>fs.toList.mapM fun f=>match kJ P f.type with
    | some (_,n)=>some (f.offset,n)
    | none=>none
  | _=>none
def sD (L:List (Nat×Value)):List (Nat×Operand)->Option (List (Nat×Value))
  | []=>some []
  | (i,x)::r=>match ev L x,sD L r with
    | some v,some vs=>some ((i,v)::vs)
    | _,_=>none
def aIJ (fs:List (Nat×Nat)):List Value->List (Nat×Value)->Option (List Value)
  | cs,[]=>some cs
  | cs,(i,v)::r=>match fs[i]? with
    | some (o,n)=>match Nat.beq v.cells.toList.length n,Nat.ble (o+n) cs.length with
      | true,true=>aIJ fs (lX cs o v.cells.toList) r
      | _,_=>none
    | none=>none
theorem aB3 (vs:List Value):∀ (cs:Array Value) (o k:Nat),((vs.zipIdx k).foldl (fun(cs:Array Value) (x:Value×Nat)=>cs.setIfInBounds (o+x.2) x.1) cs)=⟨lX cs.toList (o+k) vs⟩:=by
  induction vs with
  | nil=>intro cs o k;simp [lX]
  | cons v r ih =>
    intro cs o k
    simp only[List.zipIdx_cons,List.foldl_cons]
    rw[ih]
    simp [lX,Nat.add_assoc]
theorem aL5 {fs:List (Nat×Nat)} {place:Nat->Option (Nat×Nat)} (hp:∀ i,place i=fs[i]?):∀ (ps:List (Nat×Value)) (cs:List Value) (out:List Value),aIJ fs cs ps=some out->Instr.fill place ⟨cs⟩ ps=some ⟨out⟩
  | [],cs,out,h=>by simp [aIJ] at h;simp [Instr.fill,h]
  | (i,v)::r,cs,out,h=>by
    simp only[aIJ] at h
    cases hf:fs[i]? with
    | none=>simp [hf] at h
    | some on =>
      obtain⟨o,n⟩:=on
      simp only[hf] at h
      cases h1:Nat.beq v.cells.toList.length n with
      | false=>simp only[h1] at h;cases h
      | true =>
        cases h2:Nat.ble (o+n) cs.length with
        | false=>simp only[h1,h2] at h;cases h
        | true =>
          simp only[h1,h2] at h
          have e1:=Nat.eq_of_beq_eq_true h1
          have e2:=Nat.le_of_ble_eq_true h2
          simp only[Instr.fill,hp,hf]
          have e1':v.cells.size=n:=by simpa using e1
          have hcond:((v.cells.size !=n) || decide (o+v.cells.size>(⟨cs⟩:Array Value).size))=false:=by
            simp [e1']
            omega
          rw[if_neg (by simp [e1'];omega)]
          have:=aB3 v.cells.toList ⟨cs⟩ o 0
          have ih:=aL5 hp r (lX cs o v.cells.toList) out h
          simp only[Nat.add_zero] at this
          rw[<-ih]
          congr 1
          rw[<-Array.foldl_toList,Array.toList_zipIdx]
          exact this
theorem aE0 {P:Program} {T:TypeId} {fs:List (Nat×Nat)} (h:stI P T=some fs):∃ fds,P.underlying T=some (.struct fds)/\fds.toList.mapM (fun f=>match kJ P f.type with
    | some (_,n)=>some (f.offset,n)
    | none=>none)=some fs:=by
  unfold stI at h
  split at h
  · rename_i fds h1
    exact⟨fds,h1,h⟩
  · cases h
theorem aCQ {P:Program} {w:World}:∀ (l:List Field) (fs:List (Nat×Nat)),l.mapM (fun f=>match kJ P f.type with
    | some (_,n)=>some (f.offset,n)
    | none=>none)=some fs->(l.mapM fun f=>do pure (f.offset,<-sizeOf f.type):Sem (List (Nat×Nat))).run P w= .ok fs w
  | [],fs,h=>by
    simp at h
    subst h
    simp [pure,Sem.run]
  | f::l,fs,h=>by
    simp only[List.mapM_cons] at h
    cases ht:kJ P f.type with
    | none=>simp [ht] at h
    | some an =>
      obtain⟨ag,k⟩:=an
      simp only[ht,Option.bind_eq_bind,Option.bind_some] at h
      cases hr:l.mapM (fun f=>match kJ P f.type with
          | some (_,n)=>some (f.offset,n)
          | none=>none) with
      | none=>simp [hr] at h
      | some rs =>
        simp only[hr,Option.bind_some,Option.pure_def,Option.some.injEq] at h
        subst h
        have ih:=aCQ (P:=P) (w:=w) l rs hr
        simp only[List.mapM_cons,bind,Sem.run_bind',gW ht,Result.andThen,pure,Sem.run]
        simp only[bind,pure] at ih
        rw[ih]
theorem yV {L:List (Nat×Value)} {ρ:Operand->Value} (ha:∀ x u,ev L x=some u->ρ x=u):∀ (ps:List (Nat×Operand)) (vs:List (Nat×Value)),sD L ps=some vs->ps.map (fun x=>(x.1,ρ x.2))=vs
  | [],vs,h=>by simpa [sD] using h
  | (i,x)::r,vs,h=>by
    simp only[sD] at h
    cases h1:ev L x with
    | none=>simp [h1] at h
    | some v =>
      cases h2:sD L r with
      | none=>simp [h1,h2] at h
      | some us =>
        simp only[h1,h2,Option.some.injEq] at h
        subst h
        simp [ha x v h1,yV ha r us h2]
section
variable {P:Program} {C:World->Prop} {L:List (Nat×Value)} {d:Option Tmp} {ty:TypeId} {pos:String} {aft:Array Edge} {g:Option (Nat×Bool)}
theorem bW {T:TypeId} {ps:List (Nat×Operand)} {fs:List (Nat×Nat)} {zs cs:List Value} {vs:List (Nat×Value)} (hf:stI P T=some fs) (hz:uO P T=some zs) (hx:sD L ps=some vs) (hc:aIJ fs zs vs=some cs) :
    Ok P C L ⟨d,.build T ⟨ps⟩,ty,pos,aft,g⟩ (.agg ⟨cs⟩):=fun ρ ha w _=>by
  obtain⟨z,h1,h2⟩:=yM hz w
  obtain⟨fds,h3,h4⟩:=aE0 hf
  have h5:=aCQ (P:=P) (w:=w) fds.toList fs h4
  have h6:=aL5 (fs:=fs) (place:=fun i=>(⟨fs⟩:Array (Nat×Nat))[i]?) (fun i=>by simp) vs zs cs hc
  have h7:=yV ha ps vs hx
  have h8:(fds.mapM fun f=>do pure (f.offset,<-sizeOf f.type):Sem (Array (Nat×Nat))).run P w= .ok ⟨fs⟩ w:=by
    rw[Array.mapM_eq_mapM_toList]
    have e:∀ m:Sem (List (Nat×Nat)),(List.toArray <$> m)=m.bind (fun l=>Sem.pure l.toArray):=fun _=>rfl
    rw[e,Sem.run_bind',h5]
    rfl
  simp [execOp,Instr.build,bind,Sem.run_bind',h1,Result.andThen,run_underlying h3,h8,h2,h7,pure,Sem.run]
  have h9:Sem.run P (Array.mapM (fun f=>(sizeOf f.type).bind fun x=>Sem.pure (f.offset,x)) fds) w=Result.ok (⟨fs⟩:Array (Nat×Nat)) w:=h8
  rw[h9]
  simp only[h6,Sem.run]
end
end Go.Proofs.YtnbpodjbemfpbaaGreat.Fw
set_option linter.unusedVariables false
set_option linter.all false
namespace Go.Proofs.YtnbpodjbemfpbaaGreat.Fw
open Go
/-! ### 13. append -/
theorem qY:∀ (vs cs:List Value) (o:Nat),o+vs.length<=cs.length->lX cs o vs=cs.take o++vs++cs.drop (o+vs.length)
  | [],cs,o,_=>by simp [lX]
  | v::r,cs,o,h=>by
    simp only[List.length_cons] at h
    rw[lX,qY r (cs.set o v) (o+1) (by simp;omega)]
    have e1:(cs.set o v).take (o+1)=cs.take o++[v]:=by
      rw[List.take_succ_eq_append_getElem (by simp;omega)]
      simp [List.take_set_of_le]
    have e2:(cs.set o v).drop (o+1+r.length)=cs.drop (o+(v::r).length):=by
      rw[List.drop_set_of_lt (by omega)]
      congr 1
      simp only[List.length_cons];omega
    rw[e1,e2]
    simp
def byI (P:Program) (T:TypeId):Option Nat:=(P.info? T).map fun i=>i.bytes
def qW (P:Program) (T:TypeId):Bool:=match P.underlying T with
  | some (.int _)=>false
  | some _=>true
  | none=>false
theorem aCS {P:Program} {T:TypeId} (h:qW P T=true):∃ d,P.underlying T=some d/\∀ k,d≠ .int k:=by
  unfold qW at h
  split at h
  · cases h
  · rename_i d hn hd
    exact⟨d,hd,fun k e=>hn k e⟩
  · cases h
theorem aFT (need:Nat):∀ (r c:Nat),c<=need+need / 4+192->Builtin.growBy need r c<=need+need / 4+192
  | 0,c,h=>by simpa [Builtin.growBy] using h
  | r+1,c,h=>by
    simp only[Builtin.growBy]
    split
    · exact h
    · exact aFT need r _ (by omega)
theorem aME {need cap:Nat} (h:cap<need):Builtin.nextslicecap need cap<=2*need+192:=by
  unfold Builtin.nextslicecap
  split
  · omega
  · split
    · omega
    · have:=aFT need 4 cap (by omega)
      omega
theorem nK {P:Program} {w:World} {k:Nat} {v:Value} {ds:List (List Value)} (r:RdS (hh w) k v ds):(Builtin.firstCells k ds.length v).run P w= .ok ⟨ds.flatten⟩ w:=by
  obtain⟨h1,_,a,cap,rfl,h3,h4⟩:=r
  by_cases hn:ds=[]
  · subst hn
    cases a <;> simp [Builtin.firstCells,loadCells,loadCellsFrom,pure,Sem.run]
  · obtain⟨b,off,arr,T,fz,rfl,e2,e3⟩:=h4 hn
    simp only[Builtin.firstCells,loadCells]
    have:=rD (P:=P) (w:=w) (a:=⟨b,off,none⟩) (ds.length*k) 0 ds.flatten #[] (lP h1) (fun j u hj=>by
      have hlt:j<ds.length*k:=by have:=(List.getElem?_eq_some_iff.1 hj).1;rw[lP h1] at this;exact this
      have e:(⟨b,off,none⟩:Addr).add (0+j)=⟨b,off+j,none⟩:=by
        unfold Addr.add
        by_cases h:j=0
        · subst h;simp
        · simp [h]
      rw[e,<-e3,List.getElem?_take_of_lt hlt,List.getElem?_drop] at *
      simp only[hh] at e2
      simp only[World.cell?,e2]
      simpa using hj)
    rw[this]
    simp
theorem aCW {P:Program} {w:World} (n:Nat):(askRoom n).run P w= .ok () w:=by
  unfold askRoom
  split <;> simp [mark,pure,Sem.run]
theorem yF {P:Program} {w:World} {T T2 E ty:TypeId} {k n m cap:Nat} {base:Option Addr} {u:Value} {ag:Bool} {D2:TypeDesc} {es:Array Value}
    (hT:P.underlying T=some (.slice E)) (hD2:P.underlying T2=some D2) (hD2n:∀ k,D2≠ .int k) (hE:kJ P E=some (ag,k)) (hlu:(Builtin.lenOf u).run P w= .ok m w) (hfu:(Builtin.firstCells k m u).run P w= .ok es w)
    (hc:n+m<=cap):(Builtin.append_ #[T,T2] ty #[.slice base n cap,u]).run P w=(match base with
      | some a=>(storeCells (a.add (n*k)) es.toList).bind fun _=>Sem.pure (Value.slice base (n+m) cap)
      | none=>Sem.pure (Value.slice base (n+m) cap)).run P w:=by
  cases base <;> simp [Builtin.append_,bind,Sem.run_bind',run_underlying hT,run_underlying hD2,Result.andThen,gW hE,pure,Sem.run,hlu,hc,hfu]
theorem aC4 {P:Program} {w:World} {T T2 E ty:TypeId} {k n m cap:Nat} {base:Option Addr} {u z:Value} {ag:Bool} {D2:TypeDesc} {i:TypeInfo} {ds es:Array Value}
    (hT:P.underlying T=some (.slice E)) (hD2:P.underlying T2=some D2) (hD2n:∀ k,D2≠ .int k) (hE:kJ P E=some (ag,k)) (hi:P.info? E=some i) (hz:i.zero=some z) (hlu:(Builtin.lenOf u).run P w= .ok m w)
    (hfu:(Builtin.firstCells k m u).run P w.drew= .ok es w.drew) (hfv:(Builtin.firstCells k n (.slice base n cap)).run P w.drew= .ok ds w.drew)
    (hc:¬ n+m<=cap) (hlen:n+m<=140737488355328/\(2*(n+m)+192)*i.bytes<=281474976710656):∃ c,n+m<=c/\(Builtin.append_ #[T,T2] ty #[.slice base n cap,u]).run P w =
      .ok (.slice (some ⟨w.heap.size,0,none⟩) (n+m) c) (w.drew.alloc (.cells (ds++es++Builtin.zeroCells z.cells (c-(n+m))) E)):=by
  have hnext:=aME (need:=n+m) (cap:=cap) (by omega)
  have h1:¬ 281474976710656<Builtin.nextslicecap (n+m) cap*i.bytes:=by
    have:Builtin.nextslicecap (n+m) cap*i.bytes<=(2*(n+m)+192)*i.bytes:=Nat.mul_le_mul hnext (Nat.le_refl _)
    omega
  have h2:¬ ((9223372036854775807:Int)<(n:Int)+(m:Int)):=by omega
  have hno:∀ c w',(askRoom c).run P w'= .ok () w':=fun c w'=>aCW c
  refine⟨(Question.appendCap (n+m) cap E).cut (w.tape w.drawn (Question.appendCap (n+m) cap E)),by simp [Question.cut],?_⟩
  have hty:(typeInfo E).run P w= .ok i w:=by simp [typeInfo,program,bind,Sem.bind,Sem.run,hi,pure]
  have hty2:(typeInfo E).run P w.drew= .ok i w.drew:=by simp [typeInfo,program,bind,Sem.bind,Sem.run,hi,pure]
  have hze:(zeroValue E).run P w.drew= .ok z w.drew:=by simp [zeroValue,typeInfo,program,bind,Sem.bind,Sem.run,hi,hz,pure]
  have hrow:∀ w' (cs:Array Value),(newRow E cs).run P w'= .ok ⟨w'.heap.size,0,none⟩ (w'.alloc (.cells cs E)):=fun w' cs=>rfl
  simp [Builtin.append_,bind,Sem.run_bind',run_underlying hT,run_underlying hD2,Result.andThen,gW hE,pure,Sem.run,hlu,hc,hfu,hty,hty2,h1,h2,hno,hfv,hze,hrow,Question.forced]
section
variable {P:Program} {w0 w:World} {R:Hh} {Ps Qs:List HP}
theorem Sv.shape {k:Nat} {E:TypeId} {v:Value} {ds:List (List Value)} {h:Hh} (s:Sv k E v ds h):∃ base cap,v= .slice base ds.length cap/\ds.length<=cap:=by
  obtain⟨_,⟨rfl,rfl,_⟩|⟨b,off,cap,cs,e,h,_⟩⟩:=s
  · exact⟨none,0,rfl,Nat.le_refl _⟩
  · exact⟨_,cap,e,h⟩
theorem Hp.append (m:Hp w0 R Ps w) {T T2 E:TypeId} {ag:Bool} {k bytes:Nat} {v u:Value} {ds es:List (List Value)} {ty:TypeId} {zs:List Value}
    (hT:uX P T=some E) (hT2:qW P T2=true) (hE:kJ P E=some (ag,k)) (hz:uO P E=some zs) (hzl:zs.length=k) (hb:byI P E=some bytes) (hbb:Nat.ble bytes 4096=true)
    (hP:Rem Ps (Sv k E v ds) Qs) (hu:RdS (hh w) k u es) (ho:∀ e ∈ es,pW e=true) (hlen:ds.length+es.length<=140737488355328/\(2*(ds.length+es.length)+192)*bytes<=281474976710656) :
    ∃ v' w',(Builtin.append_ #[T,T2] ty #[v,u]).run P w= .ok v' w'/\Hp w0 R (Sv k E v' (ds++es)::Qs) w':=by
  obtain⟨i,hi,z,hz1,hz2,hbi⟩:∃ i,P.info? E=some i/\∃ z,i.zero=some z/\z.cells=⟨zs⟩/\i.bytes=bytes:=by
    unfold byI at hb
    unfold uO at hz
    cases hi:P.info? E with
    | none=>simp [hi] at hb
    | some i =>
      cases hz1:i.zero with
      | none=>simp [hi,hz1] at hz
      | some z =>
        simp only[hi,hz1,Option.bind_some,Option.map_some,Option.some.injEq] at hz
        exact⟨i,rfl,z,hz1,by rw[<-hz],by simpa [hi] using hb⟩
  obtain⟨D2,hD2,hD2n⟩:=aCS hT2
  obtain⟨g,hg,gl,m1⟩:=(m.front hP).exact
  have hrd:=hg.reads
  have hrv:=hrd.le gl
  have hlu:(Builtin.lenOf u).run P w= .ok es.length w:=by
    obtain⟨_,_,a,cap,rfl,_⟩:=hu
    simp [Builtin.lenOf,pure,Sem.run]
  have hesl:es.flatten.length=es.length*k:=lP hu.1
  have hdsl:ds.flatten.length=ds.length*k:=lP hrd.1
  have hall':∀ d ∈ ds++es,d.length=k:=by
    intro d hd
    rcases List.mem_append.1 hd with h|h
    · exact hrd.1 d h
    · exact hu.1 d h
  have hall:(∀ d ∈ ds++es,d.length=k)/\(ds++es).length<=140737488355328:=⟨hall',by simp;omega⟩
  have hones:pW es.flatten=true:=by
    simp only[pW,List.all_eq_true,List.mem_flatten]
    rintro x ⟨e,he,hx⟩
    have:=ho e he
    simp only[pW,List.all_eq_true] at this
    exact this x hx
  obtain⟨base,cap,rfl,hcap⟩:=hg.shape
  by_cases hc:ds.length+es.length<=cap
  · -- there is room
    rw[yF (P:=P) (w:=w) (T:=T) (T2:=T2) (ty:=ty) (n:=ds.length) (cap:=cap) (base:=base) (jY hT) hD2 hD2n hE hlu (nK hu) hc]
    obtain⟨h1,⟨h2,rfl,rfl⟩|⟨b,off,cap',cs,e,h3,h4,h5,rfl⟩⟩:=hg
    · simp only[Value.slice.injEq] at h2
      obtain⟨rfl,_,rfl⟩:=h2
      have:es=[]:=by simpa using hc
      subst this
      exact⟨_,w,rfl,m1.swp s0 fun h hs=>⟨⟨by simp,by simp⟩,.inl ⟨by simp,rfl,hs⟩⟩⟩
    · simp only[Value.slice.injEq] at e
      obtain⟨rfl,_,rfl⟩:=e
      have hadd:(⟨b,off,none⟩:Addr).add (ds.length*k)=⟨b,off+ds.length*k,none⟩:=by
        unfold Addr.add
        by_cases h:ds.length*k=0
        · simp [h]
        · simp [h]
      have hbk:w.heap[b]?=some (.cells ⟨cs⟩ E (0,0)):=gl _ _ (by simp [oQ])
      have hmul:=Nat.mul_le_mul_right k hc
      rw[Nat.add_mul] at hmul
      have hfit:off+ds.length*k+es.flatten.length<=cs.length:=by
        rw[hesl]
        omega
      obtain⟨w',k1,k2,k3,k4,k5⟩:=oV (P:=P) es.flatten w b (off+ds.length*k) 0 cs E hbk (by omega) hones
      refine⟨.slice (some ⟨b,off,none⟩) (ds.length+es.length) cap,w',?_,?_⟩
      · simp only[hadd,Sem.run_bind',k1,Result.andThen,Sem.run]
      · have m3:=m1.block k2 k3 k4 k5
        refine m3.swp s0 fun h hs=>⟨hall,.inr ⟨b,off,cap,lX cs (off+ds.length*k) es.flatten,by simp,by simpa using hc,by rw[pE];exact h4,?_,by simpa using hs⟩⟩
        rw[qY _ _ _ hfit,List.length_append,Nat.add_mul,List.flatten_append,<-h5,<-hesl]
        have e1:(cs.take (off+ds.length*k)).drop off=(cs.drop off).take (ds.length*k):=by
          rw[List.drop_take];congr 1;omega
        rw[List.append_assoc,List.drop_append_of_le_length (by simp;omega),e1,<-List.append_assoc,List.take_append_of_le_length (by simp;omega),List.take_of_length_le (by simp;omega)]
  · -- a new array
    have gl':xE g (hh w.drew):=gl
    have hfv:=nK (P:=P) (w:=w.drew) (hrd.le gl')
    have hfu:=nK (P:=P) (w:=w.drew) (k:=k) (v:=u) (ds:=es) hu
    obtain⟨c,hc1,hrun⟩:=aC4 (P:=P) (w:=w) (T:=T) (T2:=T2) (ty:=ty) (n:=ds.length) (cap:=cap) (base:=base) (jY hT) hD2 hD2n hE hi hz1 hlu hfu hfv hc (by rw[hbi];exact hlen)
    refine⟨_,_,hrun,?_⟩
    have m2:=(m1.drop.drew).alloc (.cells ((⟨ds.flatten⟩:Array Value)++⟨es.flatten⟩++Builtin.zeroCells z.cells (c-(ds.length+es.length))) E)
    refine m2.swp s0 fun h hs=>⟨hall,.inr ⟨w.heap.size,0,c,ds.flatten++es.flatten++(Builtin.zeroCells z.cells (c-(ds.length+es.length))).toList,by simp,by simpa using hc1,?_,?_,?_⟩⟩
    · have:(Builtin.zeroCells z.cells (c-(ds.length+es.length))).size=(c-(ds.length+es.length))*k:=by
        simp [Builtin.zeroCells,hz2,hzl]
      simp only[List.length_append,Array.length_toList,this,hdsl,hesl,Nat.zero_add]
      rw[<-Nat.add_mul,<-Nat.add_mul]
      exact Nat.mul_le_mul_right k (by omega)
    · rw[List.drop_zero,List.length_append,List.flatten_append,List.take_append_of_le_length (by rw[List.length_append,hdsl,hesl,Nat.add_mul];exact Nat.le_refl _),List.take_of_length_le (by rw[List.length_append,hdsl,hesl,Nat.add_mul];exact Nat.le_refl _)]
    · rw[hs]
      have:(⟨ds.flatten⟩:Array Value)++⟨es.flatten⟩++Builtin.zeroCells z.cells (c-(ds.length+es.length))=⟨ds.flatten++es.flatten++(Builtin.zeroCells z.cells (c-(ds.length+es.length))).toList⟩:=by
        apply Array.ext'
        simp
      rw[this]
      rfl
end
end Go.Proofs.YtnbpodjbemfpbaaGreat.Fw
set_option linter.unusedVariables false
set_option linter.all false
namespace Go.Proofs.YtnbpodjbemfpbaaGreat.Fw
open Go
theorem Hp.nilSv {w0 w:World} {R:Hh} {Ps:List HP} (m:Hp w0 R Ps w) (k:Nat) (E:TypeId):Hp w0 R (Sv k E (.slice none 0 0) []::Ps) w:=by
  refine m.map fun h s=>⟨aA0,h,⟨⟨by simp,by simp⟩,.inl ⟨rfl,rfl,rfl⟩⟩,s,aD6 _,(aB4 _).symm⟩
section
variable {P:Program} {ops:Array Oper} {Q:Exit->Act->World->Prop} {rest:List Oper} {n:Nat} {L:List (Nat×Value)} {a:Act} {w w0:World} {R:Hh} {Ps Qs:List HP}
  {d:Nat} {ty:TypeId} {pos:String} {aft:Array Edge}
theorem aQM {T T2 E:TypeId} {ag:Bool} {k bytes:Nat} {x y:Operand} {v u:Value} {ds es:List (List Value)} {zs:List Value} (hs:St n L a) (m:Hp w0 R Ps w) (hx:ev L x=some v) (hy:ev L y=some u)
    (hT:uX P T=some E) (hT2:qW P T2=true) (hE:kJ P E=some (ag,k)) (hz:uO P E=some zs) (hzl:zs.length=k) (hb:byI P E=some bytes) (hbb:Nat.ble bytes 4096=true)
    (hP:Rem Ps (Sv k E v ds) Qs) (hu:RdS (hh w) k u es) (ho:∀ e ∈ es,pW e=true) (hlen:ds.length+es.length<=140737488355328/\(2*(ds.length+es.length)+192)*bytes<=281474976710656) (hd:Nat.blt d n=true)
    (kk:∀ v' w',Hp w0 R (Sv k E v' (ds++es)::Qs) w'->∀ a',St n ((d,v')::L) a'->wpList P ops Q rest a' w') :
    wpList P ops Q (⟨some d,.call ⟨.builtin .append,#[x,y],#[T,T2]⟩,ty,pos,aft,none⟩::rest) a w:=by
  obtain⟨v',w',h1,h2⟩:=m.append (ty:=ty) hT hT2 hE hz hzl hb hbb hP hu ho hlen
  refine pO rfl rfl hs hd (v:=v') (w':=w') ?_ (kk v' w' h2)
  simp [execOp,resolve,invoke,builtin,hs.evs x _ hx,hs.evs y _ hy,bind,Sem.run_bind',h1,pure,Sem.run,Result.andThen]
def aFS:Nat->List (Nat×Value)->Bool
  | _,[]=>true
  | i,(j,_)::r=>match Nat.beq i j with|true=>aFS (i+1) r|false=>false
theorem aFQ {k:Nat}:∀ (vs:List (Nat×Value)) (pre post:List Value) (i:Nat),aFS i vs=true->(∀ x ∈ vs,x.2.cells.toList.length=k)->pre.length=i*k->post.length=vs.length*k ->
    Instr.fill (fun i=>some (i*k,k)) ⟨pre++post⟩ vs=some ⟨pre++(vs.map fun x=>x.2.cells.toList).flatten⟩
  | [],pre,post,i,_,_,_,hq=>by
    have:post=[]:=List.eq_nil_of_length_eq_zero (by simpa using hq)
    simp [Instr.fill,this]
  | (j,v)::r,pre,post,i,hf,hc,hp,hq=>by
    simp only[aFS] at hf
    cases hj:Nat.beq i j with
    | false=>rw[hj] at hf;cases hf
    | true =>
      rw[hj] at hf
      have e:=Nat.eq_of_beq_eq_true hj
      subst e
      have hv:v.cells.toList.length=k:=hc (i,v) (by simp)
      have hv':v.cells.size=k:=by simpa using hv
      simp only[List.length_cons,Nat.add_mul,Nat.one_mul] at hq
      simp only[Instr.fill]
      rw[if_neg (by simp [hv'];omega)]
      have e3:v.cells.zipIdx.foldl (fun(cs:Array Value) (x:Value×Nat)=>cs.setIfInBounds (i*k+x.2) x.1) ⟨pre++post⟩=⟨pre++v.cells.toList++post.drop k⟩:=by
        rw[<-Array.foldl_toList,Array.toList_zipIdx]
        have:=aB3 v.cells.toList ⟨pre++post⟩ (i*k) 0
        rw[this,Nat.add_zero,qY _ _ _ (by simp [hv];omega)]
        congr 1
        rw[<-hp,List.take_left]
        congr 1
        rw[hv,<-List.drop_drop,List.drop_left]
      have ih:=aFQ (k:=k) r (pre++v.cells.toList) (post.drop k) (i+1) hf (fun x hx=>hc x (by simp [hx])) (by simp [hv',hp,Nat.add_mul]) (by simp;omega)
      simp only[e3]
      rw[ih]
      simp
theorem aBJ {T E:TypeId} {ag:Bool} {k len:Nat} {ps:List (Nat×Operand)} {vs:List (Nat×Value)} {ds:List (List Value)} {zs:List Value} (hs:St n L a) (m:Hp w0 R Ps w) (hT:uX P T=some E) (hE:kJ P E=some (ag,k)) (hz:uO P E=some zs) (hzl:zs.length=k)
    (hx:sD L ps=some vs) (hf:aFS 0 vs=true) (hl:vs.length=len) (hd':vs.map (fun x=>x.2.cells.toList)=ds) (hk:∀ d ∈ ds,d.length=k) (hsz:Nat.ble (len*k) 16777216=true) (hsl:Nat.ble len 16777216=true) (hd:Nat.blt d n=true)
    (kk:∀ v' w',Hp w0 R (Sv k E v' ds::Ps) w'->∀ a',St n ((d,v')::L) a'->wpList P ops Q rest a' w') :
    wpList P ops Q (⟨some d,.buildSlice T len ⟨ps⟩,ty,pos,aft,none⟩::rest) a w:=by
  subst hd'
  obtain⟨z,h1,h2⟩:=yM hz w
  have h7:=yV hs.evs ps vs hx
  have hck:∀ x ∈ vs,x.2.cells.toList.length=k:=fun x hx=>hk _ (List.mem_map.2 ⟨x,hx,rfl⟩)
  have hsz':¬ len*k>2 ^ 24:=by have:=Nat.le_of_ble_eq_true hsz;omega
  let zero:Array Value:=if len*k=0 then #[] else z.cells
  have hzero:(if len*k=0 then pure #[] else do pure (<-zeroValue E).cells:Sem (Array Value)).run P w= .ok zero w:=by
    by_cases h:len*k=0
    · simp [h,zero,pure,Sem.run]
    · simp [h,zero,bind,Sem.run_bind',h1,pure,Sem.run,Result.andThen]
  have hfill:=aFQ (k:=k) vs [] ((Array.range (len*k)).map fun i=>zero[i % zero.size]!).toList 0 hf hck (by simp) (by simp [hl])
  simp only[List.nil_append] at hfill
  refine pO rfl rfl hs hd (v:=.slice (some ⟨w.heap.size,0,none⟩) len len) (w':=w.alloc (.cells ⟨(vs.map fun x=>x.2.cells.toList).flatten⟩ E)) ?_ (kk _ _ ?_)
  · have hrow:∀ w' (cs:Array Value),(newRow E cs).run P w'= .ok ⟨w'.heap.size,0,none⟩ (w'.alloc (.cells cs E)):=fun w' cs=>rfl
    have hfill':Instr.fill (fun i=>some (i*k,k)) (Array.map (fun x=>zero[x % zero.size]!) (Array.range (len*k))) vs=some ⟨(vs.map fun x=>x.2.cells.toList).flatten⟩:=hfill
    have hrun:(Instr.buildSlice T len ((⟨ps⟩:Array (Nat×Operand)).map fun(i,x)=>(i,a.eval x))).run P w= .ok (.slice (some ⟨w.heap.size,0,none⟩) len len) (w.alloc (.cells ⟨(vs.map fun x=>x.2.cells.toList).flatten⟩ E)):=by
      unfold Instr.buildSlice
      rw[Sem.run_bind,run_underlying (jY hT)]
      simp only[Result.andThen]
      rw[Sem.run_bind,gW hE]
      simp only[Result.andThen,if_neg hsz']
      have h7':(((⟨ps⟩:Array (Nat×Operand)).map fun(i,x)=>(i,a.eval x)).toList)=vs:=by simpa using h7
      have hrow:∀ w' (cs:Array Value),(newRow E cs).run P w'= .ok ⟨w'.heap.size,0,none⟩ (w'.alloc (.cells cs E)):=fun w' cs=>rfl
      simp only[pure,bind,Sem.bind,Sem.run]
      by_cases h:len*k=0
      · have hz0:zero = #[]:=by simp [zero,h]
        rw[hz0] at hfill'
        simp only[if_pos h,h7',hfill',Sem.run_bind',hrow,Result.andThen,Sem.run]
      · have hz0:zero=z.cells:=by simp [zero,h]
        rw[hz0] at hfill'
        simp only[if_neg h,Sem.run_bind',h1,Result.andThen,h7',hfill',hrow,Sem.run]
    simp only[execOp,bind,Sem.run_bind',hrun,Result.andThen,pure,Sem.run]
  · have hln:len<=140737488355328:=by have:=Nat.le_of_ble_eq_true hsl;omega
    refine(m.alloc _).swp s0 fun h hh=>⟨⟨hk,by simpa [hl] using hln⟩,.inr ⟨w.heap.size,0,len,_,by simp [hl],by simp [hl],?_,?_,hh⟩⟩
    · rw[lP hk];simp [hl]
    · rw[List.drop_zero,List.take_of_length_le (by rw[lP hk];exact Nat.le_refl _)]
end
/-! ### 14. Slices of slices -/
def subS (k:Nat) (v:Value) (lo hi:Nat):Value:=match v with
  | .slice a _ c=>.slice (if c=lo then a else a.map (·.add (lo*k))) (hi-lo) (c-lo)
  | _=>v
theorem qM {b off n:Nat}:(⟨b,off,none⟩:Addr).add n=⟨b,off+n,none⟩:=by
  unfold Addr.add
  by_cases h:n=0
  · simp [h]
  · simp [h]
theorem RdS.subS {h:Hh} {k:Nat} {v:Value} {ds:List (List Value)} (r:RdS h k v ds) {lo hi:Nat} (h1:lo<=hi) (h2:hi<=ds.length):RdS h k (subS k v lo hi) ((ds.take hi).drop lo):=by
  obtain⟨hk,hb,a,cap,rfl,hc,hr⟩:=r
  refine⟨fun d hd=>hk d (List.mem_of_mem_take (List.mem_of_mem_drop hd)),by simp;omega,if cap=lo then a else a.map (·.add (lo*k)),cap-lo,?_,?_,fun hn=>?_⟩
  · simp only[Fw.subS]
    congr 1
    simp;omega
  · simp;omega
  · have hlt:lo<hi:=by
      rcases Nat.lt_or_ge lo hi with h|h
      · exact h
      · exact absurd (List.eq_nil_of_length_eq_zero (by simp;omega)) hn
    obtain⟨b,off,arr,T,fz,rfl,e2,e3⟩:=hr (by intro e;subst e;simp at h2;omega)
    refine⟨b,off+lo*k,arr,T,fz,?_,e2,?_⟩
    · rw[if_neg (by omega)]
      simp [qM]
    · have hfl:((ds.take hi).drop lo).flatten=(ds.flatten.drop (lo*k)).take ((hi-lo)*k):=by
        have hkt:∀ d ∈ ds.take hi,d.length=k:=fun d hd=>hk d (List.mem_of_mem_take hd)
        have s1:ds=(ds.take hi).take lo++((ds.take hi).drop lo++ds.drop hi):=by
          rw[<-List.append_assoc,List.take_append_drop,List.take_append_drop]
        have l1:((ds.take hi).take lo).flatten.length=lo*k:=by
          rw[lP (fun d hd=>hkt d (List.mem_of_mem_take hd))]
          congr 1;simp;omega
        have l2:((ds.take hi).drop lo).flatten.length=(hi-lo)*k:=by
          rw[lP (fun d hd=>hkt d (List.mem_of_mem_drop hd))]
          congr 1;simp;omega
        conv=>rhs;rw[s1]
        rw[List.flatten_append,<-l1,List.drop_left,List.flatten_append,<-l2,List.take_left]
      have hlen:((ds.take hi).drop lo).length=hi-lo:=by simp;omega
      rw[hfl,hlen,<-e3,List.drop_take,List.drop_drop,List.take_take]
      have h3:(hi-lo)*k<=ds.length*k-lo*k:=by
        rw[<-Nat.sub_mul]
        exact Nat.mul_le_mul_right k (by omega)
      rw[Nat.min_eq_left h3]
section
variable {P:Program} {C:World->Prop} {L:List (Nat×Value)} {d:Option Tmp} {ty:TypeId} {pos:String} {aft:Array Edge} {g:Option (Nat×Bool)}
def bnd (L:List (Nat×Value)) (x:Option Operand) (dflt r:Nat):Prop:=match x with
  | some o=>∃ K,ev L o=some (.int K (r:Int))
  | none=>r=dflt
end
end Go.Proofs.YtnbpodjbemfpbaaGreat.Fw
set_option linter.unusedVariables false
set_option linter.all false
namespace Go.Proofs.YtnbpodjbemfpbaaGreat.Fw
open Go
/-! ### 15. Statements -/
section
variable {P:Program} {Q:Exit->Act->World->Prop} {a:Act} {w:World} {x y:Code}
theorem aB {K:Act->World->Prop} (h:K a w):Exit.then K Q .normal a w:=h
theorem eA {id:Nat} (h:Q .normal a w):Exit.inBlock id Q .normal a w:=h
theorem dG (h:x.wp P (Exit.then (y.wp P Q) Q) a w):(Code.seq x y).wp P Q a w:=wp_seq h
theorem bN {id:Nat} {l:List Oper} (h:wpList P l.toArray (Exit.then (y.wp P Q) Q) l a w):(Code.seq (.region id l.toArray false) y).wp P Q a w:=wp_seq (wp_region_lit h)
theorem fD {id:Nat} {l:List Oper} (h:wpList P l.toArray Q l a w):(Code.region id l.toArray false).wp P Q a w:=wp_region_lit h
theorem eE {w0:World} {R:Hh} {Ps:List HP} {id:Nat} {l:List Oper} (m:Hp w0 R Ps w) (hm:P.follows .mixedOrders=true) (hB:Region.lexB .any l.toArray=true)
    (h:wpQuiet P l.toArray (Hp w0 R Ps) (fun a'=>∀ w',Hp w0 R Ps w'->y.wp P Q a' w') l a):(Code.seq (.region id l.toArray true) y).wp P Q a w :=
  wp_seq (wp_region_quiet (C:=Hp w0 R Ps) hm hB (m.drawn _) h)
theorem aDP {w0:World} {R:Hh} {Ps:List HP} {id:Nat} {l:List Oper} (m:Hp w0 R Ps w) (hm:P.follows .mixedOrders=true) (hB:Region.lexB .any l.toArray=true)
    (h:wpQuiet P l.toArray (Hp w0 R Ps) (fun a'=>∀ w',Hp w0 R Ps w'->Q .normal a' w') l a):(Code.region id l.toArray true).wp P Q a w :=
  wp_region_quiet (C:=Hp w0 R Ps) hm hB (m.drawn _) h
theorem aR {n:Nat} {L:List (Nat×Value)} {c:Operand} {b:Bool} (hs:St n L a) (hc:ev L c=some (.bool b)) (ht:b=true->x.wp P Q a w) (hf:b=false->y.wp P Q a w):(Code.cond c x y).wp P Q a w :=
  wp_cond_split (hs.evs c _ hc) ht hf
theorem lU {n:Nat} {L:List (Nat×Value)} {c:Operand} {b:Bool} (hs:St n L a) (hc:ev L c=some (.bool b)) (hb:b=true) (h:x.wp P Q a w):(Code.cond c x y).wp P Q a w:=by
  subst hb;exact wp_cond_true (hs.evs c _ hc) h
theorem bV {n:Nat} {L:List (Nat×Value)} {c:Operand} {b:Bool} (hs:St n L a) (hc:ev L c=some (.bool b)) (hb:b=false) (h:y.wp P Q a w):(Code.cond c x y).wp P Q a w:=by
  subst hb;exact wp_cond_false (hs.evs c _ hc) h
theorem wK (M:Act->World->Prop) (h:x.wp P (Exit.then M Q) a w) (k:∀ a w,M a w->y.wp P Q a w):(Code.seq x y).wp P Q a w :=
  wp_seq (Code.wp_mono (fun e a' w' q=>by cases e <;> first|exact k _ _ q|exact q) h)
theorem lL {id:Nat} (h:Q .normal a w):Exit.inBlock id Q (.exit id) a w:=by simp only[Exit.inBlock,if_true];exact h
theorem wP {id id':Nat} (hne:Nat.beq id' id=false) (h:Q (.exit id') a w):Exit.inBlock id Q (.exit id') a w:=by
  have:¬ id'=id:=fun e=>by rw[e,Nat.beq_refl] at hne;cases hne
  simp only[Exit.inBlock,this,if_false];exact h
theorem eK {K:Act->World->Prop} {id:Nat} (h:Q (.exit id) a w):Exit.then K Q (.exit id) a w:=h
theorem aJF {K:Act->World->Prop} (h:Q .ret a w):Exit.then K Q .ret a w:=h
end
/-! ### 16. A function's begin and end -/
def num:Nat->List Value->List (Nat×Value)
  | _,[]=>[]
  | i,v::r=>(i,v)::num (i+1) r
theorem aP4:∀ (vs:List Value) (i j:Nat) (v:Value),lk (num i vs) j=some v->i<=j/\vs[j-i]?=some v
  | [],_,_,_,h=>by simp [num,lk] at h
  | u::r,i,j,v,h=>by
    simp only[num] at h
    by_cases e:i=j
    · subst e
      rw[aHA] at h
      simp only[Option.some.injEq] at h
      simp [h]
    · rw[aBB _ _ e] at h
      have:=aP4 r (i+1) j v h
      refine⟨by omega,?_⟩
      rw[show j-i=(j-(i+1))+1 from by omega,List.getElem?_cons_succ]
      exact this.2
theorem enter {P:Program} {f:FuncId} {fn:Func} {c:Code} {args:List Value} {w:World} {Rr:Ending->World->Prop} {n:Nat} (hf:P.funcs[f]?=some fn) (hb:fn.body=some c) (hn:fn.ntmps=n) (ha:Nat.ble args.length n=true)
    (h:∀ a,St n (num 0 args) a->c.wp P (bodyPost P fn Rr) a w):Calls P f ⟨args⟩ w Rr:=by
  refine calls_of_wp hf hb (h _ ?_)
  have xE:=Nat.le_of_ble_eq_true ha
  refine⟨by simp [hn];omega,rfl,fun i v hv=>?_⟩
  obtain⟨_,h2⟩:=aP4 args 0 i v hv
  simp only[Nat.sub_zero] at h2
  have hlt:=(List.getElem?_eq_some_iff.1 h2).1
  rw[Array.getElem?_append_left (by simpa using hlt)]
  simpa using h2
def aYU (P:Program) (L:List (Nat×Value)) (w:World):ResultVar->Value->Prop
  | .tmp t,v=>lk L t=some v
  | .cell t T,v=>∃ p,lk L t=some (.pointer (some p))/\(loadVar T p).run P w= .ok v w
def aH6 (P:Program) (L:List (Nat×Value)) (w:World):List ResultVar->List Value->Prop
  | [],[]=>True
  | r::rs,v::vs=>aYU P L w r v/\aH6 P L w rs vs
  | _,_=>False
def aNQ:List Value->Value
  | [v]=>v
  | vs=>.tuple ⟨vs⟩
theorem cZ {P:Program} {w0 w:World} {R:Hh} {Ps Qs:List HP} {L:List (Nat×Value)} {t:Tmp} {T E:TypeId} {p:Addr} {n:Nat} {cs:List Value} (m:Hp w0 R Ps w) (hx:lk L t=some (.pointer (some (bK p 0)))) (ht:kJ P T=some (true,n)) (hP:Rem Ps (Bx p E cs) Qs) (hl:cs.length=n) :
    aYU P L w (.cell t T) (.agg ⟨cs⟩) :=
  ⟨_,hx,yG ht (lO hP w m) (by rw[List.drop_zero,List.take_of_length_le (by omega)]) hl⟩
def aEU (a:Act):ResultVar->Sem Value
  | .tmp t=>pure (a.tmps.getD t undef)
  | .cell x t=>do loadVar t (<-asAddr (a.tmps.getD x undef))
theorem aCZ {P:Program} {n:Nat} {L:List (Nat×Value)} {a:Act} {w:World} (hs:St n L a):∀ (rs:List ResultVar) (vs:List Value),aH6 P L w rs vs ->
    (rs.mapM (aEU a)).run P w= .ok vs w
  | [],[],_=>by simp [pure,Sem.run]
  | r::rs,v::vs,⟨h1,h2⟩=>by
    have ih:=aCZ hs rs vs h2
    have h0:(aEU a r).run P w= .ok v w:=by
      cases r with
      | tmp t =>
        have:=hs.at_ t v h1
        simp [aEU,pure,Sem.run,Array.getD_eq_getD_getElem?,this]
      | cell x t =>
        obtain⟨p,h3,h4⟩:=h1
        have:=hs.at_ x _ h3
        simp [aEU,bind,Sem.run_bind',asAddr,Array.getD_eq_getD_getElem?,this,pure,Sem.run,Result.andThen,h4]
    rw[List.mapM_cons,Sem.run_bind,h0]
    simp only[Result.andThen]
    rw[Sem.run_bind,ih]
    simp [Result.andThen,pure,Sem.run]
  | [],_::_,h=>h.elim
  | _::_,[],h=>h.elim
theorem aCV {P:Program} {fn:Func} {n:Nat} {L:List (Nat×Value)} {a:Act} {w:World} (hs:St n L a) {rs:List ResultVar} {vs:List Value} (hr:fn.results=⟨rs⟩) (h:aH6 P L w rs vs):(results fn a.tmps).run P w= .ok (aNQ vs) w:=by
  have h1:=aCZ hs rs vs h
  have e:results fn a.tmps=(do
      let vs <-fn.results.mapM (aEU a)
      pure (if h:vs.size=1 then vs[0] else .tuple vs)):=by
    unfold results
    congr 1
  rw[e,hr,Array.mapM_eq_mapM_toList,Sem.run_bind]
  have e2:∀ m:Sem (List Value),(List.toArray <$> m)=m.bind (fun l=>Sem.pure l.toArray):=fun _=>rfl
  rw[e2,Sem.run_bind',h1]
  simp only[Result.andThen,Sem.run,pure]
  match vs with
  | []=>simp [aNQ]
  | [v]=>simp [aNQ]
  | v::u::r=>simp [aNQ]
theorem bH {P:Program} {fn:Func} {n:Nat} {L:List (Nat×Value)} {a:Act} {w:World} {Rr:Ending->World->Prop} (hs:St n L a) {rs:List ResultVar} {vs:List Value} (hr:fn.results=⟨rs⟩) (h:aH6 P L w rs vs) (hR:Rr (.returned (aNQ vs)) w):bodyPost P fn Rr .ret a w :=
  ⟨hs.nod,_,aCV hs hr h,hR⟩
theorem nI {P:Program} {fn:Func} {n:Nat} {L:List (Nat×Value)} {a:Act} {w:World} {Rr:Ending->World->Prop} (hs:St n L a) {rs:List ResultVar} {vs:List Value} (hr:fn.results=⟨rs⟩) (h:aH6 P L w rs vs) (hR:Rr (.returned (aNQ vs)) w):bodyPost P fn Rr .normal a w :=
  ⟨hs.nod,_,aCV hs hr h,hR⟩
theorem Hp.below {w w':World} {Ps:List HP} (m:Hp w (hh w) Ps w'):Go.RowKit.Below w.heap.size w w':=by
  refine⟨m.os,m.tape,m.output,m.size,fun k hk=>?_⟩
  have h1:hh w k=some (w.heap[k]):=by simp [hh,hk]
  have:=m.frame _ _ h1
  simp only[hh] at this h1
  rw[this,h1]
end Go.Proofs.YtnbpodjbemfpbaaGreat.Fw
