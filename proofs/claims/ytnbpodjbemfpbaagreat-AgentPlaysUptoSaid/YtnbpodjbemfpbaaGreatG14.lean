/-
  Own work: walks and laws, joined by wip/tool/compact.py.
-/
import Derived.Test.YtnbpodjbemfpbaaGreatG13
import Derived.KernelRfl
set_option linter.all false
set_option linter.all false
set_option maxHeartbeats 4000000
set_option maxRecDepth 100000
namespace Go.Proofs.YtnbpodjbemfpbaaGreat.Fw
open Go
theorem aHB (pag:Addr) (ag:hF) (now:Int) (w0:World) (R:Hh) (A0:ag.view.length<=8388608) (A1:ag.Routes.length<=8388608) (A2:ag.Neighs.length<=8388608) (A3:ag.Fdbs.length<=8388608) (m:Hp w0 R [tP pag ag] w0):Calls Tryz.prog 31 ⟨[.pointer (some (bK pag 0)),.int .i64 now]⟩ w0 fun e w'=>∃ v,e= .returned v/\(v=(.agg ⟨eS (iM ag now)⟩)/\Hp w0 R [tP pag (jB ag now)] w'):=by
 refine enter (n:=41) Tryz.func31 rfl rfl rfl fun a (hs:St 41 [(0,.pointer (some (bK pag 0))),(1,.int .i64 now)] a)=>?_
 have mo:=m.openAg r0
 obtain⟨x1,x2,x3,x4,x5,x6,x7,m⟩:=mo
 refine bN ?_
 refine bZ hs m nC rfl fun p8 w9 m a hs=>?_
 refine bP hs m (x_ lA (e_ (p_ (aP9 (r:=6) m rfl wE (fV r3) rfl)) gC)) fun a w_ hs m=>?_
 refine wp_loop_rounds 7 ?_
 refine iF ?_
 refine bT hs m (x_ eO (e_ (p_ (fB (v:=.bool true) rfl rfl rfl)) hQ)) fun a w_ hs m=>?_
 refine rY (c:=id) (e:=([.string (ByteArray.mk ⟨[100,117,109,112]⟩),.func (.func 71) ⟨[]⟩ ⟨[.pointer (some (bK x1 0))]⟩]:List Value)) hs m (x:=(.tmp 12)) (ix:=(.tmp 14)) rfl rfl wE oY r3 (by omega) rfl fun p11 hp12 ok13=>?_
 refine bP hs m (e_ (p_ (ok13 _ _ _ _ _)) (e_ (p_ (lM (vs:=[.string (ByteArray.mk ⟨[100,117,109,112]⟩),.func (.func 71) ⟨[]⟩ ⟨[.pointer (some (bK x1 0))]⟩]) rfl oY (vP hp12 r3 (mV _ (rfl:(iI pag x1)[0]?=some ([.string (ByteArray.mk ⟨[100,117,109,112]⟩),.func (.func 71) ⟨[]⟩ ⟨[.pointer (some (bK x1 0))]⟩]:List Value)))) rfl rfl)) bR)) fun a w_ hs m=>?_
 refine bZ hs m rL rfl fun p14 w15 m a hs=>?_
 refine bP hs m (dZ s0 (t:=nP)) fun a w16 hs m=>?_
 refine aR hs rfl (fun h17=>?_) (fun h17=>?_)
 ·have h17p:=fT h17
  refine wp_exit ?_
  refine eK (wP rfl (eK (eK (lL (?_)))))
  refine aB ?_
  refine bT hs m (x_ gC (e_ (p_ (cN (eS ag.opn))) (dZ s1 (t:=eZ)))) fun a w18 hs m=>?_
  refine bH hs (vs:=[.agg ⟨eS ag.opn⟩]) rfl ⟨cZ (cs:=eS ag.opn) m rfl pX r1 rfl,trivial⟩ ?_
  replace m:=(m.sub (a2 (a2 (a2 (a2 (a2 (a2 (a2 (a2 (a0 (a0 .n))))))))))).closeAg (p:=pag) (A:=ag)
  rw[(show ag=jB ag now from nx0 (by omega))] at m
  exact⟨_,rfl,by rw[(show (ag.opn:eH)=iM ag now from (nq0 (by omega)))];rfl,m.sub (a0 .n)⟩
 have h17p:=dJ h17
 refine bT hs m gX fun a w_ hs m=>?_
 refine cC hs m rfl rfl a3K rfl (aXJ now x1 pag ag _ (lO r3 _ m) ⟨x1,x2,x3,x4,x5,x6,x7,(lO r2 _ m),(lO r3 _ m),(m.rdv r4),(m.rdv r5),(m.rdv r6),(m.rdv r7),(m.rdv r8),(m.rdv r9)⟩ ) rfl fun w21 m a hs=>?_
 refine bP hs m eZ fun a w_ hs m=>?_
 refine bZ hs m nC rfl fun p22 w23 m a hs=>?_
 refine bP hs m (dZ s0 (t:=gZ)) fun a w24 hs m=>?_
 refine aR hs rfl (fun h25=>?_) (fun h25=>?_)
 ·have h25p:=h25;simp only[fK] at h25p
  refine bT hs m (x_ iA (e_ (p_ (cN (eS (⟨⟨1,rfl⟩,jA,mM,⟨0,rfl⟩,⟨0,rfl⟩⟩:eH)))) (x_ iA (dZ s3 (t:=x_ gC (e_ (p_ (fA (r:=1) rfl rfl rfl)) eZ)))))) fun a w26 hs m=>?_
  refine iF ?_
  refine bT hs m (x_ eO (e_ (p_ (fB (v:=.bool true) rfl rfl rfl)) hQ)) fun a w_ hs m=>?_
  refine rY (c:=id) (e:=([.string (ByteArray.mk ⟨[115,110,97,112,115,104,111,116]⟩),.func (.func 72) ⟨[]⟩ ⟨[.pointer (some (bK x1 0))]⟩]:List Value)) hs m (x:=(.tmp 12)) (ix:=(.tmp 14)) rfl rfl wE oY r5 (by omega) rfl fun p28 hp29 ok30=>?_
  refine bP hs m (e_ (p_ (ok30 _ _ _ _ _)) (e_ (p_ (lM (vs:=[.string (ByteArray.mk ⟨[115,110,97,112,115,104,111,116]⟩),.func (.func 72) ⟨[]⟩ ⟨[.pointer (some (bK x1 0))]⟩]) rfl oY (vP hp29 r5 (mV _ (rfl:(iI pag x1)[1]?=some ([.string (ByteArray.mk ⟨[115,110,97,112,115,104,111,116]⟩),.func (.func 72) ⟨[]⟩ ⟨[.pointer (some (bK x1 0))]⟩]:List Value)))) rfl rfl)) bR)) fun a w_ hs m=>?_
  refine bZ hs m rL rfl fun p31 w32 m a hs=>?_
  refine bP hs m (dZ s0 (t:=x_ hQ (e_ (p_ (fB (v:=.bool true) rfl rfl rfl)) gI))) fun a w33 hs m=>?_
  refine wP rfl (eK (eK (lL (?_))))
  refine aB ?_
  refine bT hs m (x_ gC (e_ (p_ (cN (eS (⟨⟨1,rfl⟩,jA,mM,⟨0,rfl⟩,⟨0,rfl⟩⟩:eH)))) (dZ s3 (t:=eZ)))) fun a w35 hs m=>?_
  refine bH hs (vs:=[.agg ⟨eS (⟨⟨1,rfl⟩,jA,mM,⟨0,rfl⟩,⟨0,rfl⟩⟩:eH)⟩]) rfl ⟨cZ (cs:=eS (⟨⟨1,rfl⟩,jA,mM,⟨0,rfl⟩,⟨0,rfl⟩⟩:eH)) m rfl pX r3 rfl,trivial⟩ ?_
  replace m:=(m.sub (a4 (a4 (a4 (a4 (a4 (a4 (a4 (a4 (a0 (a0 (a0 (a0 .n))))))))))))).closeAg (p:=pag) (A:=({ ag with opn:=(⟨⟨1,rfl⟩,jA,mM,⟨0,rfl⟩,⟨0,rfl⟩⟩:eH) }:hF))
  rw[(show ({ ag with opn:=(⟨⟨1,rfl⟩,jA,mM,⟨0,rfl⟩,⟨0,rfl⟩⟩:eH) }:hF)=jB ag now from nx (nq1 (by omega) (by assumption)))] at m
  exact⟨_,rfl,by rw[(show ((⟨⟨1,rfl⟩,jA,mM,⟨0,rfl⟩,⟨0,rfl⟩⟩:eH):eH)=iM ag now from (nq1 (by omega) (by assumption)))];rfl,m.sub (a0 .n)⟩
 have h25p:=h25;simp only[fK] at h25p
 refine bT hs m (x_ gC (e_ (p_ (fA (r:=1) rfl rfl rfl)) eZ)) fun a w_ hs m=>?_
 refine iF ?_
 refine bT hs m (x_ eO (e_ (p_ (fB (v:=.bool true) rfl rfl rfl)) hQ)) fun a w_ hs m=>?_
 refine rY (c:=id) (e:=([.string (ByteArray.mk ⟨[115,110,97,112,115,104,111,116]⟩),.func (.func 72) ⟨[]⟩ ⟨[.pointer (some (bK x1 0))]⟩]:List Value)) hs m (x:=(.tmp 12)) (ix:=(.tmp 14)) rfl rfl wE oY r5 (by omega) rfl fun p39 hp40 ok41=>?_
 refine bP hs m (e_ (p_ (ok41 _ _ _ _ _)) (e_ (p_ (lM (vs:=[.string (ByteArray.mk ⟨[115,110,97,112,115,104,111,116]⟩),.func (.func 72) ⟨[]⟩ ⟨[.pointer (some (bK x1 0))]⟩]) rfl oY (vP hp40 r5 (mV _ (rfl:(iI pag x1)[1]?=some ([.string (ByteArray.mk ⟨[115,110,97,112,115,104,111,116]⟩),.func (.func 72) ⟨[]⟩ ⟨[.pointer (some (bK x1 0))]⟩]:List Value)))) rfl rfl)) bR)) fun a w_ hs m=>?_
 refine bZ hs m rL rfl fun p42 w43 m a hs=>?_
 refine bP hs m (dZ s0 (t:=nP)) fun a w44 hs m=>?_
 refine bV hs rfl h17 ?_
 refine bT hs m gX fun a w_ hs m=>?_
 refine cC hs m rfl rfl a3L rfl (aXK now x1 pag ag _ (lO r5 _ m) ⟨x1,x2,x3,x4,x5,x6,x7,(lO r4 _ m),(lO r5 _ m),(m.rdv r6),(m.rdv r7),(m.rdv r8),(m.rdv r9),(m.rdv r10),(m.rdv r11)⟩ ) rfl fun w46 m a hs=>?_
 refine bP hs m eZ fun a w_ hs m=>?_
 refine bZ hs m nC rfl fun p47 w48 m a hs=>?_
 refine bP hs m (dZ s0 (t:=gZ)) fun a w49 hs m=>?_
 refine aR hs rfl (fun h50=>?_) (fun h50=>?_)
 ·refine bT hs m (x_ iA (e_ (p_ (cN (eS (⟨⟨2,rfl⟩,jA,mM,⟨0,rfl⟩,⟨0,rfl⟩⟩:eH)))) (x_ iA (dZ s5 (t:=x_ gC (e_ (p_ (fA (r:=2) rfl rfl rfl)) eZ)))))) fun a w51 hs m=>?_
  refine iF ?_
  refine bT hs m (x_ eO (e_ (p_ (fB (v:=.bool true) rfl rfl rfl)) hQ)) fun a w_ hs m=>?_
  refine rY (c:=id) (e:=([.string (ByteArray.mk ⟨[107,101,114,110,101,108]⟩),.func (.func 73) ⟨[.pointer (some (bK pag 0))]⟩ ⟨[]⟩]:List Value)) hs m (x:=(.tmp 12)) (ix:=(.tmp 14)) rfl rfl wE oY r7 (by omega) rfl fun p53 hp54 ok55=>?_
  refine bP hs m (e_ (p_ (ok55 _ _ _ _ _)) (e_ (p_ (lM (vs:=[.string (ByteArray.mk ⟨[107,101,114,110,101,108]⟩),.func (.func 73) ⟨[.pointer (some (bK pag 0))]⟩ ⟨[]⟩]) rfl oY (vP hp54 r7 (mV _ (rfl:(iI pag x1)[2]?=some ([.string (ByteArray.mk ⟨[107,101,114,110,101,108]⟩),.func (.func 73) ⟨[.pointer (some (bK pag 0))]⟩ ⟨[]⟩]:List Value)))) rfl rfl)) bR)) fun a w_ hs m=>?_
  refine bZ hs m rL rfl fun p56 w57 m a hs=>?_
  refine bP hs m (dZ s0 (t:=x_ hQ (e_ (p_ (fB (v:=.bool true) rfl rfl rfl)) gI))) fun a w58 hs m=>?_
  refine wP rfl (eK (eK (lL (?_))))
  refine aB ?_
  refine bT hs m (x_ gC (e_ (p_ (cN (eS (⟨⟨2,rfl⟩,jA,mM,⟨0,rfl⟩,⟨0,rfl⟩⟩:eH)))) (dZ s5 (t:=eZ)))) fun a w60 hs m=>?_
  refine bH hs (vs:=[.agg ⟨eS (⟨⟨2,rfl⟩,jA,mM,⟨0,rfl⟩,⟨0,rfl⟩⟩:eH)⟩]) rfl ⟨cZ (cs:=eS (⟨⟨2,rfl⟩,jA,mM,⟨0,rfl⟩,⟨0,rfl⟩⟩:eH)) m rfl pX r5 rfl,trivial⟩ ?_
  replace m:=(m.sub (a6 (a6 (a6 (a6 (a6 (a6 (a6 (a6 (a0 (a0 (a0 (a0 (a0 (a0 .n))))))))))))))).closeAg (p:=pag) (A:=({ ag with opn:=(⟨⟨2,rfl⟩,jA,mM,⟨0,rfl⟩,⟨0,rfl⟩⟩:eH) }:hF))
  rw[(show ({ ag with opn:=(⟨⟨2,rfl⟩,jA,mM,⟨0,rfl⟩,⟨0,rfl⟩⟩:eH) }:hF)=jB ag now from nx (nq2 (by omega) (by assumption) (by assumption)))] at m
  exact⟨_,rfl,by rw[(show ((⟨⟨2,rfl⟩,jA,mM,⟨0,rfl⟩,⟨0,rfl⟩⟩:eH):eH)=iM ag now from (nq2 (by omega) (by assumption) (by assumption)))];rfl,m.sub (a0 .n)⟩
 refine bT hs m (x_ gC (e_ (p_ (fA (r:=2) rfl rfl rfl)) eZ)) fun a w_ hs m=>?_
 refine iF ?_
 refine bT hs m (x_ eO (e_ (p_ (fB (v:=.bool true) rfl rfl rfl)) hQ)) fun a w_ hs m=>?_
 refine rY (c:=id) (e:=([.string (ByteArray.mk ⟨[107,101,114,110,101,108]⟩),.func (.func 73) ⟨[.pointer (some (bK pag 0))]⟩ ⟨[]⟩]:List Value)) hs m (x:=(.tmp 12)) (ix:=(.tmp 14)) rfl rfl wE oY r7 (by omega) rfl fun p64 hp65 ok66=>?_
 refine bP hs m (e_ (p_ (ok66 _ _ _ _ _)) (e_ (p_ (lM (vs:=[.string (ByteArray.mk ⟨[107,101,114,110,101,108]⟩),.func (.func 73) ⟨[.pointer (some (bK pag 0))]⟩ ⟨[]⟩]) rfl oY (vP hp65 r7 (mV _ (rfl:(iI pag x1)[2]?=some ([.string (ByteArray.mk ⟨[107,101,114,110,101,108]⟩),.func (.func 73) ⟨[.pointer (some (bK pag 0))]⟩ ⟨[]⟩]:List Value)))) rfl rfl)) bR)) fun a w_ hs m=>?_
 refine bZ hs m rL rfl fun p67 w68 m a hs=>?_
 refine bP hs m (dZ s0 (t:=nP)) fun a w69 hs m=>?_
 refine bV hs rfl h17 ?_
 refine bT hs m gX fun a w_ hs m=>?_
 refine cC hs m rfl rfl a3M rfl (aO7 pag ag now _ ⟨x1,x2,x3,x4,x5,x6,x7,(lO r6 _ m),(lO r7 _ m),(m.rdv r8),(m.rdv r9),(m.rdv r10),(m.rdv r11),(m.rdv r12),(m.rdv r13)⟩ (by omega) (by omega) (by omega) (by omega)) rfl fun w71 m a hs=>?_
 refine bP hs m eZ fun a w_ hs m=>?_
 refine bZ hs m nC rfl fun p72 w73 m a hs=>?_
 refine bP hs m (dZ s0 (t:=gZ)) fun a w74 hs m=>?_
 refine aR hs rfl (fun h75=>?_) (fun h75=>?_)
 ·refine bT hs m (x_ iA (e_ (p_ (cN (eS (wM ag)))) (x_ iA (dZ s7 (t:=x_ gC (e_ (p_ (fA (r:=3) rfl rfl rfl)) eZ)))))) fun a w76 hs m=>?_
  refine iF ?_
  refine bT hs m (x_ eO (e_ (p_ (fB (v:=.bool true) rfl rfl rfl)) hQ)) fun a w_ hs m=>?_
  refine rY (c:=id) (e:=([.string (ByteArray.mk ⟨[97,99,113,117,105,114,101]⟩),.func (.func 74) ⟨[.pointer (some (bK pag 0))]⟩ ⟨[]⟩]:List Value)) hs m (x:=(.tmp 12)) (ix:=(.tmp 14)) rfl rfl wE oY r9 (by omega) rfl fun p78 hp79 ok80=>?_
  refine bP hs m (e_ (p_ (ok80 _ _ _ _ _)) (e_ (p_ (lM (vs:=[.string (ByteArray.mk ⟨[97,99,113,117,105,114,101]⟩),.func (.func 74) ⟨[.pointer (some (bK pag 0))]⟩ ⟨[]⟩]) rfl oY (vP hp79 r9 (mV _ (rfl:(iI pag x1)[3]?=some ([.string (ByteArray.mk ⟨[97,99,113,117,105,114,101]⟩),.func (.func 74) ⟨[.pointer (some (bK pag 0))]⟩ ⟨[]⟩]:List Value)))) rfl rfl)) bR)) fun a w_ hs m=>?_
  refine bZ hs m rL rfl fun p81 w82 m a hs=>?_
  refine bP hs m (dZ s0 (t:=nP)) fun a w83 hs m=>?_
  refine lU hs rfl (by simp [aIG (by assumption)]) ?_
  refine wp_exit ?_
  refine eK (wP rfl (eK (eK (lL (?_)))))
  refine aB ?_
  refine bT hs m (x_ gC (e_ (p_ (cN (eS (wM ag)))) (dZ s7 (t:=eZ)))) fun a w85 hs m=>?_
  refine bH hs (vs:=[.agg ⟨eS (wM ag)⟩]) rfl ⟨cZ (cs:=eS (wM ag)) m rfl pX r7 rfl,trivial⟩ ?_
  replace m:=(m.sub (a8 (a8 (a8 (a8 (a8 (a8 (a8 (a8 (a0 (a0 (a0 (a0 (a0 (a0 (a0 (a0 .n))))))))))))))))).closeAg (p:=pag) (A:=({ ag with opn:=wM ag }:hF))
  rw[(show ({ ag with opn:=wM ag }:hF)=jB ag now from nx (nq3 (by omega) (by assumption) (by assumption) (by assumption)))] at m
  exact⟨_,rfl,by rw[(show (wM ag:eH)=iM ag now from (nq3 (by omega) (by assumption) (by assumption) (by assumption)))];rfl,m.sub (a0 .n)⟩
 refine bT hs m (x_ gC (e_ (p_ (fA (r:=3) rfl rfl rfl)) eZ)) fun a w_ hs m=>?_
 refine iF ?_
 refine bT hs m (x_ eO (e_ (p_ (fB (v:=.bool true) rfl rfl rfl)) hQ)) fun a w_ hs m=>?_
 refine rY (c:=id) (e:=([.string (ByteArray.mk ⟨[97,99,113,117,105,114,101]⟩),.func (.func 74) ⟨[.pointer (some (bK pag 0))]⟩ ⟨[]⟩]:List Value)) hs m (x:=(.tmp 12)) (ix:=(.tmp 14)) rfl rfl wE oY r9 (by omega) rfl fun p89 hp90 ok91=>?_
 refine bP hs m (e_ (p_ (ok91 _ _ _ _ _)) (e_ (p_ (lM (vs:=[.string (ByteArray.mk ⟨[97,99,113,117,105,114,101]⟩),.func (.func 74) ⟨[.pointer (some (bK pag 0))]⟩ ⟨[]⟩]) rfl oY (vP hp90 r9 (mV _ (rfl:(iI pag x1)[3]?=some ([.string (ByteArray.mk ⟨[97,99,113,117,105,114,101]⟩),.func (.func 74) ⟨[.pointer (some (bK pag 0))]⟩ ⟨[]⟩]:List Value)))) rfl rfl)) bR)) fun a w_ hs m=>?_
 refine bZ hs m rL rfl fun p92 w93 m a hs=>?_
 refine bP hs m (dZ s0 (t:=nP)) fun a w94 hs m=>?_
 refine bV hs rfl h17 ?_
 refine bT hs m gX fun a w_ hs m=>?_
 refine cC hs m rfl rfl a3N rfl (aM1 pag ag now _ ⟨x1,x2,x3,x4,x5,x6,x7,(lO r8 _ m),(lO r9 _ m),(m.rdv r10),(m.rdv r11),(m.rdv r12),(m.rdv r13),(m.rdv r14),(m.rdv r15)⟩ ) rfl fun w96 m a hs=>?_
 refine bP hs m eZ fun a w_ hs m=>?_
 refine bZ hs m nC rfl fun p97 w98 m a hs=>?_
 refine bP hs m (dZ s0 (t:=gZ)) fun a w99 hs m=>?_
 refine aR hs rfl (fun h100=>?_) (fun h100=>?_)
 ·refine bT hs m (x_ iA (e_ (p_ (cN (eS (rM ag)))) (x_ iA (dZ s9 (t:=x_ gC (e_ (p_ (fA (r:=4) rfl rfl rfl)) eZ)))))) fun a w101 hs m=>?_
  refine iF ?_
  refine bT hs m (x_ eO (e_ (p_ (fB (v:=.bool true) rfl rfl rfl)) hQ)) fun a w_ hs m=>?_
  refine rY (c:=id) (e:=([.string (ByteArray.mk ⟨[114,101,110,101,119]⟩),.func (.func 75) ⟨[.pointer (some (bK pag 0))]⟩ ⟨[]⟩]:List Value)) hs m (x:=(.tmp 12)) (ix:=(.tmp 14)) rfl rfl wE oY r11 (by omega) rfl fun p103 hp104 ok105=>?_
  refine bP hs m (e_ (p_ (ok105 _ _ _ _ _)) (e_ (p_ (lM (vs:=[.string (ByteArray.mk ⟨[114,101,110,101,119]⟩),.func (.func 75) ⟨[.pointer (some (bK pag 0))]⟩ ⟨[]⟩]) rfl oY (vP hp104 r11 (mV _ (rfl:(iI pag x1)[4]?=some ([.string (ByteArray.mk ⟨[114,101,110,101,119]⟩),.func (.func 75) ⟨[.pointer (some (bK pag 0))]⟩ ⟨[]⟩]:List Value)))) rfl rfl)) bR)) fun a w_ hs m=>?_
  refine bZ hs m rL rfl fun p106 w107 m a hs=>?_
  refine bP hs m (dZ s0 (t:=nP)) fun a w108 hs m=>?_
  refine lU hs rfl (by simp [aH7 (by assumption)]) ?_
  refine wp_exit ?_
  refine eK (wP rfl (eK (eK (lL (?_)))))
  refine aB ?_
  refine bT hs m (x_ gC (e_ (p_ (cN (eS (rM ag)))) (dZ s9 (t:=eZ)))) fun a w110 hs m=>?_
  refine bH hs (vs:=[.agg ⟨eS (rM ag)⟩]) rfl ⟨cZ (cs:=eS (rM ag)) m rfl pX r9 rfl,trivial⟩ ?_
  replace m:=(m.sub (a10 (a10 (a10 (a10 (a10 (a10 (a10 (a10 (a0 (a0 (a0 (a0 (a0 (a0 (a0 (a0 (a0 (a0 .n))))))))))))))))))).closeAg (p:=pag) (A:=({ ag with opn:=rM ag }:hF))
  rw[(show ({ ag with opn:=rM ag }:hF)=jB ag now from nx (nq4 (by omega) (by assumption) (by assumption) (by assumption) (by assumption)))] at m
  exact⟨_,rfl,by rw[(show (rM ag:eH)=iM ag now from (nq4 (by omega) (by assumption) (by assumption) (by assumption) (by assumption)))];rfl,m.sub (a0 .n)⟩
 refine bT hs m (x_ gC (e_ (p_ (fA (r:=4) rfl rfl rfl)) eZ)) fun a w_ hs m=>?_
 refine iF ?_
 refine bT hs m (x_ eO (e_ (p_ (fB (v:=.bool true) rfl rfl rfl)) hQ)) fun a w_ hs m=>?_
 refine rY (c:=id) (e:=([.string (ByteArray.mk ⟨[114,101,110,101,119]⟩),.func (.func 75) ⟨[.pointer (some (bK pag 0))]⟩ ⟨[]⟩]:List Value)) hs m (x:=(.tmp 12)) (ix:=(.tmp 14)) rfl rfl wE oY r11 (by omega) rfl fun p114 hp115 ok116=>?_
 refine bP hs m (e_ (p_ (ok116 _ _ _ _ _)) (e_ (p_ (lM (vs:=[.string (ByteArray.mk ⟨[114,101,110,101,119]⟩),.func (.func 75) ⟨[.pointer (some (bK pag 0))]⟩ ⟨[]⟩]) rfl oY (vP hp115 r11 (mV _ (rfl:(iI pag x1)[4]?=some ([.string (ByteArray.mk ⟨[114,101,110,101,119]⟩),.func (.func 75) ⟨[.pointer (some (bK pag 0))]⟩ ⟨[]⟩]:List Value)))) rfl rfl)) bR)) fun a w_ hs m=>?_
 refine bZ hs m rL rfl fun p117 w118 m a hs=>?_
 refine bP hs m (dZ s0 (t:=nP)) fun a w119 hs m=>?_
 refine bV hs rfl h17 ?_
 refine bT hs m gX fun a w_ hs m=>?_
 refine cC hs m rfl rfl a3O rfl (aS7 pag ag now _ ⟨x1,x2,x3,x4,x5,x6,x7,(lO r10 _ m),(lO r11 _ m),(m.rdv r12),(m.rdv r13),(m.rdv r14),(m.rdv r15),(m.rdv r16),(m.rdv r17)⟩ ) rfl fun w121 m a hs=>?_
 refine bP hs m eZ fun a w_ hs m=>?_
 refine bZ hs m nC rfl fun p122 w123 m a hs=>?_
 refine bP hs m (dZ s0 (t:=gZ)) fun a w124 hs m=>?_
 refine aR hs rfl (fun h125=>?_) (fun h125=>?_)
 ·refine bT hs m (x_ iA (e_ (p_ (cN (eS (uD ag)))) (x_ iA (dZ s11 (t:=x_ gC (e_ (p_ (fA (r:=5) rfl rfl rfl)) eZ)))))) fun a w126 hs m=>?_
  refine iF ?_
  refine bT hs m (x_ eO (e_ (p_ (fB (v:=.bool true) rfl rfl rfl)) hQ)) fun a w_ hs m=>?_
  refine rY (c:=id) (e:=([.string (ByteArray.mk ⟨[119,97,116,99,104]⟩),.func (.func 76) ⟨[]⟩ ⟨[.pointer (some (bK x1 0))]⟩]:List Value)) hs m (x:=(.tmp 12)) (ix:=(.tmp 14)) rfl rfl wE oY r13 (by omega) rfl fun p128 hp129 ok130=>?_
  refine bP hs m (e_ (p_ (ok130 _ _ _ _ _)) (e_ (p_ (lM (vs:=[.string (ByteArray.mk ⟨[119,97,116,99,104]⟩),.func (.func 76) ⟨[]⟩ ⟨[.pointer (some (bK x1 0))]⟩]) rfl oY (vP hp129 r13 (mV _ (rfl:(iI pag x1)[5]?=some ([.string (ByteArray.mk ⟨[119,97,116,99,104]⟩),.func (.func 76) ⟨[]⟩ ⟨[.pointer (some (bK x1 0))]⟩]:List Value)))) rfl rfl)) bR)) fun a w_ hs m=>?_
  refine bZ hs m rL rfl fun p131 w132 m a hs=>?_
  refine bP hs m (dZ s0 (t:=nP)) fun a w133 hs m=>?_
  refine lU hs rfl (by simp [aJE (by assumption)]) ?_
  refine wp_exit ?_
  refine eK (wP rfl (eK (eK (lL (?_)))))
  refine aB ?_
  refine bT hs m (x_ gC (e_ (p_ (cN (eS (uD ag)))) (dZ s11 (t:=eZ)))) fun a w135 hs m=>?_
  refine bH hs (vs:=[.agg ⟨eS (uD ag)⟩]) rfl ⟨cZ (cs:=eS (uD ag)) m rfl pX r11 rfl,trivial⟩ ?_
  replace m:=(m.sub (a12 (a12 (a12 (a12 (a12 (a12 (a12 (a12 (a0 (a0 (a0 (a0 (a0 (a0 (a0 (a0 (a0 (a0 (a0 (a0 .n))))))))))))))))))))).closeAg (p:=pag) (A:=({ ag with opn:=uD ag }:hF))
  rw[(show ({ ag with opn:=uD ag }:hF)=jB ag now from nx (nq5 (by omega) (by assumption) (by assumption) (by assumption) (by assumption) (by assumption)))] at m
  exact⟨_,rfl,by rw[(show (uD ag:eH)=iM ag now from (nq5 (by omega) (by assumption) (by assumption) (by assumption) (by assumption) (by assumption)))];rfl,m.sub (a0 .n)⟩
 refine bT hs m (x_ gC (e_ (p_ (fA (r:=5) rfl rfl rfl)) eZ)) fun a w_ hs m=>?_
 refine iF ?_
 refine bT hs m (x_ eO (e_ (p_ (fB (v:=.bool true) rfl rfl rfl)) hQ)) fun a w_ hs m=>?_
 refine rY (c:=id) (e:=([.string (ByteArray.mk ⟨[119,97,116,99,104]⟩),.func (.func 76) ⟨[]⟩ ⟨[.pointer (some (bK x1 0))]⟩]:List Value)) hs m (x:=(.tmp 12)) (ix:=(.tmp 14)) rfl rfl wE oY r13 (by omega) rfl fun p139 hp140 ok141=>?_
 refine bP hs m (e_ (p_ (ok141 _ _ _ _ _)) (e_ (p_ (lM (vs:=[.string (ByteArray.mk ⟨[119,97,116,99,104]⟩),.func (.func 76) ⟨[]⟩ ⟨[.pointer (some (bK x1 0))]⟩]) rfl oY (vP hp140 r13 (mV _ (rfl:(iI pag x1)[5]?=some ([.string (ByteArray.mk ⟨[119,97,116,99,104]⟩),.func (.func 76) ⟨[]⟩ ⟨[.pointer (some (bK x1 0))]⟩]:List Value)))) rfl rfl)) bR)) fun a w_ hs m=>?_
 refine bZ hs m rL rfl fun p142 w143 m a hs=>?_
 refine bP hs m (dZ s0 (t:=nP)) fun a w144 hs m=>?_
 refine bV hs rfl h17 ?_
 refine bT hs m gX fun a w_ hs m=>?_
 refine cC hs m rfl rfl a3P rfl (aXL now x1 pag ag _ (lO r13 _ m) ⟨x1,x2,x3,x4,x5,x6,x7,(lO r12 _ m),(lO r13 _ m),(m.rdv r14),(m.rdv r15),(m.rdv r16),(m.rdv r17),(m.rdv r18),(m.rdv r19)⟩ ) rfl fun w146 m a hs=>?_
 refine bP hs m eZ fun a w_ hs m=>?_
 refine bZ hs m nC rfl fun p147 w148 m a hs=>?_
 refine bP hs m (dZ s0 (t:=x_ fW (e_ (p_ (cN (eS (pZ ag)))) (x_ iA (dZ s13 (t:=x_ gC (e_ (p_ (fA (r:=6) rfl rfl rfl)) eZ))))))) fun a w151 hs m=>?_
 refine iF ?_
 refine bT hs m (x_ eO (e_ (p_ (fB (v:=.bool false) rfl rfl rfl)) (x_ aBW (e_ (p_ (cN (eS (pZ ag)))) (dZ s12 (t:=eZ)))))) fun a w153 hs m=>?_
 refine bH hs (vs:=[.agg ⟨eS (pZ ag)⟩]) rfl ⟨cZ (cs:=eS (pZ ag)) m rfl pX r12 rfl,trivial⟩ ?_
 replace m:=(m.sub (a13 (a13 (a13 (a13 (a13 (a13 (a13 (a13 (a0 (a0 (a0 (a0 (a0 (a0 (a0 (a0 (a0 (a0 (a0 (a0 (a0 .n)))))))))))))))))))))).closeAg (p:=pag) (A:=({ ag with opn:=pZ ag }:hF))
 rw[(show ({ ag with opn:=pZ ag }:hF)=jB ag now from nx (nq6 (by omega) (by assumption) (by assumption) (by assumption) (by assumption) (by assumption)))] at m
 exact⟨_,rfl,by rw[(show (pZ ag:eH)=iM ag now from (nq6 (by omega) (by assumption) (by assumption) (by assumption) (by assumption) (by assumption)))];rfl,m.sub (a0 .n)⟩
end Go.Proofs.YtnbpodjbemfpbaaGreat.Fw
set_option linter.all false
set_option maxHeartbeats 4000000
set_option maxRecDepth 100000
namespace Go.Proofs.YtnbpodjbemfpbaaGreat.Fw
open Go
theorem jG (s:kA) (w0:World) (A1:wJ s=true):iL Tryz.prog 26 [.agg ⟨eB s⟩] (.tuple ⟨[(.pointer none),.int .i64 1]⟩) w0:=by
 refine enter (n:=46) Tryz.func26 rfl rfl rfl fun a (hs:St 46 [(0,.agg ⟨eB s⟩)] a)=>?_
 have m:=Hp.start w0
 refine bN ?_
 refine dU (cs:=eB s) hs m rfl rfl rfl fun p1 w2 m a hs=>?_
 refine bP hs m fW fun a w_ hs m=>?_
 refine jO (.c (.c (.c (.c (.n))))) hs m 12 (decide (s.Host.v<0)) (.bool ((decide (s.Host.v<0)) || (decide (s.Host.v>63)))) ?_
 rintro a w4 ⟨hs,m⟩
 refine bP hs m eO fun a w_ hs m=>?_
 refine jO (.c (.c (.c (.c (.n))))) hs m 17 ((decide (s.Host.v<0)) || (decide (s.Host.v>63))) (.bool (((decide (s.Host.v<0)) || (decide (s.Host.v>63))) || (decide (s.Renew.v<1)))) ?_
 rintro a w6 ⟨hs,m⟩
 refine bP hs m eO fun a w_ hs m=>?_
 refine jO (.c (.c (.c (.c (.n))))) hs m 22 (((decide (s.Host.v<0)) || (decide (s.Host.v>63))) || (decide (s.Renew.v<1))) (.bool ((((decide (s.Host.v<0)) || (decide (s.Host.v>63))) || (decide (s.Renew.v<1))) || (decide (s.Renew.v>1099511627776)))) ?_
 rintro a w8 ⟨hs,m⟩
 refine wpList_nil (aB ?_)
 refine lU hs rfl (by exact A1) ?_
 refine bT hs m gZ fun a w_ hs m=>?_
 refine bH hs (vs:=[(.pointer none),.int .i64 1]) rfl ⟨rfl,rfl,trivial⟩ ?_
 refine⟨?_,m.sub .n⟩
 rfl
theorem jW (s:kA) (w0:World) (A1:wJ s=false):Calls Tryz.prog 26 ⟨[.agg ⟨eB s⟩]⟩ w0 fun e w'=>∃ v,e= .returned v/\(∃ x0:Addr,v=(.tuple ⟨[.pointer (some (bK x0 0)),.int .i64 0]⟩)/\Hp w0 (hh w0) [tP x0 (qJ s)] w'):=by
 refine enter (n:=46) Tryz.func26 rfl rfl rfl fun a (hs:St 46 [(0,.agg ⟨eB s⟩)] a)=>?_
 have m:=Hp.start w0
 refine bN ?_
 refine dU (cs:=eB s) hs m rfl rfl rfl fun p1 w2 m a hs=>?_
 refine bP hs m fW fun a w_ hs m=>?_
 refine jO (.c (.c (.c (.c (.n))))) hs m 12 (decide (s.Host.v<0)) (.bool ((decide (s.Host.v<0)) || (decide (s.Host.v>63)))) ?_
 rintro a w4 ⟨hs,m⟩
 refine bP hs m eO fun a w_ hs m=>?_
 refine jO (.c (.c (.c (.c (.n))))) hs m 17 ((decide (s.Host.v<0)) || (decide (s.Host.v>63))) (.bool (((decide (s.Host.v<0)) || (decide (s.Host.v>63))) || (decide (s.Renew.v<1)))) ?_
 rintro a w6 ⟨hs,m⟩
 refine bP hs m eO fun a w_ hs m=>?_
 refine jO (.c (.c (.c (.c (.n))))) hs m 22 (((decide (s.Host.v<0)) || (decide (s.Host.v>63))) || (decide (s.Renew.v<1))) (.bool ((((decide (s.Host.v<0)) || (decide (s.Host.v>63))) || (decide (s.Renew.v<1))) || (decide (s.Renew.v>1099511627776)))) ?_
 rintro a w8 ⟨hs,m⟩
 refine wpList_nil (aB ?_)
 refine bV hs rfl (by exact A1) ?_
 refine bT hs m (x_ eZ (e_ (p_ (cN (eB s))) (e_ (p_ (bW (cs:=cAg s nilH.v nB false nilH.v nilH.v nilH.v nilH.v ⟨0,rfl⟩ true nilH.v false ⟨0,rfl⟩ false fM false false) a1T a2K rfl (by kernel_rfl))) bR))) fun a w_ hs m=>?_
 refine dU (cs:=cAg s nilH.v nB false nilH.v nilH.v nilH.v nilH.v ⟨0,rfl⟩ true nilH.v false ⟨0,rfl⟩ false fM false false) hs m rfl (by kernel_rfl) rfl fun p10 w11 m a hs=>?_
 refine bZ hs m a5F rfl fun p12 w13 m a hs=>?_
 refine bP hs m (dZ s0 (t:=x_ gC (e_ (p_ (oT (us:=[]) (vs:=[.pointer (some (bK p12 0))]) rfl rfl)) (e_ (p_ (bW (cs:=[.string (ByteArray.mk ⟨[100,117,109,112]⟩),.func (.func 71) ⟨[]⟩ ⟨[.pointer (some (bK p12 0))]⟩]) aGB rL rfl rfl)) (e_ (p_ (oT (us:=[]) (vs:=[.pointer (some (bK p12 0))]) rfl rfl)) (e_ (p_ (bW (cs:=[.string (ByteArray.mk ⟨[115,110,97,112,115,104,111,116]⟩),.func (.func 72) ⟨[]⟩ ⟨[.pointer (some (bK p12 0))]⟩]) aGB rL rfl rfl)) (x_ eO (e_ (p_ (oT (us:=[.pointer (some (bK p10 0))]) (vs:=[]) rfl rfl)) (e_ (p_ (bW (cs:=[.string (ByteArray.mk ⟨[107,101,114,110,101,108]⟩),.func (.func 73) ⟨[.pointer (some (bK p10 0))]⟩ ⟨[]⟩]) aGB rL rfl rfl)) (x_ eO (e_ (p_ (oT (us:=[.pointer (some (bK p10 0))]) (vs:=[]) rfl rfl)) (e_ (p_ (bW (cs:=[.string (ByteArray.mk ⟨[97,99,113,117,105,114,101]⟩),.func (.func 74) ⟨[.pointer (some (bK p10 0))]⟩ ⟨[]⟩]) aGB rL rfl rfl)) (x_ eO (e_ (p_ (oT (us:=[.pointer (some (bK p10 0))]) (vs:=[]) rfl rfl)) (e_ (p_ (bW (cs:=[.string (ByteArray.mk ⟨[114,101,110,101,119]⟩),.func (.func 75) ⟨[.pointer (some (bK p10 0))]⟩ ⟨[]⟩]) aGB rL rfl rfl)) (e_ (p_ (oT (us:=[]) (vs:=[.pointer (some (bK p12 0))]) rfl rfl)) (e_ (p_ (bW (cs:=[.string (ByteArray.mk ⟨[119,97,116,99,104]⟩),.func (.func 76) ⟨[]⟩ ⟨[.pointer (some (bK p12 0))]⟩]) aGB rL rfl rfl)) bR))))))))))))))))) fun a w14 hs m=>?_
 refine aNU (ys:=[[.string (ByteArray.mk ⟨[100,117,109,112]⟩),.func (.func 71) ⟨[]⟩ ⟨[.pointer (some (bK p12 0))]⟩],[.string (ByteArray.mk ⟨[115,110,97,112,115,104,111,116]⟩),.func (.func 72) ⟨[]⟩ ⟨[.pointer (some (bK p12 0))]⟩],[.string (ByteArray.mk ⟨[107,101,114,110,101,108]⟩),.func (.func 73) ⟨[.pointer (some (bK p10 0))]⟩ ⟨[]⟩],[.string (ByteArray.mk ⟨[97,99,113,117,105,114,101]⟩),.func (.func 74) ⟨[.pointer (some (bK p10 0))]⟩ ⟨[]⟩],[.string (ByteArray.mk ⟨[114,101,110,101,119]⟩),.func (.func 75) ⟨[.pointer (some (bK p10 0))]⟩ ⟨[]⟩],[.string (ByteArray.mk ⟨[119,97,116,99,104]⟩),.func (.func 76) ⟨[]⟩ ⟨[.pointer (some (bK p12 0))]⟩]]) hs m wE oY rL rfl rfl rfl rfl rfl rfl rfl rfl rfl fun v15 w16 m a hs=>?_
 refine bP hs m (x_ iA (dZ s2 (t:=hQ))) fun a w17 hs m=>?_
 refine bH hs (vs:=[.pointer (some (bK p10 0)),.int .i64 0]) rfl ⟨rfl,rfl,trivial⟩ ?_
 replace m:=m.nilSvM aM 4 51
 replace m:=m.nilSvM aS 7 54
 replace m:=m.nilSvM cB 7 56
 replace m:=m.nilSvM aV 12 48
 replace m:=m.nilSvM aO 2 44
 replace m:=(m.sub (a7 (a6 (a5 (a4 (a3 (a2 (a1 (a0 (a0 .n)))))))))).closeAg (p:=p10) (A:=(⟨s,nB,false,([]:List bD),([]:List bA),([]:List cH),([]:List TLease),⟨0,rfl⟩,true,([]:List aT),false,⟨0,rfl⟩,false,fM,false,false⟩:hF))
 rw[(show (⟨s,nB,false,([]:List bD),([]:List bA),([]:List cH),([]:List TLease),⟨0,rfl⟩,true,([]:List aT),false,⟨0,rfl⟩,false,fM,false,false⟩:hF)=qJ s by(rfl))] at m
 refine⟨_,rfl,p10,?_,m.sub (a0 .n)⟩
 rfl
end Go.Proofs.YtnbpodjbemfpbaaGreat.Fw
set_option linter.all false
set_option maxHeartbeats 100000000
set_option maxRecDepth 100000
namespace Go.Proofs.YtnbpodjbemfpbaaGreat.Fw
open Go
theorem aAR (w0:World):iL Tryz.prog 10 [] (.bool true) w0:=by
 refine enter (n:=65) Tryz.func10 rfl rfl rfl fun a (hs:St 65 [] a)=>?_
 have m:=Hp.start w0
 refine bT hs m (x_ gI (e_ (p_ (bW (cs:=eB (⟨⟨2,rfl⟩,⟨9,rfl⟩,kG,⟨5,rfl⟩⟩:kA)) aYF a5E rfl rfl)) bR)) fun a w_ hs m=>?_
 refine fH m hs nA (jW (⟨⟨2,rfl⟩,⟨9,rfl⟩,kG,⟨5,rfl⟩⟩:kA) _  (by kernel_rfl)) fun v1 w2 m a hs=>?_
 simp only[iG] at m
 refine bP hs m (x_ fW (e_ (p_ (iJ rfl rfl tZ)) (x_ iA (e_ (dV rfl (fB (v:=.bool false) rfl rfl rfl)) (e_ (p_ (aP (r:=.bool false) rfl rfl rfl rfl)) gZ))))) fun a w_ hs m=>?_
 refine eW 1 (m.sub (a0 .n)) hs aR1 (fun R1 hR ⟨y1,sy,ly⟩ mc=>aHB v1 (qJ (⟨⟨2,rfl⟩,⟨9,rfl⟩,kG,⟨5,rfl⟩⟩:kA)) 0 _ R1  (by exact Nat.le_of_ble_eq_true (by kernel_rfl)) (by exact Nat.le_of_ble_eq_true (by kernel_rfl)) (by exact Nat.le_of_ble_eq_true (by kernel_rfl)) (by exact Nat.le_of_ble_eq_true (by kernel_rfl)) mc) fun w4 m a hs=>?_
 simp only[iG] at m
 refine bZ hs m nC rfl fun p5 w6 m a hs=>?_
 refine bP hs m (dZ s0 (t:=lA)) fun a w7 hs m=>?_
 have hb8:((((iM (qJ (⟨⟨2,rfl⟩,⟨9,rfl⟩,kG,⟨5,rfl⟩⟩:kA)) 0).Kind).v) !=1)=false:=by kernel_rfl
 refine bP hs m (x_ eO (e_ (dV hb8 (bW (cs:=sY ⟨0,rfl⟩ (⟨⟨0,rfl⟩,eG,⟨0,rfl⟩,⟨0,rfl⟩⟩:fC) ⟨0,rfl⟩ ⟨0,rfl⟩ nilH.v nilH.v nilH.v nilH.v nilH.v) a1W aYM rfl (by kernel_rfl))) bR)) fun a w_ hs m=>?_
 refine kU hs rfl rfl hb8 ?_
 refine eW 1 (m.sub (a1 (a0 .n))) hs aVC (fun R1 hR ⟨y1,sy,ly⟩ mc=>aKO v1 (jB (qJ (⟨⟨2,rfl⟩,⟨9,rfl⟩,kG,⟨5,rfl⟩⟩:kA)) 0) ⟨0,rfl⟩ (⟨⟨0,rfl⟩,eG,⟨0,rfl⟩,⟨0,rfl⟩⟩:fC) ⟨0,rfl⟩ ⟨0,rfl⟩ nilH ([]:List TLease) nilH ([]:List TEvent) nilH ([]:List bD) nilH ([]:List bA) nilH ([]:List cH) _ R1 (RdS.nil _ _) (RdS.nil _ _) (RdS.nil _ _) (RdS.nil _ _) (RdS.nil _ _) (by exact Nat.le_of_ble_eq_true (by kernel_rfl)) (by exact Nat.le_of_ble_eq_true (by kernel_rfl)) (by exact Nat.le_of_ble_eq_true (by kernel_rfl)) (by exact Nat.le_of_ble_eq_true (by kernel_rfl)) (by exact Nat.le_of_ble_eq_true (by kernel_rfl)) (by exact Nat.le_of_ble_eq_true (by kernel_rfl)) (by exact Nat.le_of_ble_eq_true (by kernel_rfl)) (by exact Nat.le_of_ble_eq_true (by kernel_rfl)) (by exact Nat.le_of_ble_eq_true (by kernel_rfl)) (by exact Nat.le_of_ble_eq_true (by kernel_rfl)) mc) fun w9 m a hs=>?_
 simp only[iG] at m
 refine bP hs m (x_ eO (e_ (p_ (aP (r:=.bool ((sW (jB (qJ (⟨⟨2,rfl⟩,⟨9,rfl⟩,kG,⟨5,rfl⟩⟩:kA)) 0) (⟨⟨0,rfl⟩,(⟨⟨0,rfl⟩,eG,⟨0,rfl⟩,⟨0,rfl⟩⟩:fC),⟨0,rfl⟩,⟨0,rfl⟩,[],[],[],[],[]⟩:pT)) !=0)) rfl rfl rfl (by rw[hb8];rfl))) iA)) fun a w_ hs m=>?_
 refine bV hs rfl (by kernel_rfl) ?_
 refine bT hs m gC fun a w_ hs m=>?_
 refine eW 1 (m.sub (a0 (a0 .n))) hs aR1 (fun R1 hR ⟨y1,sy,ly⟩ mc=>aHB v1 (jT (jB (qJ (⟨⟨2,rfl⟩,⟨9,rfl⟩,kG,⟨5,rfl⟩⟩:kA)) 0) (⟨⟨0,rfl⟩,(⟨⟨0,rfl⟩,eG,⟨0,rfl⟩,⟨0,rfl⟩⟩:fC),⟨0,rfl⟩,⟨0,rfl⟩,[],[],[],[],[]⟩:pT)) 0 _ R1  (by exact Nat.le_of_ble_eq_true (by kernel_rfl)) (by exact Nat.le_of_ble_eq_true (by kernel_rfl)) (by exact Nat.le_of_ble_eq_true (by kernel_rfl)) (by exact Nat.le_of_ble_eq_true (by kernel_rfl)) mc) fun w11 m a hs=>?_
 simp only[iG] at m
 refine bP hs m (dZ s1 (t:=x_ lA (e_ (p_ (bW (cs:=aO (⟨⟨167772416,rfl⟩,⟨24,rfl⟩⟩:aT)) a1V uM rfl rfl)) (e_ (p_ (yA (cs:=mU (⟨⟨2,rfl⟩,⟨0,rfl⟩,⟨0,rfl⟩,⟨0,rfl⟩,⟨0,rfl⟩,⟨1,rfl⟩⟩:cK)) xL ty5 a2M rfl rfl)) (e_ (p_ (bW (cs:=aV (⟨⟨1,rfl⟩,(⟨⟨167772416,rfl⟩,⟨24,rfl⟩⟩:aT),⟨8,rfl⟩,(⟨⟨2,rfl⟩,⟨0,rfl⟩,⟨0,rfl⟩,⟨0,rfl⟩,⟨0,rfl⟩,⟨1,rfl⟩⟩:cK),⟨0,rfl⟩,⟨0,rfl⟩⟩:TLease)) aYE mY rfl (by kernel_rfl))) bR))))) fun a w12 hs m=>?_
 refine dK (c:=aV) (ys:=[(⟨⟨1,rfl⟩,(⟨⟨167772416,rfl⟩,⟨24,rfl⟩⟩:aT),⟨8,rfl⟩,(⟨⟨2,rfl⟩,⟨0,rfl⟩,⟨0,rfl⟩,⟨0,rfl⟩,⟨0,rfl⟩,⟨1,rfl⟩⟩:cK),⟨0,rfl⟩,⟨0,rfl⟩⟩:TLease)]) hs m eR fZ mY rfl rfl rfl rfl rfl (fun _=>rfl) rfl rfl rfl fun v13 w14 m a hs=>?_
 replace m:=m.nilSvM aV 12 48
 refine cF (c:=aV) (xs:=[]) (ys:=[(⟨⟨1,rfl⟩,(⟨⟨167772416,rfl⟩,⟨24,rfl⟩⟩:aT),⟨8,rfl⟩,(⟨⟨2,rfl⟩,⟨0,rfl⟩,⟨0,rfl⟩,⟨0,rfl⟩,⟨0,rfl⟩,⟨1,rfl⟩⟩:cK),⟨0,rfl⟩,⟨0,rfl⟩⟩:TLease)]) hs m rfl rfl eR xF fZ mY rfl vN rfl r0 (m.rdv r1) (fun _=>rfl) (by simp) rfl fun v15 w17 m a hs=>?_
 refine bP hs m hQ fun a w_ hs m=>?_
 have hb18:((((iM (jT (jB (qJ (⟨⟨2,rfl⟩,⟨9,rfl⟩,kG,⟨5,rfl⟩⟩:kA)) 0) (⟨⟨0,rfl⟩,(⟨⟨0,rfl⟩,eG,⟨0,rfl⟩,⟨0,rfl⟩⟩:fC),⟨0,rfl⟩,⟨0,rfl⟩,[],[],[],[],[]⟩:pT)) 0).Kind).v) !=2)=false:=by kernel_rfl
 refine bP hs m (x_ iA (e_ (dV hb18 (bW (cs:=[.int .i64 4,.int .i64 0,v15.v]) a41 a5G rfl rfl)) (e_ (dV hb18 (bW (cs:=sY ⟨0,rfl⟩ (⟨⟨0,rfl⟩,eG,⟨0,rfl⟩,⟨0,rfl⟩⟩:fC) ⟨4,rfl⟩ ⟨0,rfl⟩ v15.v nilH.v nilH.v nilH.v nilH.v) a1W aYM rfl (by kernel_rfl))) bR))) fun a w_ hs m=>?_
 refine kU hs rfl rfl hb18 ?_
 refine eW 1 (m.sub (a2 (a0 (a0 (a0 .n))))) hs aVC (fun R1 hR ⟨y1,sy,ly⟩ mc=>aKO v1 (jB (jT (jB (qJ (⟨⟨2,rfl⟩,⟨9,rfl⟩,kG,⟨5,rfl⟩⟩:kA)) 0) (⟨⟨0,rfl⟩,(⟨⟨0,rfl⟩,eG,⟨0,rfl⟩,⟨0,rfl⟩⟩:fC),⟨0,rfl⟩,⟨0,rfl⟩,[],[],[],[],[]⟩:pT)) 0) ⟨0,rfl⟩ (⟨⟨0,rfl⟩,eG,⟨0,rfl⟩,⟨0,rfl⟩⟩:fC) ⟨4,rfl⟩ ⟨0,rfl⟩ v15 [(⟨⟨1,rfl⟩,(⟨⟨167772416,rfl⟩,⟨24,rfl⟩⟩:aT),⟨8,rfl⟩,(⟨⟨2,rfl⟩,⟨0,rfl⟩,⟨0,rfl⟩,⟨0,rfl⟩,⟨0,rfl⟩,⟨1,rfl⟩⟩:cK),⟨0,rfl⟩,⟨0,rfl⟩⟩:TLease)] nilH ([]:List TEvent) nilH ([]:List bD) nilH ([]:List bA) nilH ([]:List cH) _ R1 (aCJ sy ly r0) (RdS.nil _ _) (RdS.nil _ _) (RdS.nil _ _) (RdS.nil _ _) (by exact Nat.le_of_ble_eq_true (by kernel_rfl)) (by exact Nat.le_of_ble_eq_true (by kernel_rfl)) (by exact Nat.le_of_ble_eq_true (by kernel_rfl)) (by exact Nat.le_of_ble_eq_true (by kernel_rfl)) (by exact Nat.le_of_ble_eq_true (by kernel_rfl)) (by exact Nat.le_of_ble_eq_true (by kernel_rfl)) (by exact Nat.le_of_ble_eq_true (by kernel_rfl)) (by exact Nat.le_of_ble_eq_true (by kernel_rfl)) (by exact Nat.le_of_ble_eq_true (by kernel_rfl)) (by exact Nat.le_of_ble_eq_true (by kernel_rfl)) mc) fun w19 m a hs=>?_
 simp only[iG] at m
 refine bP hs m (x_ eO (e_ (p_ (aP (r:=.bool ((sW (jB (jT (jB (qJ (⟨⟨2,rfl⟩,⟨9,rfl⟩,kG,⟨5,rfl⟩⟩:kA)) 0) (⟨⟨0,rfl⟩,(⟨⟨0,rfl⟩,eG,⟨0,rfl⟩,⟨0,rfl⟩⟩:fC),⟨0,rfl⟩,⟨0,rfl⟩,[],[],[],[],[]⟩:pT)) 0) (⟨⟨0,rfl⟩,(⟨⟨0,rfl⟩,eG,⟨0,rfl⟩,⟨0,rfl⟩⟩:fC),⟨4,rfl⟩,⟨0,rfl⟩,[(⟨⟨1,rfl⟩,(⟨⟨167772416,rfl⟩,⟨24,rfl⟩⟩:aT),⟨8,rfl⟩,(⟨⟨2,rfl⟩,⟨0,rfl⟩,⟨0,rfl⟩,⟨0,rfl⟩,⟨0,rfl⟩,⟨1,rfl⟩⟩:cK),⟨0,rfl⟩,⟨0,rfl⟩⟩:TLease)],[],[],[],[]⟩:pT)) !=0)) rfl rfl rfl (by rw[hb18];rfl))) iA)) fun a w_ hs m=>?_
 refine bV hs rfl (by kernel_rfl) ?_
 refine bT hs m gC fun a w_ hs m=>?_
 refine eW 1 (m.sub (a0 (a0 (a0 (a0 .n))))) hs aR1 (fun R1 hR ⟨y1,sy,ly⟩ mc=>aHB v1 (jT (jB (jT (jB (qJ (⟨⟨2,rfl⟩,⟨9,rfl⟩,kG,⟨5,rfl⟩⟩:kA)) 0) (⟨⟨0,rfl⟩,(⟨⟨0,rfl⟩,eG,⟨0,rfl⟩,⟨0,rfl⟩⟩:fC),⟨0,rfl⟩,⟨0,rfl⟩,[],[],[],[],[]⟩:pT)) 0) (⟨⟨0,rfl⟩,(⟨⟨0,rfl⟩,eG,⟨0,rfl⟩,⟨0,rfl⟩⟩:fC),⟨4,rfl⟩,⟨0,rfl⟩,[(⟨⟨1,rfl⟩,(⟨⟨167772416,rfl⟩,⟨24,rfl⟩⟩:aT),⟨8,rfl⟩,(⟨⟨2,rfl⟩,⟨0,rfl⟩,⟨0,rfl⟩,⟨0,rfl⟩,⟨0,rfl⟩,⟨1,rfl⟩⟩:cK),⟨0,rfl⟩,⟨0,rfl⟩⟩:TLease)],[],[],[],[]⟩:pT)) 0 _ R1  (by exact Nat.le_of_ble_eq_true (by kernel_rfl)) (by exact Nat.le_of_ble_eq_true (by kernel_rfl)) (by exact Nat.le_of_ble_eq_true (by kernel_rfl)) (by exact Nat.le_of_ble_eq_true (by kernel_rfl)) mc) fun w21 m a hs=>?_
 simp only[iG] at m
 refine bP hs m (dZ s3 (t:=gZ)) fun a w22 hs m=>?_
 have hb23:((((iM (jT (jB (jT (jB (qJ (⟨⟨2,rfl⟩,⟨9,rfl⟩,kG,⟨5,rfl⟩⟩:kA)) 0) (⟨⟨0,rfl⟩,(⟨⟨0,rfl⟩,eG,⟨0,rfl⟩,⟨0,rfl⟩⟩:fC),⟨0,rfl⟩,⟨0,rfl⟩,[],[],[],[],[]⟩:pT)) 0) (⟨⟨0,rfl⟩,(⟨⟨0,rfl⟩,eG,⟨0,rfl⟩,⟨0,rfl⟩⟩:fC),⟨4,rfl⟩,⟨0,rfl⟩,[(⟨⟨1,rfl⟩,(⟨⟨167772416,rfl⟩,⟨24,rfl⟩⟩:aT),⟨8,rfl⟩,(⟨⟨2,rfl⟩,⟨0,rfl⟩,⟨0,rfl⟩,⟨0,rfl⟩,⟨0,rfl⟩,⟨1,rfl⟩⟩:cK),⟨0,rfl⟩,⟨0,rfl⟩⟩:TLease)],[],[],[],[]⟩:pT)) 0).Kind).v)==3)=true:=by kernel_rfl
 refine bP hs m (x_ gC (e_ (p_ (aP (r:=.bool (((((iM (jT (jB (jT (jB (qJ (⟨⟨2,rfl⟩,⟨9,rfl⟩,kG,⟨5,rfl⟩⟩:kA)) 0) (⟨⟨0,rfl⟩,(⟨⟨0,rfl⟩,eG,⟨0,rfl⟩,⟨0,rfl⟩⟩:fC),⟨0,rfl⟩,⟨0,rfl⟩,[],[],[],[],[]⟩:pT)) 0) (⟨⟨0,rfl⟩,(⟨⟨0,rfl⟩,eG,⟨0,rfl⟩,⟨0,rfl⟩⟩:fC),⟨4,rfl⟩,⟨0,rfl⟩,[(⟨⟨1,rfl⟩,(⟨⟨167772416,rfl⟩,⟨24,rfl⟩⟩:aT),⟨8,rfl⟩,(⟨⟨2,rfl⟩,⟨0,rfl⟩,⟨0,rfl⟩,⟨0,rfl⟩,⟨0,rfl⟩,⟨1,rfl⟩⟩:cK),⟨0,rfl⟩,⟨0,rfl⟩⟩:TLease)],[],[],[],[]⟩:pT)) 0).Op).Kind).v)==5)) rfl rfl rfl (by rw[hb23];rfl))) eO)) fun a w_ hs m=>?_
 have hb24:(((((iM (jT (jB (jT (jB (qJ (⟨⟨2,rfl⟩,⟨9,rfl⟩,kG,⟨5,rfl⟩⟩:kA)) 0) (⟨⟨0,rfl⟩,(⟨⟨0,rfl⟩,eG,⟨0,rfl⟩,⟨0,rfl⟩⟩:fC),⟨0,rfl⟩,⟨0,rfl⟩,[],[],[],[],[]⟩:pT)) 0) (⟨⟨0,rfl⟩,(⟨⟨0,rfl⟩,eG,⟨0,rfl⟩,⟨0,rfl⟩⟩:fC),⟨4,rfl⟩,⟨0,rfl⟩,[(⟨⟨1,rfl⟩,(⟨⟨167772416,rfl⟩,⟨24,rfl⟩⟩:aT),⟨8,rfl⟩,(⟨⟨2,rfl⟩,⟨0,rfl⟩,⟨0,rfl⟩,⟨0,rfl⟩,⟨0,rfl⟩,⟨1,rfl⟩⟩:cK),⟨0,rfl⟩,⟨0,rfl⟩⟩:TLease)],[],[],[],[]⟩:pT)) 0).Op).Kind).v)==5)=true:=by kernel_rfl
 refine bP hs m (x_ iA (e_ (dV hb24 (cN (cB (((iM (jT (jB (jT (jB (qJ (⟨⟨2,rfl⟩,⟨9,rfl⟩,kG,⟨5,rfl⟩⟩:kA)) 0) (⟨⟨0,rfl⟩,(⟨⟨0,rfl⟩,eG,⟨0,rfl⟩,⟨0,rfl⟩⟩:fC),⟨0,rfl⟩,⟨0,rfl⟩,[],[],[],[],[]⟩:pT)) 0) (⟨⟨0,rfl⟩,(⟨⟨0,rfl⟩,eG,⟨0,rfl⟩,⟨0,rfl⟩⟩:fC),⟨4,rfl⟩,⟨0,rfl⟩,[(⟨⟨1,rfl⟩,(⟨⟨167772416,rfl⟩,⟨24,rfl⟩⟩:aT),⟨8,rfl⟩,(⟨⟨2,rfl⟩,⟨0,rfl⟩,⟨0,rfl⟩,⟨0,rfl⟩,⟨0,rfl⟩,⟨1,rfl⟩⟩:cK),⟨0,rfl⟩,⟨0,rfl⟩⟩:TLease)],[],[],[],[]⟩:pT)) 0).Op).Fdb)))) (e_ (dV hb24 (yA (cs:=mU (⟨⟨2,rfl⟩,⟨0,rfl⟩,⟨0,rfl⟩,⟨0,rfl⟩,⟨0,rfl⟩,⟨1,rfl⟩⟩:cK)) xL ty5 a2M rfl rfl)) (e_ (dV hb24 (bW (cs:=cB (⟨(⟨⟨2,rfl⟩,⟨0,rfl⟩,⟨0,rfl⟩,⟨0,rfl⟩,⟨0,rfl⟩,⟨1,rfl⟩⟩:cK),⟨8,rfl⟩⟩:cH)) aN2 lS rfl rfl)) (e_ (dV hb24 (mP (b:=decide (((iM (jT (jB (jT (jB (qJ (⟨⟨2,rfl⟩,⟨9,rfl⟩,kG,⟨5,rfl⟩⟩:kA)) 0) (⟨⟨0,rfl⟩,(⟨⟨0,rfl⟩,eG,⟨0,rfl⟩,⟨0,rfl⟩⟩:fC),⟨0,rfl⟩,⟨0,rfl⟩,[],[],[],[],[]⟩:pT)) 0) (⟨⟨0,rfl⟩,(⟨⟨0,rfl⟩,eG,⟨0,rfl⟩,⟨0,rfl⟩⟩:fC),⟨4,rfl⟩,⟨0,rfl⟩,[(⟨⟨1,rfl⟩,(⟨⟨167772416,rfl⟩,⟨24,rfl⟩⟩:aT),⟨8,rfl⟩,(⟨⟨2,rfl⟩,⟨0,rfl⟩,⟨0,rfl⟩,⟨0,rfl⟩,⟨0,rfl⟩,⟨1,rfl⟩⟩:cK),⟨0,rfl⟩,⟨0,rfl⟩⟩:TLease)],[],[],[],[]⟩:pT)) 0).Op).Fdb=(⟨(⟨⟨2,rfl⟩,⟨0,rfl⟩,⟨0,rfl⟩,⟨0,rfl⟩,⟨0,rfl⟩,⟨1,rfl⟩⟩:cK),⟨8,rfl⟩⟩:cH))) rfl rfl aL2 (aII _) (aII _) (aSE (((iM (jT (jB (jT (jB (qJ (⟨⟨2,rfl⟩,⟨9,rfl⟩,kG,⟨5,rfl⟩⟩:kA)) 0) (⟨⟨0,rfl⟩,(⟨⟨0,rfl⟩,eG,⟨0,rfl⟩,⟨0,rfl⟩⟩:fC),⟨0,rfl⟩,⟨0,rfl⟩,[],[],[],[],[]⟩:pT)) 0) (⟨⟨0,rfl⟩,(⟨⟨0,rfl⟩,eG,⟨0,rfl⟩,⟨0,rfl⟩⟩:fC),⟨4,rfl⟩,⟨0,rfl⟩,[(⟨⟨1,rfl⟩,(⟨⟨167772416,rfl⟩,⟨24,rfl⟩⟩:aT),⟨8,rfl⟩,(⟨⟨2,rfl⟩,⟨0,rfl⟩,⟨0,rfl⟩,⟨0,rfl⟩,⟨0,rfl⟩,⟨1,rfl⟩⟩:cK),⟨0,rfl⟩,⟨0,rfl⟩⟩:TLease)],[],[],[],[]⟩:pT)) 0).Op).Fdb) (⟨(⟨⟨2,rfl⟩,⟨0,rfl⟩,⟨0,rfl⟩,⟨0,rfl⟩,⟨0,rfl⟩,⟨1,rfl⟩⟩:cK),⟨8,rfl⟩⟩:cH)))) (e_ (p_ (aP (r:=.bool (decide (((iM (jT (jB (jT (jB (qJ (⟨⟨2,rfl⟩,⟨9,rfl⟩,kG,⟨5,rfl⟩⟩:kA)) 0) (⟨⟨0,rfl⟩,(⟨⟨0,rfl⟩,eG,⟨0,rfl⟩,⟨0,rfl⟩⟩:fC),⟨0,rfl⟩,⟨0,rfl⟩,[],[],[],[],[]⟩:pT)) 0) (⟨⟨0,rfl⟩,(⟨⟨0,rfl⟩,eG,⟨0,rfl⟩,⟨0,rfl⟩⟩:fC),⟨4,rfl⟩,⟨0,rfl⟩,[(⟨⟨1,rfl⟩,(⟨⟨167772416,rfl⟩,⟨24,rfl⟩⟩:aT),⟨8,rfl⟩,(⟨⟨2,rfl⟩,⟨0,rfl⟩,⟨0,rfl⟩,⟨0,rfl⟩,⟨0,rfl⟩,⟨1,rfl⟩⟩:cK),⟨0,rfl⟩,⟨0,rfl⟩⟩:TLease)],[],[],[],[]⟩:pT)) 0).Op).Fdb=(⟨(⟨⟨2,rfl⟩,⟨0,rfl⟩,⟨0,rfl⟩,⟨0,rfl⟩,⟨0,rfl⟩,⟨1,rfl⟩⟩:cK),⟨8,rfl⟩⟩:cH)))) rfl rfl rfl (by rw[hb24];rfl))) gC)))))) fun a w_ hs m=>?_
 refine bH hs (vs:=[.bool (decide (((iM (jT (jB (jT (jB (qJ (⟨⟨2,rfl⟩,⟨9,rfl⟩,kG,⟨5,rfl⟩⟩:kA)) 0) (⟨⟨0,rfl⟩,(⟨⟨0,rfl⟩,eG,⟨0,rfl⟩,⟨0,rfl⟩⟩:fC),⟨0,rfl⟩,⟨0,rfl⟩,[],[],[],[],[]⟩:pT)) 0) (⟨⟨0,rfl⟩,(⟨⟨0,rfl⟩,eG,⟨0,rfl⟩,⟨0,rfl⟩⟩:fC),⟨4,rfl⟩,⟨0,rfl⟩,[(⟨⟨1,rfl⟩,(⟨⟨167772416,rfl⟩,⟨24,rfl⟩⟩:aT),⟨8,rfl⟩,(⟨⟨2,rfl⟩,⟨0,rfl⟩,⟨0,rfl⟩,⟨0,rfl⟩,⟨0,rfl⟩,⟨1,rfl⟩⟩:cK),⟨0,rfl⟩,⟨0,rfl⟩⟩:TLease)],[],[],[],[]⟩:pT)) 0).Op).Fdb=(⟨(⟨⟨2,rfl⟩,⟨0,rfl⟩,⟨0,rfl⟩,⟨0,rfl⟩,⟨0,rfl⟩,⟨1,rfl⟩⟩:cK),⟨8,rfl⟩⟩:cH)))]) rfl ⟨rfl,trivial⟩ ?_
 exact⟨by rw[(show (decide (((iM (jT (jB (jT (jB (qJ (⟨⟨2,rfl⟩,⟨9,rfl⟩,kG,⟨5,rfl⟩⟩:kA)) 0) (⟨⟨0,rfl⟩,(⟨⟨0,rfl⟩,eG,⟨0,rfl⟩,⟨0,rfl⟩⟩:fC),⟨0,rfl⟩,⟨0,rfl⟩,[],[],[],[],[]⟩:pT)) 0) (⟨⟨0,rfl⟩,(⟨⟨0,rfl⟩,eG,⟨0,rfl⟩,⟨0,rfl⟩⟩:fC),⟨4,rfl⟩,⟨0,rfl⟩,[(⟨⟨1,rfl⟩,(⟨⟨167772416,rfl⟩,⟨24,rfl⟩⟩:aT),⟨8,rfl⟩,(⟨⟨2,rfl⟩,⟨0,rfl⟩,⟨0,rfl⟩,⟨0,rfl⟩,⟨0,rfl⟩,⟨1,rfl⟩⟩:cK),⟨0,rfl⟩,⟨0,rfl⟩⟩:TLease)],[],[],[],[]⟩:pT)) 0).Op).Fdb=(⟨(⟨⟨2,rfl⟩,⟨0,rfl⟩,⟨0,rfl⟩,⟨0,rfl⟩,⟨0,rfl⟩,⟨1,rfl⟩⟩:cK),⟨8,rfl⟩⟩:cH)):Bool)=true by(kernel_rfl))];rfl,m.sub .n⟩
end Go.Proofs.YtnbpodjbemfpbaaGreat.Fw
set_option linter.all false
set_option maxHeartbeats 4000000
set_option maxRecDepth 100000
namespace Go.Proofs.YtnbpodjbemfpbaaGreat.Fw
open Go
theorem aLF (aGM:Bool) (sE:TLease) (uH:Fx .i64) (uI:Bool) (qA:Bool) (tM:SH) (nM:List TLease) (uF:SH) (oF:List aT) (mI:SH) (oE:List bD) (mH:SH) (oD:List bA) (nU:SH) (qH:List cH) (aGN:Bool) (sG:TLease) (uJ:Fx .i64) (uL:Bool) (qB:Bool) (tN:SH) (uK:List TLease) (uG:SH) (zB:List aT) (mK:SH) (oH:List bD) (mJ:SH) (oG:List bA) (nV:SH) (qI:List cH) (w0:World) (aFU:RdS (hh w0) 12 tM.v (nM.map aV)) (wR:RdS (hh w0) 2 uF.v (oF.map aO)) (xS:RdS (hh w0) 4 mI.v (oE.map aM)) (xR:RdS (hh w0) 7 mH.v (oD.map aS)) (aA3:RdS (hh w0) 7 nU.v (qH.map cB)) (aFV:RdS (hh w0) 12 tN.v (uK.map aV)) (zU:RdS (hh w0) 2 uG.v (zB.map aO)) (xU:RdS (hh w0) 4 mK.v (oH.map aM)) (xT:RdS (hh w0) 7 mJ.v (oG.map aS)) (aA4:RdS (hh w0) 7 nV.v (qI.map cB)) (E0:aGN=aGM) (E1:sG=sE) (E2:uJ=uH) (E3:uL=uI) (E4:qB=qA) (E5:uK=nM) (E6:zB=oF) (E7:oH=oE) (E8:oG=oD) (E9:qI=qH):iL Tryz.prog 33 [.agg ⟨sZ aGM sE uH uI qA tM.v uF.v mI.v mH.v nU.v⟩,.agg ⟨sZ aGN sG uJ uL qB tN.v uG.v mK.v mJ.v nV.v⟩] (.bool true) w0:=by
 have aXD:=aFU.bd
 have aUF:=wR.bd
 have aOJ:=xS.bd
 have aOI:=xR.bd
 have aRO:=aA3.bd
 have aXE:=aFV.bd
 have aUG:=zU.bd
 have aOL:=xU.bd
 have aOK:=xT.bd
 have aRP:=aA4.bd
 refine enter (n:=82) Tryz.func33 rfl rfl rfl fun a (hs:St 82 [(0,.agg ⟨sZ aGM sE uH uI qA tM.v uF.v mI.v mH.v nU.v⟩),(1,.agg ⟨sZ aGN sG uJ uL qB tN.v uG.v mK.v mJ.v nV.v⟩)] a)=>?_
 have m:=Hp.start w0
 refine bN ?_
 refine dU (cs:=sZ aGM sE uH uI qA tM.v uF.v mI.v mH.v nU.v) hs m rfl (by kernel_rfl) rfl fun p1 w2 m a hs=>?_
 refine dU (cs:=sZ aGN sG uJ uL qB tN.v uG.v mK.v mJ.v nV.v) hs m rfl (by kernel_rfl) rfl fun p3 w4 m a hs=>?_
 refine bP hs m (x_ hQ (e_ (p_ (tY rfl rfl zM)) eO)) fun a w_ hs m=>?_
 have hb5:(aGM !=aGN)=false:=by simp [E0]
 refine bP hs m (x_ eO (e_ (dV hb5 (cN (aV sE))) (x_ eO (e_ (dV hb5 (cN (aV sG))) (e_ (dV hb5 (sS (b:=decide (sE=sG)) rfl rfl aUB (aGY _) (aGY _) (aPR sE sG))) (e_ (p_ (aP (r:=.bool (!(decide (sE=sG)))) rfl rfl rfl (by rw[hb5];rfl))) eO)))))) fun a w_ hs m=>?_
 have hb6:(!(decide (sE=sG)))=false:=by simp [E1]
 refine bP hs m (x_ gI (e_ (p_ (aP (r:=.bool (uH.v !=uJ.v)) rfl rfl rfl (by rw[hb6];rfl))) eO)) fun a w_ hs m=>?_
 have hb7:(uH.v !=uJ.v)=false:=by simp [E2]
 refine bP hs m (x_ gC (e_ (dV hb7 (tY rfl rfl zM)) (e_ (p_ (aP (r:=.bool (uI !=uL)) rfl rfl rfl (by rw[hb7];rfl))) eO))) fun a w_ hs m=>?_
 have hb8:(uI !=uL)=false:=by simp [E3]
 refine bP hs m (x_ gC (e_ (dV hb8 (tY rfl rfl zM)) (e_ (p_ (aP (r:=.bool (qA !=qB)) rfl rfl rfl (by rw[hb8];rfl))) eO))) fun a w_ hs m=>?_
 have hb9:(qA !=qB)=false:=by simp [E4]
 refine bP hs m (x_ iA (e_ (dV hb9 (bQ m rfl hY (dX wR))) (x_ iA (e_ (dV hb9 (bQ m rfl hY (dX zU))) (x_ eO (e_ (p_ (aP (r:=.bool ((oF.length:Int) !=(zB.length:Int))) rfl rfl rfl (by rw[hb9];rfl))) iA)))))) fun a w_ hs m=>?_
 refine bV hs rfl (by simp [E6]) ?_
 refine bT hs m lA fun a w_ hs m=>?_
 refine wp_loop_ghost (fun gn a w=>∃ k:Nat,(k<=oF.length)/\gn=oF.length-k/\St 82 [(2,.pointer (some (bK p1 0))),(3,.pointer (some (bK p3 0))),(5,.int .i64 (k:Int))] a/\Hp w0 (hh w0) [Bx p1 84 (sZ aGM sE uH uI qA tM.v uF.v mI.v mH.v nU.v),Bx p3 84 (sZ aGN sG uJ uL qB tN.v uG.v mK.v mJ.v nV.v)] w) (oF.length-0) ⟨0,by omega,rfl,hs.to ⟨rfl,rfl,rfl,trivial⟩,m.sub (a1 (a0 .n))⟩ ?_
 rintro gn a w11 ⟨k,hk,rfl,hs,m⟩
 have hE6:=congrArg List.length E6
 refine bT hs m (x_ gI (e_ (p_ (bQ m rfl hY (dX wR))) eZ)) fun a w_ hs m=>?_
 refine aR hs rfl (fun h12=>?_) (fun h12=>?_)
 rotate_left
 ·have h12p:=of_decide_eq_false h12
  refine bT hs m fW fun a w_ hs m=>?_
  refine cC hs m rfl rfl aZT rfl (aBN tM nM tN uK _ (m.rd aFU) (m.rd aFV) ) rfl fun w13 m a hs=>?_
  refine bP hs m (x_ gI (e_ (p_ (cN [mI.v,mH.v,nU.v])) (x_ eO (e_ (p_ (cN [mK.v,mJ.v,nV.v])) bR)))) fun a w_ hs m=>?_
  refine cC hs m rfl rfl aZP rfl (aBO mI oE mH oD nU qH mK oH mJ oG nV qI _ (m.rd xS) (m.rd xR) (m.rd aA3) (m.rd xU) (m.rd xT) (m.rd aA4) ) rfl fun w14 m a hs=>?_
  refine bP hs m gX fun a w_ hs m=>?_
  refine jO (.c (.c (.n))) hs m 81 (decide (nM=uK)) (.bool ((decide (nM=uK))&&(decide (oE=oH/\oD=oG/\qH=qI)))) ?_
  rintro a w16 ⟨hs,m⟩
  refine bP hs m gC fun a w_ hs m=>?_
  refine bH hs (vs:=[.bool ((decide (nM=uK))&&(decide (oE=oH/\oD=oG/\qH=qI)))]) rfl ⟨rfl,trivial⟩ ?_
  exact⟨by rw[(show ((decide (nM=uK))&&(decide (oE=oH/\oD=oG/\qH=qI)):Bool)=true by(simp [*]))];rfl,m.sub .n⟩
 have h12p:=of_decide_eq_true h12
 refine wp_skip ?_
 refine aB ?_
 refine dG ?_
 refine wp_block ?_
 refine eE m mo (by kernel_rfl) ?_
 refine nG hs (k:=fun a hs=>?_)
 obtain⟨e18,he19⟩:=bI (l:=oF) (i:=k) (by omega)
 refine kE (c:=aO) (e:=e18) hs m (x:=(.tmp 58)) (ix:=(.tmp 59)) rfl rfl hY jQ wR (by omega) he19 fun p20 hp21 ok22=>?_
 refine xD hs (h1:=q_ (ok22 _ _ _ _ _)) (h2:=q_ (cN (aO e18))) (k:=fun a hs=>?_)
 obtain⟨e23,he24⟩:=bI (l:=zB) (i:=k) (by omega)
 refine kE (c:=aO) (e:=e23) hs m (x:=(.tmp 63)) (ix:=(.tmp 64)) rfl rfl hY jQ zU (by omega) he24 fun p25 hp26 ok27=>?_
 refine nG hs (h1:=q_ (ok27 _ _ _ _ _)) (h2:=q_ (cN (aO e23))) (h3:=q_ (sS (b:=decide (e18=e23)) rfl rfl zE (lB _) (lB _) (sA e18 e23))) (k:=fun a hs=>?_)
 refine wpQuiet_nil fun w28 m=>?_
 refine bV hs rfl (by exact aSQ (by assumption) (by assumption) E6) ?_
 refine bT hs m hQ fun a w_ hs m=>?_
 exact⟨oF.length-(k+1),by omega,k+1,by omega,rfl,hs.to ⟨rfl,rfl,rfl,trivial⟩,m.sub (a0 (a0 .n))⟩
end Go.Proofs.YtnbpodjbemfpbaaGreat.Fw
set_option linter.all false
set_option maxHeartbeats 4000000
set_option maxRecDepth 100000
namespace Go.Proofs.YtnbpodjbemfpbaaGreat.Fw
open Go
theorem aHR (pag:Addr) (ag:gU) (w0:World) (hag:RaR (hh w0) pag ag):iL Tryz.prog 124 [.pointer (some (bK pag 0))] (.int .i64 (eU ag.self.Host.v ag.view)) w0:=by
 refine enter (n:=28) Tryz.func124 rfl rfl rfl fun a (hs:St 28 [(0,.pointer (some (bK pag 0)))] a)=>?_
 have m:=Hp.start w0
 have hag0:=hag
 obtain⟨x1,x2,x3,x4,x5,hx6,hx7,hx8,hx9,hx10,hx11⟩:=hag0
 have lx1:=hx7.bd
 have lx2:=hx8.bd
 have lx3:=hx9.bd
 have lx4:=hx10.bd
 have lx5:=hx11.bd
 refine bT hs m fW fun a w_ hs m=>?_
 refine wp_loop_ghost (fun gn a w=>∃ k:Nat,(k<=ag.view.length)/\(∀ i,i<k->∀ y,ag.view[i]?=some y->¬ y.Host.v=ag.self.Host.v)/\gn=ag.view.length-k/\St 28 [(0,.pointer (some (bK pag 0))),(3,.int .i64 (k:Int))] a/\Hp w0 (hh w0) [] w) (ag.view.length-0) ⟨0,by omega,by(intro i hi;omega),rfl,hs.to ⟨rfl,rfl,trivial⟩,m.sub .n⟩ ?_
 rintro gn a w12 ⟨k,hk,hn,rfl,hs,m⟩
 refine bT hs m (x_ gZ (e_ (p_ (bQ m rfl eR (dX hx10))) eZ)) fun a w_ hs m=>?_
 refine aR hs rfl (fun h13=>?_) (fun h13=>?_)
 rotate_left
 ·have h13p:=of_decide_eq_false h13
  refine bT hs m fW fun a w_ hs m=>?_
  refine bH hs (vs:=[.int .i64 (-1)]) rfl ⟨rfl,trivial⟩ ?_
  exact⟨by rw[(show ((-1):Int)=eU ag.self.Host.v ag.view from aI6 hn (by omega))];rfl,m.sub .n⟩
 have h13p:=of_decide_eq_true h13
 refine wp_skip ?_
 refine aB ?_
 refine dG ?_
 refine wp_block ?_
 refine eE m mo (by kernel_rfl) ?_
 refine xD hs (k:=fun a hs=>?_)
 obtain⟨e15,he16⟩:=bI (l:=ag.view) (i:=k) (by omega)
 refine kE (c:=aV) (e:=e15) hs m (x:=(.tmp 16)) (ix:=(.tmp 17)) rfl rfl eR fZ hx10 (by omega) he16 fun p17 hp18 ok19=>?_
 refine kZ hs (h1:=q_ (ok19 _ _ _ _ _)) (k:=fun a hs=>?_)
 refine nG hs (k:=fun a hs=>?_)
 refine wpQuiet_nil fun w20 m=>?_
 refine aR hs rfl (fun h21=>?_) (fun h21=>?_)
 ·have h21p:=eq_of_beq h21
  refine bT hs m mT fun a w_ hs m=>?_
  refine bH hs (vs:=[.int .i64 (k:Int)]) rfl ⟨rfl,trivial⟩ ?_
  exact⟨by rw[(show ((k:Int):Int)=eU ag.self.Host.v ag.view from aMF hn (by assumption) (by simpa using ‹_›))];rfl,m.sub .n⟩
 have h21p:=ne_of_beq_false h21
 refine bT hs m hQ fun a w_ hs m=>?_
 exact⟨ag.view.length-(k+1),by omega,k+1,by omega,by exact aI7 hn (by assumption) (by assumption),rfl,hs.to ⟨rfl,rfl,trivial⟩,m.sub .n⟩
theorem aIZ (vl:SH) (l:List aT) (q:aT) (w0:World) (hl:RdS (hh w0) 2 vl.v (l.map aO)):iL Tryz.prog 162 [vl.v,.agg ⟨aO q⟩] (.bool (decide (q ∈ l))) w0:=by
 have lvl:=hl.bd
 refine enter (n:=18) Tryz.func162 rfl rfl rfl fun a (hs:St 18 [(0,vl.v),(1,.agg ⟨aO q⟩)] a)=>?_
 have m:=Hp.start w0
 refine bN ?_
 refine dU (cs:=aO q) hs m rfl rfl rfl fun p1 w2 m a hs=>?_
 refine bP hs m hQ fun a w_ hs m=>?_
 refine wp_loop_ghost (fun gn a w=>∃ k:Nat,(k<=l.length)/\(q ∉ l.take k)/\gn=l.length-k/\St 18 [(0,vl.v),(3,.pointer (some (bK p1 0))),(5,.int .i64 (k:Int))] a/\Hp w0 (hh w0) [Bx p1 44 (aO q)] w) (l.length-0) ⟨0,by omega,by simp,rfl,hs.to ⟨rfl,rfl,rfl,trivial⟩,m.sub (a0 .n)⟩ ?_
 rintro gn a w3 ⟨k,hk,hn,rfl,hs,m⟩
 refine bT hs m (x_ gC (e_ (p_ (bQ m rfl hY (dX hl))) eZ)) fun a w_ hs m=>?_
 refine aR hs rfl (fun h4=>?_) (fun h4=>?_)
 rotate_left
 ·have h4p:=of_decide_eq_false h4
  refine bT hs m fW fun a w_ hs m=>?_
  refine bH hs (vs:=[.bool false]) rfl ⟨rfl,trivial⟩ ?_
  exact⟨by rw[(show (false:Bool)=decide (q ∈ l) from aL6 (by omega) hn)];rfl,m.sub .n⟩
 have h4p:=of_decide_eq_true h4
 refine wp_skip ?_
 refine aB ?_
 refine dG ?_
 refine wp_block ?_
 refine eE m mo (by kernel_rfl) ?_
 refine sO hs (k:=fun a hs=>?_)
 obtain⟨e6,he7⟩:=bI (l:=l) (i:=k) (by omega)
 refine kE (c:=aO) (e:=e6) hs m (x:=(.tmp 12)) (ix:=(.tmp 13)) rfl rfl hY jQ hl (by omega) he7 fun p8 hp9 ok10=>?_
 refine vJ hs (h1:=q_ (ok10 _ _ _ _ _)) (h2:=q_ (cN (aO e6))) (h3:=q_ (cN (aO q))) (h4:=q_ (mP (b:=decide (e6=q)) rfl rfl zE (lB _) (lB _) (sA e6 q))) (k:=fun a hs=>?_)
 refine wpQuiet_nil fun w11 m=>?_
 refine aR hs rfl (fun h12=>?_) (fun h12=>?_)
 ·have h12p:=of_decide_eq_true h12
  refine bT hs m fW fun a w_ hs m=>?_
  refine bH hs (vs:=[.bool true]) rfl ⟨rfl,trivial⟩ ?_
  exact⟨by rw[(show (true:Bool)=decide (q ∈ l) from aL7 (by assumption) (by assumption))];rfl,m.sub .n⟩
 have h12p:=of_decide_eq_false h12
 refine bT hs m hQ fun a w_ hs m=>?_
 exact⟨l.length-(k+1),by omega,k+1,by omega,by exact aAZ hn (by assumption) (by assumption),rfl,hs.to ⟨rfl,rfl,rfl,trivial⟩,m.sub (a0 .n)⟩
theorem aAW (bG:SH) (aQ:List bD) (bF:SH) (aN:List bA) (bX:SH) (bO:List cH) (w0:World) (dT:RdS (hh w0) 4 bG.v (aQ.map aM)) (dY:RdS (hh w0) 7 bF.v (aN.map aS)) (fG:RdS (hh w0) 7 bX.v (bO.map cB)) (A0:aQ.length<=2600000000000) (A1:aN.length<=2600000000000) (A2:bO.length<=2600000000000):Calls Tryz.prog 123 ⟨[.agg ⟨[bG.v,bF.v,bX.v]⟩]⟩ w0 fun e w'=>∃ v,e= .returned v/\(∃ x0:SH,∃ x1:SH,∃ x2:SH,v=(.agg ⟨[x0.v,x1.v,x2.v]⟩)/\Hp w0 (hh w0) [Sv 4 51 x0.v (aQ.map aM),Sv 7 54 x1.v (aN.map aS),Sv 7 56 x2.v (bO.map cB)] w'):=by
 have jE:=dT.bd
 have jD:=dY.bd
 have mD:=fG.bd
 refine enter (n:=13) Tryz.func123 rfl rfl rfl fun a (hs:St 13 [(0,.agg ⟨[bG.v,bF.v,bX.v]⟩)] a)=>?_
 have m:=Hp.start w0
 refine bN ?_
 refine dU (cs:=[bG.v,bF.v,bX.v]) hs m rfl rfl rfl fun p1 w2 m a hs=>?_
 refine bZ hs m jL rfl fun p3 w4 m a hs=>?_
 refine wpList_nil (aB ?_)
 refine vK m (a1 .n) fun w5 m=>?_
 refine pA hs (m.sub (a1 .n)) 0 1 3 4 6 7 (k:=fun a hs=>?_)
 replace m:=m.nilSvM aM 4 51
 refine bU (i:=2) (by kernel_rfl) rfl ?_
 refine cF (c:=aM) (xs:=[]) (ys:=aQ) hs m rfl rfl eY aB6 gG kK rfl qN rfl r0 (m.rd dT) (fun _=>rfl) (by(simp;omega)) rfl fun v6 w8 m a hs=>?_
 refine wpList_nil (aB ⟨(m.sub (a2 .n)),?_⟩)
 replace m:=m.nilSvM aS 7 54
 refine bU (i:=5) (by kernel_rfl) rfl ?_
 refine cF (c:=aS) (xs:=[]) (ys:=aN) hs m rfl rfl fP aB7 gQ lW rfl qO rfl r0 (m.rd dY) (fun _=>rfl) (by(simp;omega)) rfl fun v9 w11 m a hs=>?_
 refine wpList_nil (aB ⟨(m.sub (a3 .n)),?_⟩)
 replace m:=m.nilSvM cB 7 56
 refine bU (i:=8) (by kernel_rfl) rfl ?_
 refine cF (c:=cB) (xs:=[]) (ys:=bO) hs m rfl rfl fQ aB8 gS lS rfl qP rfl r0 (m.rd fG) (fun _=>rfl) (by(simp;omega)) rfl fun v12 w14 m a hs=>?_
 refine wpList_nil (aB ⟨(m.sub (a4 .n)),?_⟩)
 refine kY hs (m.sub (a4 .n)) 9 (h1:=k_ rfl (bW (cs:=[v6.v,v9.v,v12.v]) rI jL rfl rfl)) (k:=fun a hs=>?_)
 refine bU (i:=10) (by kernel_rfl) rfl ?_
 refine bP hs m (dZ s3 (t:=bR)) fun a w15 hs m=>?_
 refine wpList_nil (aB ⟨(m.sub (a4 .n)),?_⟩)
 refine dC (by kernel_rfl) (aB ?_)
 refine wp_ret ?_
 refine bH hs (vs:=[.agg ⟨[v6.v,v9.v,v12.v]⟩]) rfl ⟨cZ (cs:=[v6.v,v9.v,v12.v]) m rfl xH r3 rfl,trivial⟩ ?_
 refine⟨_,rfl,v6,v9,v12,?_,m.sub (a2 (a1 (a0 .n)))⟩
 rfl
theorem aAF (pag:Addr) (ag:gU) (w0:World) (hag:RaR (hh w0) pag ag) (A0:ag.view.length<=8388608) (A1:ag.Routes.length<=8388608) (A2:ag.Neighs.length<=8388608) (A3:ag.Fdbs.length<=8388608):Calls Tryz.prog 125 ⟨[.pointer (some (bK pag 0))]⟩ w0 fun e w'=>∃ v,e= .returned v/\(∃ x0:SH,v=(x0.v)/\Hp w0 (hh w0) [Sv 19 58 x0.v ((fO ag).map mO)] w'):=by
 refine enter (n:=60) Tryz.func125 rfl rfl rfl fun a (hs:St 60 [(0,.pointer (some (bK pag 0)))] a)=>?_
 have m:=Hp.start w0
 have hag0:=hag
 obtain⟨x1,x2,x3,x4,x5,hx6,hx7,hx8,hx9,hx10,hx11⟩:=hag0
 have lx1:=hx7.bd
 have lx2:=hx8.bd
 have lx3:=hx9.bd
 have lx4:=hx10.bd
 have lx5:=hx11.bd
 refine bT hs m aAM fun a w_ hs m=>?_
 replace m:=m.nilSvM aV 12 48
 rw[(show ([]:List TLease)=kS ag.skipped (ag.view.take 0) from aS0)] at m
 refine wp_loop_ghost (fun gn a w=>∃ k:Nat,∃ v12:SH,(k<=ag.view.length)/\gn=ag.view.length-k/\St 60 [(0,.pointer (some (bK pag 0))),(3,v12.v),(4,.int .i64 (k:Int))] a/\Hp w0 (hh w0) [Sv 12 48 v12.v ((kS ag.skipped (ag.view.take k)).map aV)] w) (ag.view.length-0) ⟨0,nilH,by omega,rfl,hs.to ⟨rfl,rfl,rfl,trivial⟩,m.sub (a0 .n)⟩ ?_
 rintro gn a w15 ⟨k,v12,hk,rfl,hs,m⟩
 have hcp:=aFG ag k
 refine bT hs m (x_ gZ (e_ (p_ (bQ m rfl eR (dX hx10))) eZ)) fun a w_ hs m=>?_
 refine aR hs rfl (fun h16=>?_) (fun h16=>?_)
 rotate_left
 ·have h16p:=of_decide_eq_false h16
  refine bT hs m nP fun a w_ hs m=>?_
  refine oL m hs a3B (aSZ v12 (kS ag.skipped (ag.view.take k)) ag.self.Host.v _ (m.rdv r0) (by omega)) fun v17 v18 v19 w20 m a hs=>?_
  simp only[iG] at m
  refine bZ hs m jL rfl fun p21 w22 m a hs=>?_
  refine bP hs m (dZ s0 (t:=iA)) fun a w23 hs m=>?_
  refine vK m (a0 (a0 (a0 (a0 (a0 .n))))) fun w24 m=>?_
  refine zh5 hs (m.sub (a0 (a0 (a0 (a0 (a0 .n)))))) 0 1 2 3 4 (h4:=k_ rfl (cN [x1.v,x2.v,x3.v])) (h5:=k_ rfl (cN [v17.v,v18.v,v19.v])) (k:=fun a hs=>?_)
  refine bU (i:=5) (by kernel_rfl) rfl ?_
  refine jS m hs a3E (aR7 x1 ag.Routes x2 ag.Neighs x3 ag.Fdbs v17 ((mF (kS ag.skipped (ag.view.take k)) ag.self.Host.v).R) v18 ((mF (kS ag.skipped (ag.view.take k)) ag.self.Host.v).N) v19 ((mF (kS ag.skipped (ag.view.take k)) ag.self.Host.v).F) _ (m.rd hx7) (m.rd hx8) (m.rd hx9) (m.rdv r1) (m.rdv r2) (m.rdv r3) (by omega) (by omega) (by omega) (by omega) (by omega) (by omega)) fun v25 w26 m a hs=>?_
  simp only[iG] at m
  refine wpList_nil (aB ⟨(m.sub (a1 (a1 (a1 (a1 (a1 .n)))))),?_⟩)
  refine zh5 hs (m.sub (a1 (a1 (a1 (a1 (a1 .n)))))) 6 7 8 9 10 (k:=fun a hs=>?_)
  refine dC (by kernel_rfl) (aB ?_)
  refine bT hs m gX fun a w_ hs m=>?_
  refine bH hs (vs:=[v25.v]) rfl ⟨rfl,trivial⟩ ?_
  rw[(show sQ ag.Routes ag.Neighs ag.Fdbs ((mF (kS ag.skipped (ag.view.take k)) ag.self.Host.v).R) ((mF (kS ag.skipped (ag.view.take k)) ag.self.Host.v).N) ((mF (kS ag.skipped (ag.view.take k)) ag.self.Host.v).F)=fO ag from aJB (by omega))] at m
  refine⟨_,rfl,v25,?_,m.sub (a0 .n)⟩
  rfl
 have h16p:=of_decide_eq_true h16
 refine wp_skip ?_
 refine aB ?_
 refine dG ?_
 refine wp_block ?_
 refine eE m mo (by kernel_rfl) ?_
 refine kZ hs (k:=fun a hs=>?_)
 refine nG hs (k:=fun a hs=>?_)
 obtain⟨e28,he29⟩:=bI (l:=ag.view) (i:=k) (by omega)
 refine kE (c:=aV) (e:=e28) hs m (x:=(.tmp 25)) (ix:=(.tmp 26)) rfl rfl eR fZ hx10 (by omega) he29 fun p30 hp31 ok32=>?_
 refine nG hs (h1:=q_ (ok32 _ _ _ _ _)) (h3:=q_ (cN (aO e28.Subnet))) (k:=fun a hs=>?_)
 refine mL hs rfl rfl aT7 rfl (fun w m=>aIZ x5 ag.skipped e28.Subnet w (m.rd hx11) ) rfl fun a hs=>?_
 refine uZ hs (k:=fun a hs=>?_)
 refine wpQuiet_nil fun w33 m=>?_
 refine bT hs m gI fun a w_ hs m=>?_
 refine aR hs rfl (fun h34=>?_) (fun h34=>?_)
 ·have h34p:=h34;simp only[fK] at h34p
  refine bT hs m gZ fun a w_ hs m=>?_
  refine kE (c:=aV) (e:=e28) hs m (x:=(.tmp 37)) (ix:=(.tmp 38)) rfl rfl eR fZ hx10 (by omega) he29 fun p35 hp36 ok37=>?_
  refine bP hs m (e_ (p_ (ok37 _ _ _ _ _)) (e_ (p_ (cN (aV e28))) bR)) fun a w_ hs m=>?_
  refine dK (c:=aV) (ys:=[e28]) hs m eR fZ mY rfl rfl rfl rfl rfl (fun _=>rfl) rfl rfl rfl fun v38 w39 m a hs=>?_
  refine cF (c:=aV) (xs:=kS ag.skipped (ag.view.take k)) (ys:=[e28]) hs m rfl rfl eR xF fZ mY rfl vN rfl r1 (m.rdv r0) (fun _=>rfl) (by(simp;omega)) rfl fun v40 w41 m a hs=>?_
  refine bP hs m fW fun a w_ hs m=>?_
  rw[(show (kS ag.skipped (ag.view.take k))++[e28]=kS ag.skipped (ag.view.take (k+1)) from aS2 (by assumption) (by assumption))] at m
  exact⟨ag.view.length-(k+1),by omega,k+1,v40,by omega,rfl,hs.to ⟨rfl,rfl,rfl,trivial⟩,m.sub (a0 .n)⟩
 have h34p:=h34;simp only[fK] at h34p
 refine bT hs m hQ fun a w_ hs m=>?_
 rw[(show kS ag.skipped (ag.view.take k)=kS ag.skipped (ag.view.take (k+1)) from aS1 (by assumption) (by assumption))] at m
 exact⟨ag.view.length-(k+1),by omega,k+1,v12,by omega,rfl,hs.to ⟨rfl,rfl,rfl,trivial⟩,m.sub (a0 .n)⟩
end Go.Proofs.YtnbpodjbemfpbaaGreat.Fw
set_option linter.all false
set_option maxHeartbeats 4000000
set_option maxRecDepth 100000
namespace Go.Proofs.YtnbpodjbemfpbaaGreat.Fw
open Go
theorem aOP (x:Int) (y:Int) (w0:World) (A1:-9223372036854775808<=x/\x<=9223372036854775807) (A2:-9223372036854775808<=y/\y<=9223372036854775807):iL Tryz.prog 156 [.int .i64 x,.int .i64 y] (.int .i64 (jR x y)) w0:=by
 have q1:=aYH x
 have q2:=aYH y
 have q3:=aYH ((x-((Int.tdiv x 4294967296)*4294967296))+(y-((Int.tdiv y 4294967296)*4294967296)))
 refine enter (n:=44) Tryz.func156 rfl rfl rfl fun a (hs:St 44 [(0,.int .i64 x),(1,.int .i64 y)] a)=>?_
 have m:=Hp.start w0
 refine bT hs m (x_ gX (e_ (p_ (mE (r:=Int.tdiv x 4294967296) rfl rfl (by omega) (cJ (by omega) (by omega)))) (x_ gI (e_ (p_ (mE (r:=Int.tdiv y 4294967296) rfl rfl (by omega) (cJ (by omega) (by omega)))) (x_ gX (e_ (p_ (tX (r:=(Int.tdiv x 4294967296)*4294967296) rfl rfl (cJ (by omega) (by omega)))) (x_ eZ (e_ (p_ (tX (r:=(Int.tdiv y 4294967296)*4294967296) rfl rfl (cJ (by omega) (by omega)))) (x_ fW (e_ (p_ (mE (r:=Int.tdiv ((x-((Int.tdiv x 4294967296)*4294967296))+(y-((Int.tdiv y 4294967296)*4294967296))) 4294967296) rfl rfl (by omega) (cJ (by omega) (by omega)))) (x_ gX (e_ (p_ (aQC rfl rfl (by omega) rfl)) hQ)))))))))))) fun a w_ hs m=>?_
 refine aR hs rfl (fun h1=>?_) (fun h1=>?_)
 ·have h1p:=of_decide_eq_true h1
  refine bT hs m aYR fun a w_ hs m=>?_
  refine aR hs rfl (fun h2=>?_) (fun h2=>?_)
  ·have h2p:=of_decide_eq_true h2
   refine bT hs m gX fun a w_ hs m=>?_
   refine bH hs (vs:=[.int .i64 9223372036854775807]) rfl ⟨rfl,trivial⟩ ?_
   exact⟨by rw[(show (9223372036854775807:Int)=jR x y from aH8 A1 A2 (by omega))];rfl,m.sub .n⟩
  have h2p:=of_decide_eq_false h2
  refine bT hs m lA fun a w_ hs m=>?_
  refine aR hs rfl (fun h4=>?_) (fun h4=>?_)
  ·have h4p:=of_decide_eq_true h4
   refine bT hs m gX fun a w_ hs m=>?_
   refine bH hs (vs:=[.int .i64 (-9223372036854775808)]) rfl ⟨rfl,trivial⟩ ?_
   exact⟨by rw[(show ((-9223372036854775808):Int)=jR x y from aIA A1 A2 (by omega))];rfl,m.sub .n⟩
  have h4p:=of_decide_eq_false h4
  refine bT hs m (x_ gC (e_ (p_ (tX (r:=((((Int.tdiv x 4294967296)+(Int.tdiv y 4294967296))+(Int.tdiv ((x-((Int.tdiv x 4294967296)*4294967296))+(y-((Int.tdiv y 4294967296)*4294967296))) 4294967296))-1)*4294967296) rfl rfl (cJ (by omega) (by omega)))) gX)) fun a w_ hs m=>?_
  refine bH hs (vs:=[.int .i64 ((((((Int.tdiv x 4294967296)+(Int.tdiv y 4294967296))+(Int.tdiv ((x-((Int.tdiv x 4294967296)*4294967296))+(y-((Int.tdiv y 4294967296)*4294967296))) 4294967296))-1)*4294967296)+((Int.tmod ((x-((Int.tdiv x 4294967296)*4294967296))+(y-((Int.tdiv y 4294967296)*4294967296))) 4294967296)+4294967296))]) rfl ⟨rfl,trivial⟩ ?_
  exact⟨by rw[(show ((((((Int.tdiv x 4294967296)+(Int.tdiv y 4294967296))+(Int.tdiv ((x-((Int.tdiv x 4294967296)*4294967296))+(y-((Int.tdiv y 4294967296)*4294967296))) 4294967296))-1)*4294967296)+((Int.tmod ((x-((Int.tdiv x 4294967296)*4294967296))+(y-((Int.tdiv y 4294967296)*4294967296))) 4294967296)+4294967296):Int)=jR x y from aH9 A1 A2 (by omega))];rfl,m.sub .n⟩
 have h1p:=of_decide_eq_false h1
 refine bT hs m lA fun a w_ hs m=>?_
 refine aR hs rfl (fun h7=>?_) (fun h7=>?_)
 ·have h7p:=of_decide_eq_true h7
  refine bT hs m gX fun a w_ hs m=>?_
  refine bH hs (vs:=[.int .i64 9223372036854775807]) rfl ⟨rfl,trivial⟩ ?_
  exact⟨by rw[(show (9223372036854775807:Int)=jR x y from aH8 A1 A2 (by omega))];rfl,m.sub .n⟩
 have h7p:=of_decide_eq_false h7
 refine bT hs m lA fun a w_ hs m=>?_
 refine aR hs rfl (fun h9=>?_) (fun h9=>?_)
 ·have h9p:=of_decide_eq_true h9
  refine bT hs m gX fun a w_ hs m=>?_
  refine bH hs (vs:=[.int .i64 (-9223372036854775808)]) rfl ⟨rfl,trivial⟩ ?_
  exact⟨by rw[(show ((-9223372036854775808):Int)=jR x y from aIA A1 A2 (by omega))];rfl,m.sub .n⟩
 have h9p:=of_decide_eq_false h9
 refine bT hs m (x_ gC (e_ (p_ (tX (r:=(((Int.tdiv x 4294967296)+(Int.tdiv y 4294967296))+(Int.tdiv ((x-((Int.tdiv x 4294967296)*4294967296))+(y-((Int.tdiv y 4294967296)*4294967296))) 4294967296))*4294967296) rfl rfl (cJ (by omega) (by omega)))) gX)) fun a w_ hs m=>?_
 refine bH hs (vs:=[.int .i64 (((((Int.tdiv x 4294967296)+(Int.tdiv y 4294967296))+(Int.tdiv ((x-((Int.tdiv x 4294967296)*4294967296))+(y-((Int.tdiv y 4294967296)*4294967296))) 4294967296))*4294967296)+(Int.tmod ((x-((Int.tdiv x 4294967296)*4294967296))+(y-((Int.tdiv y 4294967296)*4294967296))) 4294967296))]) rfl ⟨rfl,trivial⟩ ?_
 exact⟨by rw[(show (((((Int.tdiv x 4294967296)+(Int.tdiv y 4294967296))+(Int.tdiv ((x-((Int.tdiv x 4294967296)*4294967296))+(y-((Int.tdiv y 4294967296)*4294967296))) 4294967296))*4294967296)+(Int.tmod ((x-((Int.tdiv x 4294967296)*4294967296))+(y-((Int.tdiv y 4294967296)*4294967296))) 4294967296):Int)=jR x y from aH9 A1 A2 (by omega))];rfl,m.sub .n⟩
end Go.Proofs.YtnbpodjbemfpbaaGreat.Fw
set_option linter.all false
set_option maxHeartbeats 4000000
set_option maxRecDepth 100000
namespace Go.Proofs.YtnbpodjbemfpbaaGreat.Fw
open Go
theorem aQX (pag:Addr) (ag:gU) (now:Int) (w0:World) (hag:RaR (hh w0) pag ag) (A0:ag.view.length<=8388608) (A1:ag.Routes.length<=8388608) (A2:ag.Neighs.length<=8388608) (A3:ag.Fdbs.length<=8388608):iL Tryz.prog 118 [.pointer (some (bK pag 0)),.int .i64 now] (.agg ⟨eS (jP ag now)⟩) w0:=by
 have hol:=tC (h:=ag.self.Host.v) (l:=ag.view)
 refine enter (n:=164) Tryz.func118 rfl rfl rfl fun a (hs:St 164 [(0,.pointer (some (bK pag 0))),(1,.int .i64 now)] a)=>?_
 have m:=Hp.start w0
 have hag0:=hag
 obtain⟨x1,x2,x3,x4,x5,hx6,hx7,hx8,hx9,hx10,hx11⟩:=hag0
 have lx1:=hx7.bd
 have lx2:=hx8.bd
 have lx3:=hx9.bd
 have lx4:=hx10.bd
 have lx5:=hx11.bd
 refine bN ?_
 refine bZ hs m nC rfl fun p12 w13 m a hs=>?_
 refine bP hs m mT fun a w_ hs m=>?_
 refine aR hs rfl (fun h14=>?_) (fun h14=>?_)
 ·have h14p:=h14;simp only[fK] at h14p
  refine bT hs m (x_ eO (e_ (p_ (bW (cs:=eS (⟨⟨1,rfl⟩,jA,mM,⟨0,rfl⟩,⟨0,rfl⟩⟩:eH)) sU nC rfl (by kernel_rfl))) (dZ s0 (t:=gC)))) fun a w15 hs m=>?_
  refine bH hs (vs:=[.agg ⟨eS (⟨⟨1,rfl⟩,jA,mM,⟨0,rfl⟩,⟨0,rfl⟩⟩:eH)⟩]) rfl ⟨cZ (cs:=eS (⟨⟨1,rfl⟩,jA,mM,⟨0,rfl⟩,⟨0,rfl⟩⟩:eH)) m rfl pX r0 rfl,trivial⟩ ?_
  exact⟨by rw[(show ((⟨⟨1,rfl⟩,jA,mM,⟨0,rfl⟩,⟨0,rfl⟩⟩:eH):eH)=jP ag now from ru1 (by assumption))];rfl,m.sub .n⟩
 have h14p:=h14;simp only[fK] at h14p
 refine bT hs m fW fun a w_ hs m=>?_
 refine aR hs rfl (fun h17=>?_) (fun h17=>?_)
 ·refine bT hs m (x_ eO (e_ (p_ (bW (cs:=eS (⟨⟨2,rfl⟩,jA,mM,⟨0,rfl⟩,⟨0,rfl⟩⟩:eH)) sU nC rfl (by kernel_rfl))) (dZ s0 (t:=gC)))) fun a w18 hs m=>?_
  refine bH hs (vs:=[.agg ⟨eS (⟨⟨2,rfl⟩,jA,mM,⟨0,rfl⟩,⟨0,rfl⟩⟩:eH)⟩]) rfl ⟨cZ (cs:=eS (⟨⟨2,rfl⟩,jA,mM,⟨0,rfl⟩,⟨0,rfl⟩⟩:eH)) m rfl pX r0 rfl,trivial⟩ ?_
  exact⟨by rw[(show ((⟨⟨2,rfl⟩,jA,mM,⟨0,rfl⟩,⟨0,rfl⟩⟩:eH):eH)=jP ag now from ru2 (by assumption) (by assumption))];rfl,m.sub .n⟩
 refine bT hs m gC fun a w_ hs m=>?_
 refine jS m hs aO0 (aAF pag ag _ (hag.le m.frame) (by omega) (by omega) (by omega) (by omega)) fun v20 w21 m a hs=>?_
 simp only[iG] at m
 refine bP hs m (x_ gX (e_ (p_ (bQ m rfl oO (fV r0))) eZ)) fun a w_ hs m=>?_
 refine aR hs rfl (fun h22=>?_) (fun h22=>?_)
 ·have h22p:=of_decide_eq_true h22
  refine bT hs m iA fun a w_ hs m=>?_
  obtain⟨e23,he24⟩:=bI (l:=fO ag) (i:=0) (by omega)
  refine rY (c:=mO) (e:=e23) hs m (x:=(.tmp 25)) (ix:=(.const (.int .i64 0))) rfl rfl oO qL r0 (by omega) he24 fun p25 hp26 ok27=>?_
  refine bP hs m (e_ (p_ (ok27 _ _ _ _ _)) (e_ (p_ (cN (mO e23))) (e_ (p_ (bW (cs:=eS (⟨⟨3,rfl⟩,jA,e23,⟨0,rfl⟩,⟨0,rfl⟩⟩:eH)) sU nC rfl (by kernel_rfl))) (dZ s1 (t:=gC))))) fun a w28 hs m=>?_
  refine bH hs (vs:=[.agg ⟨eS (⟨⟨3,rfl⟩,jA,e23,⟨0,rfl⟩,⟨0,rfl⟩⟩:eH)⟩]) rfl ⟨cZ (cs:=eS (⟨⟨3,rfl⟩,jA,e23,⟨0,rfl⟩,⟨0,rfl⟩⟩:eH)) m rfl pX r1 rfl,trivial⟩ ?_
  exact⟨by rw[(show ((⟨⟨3,rfl⟩,jA,e23,⟨0,rfl⟩,⟨0,rfl⟩⟩:eH):eH)=jP ag now from ru3 (by assumption) (by assumption) (by assumption))];rfl,m.sub .n⟩
 have h22p:=of_decide_eq_false h22
 refine bT hs m gC fun a w_ hs m=>?_
 refine cC hs m rfl rfl aLX rfl (aHR pag ag _ (hag.le m.frame) ) rfl fun w30 m a hs=>?_
 refine bP hs m eZ fun a w_ hs m=>?_
 refine wK (fun a w=>St 164 [(0,.pointer (some (bK pag 0))),(1,.int .i64 now),(4,.pointer (some (bK p12 0))),(6,.int .i64 (eU ag.self.Host.v ag.view)),(7,.bool (nZ (lK ag)))] a/\Hp w0 (hh w0) [Sv 19 58 v20.v ((fO ag).map mO),Bx p12 89 (eS nB)] w) ?_ ?_
 ·refine aDP m mo (by kernel_rfl) ?_
  refine nG hs (k:=fun a hs=>?_)
  rcases Bool.eq_false_or_eq_true (decide ((eU ag.self.Host.v ag.view)>=0)) with hb31|hb31
  ·have hb31p:=of_decide_eq_true hb31
   refine xD hs (k:=fun a hs=>?_)
   obtain⟨e32,he33⟩:=bI (l:=ag.view) (i:=(eU ag.self.Host.v ag.view).toNat) (by omega)
   refine kE (c:=aV) (e:=e32) hs m (x:=(.tmp 37)) (ix:=(.tmp 38)) rfl rfl eR fZ hx10 (by omega) he33 fun p34 hp35 ok36=>?_
   refine kZ hs (h1:=kW hb31 (ok36 _ _ _ _ _)) (k:=fun a hs=>?_)
   refine xD hs (h4:=q_ (aP (r:=.bool (e32.Pub.v==ag.self.Pub.v)) rfl rfl rfl (by rw[hb31];rfl))) (k:=fun a hs=>?_)
   rcases Bool.eq_false_or_eq_true (e32.Pub.v==ag.self.Pub.v) with hb37|hb37
   ·have hb37p:=eq_of_beq hb37
    refine xD hs (k:=fun a hs=>?_)
    refine kE (c:=aV) (e:=e32) hs m (x:=(.tmp 53)) (ix:=(.tmp 54)) rfl rfl eR fZ hx10 (by omega) he33 fun p38 hp39 ok40=>?_
    refine kZ hs (h1:=kW hb37 (ok40 _ _ _ _ _)) (h3:=kW hb37 (cN (mU e32.MAC))) (k:=fun a hs=>?_)
    refine xD hs (h2:=kW hb37 (cN (mU ag.self.MAC))) (h3:=kW hb37 (mP (b:=decide (e32.MAC=ag.self.MAC)) rfl rfl aDZ (aAX _) (aAX _) (aKQ e32.MAC ag.self.MAC))) (h4:=q_ (aP (r:=.bool (decide (e32.MAC=ag.self.MAC))) rfl rfl rfl (by rw[hb37];rfl))) (k:=fun a hs=>?_)
    refine wpQuiet_nil fun w41 m=>?_
    refine aB ?_
    have q42:nZ (lK ag)=decide (e32.MAC=ag.self.MAC):=by clear hs m;exact aXG (by assumption) (by assumption) (by assumption)
    exact⟨hs.to ⟨rfl,rfl,rfl,rfl,by rw[q42];rfl,trivial⟩,m.sub (a0 (a0 .n))⟩
   ·have hb37p:=ne_of_beq_false hb37
    refine kZ hs (k:=fun a hs=>?_)
    refine kZ hs (k:=fun a hs=>?_)
    refine vJ hs (h3:=q_ (aP (r:=.bool false) rfl rfl rfl (by rw[hb37];rfl))) (k:=fun a hs=>?_)
    refine wpQuiet_nil fun w43 m=>?_
    refine aB ?_
    have q44:nZ (lK ag)=false:=by clear hs m;exact aXI (by assumption) (by assumption)
    exact⟨hs.to ⟨rfl,rfl,rfl,rfl,by rw[q44];rfl,trivial⟩,m.sub (a0 (a0 .n))⟩
  ·have hb31p:=of_decide_eq_false hb31
   refine kZ hs (k:=fun a hs=>?_)
   refine kZ hs (k:=fun a hs=>?_)
   refine kZ hs (h3:=q_ (aP (r:=.bool false) rfl rfl rfl (by rw[hb31];rfl))) (h5:=yX rfl) (h6:=yX rfl) (k:=fun a hs=>?_)
   refine kZ hs (h1:=yX rfl) (h2:=yX rfl) (h3:=yX rfl) (h4:=yX rfl) (h5:=yX rfl) (h6:=yX rfl) (k:=fun a hs=>?_)
   refine kZ hs (h1:=yX rfl) (h2:=yX rfl) (h3:=yX rfl) (h4:=yX rfl) (h5:=yX rfl) (h6:=yX rfl) (k:=fun a hs=>?_)
   refine sO hs (h1:=q_ (aP (r:=.bool false) rfl rfl rfl rfl)) (k:=fun a hs=>?_)
   refine wpQuiet_nil fun w45 m=>?_
   refine aB ?_
   have q46:nZ (lK ag)=false:=by clear hs m;exact aXH (by assumption)
   exact⟨hs.to ⟨rfl,rfl,rfl,rfl,by rw[q46];rfl,trivial⟩,m.sub (a0 (a0 .n))⟩
 rintro a w47 ⟨hs,m⟩
 refine dG ?_
 refine wK (fun a w=>St 164 [(0,.pointer (some (bK pag 0))),(1,.int .i64 now),(4,.pointer (some (bK p12 0))),(6,.int .i64 (eU ag.self.Host.v ag.view)),(84,.bool (pB (lK ag)))] a/\Hp w0 (hh w0) [Sv 19 58 v20.v ((fO ag).map mO),Bx p12 89 (eS nB)] w) ?_ ?_
 ·refine aDP m mo (by kernel_rfl) ?_
  refine nG hs (k:=fun a hs=>?_)
  rcases Bool.eq_false_or_eq_true (!(nZ (lK ag))) with hb48|hb48
  ·have hb48p:=hb48;simp only[fK] at hb48p
   refine kZ hs (k:=fun a hs=>?_)
   refine xD hs (h4:=q_ (aP (r:=.bool (decide (ag.cursor.v>=ag.granted.v))) rfl rfl rfl (by rw[hb48];rfl))) (k:=fun a hs=>?_)
   rcases Bool.eq_false_or_eq_true (decide (ag.cursor.v>=ag.granted.v)) with hb49|hb49
   ·have hb49p:=of_decide_eq_true hb49
    refine kZ hs (h6:=q_ (aP (r:=.bool (!ag.waiting)) rfl rfl rfl (by rw[hb49];rfl))) (k:=fun a hs=>?_)
    refine wpQuiet_nil fun w50 m=>?_
    refine aB ?_
    have q51:pB (lK ag) = !ag.waiting:=by clear hs m;simp [pB, *]
    exact⟨hs.to ⟨rfl,rfl,rfl,rfl,by rw[q51];rfl,trivial⟩,m.sub (a0 (a0 .n))⟩
   ·have hb49p:=of_decide_eq_false hb49
    refine kZ hs (h6:=q_ (aP (r:=.bool false) rfl rfl rfl (by rw[hb49];rfl))) (k:=fun a hs=>?_)
    refine wpQuiet_nil fun w52 m=>?_
    refine aB ?_
    have q53:pB (lK ag)=false:=by clear hs m;simp [pB, *]
    exact⟨hs.to ⟨rfl,rfl,rfl,rfl,by rw[q53];rfl,trivial⟩,m.sub (a0 (a0 .n))⟩
  ·have hb48p:=hb48;simp only[fK] at hb48p
   refine kZ hs (k:=fun a hs=>?_)
   refine kZ hs (h4:=q_ (aP (r:=.bool false) rfl rfl rfl (by rw[hb48];rfl))) (h6:=yX rfl) (k:=fun a hs=>?_)
   refine xD hs (h1:=yX rfl) (h2:=yX rfl) (h3:=yX rfl) (h4:=yX rfl) (h5:=q_ (aP (r:=.bool false) rfl rfl rfl rfl)) (k:=fun a hs=>?_)
   refine wpQuiet_nil fun w54 m=>?_
   refine aB ?_
   have q55:pB (lK ag)=false:=by clear hs m;simp [pB, *]
   exact⟨hs.to ⟨rfl,rfl,rfl,rfl,by rw[q55];rfl,trivial⟩,m.sub (a0 (a0 .n))⟩
 rintro a w56 ⟨hs,m⟩
 refine aR hs rfl (fun h57=>?_) (fun h57=>?_)
 ·refine vK m (a0 .n) fun w58 m=>?_
  refine pA hs (m.sub (a0 .n)) 0 1 2 3 4 5 (k:=fun a hs=>?_)
  refine pA hs (m.sub (a0 .n)) 6 7 8 9 10 11 (k:=fun a hs=>?_)
  refine pA hs (m.sub (a0 .n)) 12 13 14 15 16 17 (h3:=k_ rfl (cN (mU ag.self.MAC))) (k:=fun a hs=>?_)
  refine zh3 hs (m.sub (a0 .n)) 18 19 20 (h1:=k_ rfl (cN (aO ag.wish))) (h2:=k_ rfl (bW (cs:=aDO (⟨⟨1,rfl⟩,ag.self.Host,ag.wish,ag.self.Pub,ag.self.MAC,⟨0,rfl⟩⟩:lT)) aN3 aFK rfl (by kernel_rfl))) (h3:=k_ rfl (bW (cs:=eS (⟨⟨4,rfl⟩,(⟨⟨1,rfl⟩,ag.self.Host,ag.wish,ag.self.Pub,ag.self.MAC,⟨0,rfl⟩⟩:lT),mM,⟨0,rfl⟩,⟨0,rfl⟩⟩:eH)) sU nC rfl (by kernel_rfl))) (k:=fun a hs=>?_)
  refine bU (i:=21) (by kernel_rfl) rfl ?_
  refine bP hs m (dZ s1 (t:=bR)) fun a w59 hs m=>?_
  refine wpList_nil (aB ⟨(m.sub (a0 .n)),?_⟩)
  refine dC (by kernel_rfl) (aB ?_)
  refine wp_ret ?_
  refine aJF (bH hs (vs:=[.agg ⟨eS (⟨⟨4,rfl⟩,(⟨⟨1,rfl⟩,ag.self.Host,ag.wish,ag.self.Pub,ag.self.MAC,⟨0,rfl⟩⟩:lT),mM,⟨0,rfl⟩,⟨0,rfl⟩⟩:eH)⟩]) rfl ⟨cZ (cs:=eS (⟨⟨4,rfl⟩,(⟨⟨1,rfl⟩,ag.self.Host,ag.wish,ag.self.Pub,ag.self.MAC,⟨0,rfl⟩⟩:lT),mM,⟨0,rfl⟩,⟨0,rfl⟩⟩:eH)) m rfl pX r1 rfl,trivial⟩ ?_)
  exact⟨by rw[(show ((⟨⟨4,rfl⟩,(⟨⟨1,rfl⟩,ag.self.Host,ag.wish,ag.self.Pub,ag.self.MAC,⟨0,rfl⟩⟩:lT),mM,⟨0,rfl⟩,⟨0,rfl⟩⟩:eH):eH)=jP ag now from ru4 (by assumption) (by assumption) (by assumption) (by assumption) (aRR (by assumption)))];rfl,m.sub .n⟩
 refine wp_skip ?_
 refine aB ?_
 refine dG ?_
 refine wK (fun a w=>St 164 [(0,.pointer (some (bK pag 0))),(1,.int .i64 now),(4,.pointer (some (bK p12 0))),(6,.int .i64 (eU ag.self.Host.v ag.view)),(125,.bool (xG (lK ag)))] a/\Hp w0 (hh w0) [Sv 19 58 v20.v ((fO ag).map mO),Bx p12 89 (eS nB)] w) ?_ ?_
 ·refine bT hs m gC fun a w_ hs m=>?_
  rcases Bool.eq_false_or_eq_true (decide ((eU ag.self.Host.v ag.view)>=0)) with hb61|hb61
  ·have hb61p:=of_decide_eq_true hb61
   refine bP hs m (x_ gI (e_ (p_ (aP (r:=.bool (!ag.renewed)) rfl rfl rfl (by rw[hb61];rfl))) eO)) fun a w_ hs m=>?_
   rcases Bool.eq_false_or_eq_true (!ag.renewed) with hb62|hb62
   ·have hb62p:=hb62;simp only[fK] at hb62p
    refine bP hs m gI fun a w_ hs m=>?_
    obtain⟨e63,he64⟩:=bI (l:=ag.view) (i:=(eU ag.self.Host.v ag.view).toNat) (by omega)
    refine kE (c:=aV) (e:=e63) hs m (x:=(.tmp 119)) (ix:=(.tmp 120)) rfl rfl eR fZ hx10 (by omega) he64 fun p65 hp66 ok67=>?_
    refine bP hs m (e_ (dV hb62 (ok67 _ _ _ _ _)) (x_ eZ (e_ (p_ (aP (r:=.bool (decide (e63.Until.v<9223372036854775807))) rfl rfl rfl (by rw[hb62];rfl))) iA))) fun a w_ hs m=>?_
    have q68:xG (lK ag)=decide (e63.Until.v<9223372036854775807):=by clear hs m;exact aX7 (by assumption) (by assumption) (by assumption)
    exact⟨hs.to ⟨rfl,rfl,rfl,rfl,by rw[q68];rfl,trivial⟩,m.sub (a0 (a0 .n))⟩
   ·have hb62p:=hb62;simp only[fK] at hb62p
    refine bP hs m (x_ hQ (e_ (p_ (aP (r:=.bool false) rfl rfl rfl (by rw[hb62];rfl))) iA)) fun a w_ hs m=>?_
    have q69:xG (lK ag)=false:=by clear hs m;exact aX6 (by assumption)
    exact⟨hs.to ⟨rfl,rfl,rfl,rfl,by rw[q69];rfl,trivial⟩,m.sub (a0 (a0 .n))⟩
  ·have hb61p:=of_decide_eq_false hb61
   refine bP hs m (x_ gI (e_ (p_ (aP (r:=.bool false) rfl rfl rfl (by rw[hb61];rfl))) (x_ fW (e_ (p_ (aP (r:=.bool false) rfl rfl rfl rfl)) iA)))) fun a w_ hs m=>?_
   have q70:xG (lK ag)=false:=by clear hs m;exact aX5 (by assumption)
   exact⟨hs.to ⟨rfl,rfl,rfl,rfl,by rw[q70];rfl,trivial⟩,m.sub (a0 (a0 .n))⟩
 rintro a w71 ⟨hs,m⟩
 refine aR hs rfl (fun h72=>?_) (fun h72=>?_)
 ·have kn73:0<=eU ag.self.Host.v ag.view:=aQS h72
  refine eE m mo (by kernel_rfl) ?_
  refine xD hs (k:=fun a hs=>?_)
  obtain⟨e74,he75⟩:=bI (l:=ag.view) (i:=(eU ag.self.Host.v ag.view).toNat) (by omega)
  refine kE (c:=aV) (e:=e74) hs m (x:=(.tmp 129)) (ix:=(.tmp 130)) rfl rfl eR fZ hx10 (by omega) he75 fun p76 hp77 ok78=>?_
  refine kZ hs (h1:=q_ (ok78 _ _ _ _ _)) (k:=fun a hs=>?_)
  refine nG hs (h3:=q_ (aQA (r:=IntKind.i64.wrap (0-ag.self.Renew.v)) rfl rfl)) (k:=fun a hs=>?_)
  refine mL hs rfl rfl aZV rfl (fun w m=>aOP e74.Until.v (IntKind.i64.wrap (0-ag.self.Renew.v)) w  (by exact Fx.i64 _) (by exact aRI _)) rfl fun a hs=>?_
  refine uZ hs (k:=fun a hs=>?_)
  refine wpQuiet_nil fun w79 m=>?_
  refine bT hs m gX fun a w_ hs m=>?_
  refine aR hs rfl (fun h80=>?_) (fun h80=>?_)
  ·have h80p:=of_decide_eq_true h80
   refine vK m (a0 .n) fun w81 m=>?_
   refine pA hs (m.sub (a0 .n)) 0 1 2 3 4 5 (k:=fun a hs=>?_)
   refine zh4 hs (m.sub (a0 .n)) 6 7 8 9 (k:=fun a hs=>?_)
   refine kE (c:=aV) (e:=e74) hs (m.sub (a0 .n)) (x:=(.tmp 152)) (ix:=(.tmp 153)) rfl rfl eR fZ hx10 (by omega) he75 fun p82 hp83 ok84=>?_
   refine zh5 hs (m.sub (a0 .n)) 10 11 12 13 14 (h1:=k_ rfl (ok84 _ _ _ _ _)) (h3:=k_ rfl (cN (aO e74.Subnet))) (h4:=k_ rfl (bW (cs:=aDO (⟨⟨2,rfl⟩,ag.self.Host,e74.Subnet,⟨0,rfl⟩,kG,⟨0,rfl⟩⟩:lT)) aN3 aFK rfl (by kernel_rfl))) (h5:=k_ rfl (bW (cs:=eS (⟨⟨5,rfl⟩,(⟨⟨2,rfl⟩,ag.self.Host,e74.Subnet,⟨0,rfl⟩,kG,⟨0,rfl⟩⟩:lT),mM,⟨0,rfl⟩,⟨0,rfl⟩⟩:eH)) sU nC rfl (by kernel_rfl))) (k:=fun a hs=>?_)
   refine bU (i:=15) (by kernel_rfl) rfl ?_
   refine bP hs m (dZ s1 (t:=bR)) fun a w85 hs m=>?_
   refine wpList_nil (aB ⟨(m.sub (a0 .n)),?_⟩)
   refine dC (by kernel_rfl) (aB ?_)
   refine wp_ret ?_
   refine aJF (bH hs (vs:=[.agg ⟨eS (⟨⟨5,rfl⟩,(⟨⟨2,rfl⟩,ag.self.Host,e74.Subnet,⟨0,rfl⟩,kG,⟨0,rfl⟩⟩:lT),mM,⟨0,rfl⟩,⟨0,rfl⟩⟩:eH)⟩]) rfl ⟨cZ (cs:=eS (⟨⟨5,rfl⟩,(⟨⟨2,rfl⟩,ag.self.Host,e74.Subnet,⟨0,rfl⟩,kG,⟨0,rfl⟩⟩:lT),mM,⟨0,rfl⟩,⟨0,rfl⟩⟩:eH)) m rfl pX r1 rfl,trivial⟩ ?_)
   exact⟨by rw[(show ((⟨⟨5,rfl⟩,(⟨⟨2,rfl⟩,ag.self.Host,e74.Subnet,⟨0,rfl⟩,kG,⟨0,rfl⟩⟩:lT),mM,⟨0,rfl⟩,⟨0,rfl⟩⟩:eH):eH)=jP ag now from ru5 (by assumption) (by assumption) (by assumption) (by assumption) (aS5 (by assumption) (by assumption) (by assumption)) (aS6 (by assumption) (by assumption)))];rfl,m.sub .n⟩
  have h80p:=of_decide_eq_false h80
  refine bT hs m (x_ gZ (e_ (p_ (bW (cs:=eS (⟨⟨6,rfl⟩,jA,mM,ag.cursor,⟨4,rfl⟩⟩:eH)) sU nC rfl (by kernel_rfl))) (dZ s1 (t:=eZ)))) fun a w87 hs m=>?_
  refine bH hs (vs:=[.agg ⟨eS (⟨⟨6,rfl⟩,jA,mM,ag.cursor,⟨4,rfl⟩⟩:eH)⟩]) rfl ⟨cZ (cs:=eS (⟨⟨6,rfl⟩,jA,mM,ag.cursor,⟨4,rfl⟩⟩:eH)) m rfl pX r1 rfl,trivial⟩ ?_
  exact⟨by rw[(show ((⟨⟨6,rfl⟩,jA,mM,ag.cursor,⟨4,rfl⟩⟩:eH):eH)=jP ag now from ru6 (by assumption) (by assumption) (by assumption) (by assumption) (aQR (by assumption) (by assumption)))];rfl,m.sub .n⟩
 refine bT hs m (x_ gZ (e_ (p_ (bW (cs:=eS (⟨⟨6,rfl⟩,jA,mM,ag.cursor,⟨4,rfl⟩⟩:eH)) sU nC rfl (by kernel_rfl))) (dZ s1 (t:=eZ)))) fun a w89 hs m=>?_
 refine bH hs (vs:=[.agg ⟨eS (⟨⟨6,rfl⟩,jA,mM,ag.cursor,⟨4,rfl⟩⟩:eH)⟩]) rfl ⟨cZ (cs:=eS (⟨⟨6,rfl⟩,jA,mM,ag.cursor,⟨4,rfl⟩⟩:eH)) m rfl pX r1 rfl,trivial⟩ ?_
 exact⟨by rw[(show ((⟨⟨6,rfl⟩,jA,mM,ag.cursor,⟨4,rfl⟩⟩:eH):eH)=jP ag now from ru6 (by assumption) (by assumption) (by assumption) (by assumption) (aQQ (by assumption)))];rfl,m.sub .n⟩
end Go.Proofs.YtnbpodjbemfpbaaGreat.Fw
set_option linter.all false
set_option maxHeartbeats 4000000
set_option maxRecDepth 100000
namespace Go.Proofs.YtnbpodjbemfpbaaGreat.Fw
open Go
theorem aS8 (pag:Addr) (ag:gU) (now:Int) (w0:World) (R:Hh) (A0:ag.view.length<=8388608) (A1:ag.Routes.length<=8388608) (A2:ag.Neighs.length<=8388608) (A3:ag.Fdbs.length<=8388608) (m:Hp w0 R [sX pag ag] w0):Calls Tryz.prog 77 ⟨[.pointer (some (bK pag 0)),.int .i64 now]⟩ w0 fun e w'=>∃ v,e= .returned v/\(v=(.agg ⟨eS (oK ag now)⟩)/\Hp w0 R [sX pag (rA ag now)] w'):=by
 refine enter (n:=23) Tryz.func77 rfl rfl rfl fun a (hs:St 23 [(0,.pointer (some (bK pag 0))),(1,.int .i64 now)] a)=>?_
 have mo:=m.openRa r0
 obtain⟨x1,x2,x3,x4,x5,m⟩:=mo
 refine bN ?_
 refine bZ hs m nC rfl fun p6 w7 m a hs=>?_
 refine bP hs m mT fun a w_ hs m=>?_
 refine aR hs rfl (fun h8=>?_) (fun h8=>?_)
 ·have h8p:=h8;simp only[fK] at h8p
  refine bT hs m gC fun a w_ hs m=>?_
  refine cC hs m rfl rfl aY9 rfl (aQX pag ag now _ ⟨x1,x2,x3,x4,x5,(lO r1 _ m),(m.rdv r2),(m.rdv r3),(m.rdv r4),(m.rdv r5),(m.rdv r6)⟩ (by omega) (by omega) (by omega) (by omega)) rfl fun w9 m a hs=>?_
  refine bP hs m (x_ iA (dZ s1 (t:=x_ gX (dZ s1 (t:=x_ gX (e_ (p_ (cN (eS (jP ag now)))) (dZ s0 (t:=eZ)))))))) fun a w12 hs m=>?_
  refine bH hs (vs:=[.agg ⟨eS (jP ag now)⟩]) rfl ⟨cZ (cs:=eS (jP ag now)) m rfl pX r0 rfl,trivial⟩ ?_
  replace m:=(m.sub (a1 (a1 (a1 (a1 (a1 (a1 (a0 .n)))))))).closeRa (p:=pag) (A:=({ ag with opn:=true,request:=jP ag now }:gU))
  rw[(show ({ ag with opn:=true,request:=jP ag now }:gU)=rA ag now from (a1P (by assumption)).1)] at m
  exact⟨_,rfl,by rw[(show (jP ag now:eH)=oK ag now from (a1P (by assumption)).2)];rfl,m.sub (a0 .n)⟩
 have h8p:=h8;simp only[fK] at h8p
 refine bT hs m (x_ gX (e_ (p_ (cN (eS ag.request))) (dZ s0 (t:=eZ)))) fun a w15 hs m=>?_
 refine bH hs (vs:=[.agg ⟨eS ag.request⟩]) rfl ⟨cZ (cs:=eS ag.request) m rfl pX r0 rfl,trivial⟩ ?_
 replace m:=(m.sub (a1 (a1 (a1 (a1 (a1 (a1 (a0 .n)))))))).closeRa (p:=pag) (A:=ag)
 rw[(show ag=rA ag now from (a1O (by assumption)).1)] at m
 exact⟨_,rfl,by rw[(show (ag.request:eH)=oK ag now from (a1O (by assumption)).2)];rfl,m.sub (a0 .n)⟩
end Go.Proofs.YtnbpodjbemfpbaaGreat.Fw
