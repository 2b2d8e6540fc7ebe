/-
  Own work: walks and laws, joined by wip/tool/compact.py.
-/
import Derived.Test.YtnbpodjbemfpbaaGreatG17
import Derived.KernelRfl
set_option linter.all false
set_option linter.all false
set_option maxHeartbeats 4000000
set_option maxRecDepth 100000
namespace Go.Proofs.YtnbpodjbemfpbaaGreat.Fw
open Go
theorem aGR (s:kA) (oth:kA) (vscript:SH) (script:List yN) (w0:World) (hscript:RdN OqR (hh w0) 26 vscript.v script) (A1:kQ script<=1048576):iL Tryz.prog 7 [.agg ⟨eB s⟩,.agg ⟨eB oth⟩,vscript.v] (.bool true) w0:=by
 have hscript0:=hscript
 obtain⟨cscript,hscriptr,hscriptl,hscripte⟩:=hscript0
 have hlen:=aFX script
 have lvscript:=hscriptr.bd
 refine enter (n:=143) Tryz.func7 rfl rfl rfl fun a (hs:St 143 [(0,.agg ⟨eB s⟩),(1,.agg ⟨eB oth⟩),(2,vscript.v)] a)=>?_
 have m:=Hp.start w0
 rcases Bool.eq_false_or_eq_true (wJ s) with hbs|hbs
 ·rcases Bool.eq_false_or_eq_true (wJ oth) with hbo|hbo
  ·refine bN ?_
   refine dU (cs:=eB s) hs m rfl rfl rfl fun p1 w2 m a hs=>?_
   refine dU (cs:=eB oth) hs m rfl rfl rfl fun p3 w4 m a hs=>?_
   refine z1 hs m (k:=eM (uN fun a hs=>?_))
   refine cC hs m rfl rfl aRZ rfl (aAR  _  ) rfl fun w5 m a hs=>?_
   refine z1 hs m (k:=eM fun a hs=>?_)
   refine dG ?_
   refine bN ?_
   refine z2 hs m (k:=eM fun a hs=>?_)
   refine bV hs rfl rfl ?_
   refine wp_skip ?_
   refine aB ?_
   refine bN ?_
   refine z1 hs m (h1:=p_ (cN (eB s))) (k:=fun a hs=>?_)
   refine cC hs m rfl rfl nA rfl (jG s _  (by omega)) rfl fun w7 m a hs=>?_
   refine z5 hs m (k:=eM (uN (y1 m (h1:=p_ (cN (eB s))) (k:=fun a hs=>?_))))
   refine cC hs m rfl rfl uP rfl (mS s _  (by omega)) rfl fun w8 m a hs=>?_
   refine z5 hs m (k:=eM (uN (y1 m (h1:=p_ (cN (eB oth))) (k:=fun a hs=>?_))))
   refine cC hs m rfl rfl nA rfl (jG oth _  (by omega)) rfl fun w9 m a hs=>?_
   refine z5 hs m (k:=eM (uN (y1 m (h1:=p_ (cN (eB oth))) (k:=fun a hs=>?_))))
   refine cC hs m rfl rfl uP rfl (mS oth _  (by omega)) rfl fun w10 m a hs=>?_
   refine z5 hs m (k:=eM (uN fun a hs=>?_))
   refine fH m hs aR0 (aC9  _  ) fun v11 w12 m a hs=>?_
   simp only[iG] at m
   refine z1 hs m (k:=eM fun a hs=>?_)
   refine dG ?_
   refine bN ?_
   refine z6 hs m (h3:=p_ (fB (v:=.bool false) rfl rfl rfl)) (h5:=dV rfl iU) (h6:=dV rfl iU) (k:=y6 m (h1:=dV rfl (fB (v:=.bool false) rfl rfl rfl)) (h2:=p_ (aP (r:=.bool false) rfl rfl rfl rfl)) (h4:=dV rfl iU) (h5:=dV rfl (gY rfl rfl tZ)) (h6:=dV rfl iU) (k:=fun a hs=>?_))
   refine z6 hs m (h1:=dV rfl (gY rfl rfl iP)) (h2:=dV rfl (tY (a:=true) (b:=true) rfl rfl zM)) (h3:=p_ (aP (r:=.bool false) rfl rfl rfl rfl)) (h5:=dV rfl iU) (h6:=dV rfl (gY rfl rfl tZ)) (k:=y4 m (h1:=dV rfl iU) (h2:=dV rfl (gY rfl rfl iP)) (h3:=dV rfl (tY (a:=true) (b:=true) rfl rfl zM)) (h4:=p_ (aP (r:=.bool false) rfl rfl rfl rfl)) (k:=eM fun a hs=>?_))
   refine bV hs rfl rfl ?_
   refine wp_skip ?_
   refine aB ?_
   refine bN ?_
   refine z1 hs m (k:=eM (uN (y1 m (k:=eM fun a hs=>?_))))
   refine dG ?_
   refine bN ?_
   refine z1 hs m (k:=eM fun a hs=>?_)
   refine wp_block ?_
   refine wp_loop_ghost (fun gn a w=>∃ k:Nat,∃ hp:PcM,(k<=script.length)/\gn=script.length-k/\St 143 [(2,vscript.v),(3,.pointer (some (bK p1 0))),(7,.bool true),(8,(.pointer none)),(10,(.pointer none)),(12,(.pointer none)),(14,(.pointer none)),(16,.pointer (some (bK v11 0))),(17,(.pointer none)),(18,(.pointer none)),(19,.int .i64 (k:Int))] a/\Hp w0 (hh w0) [Bx p1 61 (eB s),PcP v11 hp] w) (script.length-0) ⟨0,(⟨[],[],[],[],[]⟩:PcM),by omega,rfl,hs.to ⟨rfl,rfl,rfl,rfl,rfl,rfl,rfl,rfl,rfl,rfl,rfl,trivial⟩,m.sub (a2 (a0 .n))⟩ ?_
   rintro gn a w14 ⟨k,hp,hk,rfl,hs,m⟩
   refine dG ?_
   refine bN ?_
   refine z4 hs m (h3:=p_ (bQ m rfl pG (dX hscriptr))) (k:=eM fun a hs=>?_)
   refine aR hs rfl (fun h15=>?_) (fun h15=>?_)
   rotate_left
   ·have h15p:=of_decide_eq_false h15
    refine wp_exit ?_
    refine eK (eK (lL (?_)))
    refine aB ?_
    refine bN ?_
    refine z1 hs m (k:=eM fun a hs=>?_)
    refine wp_ret ?_
    refine bH hs (vs:=[.bool true]) rfl ⟨rfl,trivial⟩ ?_
    refine⟨?_,m.sub .n⟩
    rfl
   have h15p:=of_decide_eq_true h15
   refine wp_skip ?_
   refine aB ?_
   refine dG ?_
   refine wp_block ?_
   refine bN ?_
   refine z2 hs m (k:=fun a hs=>?_)
   obtain⟨e16,he17⟩:=bI (l:=cscript) (i:=k) (by omega)
   obtain⟨o18,ho19⟩:=bI (l:=script) (i:=k) (by omega)
   obtain⟨x20,x21,x22,x23,x24,rfl,hx25,hx26,hx27,hx28,hx29⟩:=hscripte _ _ _ he17 ho19
   have lx20:=hx25.bd
   have lx21:=hx26.bd
   have lx22:=hx27.bd
   have lx23:=hx28.bd
   have lx24:=hx29.bd
   refine kE (c:=id) (e:=(sV o18.Kind o18.On o18.Now o18.Err o18.Answer o18.Rev o18.Snap_Now x20.v x21.v x22.v x23.v x24.v:List Value)) hs m (x:=(.tmp 73)) (ix:=(.tmp 74)) rfl rfl pG aAJ hscriptr (by omega) he17 fun p30 hp31 ok32=>?_
   refine z2 hs m (h1:=p_ (ok32 _ _ _ _ _)) (h2:=p_ (cN (sV o18.Kind o18.On o18.Now o18.Err o18.Answer o18.Rev o18.Snap_Now x20.v x21.v x22.v x23.v x24.v))) (k:=fun a hs=>?_)
   refine bZ hs m aOF rfl fun p33 w34 m a hs=>?_
   refine xB (cs':=sV o18.Kind o18.On o18.Now o18.Err o18.Answer o18.Rev o18.Snap_Now x20.v x21.v x22.v x23.v x24.v) (vs:=sV o18.Kind o18.On o18.Now o18.Err o18.Answer o18.Rev o18.Snap_Now x20.v x21.v x22.v x23.v x24.v) hs m rfl rfl aAJ s0 (by kernel_rfl) (by kernel_rfl) (by kernel_rfl) (by kernel_rfl) (by kernel_rfl) fun w35 m=>?_
   refine wpList_nil (aB ?_)
   refine dG ?_
   refine bN ?_
   refine z4 hs m (k:=fun a hs=>?_)
   rcases Bool.eq_false_or_eq_true (o18.On.v==0) with hb36|hb36
   ·have hb36p:=eq_of_beq hb36
    refine z3 hs m (h2:=dV hb36 (fE rfl rfl iP)) (h3:=p_ (aP (r:=.bool false) rfl rfl rfl (by rw[hb36];rfl))) (k:=eM fun a hs=>?_)
    refine bV hs rfl rfl ?_
    refine bN ?_
    refine z4 hs m (k:=fun a hs=>?_)
    rcases Bool.eq_false_or_eq_true (o18.On.v !=0) with hb38|hb38
    ·have hb38p:=fT hb38
     refine z3 hs m (h2:=dV hb38 (fE rfl rfl iP)) (h3:=p_ (aP (r:=.bool false) rfl rfl rfl (by rw[hb38];rfl))) (k:=eM fun a hs=>?_)
     refine bV hs rfl rfl ?_
     refine wp_skip ?_
     refine aB ?_
     refine bN ?_
     refine z1 hs m (h1:=p_ (cN (eB s))) (k:=fun a hs=>?_)
     refine cC hs m rfl rfl nA rfl (jG s _  (by omega)) rfl fun w40 m a hs=>?_
     refine wpList_nil (aB ?_)
     refine dG ?_
     refine bN ?_
     refine z5 hs m (h3:=p_ (bQ m rfl pG (dX hscriptr))) (h4:=p_ (mE (r:=((cscript.length / 2:Nat):Int)) rfl rfl (by omega) (lD (n:=cscript.length) (by omega)))) (k:=eM fun a hs=>?_)
     refine aR hs rfl (fun h41=>?_) (fun h41=>?_)
     ·have h41p:=eq_of_beq h41
      refine bN ?_
      refine z1 hs m (h1:=p_ (cN (eB s))) (k:=fun a hs=>?_)
      refine cC hs m rfl rfl nA rfl (jG s _  (by omega)) rfl fun w42 m a hs=>?_
      refine z5 hs m (k:=eM (uN (y1 m (h1:=p_ (cN (eB s))) (k:=fun a hs=>?_))))
      refine cC hs m rfl rfl uP rfl (mS s _  (by omega)) rfl fun w43 m a hs=>?_
      refine z5 hs m (k:=eM fun a hs=>?_)
      refine fD ?_
      refine z6 hs m (h3:=dV rfl iU) (h4:=dV rfl iU) (h5:=dV rfl (fB (v:=.bool true) rfl rfl rfl)) (h6:=p_ (aP (r:=.bool true) rfl rfl rfl rfl)) (k:=y6 m (h2:=dV rfl iU) (h3:=dV rfl (gY rfl rfl tZ)) (h4:=dV rfl iU) (h5:=dV rfl (gY rfl rfl iP)) (h6:=dV rfl (oJ (a:=true) (b:=true) rfl rfl zM)) (k:=fun a hs=>?_))
      refine z2 hs m (h1:=p_ (aP (r:=.bool true) rfl rfl rfl rfl)) (k:=eM fun a hs=>?_)
      refine dG ?_
      refine bN ?_
      refine z2 hs m (k:=eM fun a hs=>?_)
      refine bV hs rfl rfl ?_
      refine wp_skip ?_
      refine aB ?_
      refine bN ?_
      refine z6 hs m (h2:=p_ (fE rfl rfl iP)) (h4:=iY rfl) (h5:=iY rfl) (h6:=iY rfl) (k:=y4 m (h1:=iY rfl) (h2:=iY rfl) (h3:=iY rfl) (h4:=p_ (aP (r:=.bool false) rfl rfl rfl rfl)) (k:=eM fun a hs=>?_))
      refine bV hs rfl rfl ?_
      refine wp_skip ?_
      refine eA (aB ?_)
      refine fD ?_
      refine z3 hs m (k:=eM fun a hs=>?_)
      exact⟨script.length-(k+1),by omega,k+1,hp,by omega,rfl,hs.to ⟨rfl,rfl,rfl,rfl,rfl,rfl,rfl,rfl,rfl,rfl,rfl,trivial⟩,m.sub (a1 (a1 .n))⟩
     have h41p:=ne_of_beq_false h41
     refine wp_skip ?_
     refine aB ?_
     refine dG ?_
     refine bN ?_
     refine z2 hs m (k:=eM fun a hs=>?_)
     refine bV hs rfl rfl ?_
     refine wp_skip ?_
     refine aB ?_
     refine bN ?_
     refine z6 hs m (h2:=p_ (fE rfl rfl iP)) (h4:=iY rfl) (h5:=iY rfl) (h6:=iY rfl) (k:=y4 m (h1:=iY rfl) (h2:=iY rfl) (h3:=iY rfl) (h4:=p_ (aP (r:=.bool false) rfl rfl rfl rfl)) (k:=eM fun a hs=>?_))
     refine bV hs rfl rfl ?_
     refine wp_skip ?_
     refine eA (aB ?_)
     refine fD ?_
     refine z3 hs m (k:=eM fun a hs=>?_)
     exact⟨script.length-(k+1),by omega,k+1,hp,by omega,rfl,hs.to ⟨rfl,rfl,rfl,rfl,rfl,rfl,rfl,rfl,rfl,rfl,rfl,trivial⟩,m.sub (a1 (a1 .n))⟩
    ·have hb38p:=dJ hb38
     refine z3 hs m (h3:=p_ (aP (r:=.bool false) rfl rfl rfl (by rw[hb38];rfl))) (k:=eM fun a hs=>?_)
     refine bV hs rfl rfl ?_
     refine wp_skip ?_
     refine aB ?_
     refine bN ?_
     refine z1 hs m (h1:=p_ (cN (eB s))) (k:=fun a hs=>?_)
     refine cC hs m rfl rfl nA rfl (jG s _  (by omega)) rfl fun w49 m a hs=>?_
     refine wpList_nil (aB ?_)
     refine dG ?_
     refine bN ?_
     refine z5 hs m (h3:=p_ (bQ m rfl pG (dX hscriptr))) (h4:=p_ (mE (r:=((cscript.length / 2:Nat):Int)) rfl rfl (by omega) (lD (n:=cscript.length) (by omega)))) (k:=eM fun a hs=>?_)
     refine aR hs rfl (fun h50=>?_) (fun h50=>?_)
     ·have h50p:=eq_of_beq h50
      refine bN ?_
      refine z1 hs m (h1:=p_ (cN (eB s))) (k:=fun a hs=>?_)
      refine cC hs m rfl rfl nA rfl (jG s _  (by omega)) rfl fun w51 m a hs=>?_
      refine z5 hs m (k:=eM (uN (y1 m (h1:=p_ (cN (eB s))) (k:=fun a hs=>?_))))
      refine cC hs m rfl rfl uP rfl (mS s _  (by omega)) rfl fun w52 m a hs=>?_
      refine z5 hs m (k:=eM fun a hs=>?_)
      refine fD ?_
      refine z6 hs m (h3:=dV rfl iU) (h4:=dV rfl iU) (h5:=dV rfl (fB (v:=.bool true) rfl rfl rfl)) (h6:=p_ (aP (r:=.bool true) rfl rfl rfl rfl)) (k:=y6 m (h2:=dV rfl iU) (h3:=dV rfl (gY rfl rfl tZ)) (h4:=dV rfl iU) (h5:=dV rfl (gY rfl rfl iP)) (h6:=dV rfl (oJ (a:=true) (b:=true) rfl rfl zM)) (k:=fun a hs=>?_))
      refine z2 hs m (h1:=p_ (aP (r:=.bool true) rfl rfl rfl rfl)) (k:=eM fun a hs=>?_)
      refine dG ?_
      refine bN ?_
      refine z2 hs m (k:=eM fun a hs=>?_)
      refine bV hs rfl rfl ?_
      refine wp_skip ?_
      refine aB ?_
      refine bN ?_
      refine z6 hs m (h2:=p_ (fE rfl rfl iP)) (h4:=iY rfl) (h5:=iY rfl) (h6:=iY rfl) (k:=y4 m (h1:=iY rfl) (h2:=iY rfl) (h3:=iY rfl) (h4:=p_ (aP (r:=.bool false) rfl rfl rfl rfl)) (k:=eM fun a hs=>?_))
      refine bV hs rfl rfl ?_
      refine wp_skip ?_
      refine eA (aB ?_)
      refine fD ?_
      refine z3 hs m (k:=eM fun a hs=>?_)
      exact⟨script.length-(k+1),by omega,k+1,hp,by omega,rfl,hs.to ⟨rfl,rfl,rfl,rfl,rfl,rfl,rfl,rfl,rfl,rfl,rfl,trivial⟩,m.sub (a1 (a1 .n))⟩
     have h50p:=ne_of_beq_false h50
     refine wp_skip ?_
     refine aB ?_
     refine dG ?_
     refine bN ?_
     refine z2 hs m (k:=eM fun a hs=>?_)
     refine bV hs rfl rfl ?_
     refine wp_skip ?_
     refine aB ?_
     refine bN ?_
     refine z6 hs m (h2:=p_ (fE rfl rfl iP)) (h4:=iY rfl) (h5:=iY rfl) (h6:=iY rfl) (k:=y4 m (h1:=iY rfl) (h2:=iY rfl) (h3:=iY rfl) (h4:=p_ (aP (r:=.bool false) rfl rfl rfl rfl)) (k:=eM fun a hs=>?_))
     refine bV hs rfl rfl ?_
     refine wp_skip ?_
     refine eA (aB ?_)
     refine fD ?_
     refine z3 hs m (k:=eM fun a hs=>?_)
     exact⟨script.length-(k+1),by omega,k+1,hp,by omega,rfl,hs.to ⟨rfl,rfl,rfl,rfl,rfl,rfl,rfl,rfl,rfl,rfl,rfl,trivial⟩,m.sub (a1 (a1 .n))⟩
   ·have hb36p:=ne_of_beq_false hb36
    refine z3 hs m (h3:=p_ (aP (r:=.bool false) rfl rfl rfl (by rw[hb36];rfl))) (k:=eM fun a hs=>?_)
    refine bV hs rfl rfl ?_
    refine bN ?_
    refine z4 hs m (k:=fun a hs=>?_)
    rcases Bool.eq_false_or_eq_true (o18.On.v !=0) with hb58|hb58
    ·have hb58p:=fT hb58
     refine z3 hs m (h2:=dV hb58 (fE rfl rfl iP)) (h3:=p_ (aP (r:=.bool false) rfl rfl rfl (by rw[hb58];rfl))) (k:=eM fun a hs=>?_)
     refine bV hs rfl rfl ?_
     refine wp_skip ?_
     refine aB ?_
     refine bN ?_
     refine z1 hs m (h1:=p_ (cN (eB s))) (k:=fun a hs=>?_)
     refine cC hs m rfl rfl nA rfl (jG s _  (by omega)) rfl fun w60 m a hs=>?_
     refine wpList_nil (aB ?_)
     refine dG ?_
     refine bN ?_
     refine z5 hs m (h3:=p_ (bQ m rfl pG (dX hscriptr))) (h4:=p_ (mE (r:=((cscript.length / 2:Nat):Int)) rfl rfl (by omega) (lD (n:=cscript.length) (by omega)))) (k:=eM fun a hs=>?_)
     refine aR hs rfl (fun h61=>?_) (fun h61=>?_)
     ·have h61p:=eq_of_beq h61
      refine bN ?_
      refine z1 hs m (h1:=p_ (cN (eB s))) (k:=fun a hs=>?_)
      refine cC hs m rfl rfl nA rfl (jG s _  (by omega)) rfl fun w62 m a hs=>?_
      refine z5 hs m (k:=eM (uN (y1 m (h1:=p_ (cN (eB s))) (k:=fun a hs=>?_))))
      refine cC hs m rfl rfl uP rfl (mS s _  (by omega)) rfl fun w63 m a hs=>?_
      refine z5 hs m (k:=eM fun a hs=>?_)
      refine fD ?_
      refine z6 hs m (h3:=dV rfl iU) (h4:=dV rfl iU) (h5:=dV rfl (fB (v:=.bool true) rfl rfl rfl)) (h6:=p_ (aP (r:=.bool true) rfl rfl rfl rfl)) (k:=y6 m (h2:=dV rfl iU) (h3:=dV rfl (gY rfl rfl tZ)) (h4:=dV rfl iU) (h5:=dV rfl (gY rfl rfl iP)) (h6:=dV rfl (oJ (a:=true) (b:=true) rfl rfl zM)) (k:=fun a hs=>?_))
      refine z2 hs m (h1:=p_ (aP (r:=.bool true) rfl rfl rfl rfl)) (k:=eM fun a hs=>?_)
      refine dG ?_
      refine bN ?_
      refine z2 hs m (k:=eM fun a hs=>?_)
      refine bV hs rfl rfl ?_
      refine wp_skip ?_
      refine aB ?_
      refine bN ?_
      refine z6 hs m (h2:=p_ (fE rfl rfl iP)) (h4:=iY rfl) (h5:=iY rfl) (h6:=iY rfl) (k:=y4 m (h1:=iY rfl) (h2:=iY rfl) (h3:=iY rfl) (h4:=p_ (aP (r:=.bool false) rfl rfl rfl rfl)) (k:=eM fun a hs=>?_))
      refine bV hs rfl rfl ?_
      refine wp_skip ?_
      refine eA (aB ?_)
      refine fD ?_
      refine z3 hs m (k:=eM fun a hs=>?_)
      exact⟨script.length-(k+1),by omega,k+1,hp,by omega,rfl,hs.to ⟨rfl,rfl,rfl,rfl,rfl,rfl,rfl,rfl,rfl,rfl,rfl,trivial⟩,m.sub (a1 (a1 .n))⟩
     have h61p:=ne_of_beq_false h61
     refine wp_skip ?_
     refine aB ?_
     refine dG ?_
     refine bN ?_
     refine z2 hs m (k:=eM fun a hs=>?_)
     refine bV hs rfl rfl ?_
     refine wp_skip ?_
     refine aB ?_
     refine bN ?_
     refine z6 hs m (h2:=p_ (fE rfl rfl iP)) (h4:=iY rfl) (h5:=iY rfl) (h6:=iY rfl) (k:=y4 m (h1:=iY rfl) (h2:=iY rfl) (h3:=iY rfl) (h4:=p_ (aP (r:=.bool false) rfl rfl rfl rfl)) (k:=eM fun a hs=>?_))
     refine bV hs rfl rfl ?_
     refine wp_skip ?_
     refine eA (aB ?_)
     refine fD ?_
     refine z3 hs m (k:=eM fun a hs=>?_)
     exact⟨script.length-(k+1),by omega,k+1,hp,by omega,rfl,hs.to ⟨rfl,rfl,rfl,rfl,rfl,rfl,rfl,rfl,rfl,rfl,rfl,trivial⟩,m.sub (a1 (a1 .n))⟩
    ·have hb58p:=dJ hb58
     refine z3 hs m (h3:=p_ (aP (r:=.bool false) rfl rfl rfl (by rw[hb58];rfl))) (k:=eM fun a hs=>?_)
     refine bV hs rfl rfl ?_
     refine wp_skip ?_
     refine aB ?_
     refine bN ?_
     refine z1 hs m (h1:=p_ (cN (eB s))) (k:=fun a hs=>?_)
     refine cC hs m rfl rfl nA rfl (jG s _  (by omega)) rfl fun w69 m a hs=>?_
     refine wpList_nil (aB ?_)
     refine dG ?_
     refine bN ?_
     refine z5 hs m (h3:=p_ (bQ m rfl pG (dX hscriptr))) (h4:=p_ (mE (r:=((cscript.length / 2:Nat):Int)) rfl rfl (by omega) (lD (n:=cscript.length) (by omega)))) (k:=eM fun a hs=>?_)
     refine aR hs rfl (fun h70=>?_) (fun h70=>?_)
     ·have h70p:=eq_of_beq h70
      refine bN ?_
      refine z1 hs m (h1:=p_ (cN (eB s))) (k:=fun a hs=>?_)
      refine cC hs m rfl rfl nA rfl (jG s _  (by omega)) rfl fun w71 m a hs=>?_
      refine z5 hs m (k:=eM (uN (y1 m (h1:=p_ (cN (eB s))) (k:=fun a hs=>?_))))
      refine cC hs m rfl rfl uP rfl (mS s _  (by omega)) rfl fun w72 m a hs=>?_
      refine z5 hs m (k:=eM fun a hs=>?_)
      refine fD ?_
      refine z6 hs m (h3:=dV rfl iU) (h4:=dV rfl iU) (h5:=dV rfl (fB (v:=.bool true) rfl rfl rfl)) (h6:=p_ (aP (r:=.bool true) rfl rfl rfl rfl)) (k:=y6 m (h2:=dV rfl iU) (h3:=dV rfl (gY rfl rfl tZ)) (h4:=dV rfl iU) (h5:=dV rfl (gY rfl rfl iP)) (h6:=dV rfl (oJ (a:=true) (b:=true) rfl rfl zM)) (k:=fun a hs=>?_))
      refine z2 hs m (h1:=p_ (aP (r:=.bool true) rfl rfl rfl rfl)) (k:=eM fun a hs=>?_)
      refine dG ?_
      refine bN ?_
      refine z2 hs m (k:=eM fun a hs=>?_)
      refine bV hs rfl rfl ?_
      refine wp_skip ?_
      refine aB ?_
      refine bN ?_
      refine z6 hs m (h2:=p_ (fE rfl rfl iP)) (h4:=iY rfl) (h5:=iY rfl) (h6:=iY rfl) (k:=y4 m (h1:=iY rfl) (h2:=iY rfl) (h3:=iY rfl) (h4:=p_ (aP (r:=.bool false) rfl rfl rfl rfl)) (k:=eM fun a hs=>?_))
      refine bV hs rfl rfl ?_
      refine wp_skip ?_
      refine eA (aB ?_)
      refine fD ?_
      refine z3 hs m (k:=eM fun a hs=>?_)
      exact⟨script.length-(k+1),by omega,k+1,hp,by omega,rfl,hs.to ⟨rfl,rfl,rfl,rfl,rfl,rfl,rfl,rfl,rfl,rfl,rfl,trivial⟩,m.sub (a1 (a1 .n))⟩
     have h70p:=ne_of_beq_false h70
     refine wp_skip ?_
     refine aB ?_
     refine dG ?_
     refine bN ?_
     refine z2 hs m (k:=eM fun a hs=>?_)
     refine bV hs rfl rfl ?_
     refine wp_skip ?_
     refine aB ?_
     refine bN ?_
     refine z6 hs m (h2:=p_ (fE rfl rfl iP)) (h4:=iY rfl) (h5:=iY rfl) (h6:=iY rfl) (k:=y4 m (h1:=iY rfl) (h2:=iY rfl) (h3:=iY rfl) (h4:=p_ (aP (r:=.bool false) rfl rfl rfl rfl)) (k:=eM fun a hs=>?_))
     refine bV hs rfl rfl ?_
     refine wp_skip ?_
     refine eA (aB ?_)
     refine fD ?_
     refine z3 hs m (k:=eM fun a hs=>?_)
     exact⟨script.length-(k+1),by omega,k+1,hp,by omega,rfl,hs.to ⟨rfl,rfl,rfl,rfl,rfl,rfl,rfl,rfl,rfl,rfl,rfl,trivial⟩,m.sub (a1 (a1 .n))⟩
  ·refine bN ?_
   refine dU (cs:=eB s) hs m rfl rfl rfl fun p77 w78 m a hs=>?_
   refine dU (cs:=eB oth) hs m rfl rfl rfl fun p79 w80 m a hs=>?_
   refine z1 hs m (k:=eM (uN fun a hs=>?_))
   refine cC hs m rfl rfl aRZ rfl (aAR  _  ) rfl fun w81 m a hs=>?_
   refine z1 hs m (k:=eM fun a hs=>?_)
   refine dG ?_
   refine bN ?_
   refine z2 hs m (k:=eM fun a hs=>?_)
   refine bV hs rfl rfl ?_
   refine wp_skip ?_
   refine aB ?_
   refine bN ?_
   refine z1 hs m (h1:=p_ (cN (eB s))) (k:=fun a hs=>?_)
   refine cC hs m rfl rfl nA rfl (jG s _  (by omega)) rfl fun w83 m a hs=>?_
   refine z5 hs m (k:=eM (uN (y1 m (h1:=p_ (cN (eB s))) (k:=fun a hs=>?_))))
   refine cC hs m rfl rfl uP rfl (mS s _  (by omega)) rfl fun w84 m a hs=>?_
   refine z5 hs m (k:=eM (uN (y1 m (h1:=p_ (cN (eB oth))) (k:=fun a hs=>?_))))
   refine fH m hs nA (jW oth _  (by omega)) fun v85 w86 m a hs=>?_
   simp only[iG] at m
   refine z5 hs m (k:=eM (uN (y1 m (h1:=p_ (cN (eB oth))) (k:=fun a hs=>?_))))
   refine fH m hs uP (pN oth _  (by omega)) fun v87 w88 m a hs=>?_
   simp only[iG] at m
   refine z5 hs m (k:=eM (uN fun a hs=>?_))
   refine fH m hs aR0 (aC9  _  ) fun v89 w90 m a hs=>?_
   simp only[iG] at m
   refine z1 hs m (k:=eM fun a hs=>?_)
   refine dG ?_
   refine bN ?_
   refine z6 hs m (h3:=p_ (fB (v:=.bool false) rfl rfl rfl)) (h5:=dV rfl iU) (h6:=dV rfl iU) (k:=y6 m (h1:=dV rfl (fB (v:=.bool false) rfl rfl rfl)) (h2:=p_ (aP (r:=.bool false) rfl rfl rfl rfl)) (h4:=dV rfl iU) (h5:=dV rfl (gY rfl rfl tZ)) (h6:=dV rfl iU) (k:=fun a hs=>?_))
   refine z6 hs m (h1:=dV rfl (gY rfl rfl iP)) (h2:=dV rfl (tY (a:=true) (b:=true) rfl rfl zM)) (h3:=p_ (aP (r:=.bool false) rfl rfl rfl rfl)) (h5:=dV rfl iU) (h6:=dV rfl (iJ rfl rfl tZ)) (k:=y4 m (h1:=dV rfl iU) (h2:=dV rfl (iJ rfl rfl iP)) (h3:=dV rfl (tY (a:=false) (b:=false) rfl rfl zM)) (h4:=p_ (aP (r:=.bool false) rfl rfl rfl rfl)) (k:=eM fun a hs=>?_))
   refine bV hs rfl rfl ?_
   refine wp_skip ?_
   refine aB ?_
   refine bN ?_
   refine z1 hs m (k:=eM (uN (y1 m (k:=eM fun a hs=>?_))))
   refine dG ?_
   refine bN ?_
   refine z1 hs m (k:=eM fun a hs=>?_)
   refine wp_block ?_
   have q92:qJ oth=(iV (jV oth)):=by clear hs m;rfl
   replace m:=m.swp (q:=tP v85 (iV (jV oth))) s2 (fun _ e=>by rw[<-q92];exact e)
   refine wp_loop_ghost (fun gn a w=>∃ k:Nat,∃ hp:PcM,∃ rb:gU,(k<=script.length)/\((Okk rb (kQ (script.take k)) k))/\gn=script.length-k/\St 143 [(2,vscript.v),(3,.pointer (some (bK p77 0))),(7,.bool true),(8,(.pointer none)),(10,(.pointer none)),(12,.pointer (some (bK v85 0))),(14,.pointer (some (bK v87 0))),(16,.pointer (some (bK v89 0))),(17,(.pointer none)),(18,(.pointer none)),(19,.int .i64 (k:Int))] a/\Hp w0 (hh w0) [Bx p77 61 (eB s),tP v85 (iV rb),sX v87 rb,PcP v89 hp] w) (script.length-0) ⟨0,(⟨[],[],[],[],[]⟩:PcM),(jV oth),by omega,by exact sC oth _ _,rfl,hs.to ⟨rfl,rfl,rfl,rfl,rfl,rfl,rfl,rfl,rfl,rfl,rfl,trivial⟩,m.sub (a4 (a2 (a1 (a0 .n))))⟩ ?_
   rintro gn a w93 ⟨k,hp,rb,hk,hrb,rfl,hs,m⟩
   have zrb:=wX hrb A1 hk
   refine dG ?_
   refine bN ?_
   refine z4 hs m (h3:=p_ (bQ m rfl pG (dX hscriptr))) (k:=eM fun a hs=>?_)
   refine aR hs rfl (fun h94=>?_) (fun h94=>?_)
   rotate_left
   ·have h94p:=of_decide_eq_false h94
    refine wp_exit ?_
    refine eK (eK (lL (?_)))
    refine aB ?_
    refine bN ?_
    refine z1 hs m (k:=eM fun a hs=>?_)
    refine wp_ret ?_
    refine bH hs (vs:=[.bool true]) rfl ⟨rfl,trivial⟩ ?_
    refine⟨?_,m.sub .n⟩
    rfl
   have h94p:=of_decide_eq_true h94
   refine wp_skip ?_
   refine aB ?_
   refine dG ?_
   refine wp_block ?_
   refine bN ?_
   refine z2 hs m (k:=fun a hs=>?_)
   obtain⟨e95,he96⟩:=bI (l:=cscript) (i:=k) (by omega)
   obtain⟨o97,ho98⟩:=bI (l:=script) (i:=k) (by omega)
   obtain⟨x99,x100,x101,x102,x103,rfl,hx104,hx105,hx106,hx107,hx108⟩:=hscripte _ _ _ he96 ho98
   have lx99:=hx104.bd
   have lx100:=hx105.bd
   have lx101:=hx106.bd
   have lx102:=hx107.bd
   have lx103:=hx108.bd
   refine kE (c:=id) (e:=(sV o97.Kind o97.On o97.Now o97.Err o97.Answer o97.Rev o97.Snap_Now x99.v x100.v x101.v x102.v x103.v:List Value)) hs m (x:=(.tmp 73)) (ix:=(.tmp 74)) rfl rfl pG aAJ hscriptr (by omega) he96 fun p109 hp110 ok111=>?_
   refine z2 hs m (h1:=p_ (ok111 _ _ _ _ _)) (h2:=p_ (cN (sV o97.Kind o97.On o97.Now o97.Err o97.Answer o97.Rev o97.Snap_Now x99.v x100.v x101.v x102.v x103.v))) (k:=fun a hs=>?_)
   refine bZ hs m aOF rfl fun p112 w113 m a hs=>?_
   refine xB (cs':=sV o97.Kind o97.On o97.Now o97.Err o97.Answer o97.Rev o97.Snap_Now x99.v x100.v x101.v x102.v x103.v) (vs:=sV o97.Kind o97.On o97.Now o97.Err o97.Answer o97.Rev o97.Snap_Now x99.v x100.v x101.v x102.v x103.v) hs m rfl rfl aAJ s0 (by kernel_rfl) (by kernel_rfl) (by kernel_rfl) (by kernel_rfl) (by kernel_rfl) fun w114 m=>?_
   refine wpList_nil (aB ?_)
   refine dG ?_
   refine bN ?_
   refine z4 hs m (k:=fun a hs=>?_)
   rcases Bool.eq_false_or_eq_true (o97.On.v==0) with hb115|hb115
   ·have hb115p:=eq_of_beq hb115
    refine z3 hs m (h2:=dV hb115 (fE rfl rfl iP)) (h3:=p_ (aP (r:=.bool false) rfl rfl rfl (by rw[hb115];rfl))) (k:=eM fun a hs=>?_)
    refine bV hs rfl rfl ?_
    refine bN ?_
    refine z4 hs m (k:=fun a hs=>?_)
    rcases Bool.eq_false_or_eq_true (o97.On.v !=0) with hb117|hb117
    ·have hb117p:=fT hb117
     refine z3 hs m (h2:=dV hb117 (hO rfl rfl iP)) (h3:=p_ (aP (r:=.bool true) rfl rfl rfl (by rw[hb117];rfl))) (k:=eM fun a hs=>?_)
     refine lU hs rfl rfl ?_
     refine fD ?_
     refine z4 hs m (h4:=p_ (cN (sV o97.Kind o97.On o97.Now o97.Err o97.Answer o97.Rev o97.Snap_Now x99.v x100.v x101.v x102.v x103.v))) (k:=fun a hs=>?_)
     refine eW 3 (m.sub (a4 (a2 (a2 (a0 (a0 .n)))))) hs vO (fun R1 hR ⟨y1,sy,ly⟩ mc=>lI v89 hp v85 (iV rb) v87 rb o97.Kind o97.On o97.Now o97.Err o97.Answer o97.Rev o97.Snap_Now x99 o97.Leases x100 o97.Events x101 o97.Routes x102 o97.Neighs x103 o97.Fdbs _ R1 (hx104.le hR) (hx105.le hR) (hx106.le hR) (hx107.le hR) (hx108.le hR) (by rfl) (by omega) (by omega) (by omega) (by omega) (by omega) (by omega) (by omega) (by omega) (by omega) (by omega) (by omega) mc) fun w119 m a hs=>?_
     simp only[iG] at m
     refine z1 hs m (k:=eM (uN (y1 m (h1:=p_ (cN (eB s))) (k:=fun a hs=>?_))))
     refine cC hs m rfl rfl nA rfl (jG s _  (by omega)) rfl fun w120 m a hs=>?_
     refine wpList_nil (aB ?_)
     refine dG ?_
     refine bN ?_
     refine z5 hs m (h3:=p_ (bQ m rfl pG (dX hscriptr))) (h4:=p_ (mE (r:=((cscript.length / 2:Nat):Int)) rfl rfl (by omega) (lD (n:=cscript.length) (by omega)))) (k:=eM fun a hs=>?_)
     refine aR hs rfl (fun h121=>?_) (fun h121=>?_)
     ·have h121p:=eq_of_beq h121
      refine bN ?_
      refine z1 hs m (h1:=p_ (cN (eB s))) (k:=fun a hs=>?_)
      refine cC hs m rfl rfl nA rfl (jG s _  (by omega)) rfl fun w122 m a hs=>?_
      refine z5 hs m (k:=eM (uN (y1 m (h1:=p_ (cN (eB s))) (k:=fun a hs=>?_))))
      refine cC hs m rfl rfl uP rfl (mS s _  (by omega)) rfl fun w123 m a hs=>?_
      refine z5 hs m (k:=eM fun a hs=>?_)
      refine fD ?_
      refine z6 hs m (h3:=dV rfl iU) (h4:=dV rfl iU) (h5:=dV rfl (fB (v:=.bool true) rfl rfl rfl)) (h6:=p_ (aP (r:=.bool true) rfl rfl rfl rfl)) (k:=y6 m (h2:=dV rfl iU) (h3:=dV rfl (gY rfl rfl tZ)) (h4:=dV rfl iU) (h5:=dV rfl (gY rfl rfl iP)) (h6:=dV rfl (oJ (a:=true) (b:=true) rfl rfl zM)) (k:=fun a hs=>?_))
      refine z2 hs m (h1:=p_ (aP (r:=.bool true) rfl rfl rfl rfl)) (k:=eM fun a hs=>?_)
      refine dG ?_
      refine bN ?_
      refine z2 hs m (k:=eM fun a hs=>?_)
      refine bV hs rfl rfl ?_
      refine wp_skip ?_
      refine aB ?_
      refine bN ?_
      refine z6 hs m (h2:=p_ (fE rfl rfl iP)) (h4:=iY rfl) (h5:=iY rfl) (h6:=iY rfl) (k:=y4 m (h1:=iY rfl) (h2:=iY rfl) (h3:=iY rfl) (h4:=p_ (aP (r:=.bool false) rfl rfl rfl rfl)) (k:=eM fun a hs=>?_))
      refine bV hs rfl rfl ?_
      refine wp_skip ?_
      refine eA (aB ?_)
      refine fD ?_
      refine z3 hs m (k:=eM fun a hs=>?_)
      exact⟨script.length-(k+1),by omega,k+1,uV hp o97,gP rb o97,by omega,by exact iE hrb (by assumption) A1,rfl,hs.to ⟨rfl,rfl,rfl,rfl,rfl,rfl,rfl,rfl,rfl,rfl,rfl,trivial⟩,m.sub (a4 (a1 (a1 (a0 .n))))⟩
     have h121p:=ne_of_beq_false h121
     refine wp_skip ?_
     refine aB ?_
     refine dG ?_
     refine bN ?_
     refine z2 hs m (k:=eM fun a hs=>?_)
     refine bV hs rfl rfl ?_
     refine wp_skip ?_
     refine aB ?_
     refine bN ?_
     refine z6 hs m (h2:=p_ (fE rfl rfl iP)) (h4:=iY rfl) (h5:=iY rfl) (h6:=iY rfl) (k:=y4 m (h1:=iY rfl) (h2:=iY rfl) (h3:=iY rfl) (h4:=p_ (aP (r:=.bool false) rfl rfl rfl rfl)) (k:=eM fun a hs=>?_))
     refine bV hs rfl rfl ?_
     refine wp_skip ?_
     refine eA (aB ?_)
     refine fD ?_
     refine z3 hs m (k:=eM fun a hs=>?_)
     exact⟨script.length-(k+1),by omega,k+1,uV hp o97,gP rb o97,by omega,by exact iE hrb (by assumption) A1,rfl,hs.to ⟨rfl,rfl,rfl,rfl,rfl,rfl,rfl,rfl,rfl,rfl,rfl,trivial⟩,m.sub (a4 (a1 (a1 (a0 .n))))⟩
    ·have hb117p:=dJ hb117
     refine z3 hs m (h3:=p_ (aP (r:=.bool false) rfl rfl rfl (by rw[hb117];rfl))) (k:=eM fun a hs=>?_)
     refine bV hs rfl rfl ?_
     refine wp_skip ?_
     refine aB ?_
     refine bN ?_
     refine z1 hs m (h1:=p_ (cN (eB s))) (k:=fun a hs=>?_)
     refine cC hs m rfl rfl nA rfl (jG s _  (by omega)) rfl fun w129 m a hs=>?_
     refine wpList_nil (aB ?_)
     refine dG ?_
     refine bN ?_
     refine z5 hs m (h3:=p_ (bQ m rfl pG (dX hscriptr))) (h4:=p_ (mE (r:=((cscript.length / 2:Nat):Int)) rfl rfl (by omega) (lD (n:=cscript.length) (by omega)))) (k:=eM fun a hs=>?_)
     refine aR hs rfl (fun h130=>?_) (fun h130=>?_)
     ·have h130p:=eq_of_beq h130
      refine bN ?_
      refine z1 hs m (h1:=p_ (cN (eB s))) (k:=fun a hs=>?_)
      refine cC hs m rfl rfl nA rfl (jG s _  (by omega)) rfl fun w131 m a hs=>?_
      refine z5 hs m (k:=eM (uN (y1 m (h1:=p_ (cN (eB s))) (k:=fun a hs=>?_))))
      refine cC hs m rfl rfl uP rfl (mS s _  (by omega)) rfl fun w132 m a hs=>?_
      refine z5 hs m (k:=eM fun a hs=>?_)
      refine fD ?_
      refine z6 hs m (h3:=dV rfl iU) (h4:=dV rfl iU) (h5:=dV rfl (fB (v:=.bool true) rfl rfl rfl)) (h6:=p_ (aP (r:=.bool true) rfl rfl rfl rfl)) (k:=y6 m (h2:=dV rfl iU) (h3:=dV rfl (gY rfl rfl tZ)) (h4:=dV rfl iU) (h5:=dV rfl (gY rfl rfl iP)) (h6:=dV rfl (oJ (a:=true) (b:=true) rfl rfl zM)) (k:=fun a hs=>?_))
      refine z2 hs m (h1:=p_ (aP (r:=.bool true) rfl rfl rfl rfl)) (k:=eM fun a hs=>?_)
      refine dG ?_
      refine bN ?_
      refine z2 hs m (k:=eM fun a hs=>?_)
      refine bV hs rfl rfl ?_
      refine wp_skip ?_
      refine aB ?_
      refine bN ?_
      refine z6 hs m (h2:=p_ (fE rfl rfl iP)) (h4:=iY rfl) (h5:=iY rfl) (h6:=iY rfl) (k:=y4 m (h1:=iY rfl) (h2:=iY rfl) (h3:=iY rfl) (h4:=p_ (aP (r:=.bool false) rfl rfl rfl rfl)) (k:=eM fun a hs=>?_))
      refine bV hs rfl rfl ?_
      refine wp_skip ?_
      refine eA (aB ?_)
      refine fD ?_
      refine z3 hs m (k:=eM fun a hs=>?_)
      exact⟨script.length-(k+1),by omega,k+1,hp,rb,by omega,by exact iS hrb,rfl,hs.to ⟨rfl,rfl,rfl,rfl,rfl,rfl,rfl,rfl,rfl,rfl,rfl,trivial⟩,m.sub (a1 (a1 (a1 (a1 .n))))⟩
     have h130p:=ne_of_beq_false h130
     refine wp_skip ?_
     refine aB ?_
     refine dG ?_
     refine bN ?_
     refine z2 hs m (k:=eM fun a hs=>?_)
     refine bV hs rfl rfl ?_
     refine wp_skip ?_
     refine aB ?_
     refine bN ?_
     refine z6 hs m (h2:=p_ (fE rfl rfl iP)) (h4:=iY rfl) (h5:=iY rfl) (h6:=iY rfl) (k:=y4 m (h1:=iY rfl) (h2:=iY rfl) (h3:=iY rfl) (h4:=p_ (aP (r:=.bool false) rfl rfl rfl rfl)) (k:=eM fun a hs=>?_))
     refine bV hs rfl rfl ?_
     refine wp_skip ?_
     refine eA (aB ?_)
     refine fD ?_
     refine z3 hs m (k:=eM fun a hs=>?_)
     exact⟨script.length-(k+1),by omega,k+1,hp,rb,by omega,by exact iS hrb,rfl,hs.to ⟨rfl,rfl,rfl,rfl,rfl,rfl,rfl,rfl,rfl,rfl,rfl,trivial⟩,m.sub (a1 (a1 (a1 (a1 .n))))⟩
   ·have hb115p:=ne_of_beq_false hb115
    refine z3 hs m (h3:=p_ (aP (r:=.bool false) rfl rfl rfl (by rw[hb115];rfl))) (k:=eM fun a hs=>?_)
    refine bV hs rfl rfl ?_
    refine bN ?_
    refine z4 hs m (k:=fun a hs=>?_)
    rcases Bool.eq_false_or_eq_true (o97.On.v !=0) with hb138|hb138
    ·have hb138p:=fT hb138
     refine z3 hs m (h2:=dV hb138 (hO rfl rfl iP)) (h3:=p_ (aP (r:=.bool true) rfl rfl rfl (by rw[hb138];rfl))) (k:=eM fun a hs=>?_)
     refine lU hs rfl rfl ?_
     refine fD ?_
     refine z4 hs m (h4:=p_ (cN (sV o97.Kind o97.On o97.Now o97.Err o97.Answer o97.Rev o97.Snap_Now x99.v x100.v x101.v x102.v x103.v))) (k:=fun a hs=>?_)
     refine eW 3 (m.sub (a4 (a2 (a2 (a0 (a0 .n)))))) hs vO (fun R1 hR ⟨y1,sy,ly⟩ mc=>lI v89 hp v85 (iV rb) v87 rb o97.Kind o97.On o97.Now o97.Err o97.Answer o97.Rev o97.Snap_Now x99 o97.Leases x100 o97.Events x101 o97.Routes x102 o97.Neighs x103 o97.Fdbs _ R1 (hx104.le hR) (hx105.le hR) (hx106.le hR) (hx107.le hR) (hx108.le hR) (by rfl) (by exact hrb.inv) (by omega) (by omega) (by omega) (by omega) (by omega) (by(have q:=fI A1 (by assumption);omega)) (by(have q:=fI A1 (by assumption);omega)) (by(have q:=fI A1 (by assumption);omega)) (by(have q:=fI A1 (by assumption);omega)) (by(have q:=fI A1 (by assumption);omega)) mc) fun w140 m a hs=>?_
     simp only[iG] at m
     refine z1 hs m (k:=eM (uN (y1 m (h1:=p_ (cN (eB s))) (k:=fun a hs=>?_))))
     refine cC hs m rfl rfl nA rfl (jG s _  (by omega)) rfl fun w141 m a hs=>?_
     refine wpList_nil (aB ?_)
     refine dG ?_
     refine bN ?_
     refine z5 hs m (h3:=p_ (bQ m rfl pG (dX hscriptr))) (h4:=p_ (mE (r:=((cscript.length / 2:Nat):Int)) rfl rfl (by omega) (lD (n:=cscript.length) (by omega)))) (k:=eM fun a hs=>?_)
     refine aR hs rfl (fun h142=>?_) (fun h142=>?_)
     ·have h142p:=eq_of_beq h142
      refine bN ?_
      refine z1 hs m (h1:=p_ (cN (eB s))) (k:=fun a hs=>?_)
      refine cC hs m rfl rfl nA rfl (jG s _  (by omega)) rfl fun w143 m a hs=>?_
      refine z5 hs m (k:=eM (uN (y1 m (h1:=p_ (cN (eB s))) (k:=fun a hs=>?_))))
      refine cC hs m rfl rfl uP rfl (mS s _  (by omega)) rfl fun w144 m a hs=>?_
      refine z5 hs m (k:=eM fun a hs=>?_)
      refine fD ?_
      refine z6 hs m (h3:=dV rfl iU) (h4:=dV rfl iU) (h5:=dV rfl (fB (v:=.bool true) rfl rfl rfl)) (h6:=p_ (aP (r:=.bool true) rfl rfl rfl rfl)) (k:=y6 m (h2:=dV rfl iU) (h3:=dV rfl (gY rfl rfl tZ)) (h4:=dV rfl iU) (h5:=dV rfl (gY rfl rfl iP)) (h6:=dV rfl (oJ (a:=true) (b:=true) rfl rfl zM)) (k:=fun a hs=>?_))
      refine z2 hs m (h1:=p_ (aP (r:=.bool true) rfl rfl rfl rfl)) (k:=eM fun a hs=>?_)
      refine dG ?_
      refine bN ?_
      refine z2 hs m (k:=eM fun a hs=>?_)
      refine bV hs rfl rfl ?_
      refine wp_skip ?_
      refine aB ?_
      refine bN ?_
      refine z6 hs m (h2:=p_ (fE rfl rfl iP)) (h4:=iY rfl) (h5:=iY rfl) (h6:=iY rfl) (k:=y4 m (h1:=iY rfl) (h2:=iY rfl) (h3:=iY rfl) (h4:=p_ (aP (r:=.bool false) rfl rfl rfl rfl)) (k:=eM fun a hs=>?_))
      refine bV hs rfl rfl ?_
      refine wp_skip ?_
      refine eA (aB ?_)
      refine fD ?_
      refine z3 hs m (k:=eM fun a hs=>?_)
      exact⟨script.length-(k+1),by omega,k+1,uV hp o97,gP rb o97,by omega,by exact iE hrb (by assumption) A1,rfl,hs.to ⟨rfl,rfl,rfl,rfl,rfl,rfl,rfl,rfl,rfl,rfl,rfl,trivial⟩,m.sub (a4 (a1 (a1 (a0 .n))))⟩
     have h142p:=ne_of_beq_false h142
     refine wp_skip ?_
     refine aB ?_
     refine dG ?_
     refine bN ?_
     refine z2 hs m (k:=eM fun a hs=>?_)
     refine bV hs rfl rfl ?_
     refine wp_skip ?_
     refine aB ?_
     refine bN ?_
     refine z6 hs m (h2:=p_ (fE rfl rfl iP)) (h4:=iY rfl) (h5:=iY rfl) (h6:=iY rfl) (k:=y4 m (h1:=iY rfl) (h2:=iY rfl) (h3:=iY rfl) (h4:=p_ (aP (r:=.bool false) rfl rfl rfl rfl)) (k:=eM fun a hs=>?_))
     refine bV hs rfl rfl ?_
     refine wp_skip ?_
     refine eA (aB ?_)
     refine fD ?_
     refine z3 hs m (k:=eM fun a hs=>?_)
     exact⟨script.length-(k+1),by omega,k+1,uV hp o97,gP rb o97,by omega,by exact iE hrb (by assumption) A1,rfl,hs.to ⟨rfl,rfl,rfl,rfl,rfl,rfl,rfl,rfl,rfl,rfl,rfl,trivial⟩,m.sub (a4 (a1 (a1 (a0 .n))))⟩
    ·have hb138p:=dJ hb138
     refine z3 hs m (h3:=p_ (aP (r:=.bool false) rfl rfl rfl (by rw[hb138];rfl))) (k:=eM fun a hs=>?_)
     refine bV hs rfl rfl ?_
     refine wp_skip ?_
     refine aB ?_
     refine bN ?_
     refine z1 hs m (h1:=p_ (cN (eB s))) (k:=fun a hs=>?_)
     refine cC hs m rfl rfl nA rfl (jG s _  (by omega)) rfl fun w150 m a hs=>?_
     refine wpList_nil (aB ?_)
     refine dG ?_
     refine bN ?_
     refine z5 hs m (h3:=p_ (bQ m rfl pG (dX hscriptr))) (h4:=p_ (mE (r:=((cscript.length / 2:Nat):Int)) rfl rfl (by omega) (lD (n:=cscript.length) (by omega)))) (k:=eM fun a hs=>?_)
     refine aR hs rfl (fun h151=>?_) (fun h151=>?_)
     ·have h151p:=eq_of_beq h151
      refine bN ?_
      refine z1 hs m (h1:=p_ (cN (eB s))) (k:=fun a hs=>?_)
      refine cC hs m rfl rfl nA rfl (jG s _  (by omega)) rfl fun w152 m a hs=>?_
      refine z5 hs m (k:=eM (uN (y1 m (h1:=p_ (cN (eB s))) (k:=fun a hs=>?_))))
      refine cC hs m rfl rfl uP rfl (mS s _  (by omega)) rfl fun w153 m a hs=>?_
      refine z5 hs m (k:=eM fun a hs=>?_)
      refine fD ?_
      refine z6 hs m (h3:=dV rfl iU) (h4:=dV rfl iU) (h5:=dV rfl (fB (v:=.bool true) rfl rfl rfl)) (h6:=p_ (aP (r:=.bool true) rfl rfl rfl rfl)) (k:=y6 m (h2:=dV rfl iU) (h3:=dV rfl (gY rfl rfl tZ)) (h4:=dV rfl iU) (h5:=dV rfl (gY rfl rfl iP)) (h6:=dV rfl (oJ (a:=true) (b:=true) rfl rfl zM)) (k:=fun a hs=>?_))
      refine z2 hs m (h1:=p_ (aP (r:=.bool true) rfl rfl rfl rfl)) (k:=eM fun a hs=>?_)
      refine dG ?_
      refine bN ?_
      refine z2 hs m (k:=eM fun a hs=>?_)
      refine bV hs rfl rfl ?_
      refine wp_skip ?_
      refine aB ?_
      refine bN ?_
      refine z6 hs m (h2:=p_ (fE rfl rfl iP)) (h4:=iY rfl) (h5:=iY rfl) (h6:=iY rfl) (k:=y4 m (h1:=iY rfl) (h2:=iY rfl) (h3:=iY rfl) (h4:=p_ (aP (r:=.bool false) rfl rfl rfl rfl)) (k:=eM fun a hs=>?_))
      refine bV hs rfl rfl ?_
      refine wp_skip ?_
      refine eA (aB ?_)
      refine fD ?_
      refine z3 hs m (k:=eM fun a hs=>?_)
      exact⟨script.length-(k+1),by omega,k+1,hp,rb,by omega,by exact iS hrb,rfl,hs.to ⟨rfl,rfl,rfl,rfl,rfl,rfl,rfl,rfl,rfl,rfl,rfl,trivial⟩,m.sub (a1 (a1 (a1 (a1 .n))))⟩
     have h151p:=ne_of_beq_false h151
     refine wp_skip ?_
     refine aB ?_
     refine dG ?_
     refine bN ?_
     refine z2 hs m (k:=eM fun a hs=>?_)
     refine bV hs rfl rfl ?_
     refine wp_skip ?_
     refine aB ?_
     refine bN ?_
     refine z6 hs m (h2:=p_ (fE rfl rfl iP)) (h4:=iY rfl) (h5:=iY rfl) (h6:=iY rfl) (k:=y4 m (h1:=iY rfl) (h2:=iY rfl) (h3:=iY rfl) (h4:=p_ (aP (r:=.bool false) rfl rfl rfl rfl)) (k:=eM fun a hs=>?_))
     refine bV hs rfl rfl ?_
     refine wp_skip ?_
     refine eA (aB ?_)
     refine fD ?_
     refine z3 hs m (k:=eM fun a hs=>?_)
     exact⟨script.length-(k+1),by omega,k+1,hp,rb,by omega,by exact iS hrb,rfl,hs.to ⟨rfl,rfl,rfl,rfl,rfl,rfl,rfl,rfl,rfl,rfl,rfl,trivial⟩,m.sub (a1 (a1 (a1 (a1 .n))))⟩
 ·rcases Bool.eq_false_or_eq_true (wJ oth) with hbo|hbo
  ·refine bN ?_
   refine dU (cs:=eB s) hs m rfl rfl rfl fun p158 w159 m a hs=>?_
   refine dU (cs:=eB oth) hs m rfl rfl rfl fun p160 w161 m a hs=>?_
   refine z1 hs m (k:=eM (uN fun a hs=>?_))
   refine cC hs m rfl rfl aRZ rfl (aAR  _  ) rfl fun w162 m a hs=>?_
   refine z1 hs m (k:=eM fun a hs=>?_)
   refine dG ?_
   refine bN ?_
   refine z2 hs m (k:=eM fun a hs=>?_)
   refine bV hs rfl rfl ?_
   refine wp_skip ?_
   refine aB ?_
   refine bN ?_
   refine z1 hs m (h1:=p_ (cN (eB s))) (k:=fun a hs=>?_)
   refine fH m hs nA (jW s _  (by omega)) fun v164 w165 m a hs=>?_
   simp only[iG] at m
   refine z5 hs m (k:=eM (uN (y1 m (h1:=p_ (cN (eB s))) (k:=fun a hs=>?_))))
   refine fH m hs uP (pN s _  (by omega)) fun v166 w167 m a hs=>?_
   simp only[iG] at m
   refine z5 hs m (k:=eM (uN (y1 m (h1:=p_ (cN (eB oth))) (k:=fun a hs=>?_))))
   refine cC hs m rfl rfl nA rfl (jG oth _  (by omega)) rfl fun w168 m a hs=>?_
   refine z5 hs m (k:=eM (uN (y1 m (h1:=p_ (cN (eB oth))) (k:=fun a hs=>?_))))
   refine cC hs m rfl rfl uP rfl (mS oth _  (by omega)) rfl fun w169 m a hs=>?_
   refine z5 hs m (k:=eM (uN fun a hs=>?_))
   refine fH m hs aR0 (aC9  _  ) fun v170 w171 m a hs=>?_
   simp only[iG] at m
   refine z1 hs m (k:=eM fun a hs=>?_)
   refine dG ?_
   refine bN ?_
   refine z6 hs m (h3:=p_ (fB (v:=.bool false) rfl rfl rfl)) (h5:=dV rfl iU) (h6:=dV rfl iU) (k:=y6 m (h1:=dV rfl (fB (v:=.bool false) rfl rfl rfl)) (h2:=p_ (aP (r:=.bool false) rfl rfl rfl rfl)) (h4:=dV rfl iU) (h5:=dV rfl (iJ rfl rfl tZ)) (h6:=dV rfl iU) (k:=fun a hs=>?_))
   refine z6 hs m (h1:=dV rfl (iJ rfl rfl iP)) (h2:=dV rfl (tY (a:=false) (b:=false) rfl rfl zM)) (h3:=p_ (aP (r:=.bool false) rfl rfl rfl rfl)) (h5:=dV rfl iU) (h6:=dV rfl (gY rfl rfl tZ)) (k:=y4 m (h1:=dV rfl iU) (h2:=dV rfl (gY rfl rfl iP)) (h3:=dV rfl (tY (a:=true) (b:=true) rfl rfl zM)) (h4:=p_ (aP (r:=.bool false) rfl rfl rfl rfl)) (k:=eM fun a hs=>?_))
   refine bV hs rfl rfl ?_
   refine wp_skip ?_
   refine aB ?_
   refine bN ?_
   refine z1 hs m (k:=eM (uN (y1 m (k:=eM fun a hs=>?_))))
   refine dG ?_
   refine bN ?_
   refine z1 hs m (k:=eM fun a hs=>?_)
   refine wp_block ?_
   have q173:qJ s=(iV (jV s)):=by clear hs m;rfl
   replace m:=m.swp (q:=tP v164 (iV (jV s))) s2 (fun _ e=>by rw[<-q173];exact e)
   refine wp_loop_ghost (fun gn a w=>(∃ k:Nat,∃ hp:PcM,∃ ra:gU,(k<=script.length)/\((Okk ra (kQ (script.take k)) k))/\(k<=cscript.length / 2)/\gn=script.length-k/\St 143 [(2,vscript.v),(3,.pointer (some (bK p158 0))),(7,.bool true),(8,.pointer (some (bK v164 0))),(10,.pointer (some (bK v166 0))),(12,(.pointer none)),(14,(.pointer none)),(16,.pointer (some (bK v170 0))),(17,(.pointer none)),(18,(.pointer none)),(19,.int .i64 (k:Int))] a/\Hp w0 (hh w0) [Bx p158 61 (eB s),tP v164 (iV ra),sX v166 ra,PcP v170 hp] w)\/(∃ k:Nat,∃ hp:PcM,∃ ra:gU,∃ rx:gU,∃ px:Addr,∃ py:Addr,(k<=script.length)/\((Okk ra (kQ (script.take k)) k))/\(cscript.length / 2<k)/\((Okk rx (kQ (script.take k)) k))/\gn=script.length-k/\St 143 [(2,vscript.v),(3,.pointer (some (bK p158 0))),(7,.bool true),(8,.pointer (some (bK v164 0))),(10,.pointer (some (bK v166 0))),(12,(.pointer none)),(14,(.pointer none)),(16,.pointer (some (bK v170 0))),(17,.pointer (some (bK px 0))),(18,.pointer (some (bK py 0))),(19,.int .i64 (k:Int))] a/\Hp w0 (hh w0) [Bx p158 61 (eB s),tP v164 (iV ra),sX v166 ra,PcP v170 hp,tP px (iV rx),sX py rx] w)) (script.length-0) (.inl ⟨0,(⟨[],[],[],[],[]⟩:PcM),(jV s),by omega,by exact sC s _ _,by omega,rfl,hs.to ⟨rfl,rfl,rfl,rfl,rfl,rfl,rfl,rfl,rfl,rfl,rfl,trivial⟩,m.sub (a4 (a2 (a1 (a0 .n))))⟩) ?_
   rintro gn a w174 (⟨k,hp,ra,hk,hra,hhf,rfl,hs,m⟩|⟨k,hp,ra,rx,px,py,hk,hra,hhf,hrx,rfl,hs,m⟩)
   ·have zra:=wX hra A1 hk
    refine dG ?_
    refine bN ?_
    refine z4 hs m (h3:=p_ (bQ m rfl pG (dX hscriptr))) (k:=eM fun a hs=>?_)
    refine aR hs rfl (fun h175=>?_) (fun h175=>?_)
    rotate_left
    ·have h175p:=of_decide_eq_false h175
     refine wp_exit ?_
     refine eK (eK (lL (?_)))
     refine aB ?_
     refine bN ?_
     refine z1 hs m (k:=eM fun a hs=>?_)
     refine wp_ret ?_
     refine bH hs (vs:=[.bool true]) rfl ⟨rfl,trivial⟩ ?_
     refine⟨?_,m.sub .n⟩
     rfl
    have h175p:=of_decide_eq_true h175
    refine wp_skip ?_
    refine aB ?_
    refine dG ?_
    refine wp_block ?_
    refine bN ?_
    refine z2 hs m (k:=fun a hs=>?_)
    obtain⟨e176,he177⟩:=bI (l:=cscript) (i:=k) (by omega)
    obtain⟨o178,ho179⟩:=bI (l:=script) (i:=k) (by omega)
    obtain⟨x180,x181,x182,x183,x184,rfl,hx185,hx186,hx187,hx188,hx189⟩:=hscripte _ _ _ he177 ho179
    have lx180:=hx185.bd
    have lx181:=hx186.bd
    have lx182:=hx187.bd
    have lx183:=hx188.bd
    have lx184:=hx189.bd
    refine kE (c:=id) (e:=(sV o178.Kind o178.On o178.Now o178.Err o178.Answer o178.Rev o178.Snap_Now x180.v x181.v x182.v x183.v x184.v:List Value)) hs m (x:=(.tmp 73)) (ix:=(.tmp 74)) rfl rfl pG aAJ hscriptr (by omega) he177 fun p190 hp191 ok192=>?_
    refine z2 hs m (h1:=p_ (ok192 _ _ _ _ _)) (h2:=p_ (cN (sV o178.Kind o178.On o178.Now o178.Err o178.Answer o178.Rev o178.Snap_Now x180.v x181.v x182.v x183.v x184.v))) (k:=fun a hs=>?_)
    refine bZ hs m aOF rfl fun p193 w194 m a hs=>?_
    refine xB (cs':=sV o178.Kind o178.On o178.Now o178.Err o178.Answer o178.Rev o178.Snap_Now x180.v x181.v x182.v x183.v x184.v) (vs:=sV o178.Kind o178.On o178.Now o178.Err o178.Answer o178.Rev o178.Snap_Now x180.v x181.v x182.v x183.v x184.v) hs m rfl rfl aAJ s0 (by kernel_rfl) (by kernel_rfl) (by kernel_rfl) (by kernel_rfl) (by kernel_rfl) fun w195 m=>?_
    refine wpList_nil (aB ?_)
    refine dG ?_
    refine bN ?_
    refine z4 hs m (k:=fun a hs=>?_)
    rcases Bool.eq_false_or_eq_true (o178.On.v==0) with hb196|hb196
    ·have hb196p:=eq_of_beq hb196
     refine z3 hs m (h2:=dV hb196 (hO rfl rfl iP)) (h3:=p_ (aP (r:=.bool true) rfl rfl rfl (by rw[hb196];rfl))) (k:=eM fun a hs=>?_)
     refine lU hs rfl rfl ?_
     refine fD ?_
     refine z4 hs m (h4:=p_ (cN (sV o178.Kind o178.On o178.Now o178.Err o178.Answer o178.Rev o178.Snap_Now x180.v x181.v x182.v x183.v x184.v))) (k:=fun a hs=>?_)
     refine eW 3 (m.sub (a4 (a2 (a2 (a0 (a0 .n)))))) hs vO (fun R1 hR ⟨y1,sy,ly⟩ mc=>lI v170 hp v164 (iV ra) v166 ra o178.Kind o178.On o178.Now o178.Err o178.Answer o178.Rev o178.Snap_Now x180 o178.Leases x181 o178.Events x182 o178.Routes x183 o178.Neighs x184 o178.Fdbs _ R1 (hx185.le hR) (hx186.le hR) (hx187.le hR) (hx188.le hR) (hx189.le hR) (by rfl) (by exact hra.inv) (by omega) (by omega) (by omega) (by omega) (by omega) (by(have q:=fI A1 (by assumption);omega)) (by(have q:=fI A1 (by assumption);omega)) (by(have q:=fI A1 (by assumption);omega)) (by(have q:=fI A1 (by assumption);omega)) (by(have q:=fI A1 (by assumption);omega)) mc) fun w198 m a hs=>?_
     simp only[iG] at m
     refine z1 hs m (k:=eM (uN (y1 m (h1:=p_ (cN (eB s))) (k:=fun a hs=>?_))))
     refine fH m hs nA (jW s _  (by omega)) fun v199 w200 m a hs=>?_
     simp only[iG] at m
     refine wpList_nil (aB ?_)
     refine dG ?_
     refine bN ?_
     refine z5 hs m (h3:=p_ (bQ m rfl pG (dX hscriptr))) (h4:=p_ (mE (r:=((cscript.length / 2:Nat):Int)) rfl rfl (by omega) (lD (n:=cscript.length) (by omega)))) (k:=eM fun a hs=>?_)
     refine aR hs rfl (fun h201=>?_) (fun h201=>?_)
     ·have h201p:=eq_of_beq h201
      refine bN ?_
      refine z1 hs m (h1:=p_ (cN (eB s))) (k:=fun a hs=>?_)
      refine fH m hs nA (jW s _  (by omega)) fun v202 w203 m a hs=>?_
      simp only[iG] at m
      refine z5 hs m (k:=eM (uN (y1 m (h1:=p_ (cN (eB s))) (k:=fun a hs=>?_))))
      refine fH m hs uP (pN s _  (by omega)) fun v204 w205 m a hs=>?_
      simp only[iG] at m
      refine z5 hs m (k:=eM fun a hs=>?_)
      refine fD ?_
      refine z6 hs m (h3:=dV rfl iU) (h4:=dV rfl iU) (h5:=dV rfl (fB (v:=.bool true) rfl rfl rfl)) (h6:=p_ (aP (r:=.bool true) rfl rfl rfl rfl)) (k:=y6 m (h2:=dV rfl iU) (h3:=dV rfl (iJ rfl rfl tZ)) (h4:=dV rfl iU) (h5:=dV rfl (iJ rfl rfl iP)) (h6:=dV rfl (oJ (a:=false) (b:=false) rfl rfl zM)) (k:=fun a hs=>?_))
      refine z2 hs m (h1:=p_ (aP (r:=.bool true) rfl rfl rfl rfl)) (k:=eM fun a hs=>?_)
      refine dG ?_
      refine bN ?_
      refine z2 hs m (k:=eM fun a hs=>?_)
      refine bV hs rfl rfl ?_
      refine wp_skip ?_
      refine aB ?_
      refine bN ?_
      refine z6 hs m (h2:=p_ (hO rfl rfl iP)) (h4:=dV rfl iU) (h5:=dV rfl iU) (h6:=dV rfl iU) (k:=y1 m (h1:=dV rfl (cN (sV o178.Kind o178.On o178.Now o178.Err o178.Answer o178.Rev o178.Snap_Now x180.v x181.v x182.v x183.v x184.v))) (k:=fun a hs=>?_))
      refine kU hs rfl rfl rfl ?_
      refine eW 3 (m.sub (a3 (a1 (a0 (a0 (a0 (a0 (a0 (a0 .n))))))))) hs vO (fun R1 hR ⟨y1,sy,ly⟩ mc=>lI v170 (uV hp o178) v202 (qJ s) v204 (jV s) o178.Kind o178.On o178.Now o178.Err o178.Answer o178.Rev o178.Snap_Now x180 o178.Leases x181 o178.Events x182 o178.Routes x183 o178.Neighs x184 o178.Fdbs _ R1 (hx185.le hR) (hx186.le hR) (hx187.le hR) (hx188.le hR) (hx189.le hR) (by rfl) (by exact aA7 s) (by simp [jV]) (by simp [jV]) (by simp [jV]) (by simp [jV]) (by simp [jV]) (by(have q:=fI A1 (by assumption);omega)) (by(have q:=fI A1 (by assumption);omega)) (by(have q:=fI A1 (by assumption);omega)) (by(have q:=fI A1 (by assumption);omega)) (by(have q:=fI A1 (by assumption);omega)) mc) fun w207 m a hs=>?_
      simp only[iG] at m
      refine z2 hs m (h1:=dV rfl iU) (h2:=p_ (aP (r:=.bool false) rfl rfl rfl rfl)) (k:=eM fun a hs=>?_)
      refine bV hs rfl rfl ?_
      refine wp_skip ?_
      refine eA (aB ?_)
      refine fD ?_
      refine z3 hs m (k:=eM fun a hs=>?_)
      exact⟨script.length-(k+1),by omega,.inr ⟨k+1,uV (uV hp o178) o178,gP ra o178,gP (jV s) o178,v202,v204,by omega,by exact iE hra (by assumption) A1,by omega,by exact iE (sC s _ _) (by assumption) A1,rfl,hs.to ⟨rfl,rfl,rfl,rfl,rfl,rfl,rfl,rfl,rfl,rfl,rfl,trivial⟩,m.sub (a7 (a4 (a4 (a0 (a0 (a0 .n))))))⟩⟩
     have h201p:=ne_of_beq_false h201
     refine wp_skip ?_
     refine aB ?_
     refine dG ?_
     refine bN ?_
     refine z2 hs m (k:=eM fun a hs=>?_)
     refine bV hs rfl rfl ?_
     refine wp_skip ?_
     refine aB ?_
     refine bN ?_
     refine z6 hs m (h2:=p_ (fE rfl rfl iP)) (h4:=iY rfl) (h5:=iY rfl) (h6:=iY rfl) (k:=y4 m (h1:=iY rfl) (h2:=iY rfl) (h3:=iY rfl) (h4:=p_ (aP (r:=.bool false) rfl rfl rfl rfl)) (k:=eM fun a hs=>?_))
     refine bV hs rfl rfl ?_
     refine wp_skip ?_
     refine eA (aB ?_)
     refine fD ?_
     refine z3 hs m (k:=eM fun a hs=>?_)
     exact⟨script.length-(k+1),by omega,.inl ⟨k+1,uV hp o178,gP ra o178,by omega,by exact iE hra (by assumption) A1,by omega,rfl,hs.to ⟨rfl,rfl,rfl,rfl,rfl,rfl,rfl,rfl,rfl,rfl,rfl,trivial⟩,m.sub (a5 (a2 (a2 (a1 .n))))⟩⟩
    ·have hb196p:=ne_of_beq_false hb196
     refine z3 hs m (h3:=p_ (aP (r:=.bool false) rfl rfl rfl (by rw[hb196];rfl))) (k:=eM fun a hs=>?_)
     refine bV hs rfl rfl ?_
     refine bN ?_
     refine z4 hs m (k:=fun a hs=>?_)
     rcases Bool.eq_false_or_eq_true (o178.On.v !=0) with hb212|hb212
     ·have hb212p:=fT hb212
      refine z3 hs m (h2:=dV hb212 (fE rfl rfl iP)) (h3:=p_ (aP (r:=.bool false) rfl rfl rfl (by rw[hb212];rfl))) (k:=eM fun a hs=>?_)
      refine bV hs rfl rfl ?_
      refine wp_skip ?_
      refine aB ?_
      refine bN ?_
      refine z1 hs m (h1:=p_ (cN (eB s))) (k:=fun a hs=>?_)
      refine fH m hs nA (jW s _  (by omega)) fun v214 w215 m a hs=>?_
      simp only[iG] at m
      refine wpList_nil (aB ?_)
      refine dG ?_
      refine bN ?_
      refine z5 hs m (h3:=p_ (bQ m rfl pG (dX hscriptr))) (h4:=p_ (mE (r:=((cscript.length / 2:Nat):Int)) rfl rfl (by omega) (lD (n:=cscript.length) (by omega)))) (k:=eM fun a hs=>?_)
      refine aR hs rfl (fun h216=>?_) (fun h216=>?_)
      ·have h216p:=eq_of_beq h216
       refine bN ?_
       refine z1 hs m (h1:=p_ (cN (eB s))) (k:=fun a hs=>?_)
       refine fH m hs nA (jW s _  (by omega)) fun v217 w218 m a hs=>?_
       simp only[iG] at m
       refine z5 hs m (k:=eM (uN (y1 m (h1:=p_ (cN (eB s))) (k:=fun a hs=>?_))))
       refine fH m hs uP (pN s _  (by omega)) fun v219 w220 m a hs=>?_
       simp only[iG] at m
       refine z5 hs m (k:=eM fun a hs=>?_)
       refine fD ?_
       refine z6 hs m (h3:=dV rfl iU) (h4:=dV rfl iU) (h5:=dV rfl (fB (v:=.bool true) rfl rfl rfl)) (h6:=p_ (aP (r:=.bool true) rfl rfl rfl rfl)) (k:=y6 m (h2:=dV rfl iU) (h3:=dV rfl (iJ rfl rfl tZ)) (h4:=dV rfl iU) (h5:=dV rfl (iJ rfl rfl iP)) (h6:=dV rfl (oJ (a:=false) (b:=false) rfl rfl zM)) (k:=fun a hs=>?_))
       refine z2 hs m (h1:=p_ (aP (r:=.bool true) rfl rfl rfl rfl)) (k:=eM fun a hs=>?_)
       refine dG ?_
       refine bN ?_
       refine z2 hs m (k:=eM fun a hs=>?_)
       refine bV hs rfl rfl ?_
       refine wp_skip ?_
       refine aB ?_
       refine bN ?_
       refine z6 hs m (h2:=p_ (hO rfl rfl iP)) (h4:=dV rfl iU) (h5:=dV rfl iU) (h6:=dV rfl iU) (k:=y1 m (h1:=dV rfl (cN (sV o178.Kind o178.On o178.Now o178.Err o178.Answer o178.Rev o178.Snap_Now x180.v x181.v x182.v x183.v x184.v))) (k:=fun a hs=>?_))
       refine kU hs rfl rfl rfl ?_
       refine eW 3 (m.sub (a7 (a1 (a0 (a0 (a0 (a0 (a0 (a0 .n))))))))) hs vO (fun R1 hR ⟨y1,sy,ly⟩ mc=>lI v170 hp v217 (qJ s) v219 (jV s) o178.Kind o178.On o178.Now o178.Err o178.Answer o178.Rev o178.Snap_Now x180 o178.Leases x181 o178.Events x182 o178.Routes x183 o178.Neighs x184 o178.Fdbs _ R1 (hx185.le hR) (hx186.le hR) (hx187.le hR) (hx188.le hR) (hx189.le hR) (by rfl) (by exact aA7 s) (by simp [jV]) (by simp [jV]) (by simp [jV]) (by simp [jV]) (by simp [jV]) (by(have q:=fI A1 (by assumption);omega)) (by(have q:=fI A1 (by assumption);omega)) (by(have q:=fI A1 (by assumption);omega)) (by(have q:=fI A1 (by assumption);omega)) (by(have q:=fI A1 (by assumption);omega)) mc) fun w222 m a hs=>?_
       simp only[iG] at m
       refine z2 hs m (h1:=dV rfl iU) (h2:=p_ (aP (r:=.bool false) rfl rfl rfl rfl)) (k:=eM fun a hs=>?_)
       refine bV hs rfl rfl ?_
       refine wp_skip ?_
       refine eA (aB ?_)
       refine fD ?_
       refine z3 hs m (k:=eM fun a hs=>?_)
       exact⟨script.length-(k+1),by omega,.inr ⟨k+1,uV hp o178,ra,gP (jV s) o178,v217,v219,by omega,by exact iS hra,by omega,by exact iE (sC s _ _) (by assumption) A1,rfl,hs.to ⟨rfl,rfl,rfl,rfl,rfl,rfl,rfl,rfl,rfl,rfl,rfl,trivial⟩,m.sub (a5 (a5 (a5 (a0 (a0 (a0 .n))))))⟩⟩
      have h216p:=ne_of_beq_false h216
      refine wp_skip ?_
      refine aB ?_
      refine dG ?_
      refine bN ?_
      refine z2 hs m (k:=eM fun a hs=>?_)
      refine bV hs rfl rfl ?_
      refine wp_skip ?_
      refine aB ?_
      refine bN ?_
      refine z6 hs m (h2:=p_ (fE rfl rfl iP)) (h4:=iY rfl) (h5:=iY rfl) (h6:=iY rfl) (k:=y4 m (h1:=iY rfl) (h2:=iY rfl) (h3:=iY rfl) (h4:=p_ (aP (r:=.bool false) rfl rfl rfl rfl)) (k:=eM fun a hs=>?_))
      refine bV hs rfl rfl ?_
      refine wp_skip ?_
      refine eA (aB ?_)
      refine fD ?_
      refine z3 hs m (k:=eM fun a hs=>?_)
      exact⟨script.length-(k+1),by omega,.inl ⟨k+1,hp,ra,by omega,by exact iS hra,by omega,rfl,hs.to ⟨rfl,rfl,rfl,rfl,rfl,rfl,rfl,rfl,rfl,rfl,rfl,trivial⟩,m.sub (a2 (a2 (a2 (a2 .n))))⟩⟩
     ·have hb212p:=dJ hb212
      refine z3 hs m (h3:=p_ (aP (r:=.bool false) rfl rfl rfl (by rw[hb212];rfl))) (k:=eM fun a hs=>?_)
      refine bV hs rfl rfl ?_
      refine wp_skip ?_
      refine aB ?_
      refine bN ?_
      refine z1 hs m (h1:=p_ (cN (eB s))) (k:=fun a hs=>?_)
      refine fH m hs nA (jW s _  (by omega)) fun v227 w228 m a hs=>?_
      simp only[iG] at m
      refine wpList_nil (aB ?_)
      refine dG ?_
      refine bN ?_
      refine z5 hs m (h3:=p_ (bQ m rfl pG (dX hscriptr))) (h4:=p_ (mE (r:=((cscript.length / 2:Nat):Int)) rfl rfl (by omega) (lD (n:=cscript.length) (by omega)))) (k:=eM fun a hs=>?_)
      refine aR hs rfl (fun h229=>?_) (fun h229=>?_)
      ·have h229p:=eq_of_beq h229
       refine bN ?_
       refine z1 hs m (h1:=p_ (cN (eB s))) (k:=fun a hs=>?_)
       refine fH m hs nA (jW s _  (by omega)) fun v230 w231 m a hs=>?_
       simp only[iG] at m
       refine z5 hs m (k:=eM (uN (y1 m (h1:=p_ (cN (eB s))) (k:=fun a hs=>?_))))
       refine fH m hs uP (pN s _  (by omega)) fun v232 w233 m a hs=>?_
       simp only[iG] at m
       refine z5 hs m (k:=eM fun a hs=>?_)
       refine fD ?_
       refine z6 hs m (h3:=dV rfl iU) (h4:=dV rfl iU) (h5:=dV rfl (fB (v:=.bool true) rfl rfl rfl)) (h6:=p_ (aP (r:=.bool true) rfl rfl rfl rfl)) (k:=y6 m (h2:=dV rfl iU) (h3:=dV rfl (iJ rfl rfl tZ)) (h4:=dV rfl iU) (h5:=dV rfl (iJ rfl rfl iP)) (h6:=dV rfl (oJ (a:=false) (b:=false) rfl rfl zM)) (k:=fun a hs=>?_))
       refine z2 hs m (h1:=p_ (aP (r:=.bool true) rfl rfl rfl rfl)) (k:=eM fun a hs=>?_)
       refine dG ?_
       refine bN ?_
       refine z2 hs m (k:=eM fun a hs=>?_)
       refine bV hs rfl rfl ?_
       refine wp_skip ?_
       refine aB ?_
       refine bN ?_
       refine z6 hs m (h2:=p_ (hO rfl rfl iP)) (h4:=dV rfl iU) (h5:=dV rfl iU) (h6:=dV rfl iU) (k:=y1 m (h1:=dV rfl (cN (sV o178.Kind o178.On o178.Now o178.Err o178.Answer o178.Rev o178.Snap_Now x180.v x181.v x182.v x183.v x184.v))) (k:=fun a hs=>?_))
       refine kU hs rfl rfl rfl ?_
       refine eW 3 (m.sub (a7 (a1 (a0 (a0 (a0 (a0 (a0 (a0 .n))))))))) hs vO (fun R1 hR ⟨y1,sy,ly⟩ mc=>lI v170 hp v230 (qJ s) v232 (jV s) o178.Kind o178.On o178.Now o178.Err o178.Answer o178.Rev o178.Snap_Now x180 o178.Leases x181 o178.Events x182 o178.Routes x183 o178.Neighs x184 o178.Fdbs _ R1 (hx185.le hR) (hx186.le hR) (hx187.le hR) (hx188.le hR) (hx189.le hR) (by rfl) (by omega) (by omega) (by omega) (by omega) (by omega) (by omega) (by omega) (by omega) (by omega) (by omega) (by omega) mc) fun w235 m a hs=>?_
       simp only[iG] at m
       refine z2 hs m (h1:=dV rfl iU) (h2:=p_ (aP (r:=.bool false) rfl rfl rfl rfl)) (k:=eM fun a hs=>?_)
       refine bV hs rfl rfl ?_
       refine wp_skip ?_
       refine eA (aB ?_)
       refine fD ?_
       refine z3 hs m (k:=eM fun a hs=>?_)
       exact⟨script.length-(k+1),by omega,.inr ⟨k+1,uV hp o178,ra,gP (jV s) o178,v230,v232,by omega,by exact iS hra,by omega,by exact iE (sC s _ _) (by assumption) A1,rfl,hs.to ⟨rfl,rfl,rfl,rfl,rfl,rfl,rfl,rfl,rfl,rfl,rfl,trivial⟩,m.sub (a5 (a5 (a5 (a0 (a0 (a0 .n))))))⟩⟩
      have h229p:=ne_of_beq_false h229
      refine wp_skip ?_
      refine aB ?_
      refine dG ?_
      refine bN ?_
      refine z2 hs m (k:=eM fun a hs=>?_)
      refine bV hs rfl rfl ?_
      refine wp_skip ?_
      refine aB ?_
      refine bN ?_
      refine z6 hs m (h2:=p_ (fE rfl rfl iP)) (h4:=iY rfl) (h5:=iY rfl) (h6:=iY rfl) (k:=y4 m (h1:=iY rfl) (h2:=iY rfl) (h3:=iY rfl) (h4:=p_ (aP (r:=.bool false) rfl rfl rfl rfl)) (k:=eM fun a hs=>?_))
      refine bV hs rfl rfl ?_
      refine wp_skip ?_
      refine eA (aB ?_)
      refine fD ?_
      refine z3 hs m (k:=eM fun a hs=>?_)
      exact⟨script.length-(k+1),by omega,.inl ⟨k+1,hp,ra,by omega,by exact iS hra,by omega,rfl,hs.to ⟨rfl,rfl,rfl,rfl,rfl,rfl,rfl,rfl,rfl,rfl,rfl,trivial⟩,m.sub (a2 (a2 (a2 (a2 .n))))⟩⟩
   ·have zra:=wX hra A1 hk
    have zrx:=wX hrx A1 hk
    refine dG ?_
    refine bN ?_
    refine z4 hs m (h3:=p_ (bQ m rfl pG (dX hscriptr))) (k:=eM fun a hs=>?_)
    refine aR hs rfl (fun h239=>?_) (fun h239=>?_)
    rotate_left
    ·have h239p:=of_decide_eq_false h239
     refine wp_exit ?_
     refine eK (eK (lL (?_)))
     refine aB ?_
     refine bN ?_
     refine z1 hs m (k:=eM fun a hs=>?_)
     refine wp_ret ?_
     refine bH hs (vs:=[.bool true]) rfl ⟨rfl,trivial⟩ ?_
     refine⟨?_,m.sub .n⟩
     rfl
    have h239p:=of_decide_eq_true h239
    refine wp_skip ?_
    refine aB ?_
    refine dG ?_
    refine wp_block ?_
    refine bN ?_
    refine z2 hs m (k:=fun a hs=>?_)
    obtain⟨e240,he241⟩:=bI (l:=cscript) (i:=k) (by omega)
    obtain⟨o242,ho243⟩:=bI (l:=script) (i:=k) (by omega)
    obtain⟨x244,x245,x246,x247,x248,rfl,hx249,hx250,hx251,hx252,hx253⟩:=hscripte _ _ _ he241 ho243
    have lx244:=hx249.bd
    have lx245:=hx250.bd
    have lx246:=hx251.bd
    have lx247:=hx252.bd
    have lx248:=hx253.bd
    refine kE (c:=id) (e:=(sV o242.Kind o242.On o242.Now o242.Err o242.Answer o242.Rev o242.Snap_Now x244.v x245.v x246.v x247.v x248.v:List Value)) hs m (x:=(.tmp 73)) (ix:=(.tmp 74)) rfl rfl pG aAJ hscriptr (by omega) he241 fun p254 hp255 ok256=>?_
    refine z2 hs m (h1:=p_ (ok256 _ _ _ _ _)) (h2:=p_ (cN (sV o242.Kind o242.On o242.Now o242.Err o242.Answer o242.Rev o242.Snap_Now x244.v x245.v x246.v x247.v x248.v))) (k:=fun a hs=>?_)
    refine bZ hs m aOF rfl fun p257 w258 m a hs=>?_
    refine xB (cs':=sV o242.Kind o242.On o242.Now o242.Err o242.Answer o242.Rev o242.Snap_Now x244.v x245.v x246.v x247.v x248.v) (vs:=sV o242.Kind o242.On o242.Now o242.Err o242.Answer o242.Rev o242.Snap_Now x244.v x245.v x246.v x247.v x248.v) hs m rfl rfl aAJ s0 (by kernel_rfl) (by kernel_rfl) (by kernel_rfl) (by kernel_rfl) (by kernel_rfl) fun w259 m=>?_
    refine wpList_nil (aB ?_)
    refine dG ?_
    refine bN ?_
    refine z4 hs m (k:=fun a hs=>?_)
    rcases Bool.eq_false_or_eq_true (o242.On.v==0) with hb260|hb260
    ·have hb260p:=eq_of_beq hb260
     refine z3 hs m (h2:=dV hb260 (hO rfl rfl iP)) (h3:=p_ (aP (r:=.bool true) rfl rfl rfl (by rw[hb260];rfl))) (k:=eM fun a hs=>?_)
     refine lU hs rfl rfl ?_
     refine fD ?_
     refine z4 hs m (h4:=p_ (cN (sV o242.Kind o242.On o242.Now o242.Err o242.Answer o242.Rev o242.Snap_Now x244.v x245.v x246.v x247.v x248.v))) (k:=fun a hs=>?_)
     refine eW 3 (m.sub (a4 (a2 (a2 (a0 (a0 (a0 (a0 .n)))))))) hs vO (fun R1 hR ⟨y1,sy,ly⟩ mc=>lI v170 hp v164 (iV ra) v166 ra o242.Kind o242.On o242.Now o242.Err o242.Answer o242.Rev o242.Snap_Now x244 o242.Leases x245 o242.Events x246 o242.Routes x247 o242.Neighs x248 o242.Fdbs _ R1 (hx249.le hR) (hx250.le hR) (hx251.le hR) (hx252.le hR) (hx253.le hR) (by rfl) (by exact hra.inv) (by omega) (by omega) (by omega) (by omega) (by omega) (by(have q:=fI A1 (by assumption);omega)) (by(have q:=fI A1 (by assumption);omega)) (by(have q:=fI A1 (by assumption);omega)) (by(have q:=fI A1 (by assumption);omega)) (by(have q:=fI A1 (by assumption);omega)) mc) fun w262 m a hs=>?_
     simp only[iG] at m
     refine z1 hs m (k:=eM (uN (y1 m (h1:=p_ (cN (eB s))) (k:=fun a hs=>?_))))
     refine fH m hs nA (jW s _  (by omega)) fun v263 w264 m a hs=>?_
     simp only[iG] at m
     refine wpList_nil (aB ?_)
     refine dG ?_
     refine bN ?_
     refine z5 hs m (h3:=p_ (bQ m rfl pG (dX hscriptr))) (h4:=p_ (mE (r:=((cscript.length / 2:Nat):Int)) rfl rfl (by omega) (lD (n:=cscript.length) (by omega)))) (k:=eM fun a hs=>?_)
     refine bV hs rfl (by(simp;omega)) ?_
     refine wp_skip ?_
     refine aB ?_
     refine dG ?_
     refine bN ?_
     refine z2 hs m (k:=eM fun a hs=>?_)
     refine bV hs rfl rfl ?_
     refine wp_skip ?_
     refine aB ?_
     refine bN ?_
     refine z6 hs m (h2:=p_ (hO rfl rfl iP)) (h4:=dV rfl iU) (h5:=dV rfl iU) (h6:=dV rfl iU) (k:=y1 m (h1:=dV rfl (cN (sV o242.Kind o242.On o242.Now o242.Err o242.Answer o242.Rev o242.Snap_Now x244.v x245.v x246.v x247.v x248.v))) (k:=fun a hs=>?_))
     refine kU hs rfl rfl rfl ?_
     refine eW 3 (m.sub (a1 (a5 (a5 (a0 (a0 (a0 (a0 (a0 .n))))))))) hs vO (fun R1 hR ⟨y1,sy,ly⟩ mc=>lI v170 (uV hp o242) px (iV rx) py rx o242.Kind o242.On o242.Now o242.Err o242.Answer o242.Rev o242.Snap_Now x244 o242.Leases x245 o242.Events x246 o242.Routes x247 o242.Neighs x248 o242.Fdbs _ R1 (hx249.le hR) (hx250.le hR) (hx251.le hR) (hx252.le hR) (hx253.le hR) (by rfl) (by exact hrx.inv) (by omega) (by omega) (by omega) (by omega) (by omega) (by(have q:=fI A1 (by assumption);omega)) (by(have q:=fI A1 (by assumption);omega)) (by(have q:=fI A1 (by assumption);omega)) (by(have q:=fI A1 (by assumption);omega)) (by(have q:=fI A1 (by assumption);omega)) mc) fun w267 m a hs=>?_
     simp only[iG] at m
     refine z2 hs m (h1:=dV rfl iU) (h2:=p_ (aP (r:=.bool false) rfl rfl rfl rfl)) (k:=eM fun a hs=>?_)
     refine bV hs rfl rfl ?_
     refine wp_skip ?_
     refine eA (aB ?_)
     refine fD ?_
     refine z3 hs m (k:=eM fun a hs=>?_)
     exact⟨script.length-(k+1),by omega,.inr ⟨k+1,uV (uV hp o242) o242,gP ra o242,gP rx o242,px,py,by omega,by exact iE hra (by assumption) A1,by omega,by exact iE hrx (by assumption) A1,rfl,hs.to ⟨rfl,rfl,rfl,rfl,rfl,rfl,rfl,rfl,rfl,rfl,rfl,trivial⟩,m.sub (a7 (a4 (a4 (a0 (a0 (a0 .n))))))⟩⟩
    ·have hb260p:=ne_of_beq_false hb260
     refine z3 hs m (h3:=p_ (aP (r:=.bool false) rfl rfl rfl (by rw[hb260];rfl))) (k:=eM fun a hs=>?_)
     refine bV hs rfl rfl ?_
     refine bN ?_
     refine z4 hs m (k:=fun a hs=>?_)
     rcases Bool.eq_false_or_eq_true (o242.On.v !=0) with hb270|hb270
     ·have hb270p:=fT hb270
      refine z3 hs m (h2:=dV hb270 (fE rfl rfl iP)) (h3:=p_ (aP (r:=.bool false) rfl rfl rfl (by rw[hb270];rfl))) (k:=eM fun a hs=>?_)
      refine bV hs rfl rfl ?_
      refine wp_skip ?_
      refine aB ?_
      refine bN ?_
      refine z1 hs m (h1:=p_ (cN (eB s))) (k:=fun a hs=>?_)
      refine fH m hs nA (jW s _  (by omega)) fun v272 w273 m a hs=>?_
      simp only[iG] at m
      refine wpList_nil (aB ?_)
      refine dG ?_
      refine bN ?_
      refine z5 hs m (h3:=p_ (bQ m rfl pG (dX hscriptr))) (h4:=p_ (mE (r:=((cscript.length / 2:Nat):Int)) rfl rfl (by omega) (lD (n:=cscript.length) (by omega)))) (k:=eM fun a hs=>?_)
      refine bV hs rfl (by(simp;omega)) ?_
      refine wp_skip ?_
      refine aB ?_
      refine dG ?_
      refine bN ?_
      refine z2 hs m (k:=eM fun a hs=>?_)
      refine bV hs rfl rfl ?_
      refine wp_skip ?_
      refine aB ?_
      refine bN ?_
      refine z6 hs m (h2:=p_ (hO rfl rfl iP)) (h4:=dV rfl iU) (h5:=dV rfl iU) (h6:=dV rfl iU) (k:=y1 m (h1:=dV rfl (cN (sV o242.Kind o242.On o242.Now o242.Err o242.Answer o242.Rev o242.Snap_Now x244.v x245.v x246.v x247.v x248.v))) (k:=fun a hs=>?_))
      refine kU hs rfl rfl rfl ?_
      refine eW 3 (m.sub (a5 (a5 (a5 (a0 (a0 (a0 (a0 (a0 .n))))))))) hs vO (fun R1 hR ⟨y1,sy,ly⟩ mc=>lI v170 hp px (iV rx) py rx o242.Kind o242.On o242.Now o242.Err o242.Answer o242.Rev o242.Snap_Now x244 o242.Leases x245 o242.Events x246 o242.Routes x247 o242.Neighs x248 o242.Fdbs _ R1 (hx249.le hR) (hx250.le hR) (hx251.le hR) (hx252.le hR) (hx253.le hR) (by rfl) (by exact hrx.inv) (by omega) (by omega) (by omega) (by omega) (by omega) (by(have q:=fI A1 (by assumption);omega)) (by(have q:=fI A1 (by assumption);omega)) (by(have q:=fI A1 (by assumption);omega)) (by(have q:=fI A1 (by assumption);omega)) (by(have q:=fI A1 (by assumption);omega)) mc) fun w276 m a hs=>?_
      simp only[iG] at m
      refine z2 hs m (h1:=dV rfl iU) (h2:=p_ (aP (r:=.bool false) rfl rfl rfl rfl)) (k:=eM fun a hs=>?_)
      refine bV hs rfl rfl ?_
      refine wp_skip ?_
      refine eA (aB ?_)
      refine fD ?_
      refine z3 hs m (k:=eM fun a hs=>?_)
      exact⟨script.length-(k+1),by omega,.inr ⟨k+1,uV hp o242,ra,gP rx o242,px,py,by omega,by exact iS hra,by omega,by exact iE hrx (by assumption) A1,rfl,hs.to ⟨rfl,rfl,rfl,rfl,rfl,rfl,rfl,rfl,rfl,rfl,rfl,trivial⟩,m.sub (a5 (a5 (a5 (a0 (a0 (a0 .n))))))⟩⟩
     ·have hb270p:=dJ hb270
      refine z3 hs m (h3:=p_ (aP (r:=.bool false) rfl rfl rfl (by rw[hb270];rfl))) (k:=eM fun a hs=>?_)
      refine bV hs rfl rfl ?_
      refine wp_skip ?_
      refine aB ?_
      refine bN ?_
      refine z1 hs m (h1:=p_ (cN (eB s))) (k:=fun a hs=>?_)
      refine fH m hs nA (jW s _  (by omega)) fun v279 w280 m a hs=>?_
      simp only[iG] at m
      refine wpList_nil (aB ?_)
      refine dG ?_
      refine bN ?_
      refine z5 hs m (h3:=p_ (bQ m rfl pG (dX hscriptr))) (h4:=p_ (mE (r:=((cscript.length / 2:Nat):Int)) rfl rfl (by omega) (lD (n:=cscript.length) (by omega)))) (k:=eM fun a hs=>?_)
      refine bV hs rfl (by(simp;omega)) ?_
      refine wp_skip ?_
      refine aB ?_
      refine dG ?_
      refine bN ?_
      refine z2 hs m (k:=eM fun a hs=>?_)
      refine bV hs rfl rfl ?_
      refine wp_skip ?_
      refine aB ?_
      refine bN ?_
      refine z6 hs m (h2:=p_ (hO rfl rfl iP)) (h4:=dV rfl iU) (h5:=dV rfl iU) (h6:=dV rfl iU) (k:=y1 m (h1:=dV rfl (cN (sV o242.Kind o242.On o242.Now o242.Err o242.Answer o242.Rev o242.Snap_Now x244.v x245.v x246.v x247.v x248.v))) (k:=fun a hs=>?_))
      refine kU hs rfl rfl rfl ?_
      refine eW 3 (m.sub (a5 (a5 (a5 (a0 (a0 (a0 (a0 (a0 .n))))))))) hs vO (fun R1 hR ⟨y1,sy,ly⟩ mc=>lI v170 hp px (iV rx) py rx o242.Kind o242.On o242.Now o242.Err o242.Answer o242.Rev o242.Snap_Now x244 o242.Leases x245 o242.Events x246 o242.Routes x247 o242.Neighs x248 o242.Fdbs _ R1 (hx249.le hR) (hx250.le hR) (hx251.le hR) (hx252.le hR) (hx253.le hR) (by rfl) (by omega) (by omega) (by omega) (by omega) (by omega) (by omega) (by omega) (by omega) (by omega) (by omega) (by omega) mc) fun w283 m a hs=>?_
      simp only[iG] at m
      refine z2 hs m (h1:=dV rfl iU) (h2:=p_ (aP (r:=.bool false) rfl rfl rfl rfl)) (k:=eM fun a hs=>?_)
      refine bV hs rfl rfl ?_
      refine wp_skip ?_
      refine eA (aB ?_)
      refine fD ?_
      refine z3 hs m (k:=eM fun a hs=>?_)
      exact⟨script.length-(k+1),by omega,.inr ⟨k+1,uV hp o242,ra,gP rx o242,px,py,by omega,by exact iS hra,by omega,by exact iE hrx (by assumption) A1,rfl,hs.to ⟨rfl,rfl,rfl,rfl,rfl,rfl,rfl,rfl,rfl,rfl,rfl,trivial⟩,m.sub (a5 (a5 (a5 (a0 (a0 (a0 .n))))))⟩⟩
  ·refine bN ?_
   refine dU (cs:=eB s) hs m rfl rfl rfl fun p285 w286 m a hs=>?_
   refine dU (cs:=eB oth) hs m rfl rfl rfl fun p287 w288 m a hs=>?_
   refine z1 hs m (k:=eM (uN fun a hs=>?_))
   refine cC hs m rfl rfl aRZ rfl (aAR  _  ) rfl fun w289 m a hs=>?_
   refine z1 hs m (k:=eM fun a hs=>?_)
   refine dG ?_
   refine bN ?_
   refine z2 hs m (k:=eM fun a hs=>?_)
   refine bV hs rfl rfl ?_
   refine wp_skip ?_
   refine aB ?_
   refine bN ?_
   refine z1 hs m (h1:=p_ (cN (eB s))) (k:=fun a hs=>?_)
   refine fH m hs nA (jW s _  (by omega)) fun v291 w292 m a hs=>?_
   simp only[iG] at m
   refine z5 hs m (k:=eM (uN (y1 m (h1:=p_ (cN (eB s))) (k:=fun a hs=>?_))))
   refine fH m hs uP (pN s _  (by omega)) fun v293 w294 m a hs=>?_
   simp only[iG] at m
   refine z5 hs m (k:=eM (uN (y1 m (h1:=p_ (cN (eB oth))) (k:=fun a hs=>?_))))
   refine fH m hs nA (jW oth _  (by omega)) fun v295 w296 m a hs=>?_
   simp only[iG] at m
   refine z5 hs m (k:=eM (uN (y1 m (h1:=p_ (cN (eB oth))) (k:=fun a hs=>?_))))
   refine fH m hs uP (pN oth _  (by omega)) fun v297 w298 m a hs=>?_
   simp only[iG] at m
   refine z5 hs m (k:=eM (uN fun a hs=>?_))
   refine fH m hs aR0 (aC9  _  ) fun v299 w300 m a hs=>?_
   simp only[iG] at m
   refine z1 hs m (k:=eM fun a hs=>?_)
   refine dG ?_
   refine bN ?_
   refine z6 hs m (h3:=p_ (fB (v:=.bool false) rfl rfl rfl)) (h5:=dV rfl iU) (h6:=dV rfl iU) (k:=y6 m (h1:=dV rfl (fB (v:=.bool false) rfl rfl rfl)) (h2:=p_ (aP (r:=.bool false) rfl rfl rfl rfl)) (h4:=dV rfl iU) (h5:=dV rfl (iJ rfl rfl tZ)) (h6:=dV rfl iU) (k:=fun a hs=>?_))
   refine z6 hs m (h1:=dV rfl (iJ rfl rfl iP)) (h2:=dV rfl (tY (a:=false) (b:=false) rfl rfl zM)) (h3:=p_ (aP (r:=.bool false) rfl rfl rfl rfl)) (h5:=dV rfl iU) (h6:=dV rfl (iJ rfl rfl tZ)) (k:=y4 m (h1:=dV rfl iU) (h2:=dV rfl (iJ rfl rfl iP)) (h3:=dV rfl (tY (a:=false) (b:=false) rfl rfl zM)) (h4:=p_ (aP (r:=.bool false) rfl rfl rfl rfl)) (k:=eM fun a hs=>?_))
   refine bV hs rfl rfl ?_
   refine wp_skip ?_
   refine aB ?_
   refine bN ?_
   refine z1 hs m (k:=eM (uN (y1 m (k:=eM fun a hs=>?_))))
   refine dG ?_
   refine bN ?_
   refine z1 hs m (k:=eM fun a hs=>?_)
   refine wp_block ?_
   have q302:qJ s=(iV (jV s)):=by clear hs m;rfl
   replace m:=m.swp (q:=tP v291 (iV (jV s))) s4 (fun _ e=>by rw[<-q302];exact e)
   have q303:qJ oth=(iV (jV oth)):=by clear hs m;rfl
   replace m:=m.swp (q:=tP v295 (iV (jV oth))) s2 (fun _ e=>by rw[<-q303];exact e)
   refine wp_loop_ghost (fun gn a w=>(∃ k:Nat,∃ hp:PcM,∃ ra:gU,∃ rb:gU,(k<=script.length)/\((Okk ra (kQ (script.take k)) k))/\((Okk rb (kQ (script.take k)) k))/\(k<=cscript.length / 2)/\gn=script.length-k/\St 143 [(2,vscript.v),(3,.pointer (some (bK p285 0))),(7,.bool true),(8,.pointer (some (bK v291 0))),(10,.pointer (some (bK v293 0))),(12,.pointer (some (bK v295 0))),(14,.pointer (some (bK v297 0))),(16,.pointer (some (bK v299 0))),(17,(.pointer none)),(18,(.pointer none)),(19,.int .i64 (k:Int))] a/\Hp w0 (hh w0) [Bx p285 61 (eB s),tP v291 (iV ra),sX v293 ra,tP v295 (iV rb),sX v297 rb,PcP v299 hp] w)\/(∃ k:Nat,∃ hp:PcM,∃ ra:gU,∃ rb:gU,∃ rx:gU,∃ px:Addr,∃ py:Addr,(k<=script.length)/\((Okk ra (kQ (script.take k)) k))/\((Okk rb (kQ (script.take k)) k))/\(cscript.length / 2<k)/\((Okk rx (kQ (script.take k)) k))/\gn=script.length-k/\St 143 [(2,vscript.v),(3,.pointer (some (bK p285 0))),(7,.bool true),(8,.pointer (some (bK v291 0))),(10,.pointer (some (bK v293 0))),(12,.pointer (some (bK v295 0))),(14,.pointer (some (bK v297 0))),(16,.pointer (some (bK v299 0))),(17,.pointer (some (bK px 0))),(18,.pointer (some (bK py 0))),(19,.int .i64 (k:Int))] a/\Hp w0 (hh w0) [Bx p285 61 (eB s),tP v291 (iV ra),sX v293 ra,tP v295 (iV rb),sX v297 rb,PcP v299 hp,tP px (iV rx),sX py rx] w)) (script.length-0) (.inl ⟨0,(⟨[],[],[],[],[]⟩:PcM),(jV s),(jV oth),by omega,by exact sC s _ _,by exact sC oth _ _,by omega,rfl,hs.to ⟨rfl,rfl,rfl,rfl,rfl,rfl,rfl,rfl,rfl,rfl,rfl,trivial⟩,m.sub (a6 (a4 (a3 (a2 (a1 (a0 .n))))))⟩) ?_
   rintro gn a w304 (⟨k,hp,ra,rb,hk,hra,hrb,hhf,rfl,hs,m⟩|⟨k,hp,ra,rb,rx,px,py,hk,hra,hrb,hhf,hrx,rfl,hs,m⟩)
   ·have zra:=wX hra A1 hk
    have zrb:=wX hrb A1 hk
    refine dG ?_
    refine bN ?_
    refine z4 hs m (h3:=p_ (bQ m rfl pG (dX hscriptr))) (k:=eM fun a hs=>?_)
    refine aR hs rfl (fun h305=>?_) (fun h305=>?_)
    rotate_left
    ·have h305p:=of_decide_eq_false h305
     refine wp_exit ?_
     refine eK (eK (lL (?_)))
     refine aB ?_
     refine bN ?_
     refine z1 hs m (k:=eM fun a hs=>?_)
     refine wp_ret ?_
     refine bH hs (vs:=[.bool true]) rfl ⟨rfl,trivial⟩ ?_
     refine⟨?_,m.sub .n⟩
     rfl
    have h305p:=of_decide_eq_true h305
    refine wp_skip ?_
    refine aB ?_
    refine dG ?_
    refine wp_block ?_
    refine bN ?_
    refine z2 hs m (k:=fun a hs=>?_)
    obtain⟨e306,he307⟩:=bI (l:=cscript) (i:=k) (by omega)
    obtain⟨o308,ho309⟩:=bI (l:=script) (i:=k) (by omega)
    obtain⟨x310,x311,x312,x313,x314,rfl,hx315,hx316,hx317,hx318,hx319⟩:=hscripte _ _ _ he307 ho309
    have lx310:=hx315.bd
    have lx311:=hx316.bd
    have lx312:=hx317.bd
    have lx313:=hx318.bd
    have lx314:=hx319.bd
    refine kE (c:=id) (e:=(sV o308.Kind o308.On o308.Now o308.Err o308.Answer o308.Rev o308.Snap_Now x310.v x311.v x312.v x313.v x314.v:List Value)) hs m (x:=(.tmp 73)) (ix:=(.tmp 74)) rfl rfl pG aAJ hscriptr (by omega) he307 fun p320 hp321 ok322=>?_
    refine z2 hs m (h1:=p_ (ok322 _ _ _ _ _)) (h2:=p_ (cN (sV o308.Kind o308.On o308.Now o308.Err o308.Answer o308.Rev o308.Snap_Now x310.v x311.v x312.v x313.v x314.v))) (k:=fun a hs=>?_)
    refine bZ hs m aOF rfl fun p323 w324 m a hs=>?_
    refine xB (cs':=sV o308.Kind o308.On o308.Now o308.Err o308.Answer o308.Rev o308.Snap_Now x310.v x311.v x312.v x313.v x314.v) (vs:=sV o308.Kind o308.On o308.Now o308.Err o308.Answer o308.Rev o308.Snap_Now x310.v x311.v x312.v x313.v x314.v) hs m rfl rfl aAJ s0 (by kernel_rfl) (by kernel_rfl) (by kernel_rfl) (by kernel_rfl) (by kernel_rfl) fun w325 m=>?_
    refine wpList_nil (aB ?_)
    refine dG ?_
    refine bN ?_
    refine z4 hs m (k:=fun a hs=>?_)
    rcases Bool.eq_false_or_eq_true (o308.On.v==0) with hb326|hb326
    ·have hb326p:=eq_of_beq hb326
     refine z3 hs m (h2:=dV hb326 (hO rfl rfl iP)) (h3:=p_ (aP (r:=.bool true) rfl rfl rfl (by rw[hb326];rfl))) (k:=eM fun a hs=>?_)
     refine lU hs rfl rfl ?_
     refine fD ?_
     refine z4 hs m (h4:=p_ (cN (sV o308.Kind o308.On o308.Now o308.Err o308.Answer o308.Rev o308.Snap_Now x310.v x311.v x312.v x313.v x314.v))) (k:=fun a hs=>?_)
     refine eW 3 (m.sub (a6 (a2 (a2 (a0 (a0 (a0 (a0 .n)))))))) hs vO (fun R1 hR ⟨y1,sy,ly⟩ mc=>lI v299 hp v291 (iV ra) v293 ra o308.Kind o308.On o308.Now o308.Err o308.Answer o308.Rev o308.Snap_Now x310 o308.Leases x311 o308.Events x312 o308.Routes x313 o308.Neighs x314 o308.Fdbs _ R1 (hx315.le hR) (hx316.le hR) (hx317.le hR) (hx318.le hR) (hx319.le hR) (by rfl) (by exact hra.inv) (by omega) (by omega) (by omega) (by omega) (by omega) (by(have q:=fI A1 (by assumption);omega)) (by(have q:=fI A1 (by assumption);omega)) (by(have q:=fI A1 (by assumption);omega)) (by(have q:=fI A1 (by assumption);omega)) (by(have q:=fI A1 (by assumption);omega)) mc) fun w328 m a hs=>?_
     simp only[iG] at m
     refine z1 hs m (k:=eM (uN (y1 m (h1:=p_ (cN (eB s))) (k:=fun a hs=>?_))))
     refine fH m hs nA (jW s _  (by omega)) fun v329 w330 m a hs=>?_
     simp only[iG] at m
     refine wpList_nil (aB ?_)
     refine dG ?_
     refine bN ?_
     refine z5 hs m (h3:=p_ (bQ m rfl pG (dX hscriptr))) (h4:=p_ (mE (r:=((cscript.length / 2:Nat):Int)) rfl rfl (by omega) (lD (n:=cscript.length) (by omega)))) (k:=eM fun a hs=>?_)
     refine aR hs rfl (fun h331=>?_) (fun h331=>?_)
     ·have h331p:=eq_of_beq h331
      refine bN ?_
      refine z1 hs m (h1:=p_ (cN (eB s))) (k:=fun a hs=>?_)
      refine fH m hs nA (jW s _  (by omega)) fun v332 w333 m a hs=>?_
      simp only[iG] at m
      refine z5 hs m (k:=eM (uN (y1 m (h1:=p_ (cN (eB s))) (k:=fun a hs=>?_))))
      refine fH m hs uP (pN s _  (by omega)) fun v334 w335 m a hs=>?_
      simp only[iG] at m
      refine z5 hs m (k:=eM fun a hs=>?_)
      refine fD ?_
      refine z6 hs m (h3:=dV rfl iU) (h4:=dV rfl iU) (h5:=dV rfl (fB (v:=.bool true) rfl rfl rfl)) (h6:=p_ (aP (r:=.bool true) rfl rfl rfl rfl)) (k:=y6 m (h2:=dV rfl iU) (h3:=dV rfl (iJ rfl rfl tZ)) (h4:=dV rfl iU) (h5:=dV rfl (iJ rfl rfl iP)) (h6:=dV rfl (oJ (a:=false) (b:=false) rfl rfl zM)) (k:=fun a hs=>?_))
      refine z2 hs m (h1:=p_ (aP (r:=.bool true) rfl rfl rfl rfl)) (k:=eM fun a hs=>?_)
      refine dG ?_
      refine bN ?_
      refine z2 hs m (k:=eM fun a hs=>?_)
      refine bV hs rfl rfl ?_
      refine wp_skip ?_
      refine aB ?_
      refine bN ?_
      refine z6 hs m (h2:=p_ (hO rfl rfl iP)) (h4:=dV rfl iU) (h5:=dV rfl iU) (h6:=dV rfl iU) (k:=y1 m (h1:=dV rfl (cN (sV o308.Kind o308.On o308.Now o308.Err o308.Answer o308.Rev o308.Snap_Now x310.v x311.v x312.v x313.v x314.v))) (k:=fun a hs=>?_))
      refine kU hs rfl rfl rfl ?_
      refine eW 3 (m.sub (a3 (a1 (a0 (a0 (a0 (a0 (a0 (a0 (a0 (a0 .n))))))))))) hs vO (fun R1 hR ⟨y1,sy,ly⟩ mc=>lI v299 (uV hp o308) v332 (qJ s) v334 (jV s) o308.Kind o308.On o308.Now o308.Err o308.Answer o308.Rev o308.Snap_Now x310 o308.Leases x311 o308.Events x312 o308.Routes x313 o308.Neighs x314 o308.Fdbs _ R1 (hx315.le hR) (hx316.le hR) (hx317.le hR) (hx318.le hR) (hx319.le hR) (by rfl) (by exact aA7 s) (by simp [jV]) (by simp [jV]) (by simp [jV]) (by simp [jV]) (by simp [jV]) (by(have q:=fI A1 (by assumption);omega)) (by(have q:=fI A1 (by assumption);omega)) (by(have q:=fI A1 (by assumption);omega)) (by(have q:=fI A1 (by assumption);omega)) (by(have q:=fI A1 (by assumption);omega)) mc) fun w337 m a hs=>?_
      simp only[iG] at m
      refine z2 hs m (h1:=dV rfl iU) (h2:=p_ (aP (r:=.bool false) rfl rfl rfl rfl)) (k:=eM fun a hs=>?_)
      refine bV hs rfl rfl ?_
      refine wp_skip ?_
      refine eA (aB ?_)
      refine fD ?_
      refine z3 hs m (k:=eM fun a hs=>?_)
      exact⟨script.length-(k+1),by omega,.inr ⟨k+1,uV (uV hp o308) o308,gP ra o308,rb,gP (jV s) o308,v332,v334,by omega,by exact iE hra (by assumption) A1,by exact iS hrb,by omega,by exact iE (sC s _ _) (by assumption) A1,rfl,hs.to ⟨rfl,rfl,rfl,rfl,rfl,rfl,rfl,rfl,rfl,rfl,rfl,trivial⟩,m.sub (a7 (a4 (a4 (a5 (a5 (a0 (a0 (a0 .n))))))))⟩⟩
     have h331p:=ne_of_beq_false h331
     refine wp_skip ?_
     refine aB ?_
     refine dG ?_
     refine bN ?_
     refine z2 hs m (k:=eM fun a hs=>?_)
     refine bV hs rfl rfl ?_
     refine wp_skip ?_
     refine aB ?_
     refine bN ?_
     refine z6 hs m (h2:=p_ (fE rfl rfl iP)) (h4:=iY rfl) (h5:=iY rfl) (h6:=iY rfl) (k:=y4 m (h1:=iY rfl) (h2:=iY rfl) (h3:=iY rfl) (h4:=p_ (aP (r:=.bool false) rfl rfl rfl rfl)) (k:=eM fun a hs=>?_))
     refine bV hs rfl rfl ?_
     refine wp_skip ?_
     refine eA (aB ?_)
     refine fD ?_
     refine z3 hs m (k:=eM fun a hs=>?_)
     exact⟨script.length-(k+1),by omega,.inl ⟨k+1,uV hp o308,gP ra o308,rb,by omega,by exact iE hra (by assumption) A1,by exact iS hrb,by omega,rfl,hs.to ⟨rfl,rfl,rfl,rfl,rfl,rfl,rfl,rfl,rfl,rfl,rfl,trivial⟩,m.sub (a5 (a2 (a2 (a3 (a3 (a1 .n))))))⟩⟩
    ·have hb326p:=ne_of_beq_false hb326
     refine z3 hs m (h3:=p_ (aP (r:=.bool false) rfl rfl rfl (by rw[hb326];rfl))) (k:=eM fun a hs=>?_)
     refine bV hs rfl rfl ?_
     refine bN ?_
     refine z4 hs m (k:=fun a hs=>?_)
     rcases Bool.eq_false_or_eq_true (o308.On.v !=0) with hb342|hb342
     ·have hb342p:=fT hb342
      refine z3 hs m (h2:=dV hb342 (hO rfl rfl iP)) (h3:=p_ (aP (r:=.bool true) rfl rfl rfl (by rw[hb342];rfl))) (k:=eM fun a hs=>?_)
      refine lU hs rfl rfl ?_
      refine fD ?_
      refine z4 hs m (h4:=p_ (cN (sV o308.Kind o308.On o308.Now o308.Err o308.Answer o308.Rev o308.Snap_Now x310.v x311.v x312.v x313.v x314.v))) (k:=fun a hs=>?_)
      refine eW 3 (m.sub (a6 (a4 (a4 (a0 (a0 (a0 (a0 .n)))))))) hs vO (fun R1 hR ⟨y1,sy,ly⟩ mc=>lI v299 hp v295 (iV rb) v297 rb o308.Kind o308.On o308.Now o308.Err o308.Answer o308.Rev o308.Snap_Now x310 o308.Leases x311 o308.Events x312 o308.Routes x313 o308.Neighs x314 o308.Fdbs _ R1 (hx315.le hR) (hx316.le hR) (hx317.le hR) (hx318.le hR) (hx319.le hR) (by rfl) (by exact hrb.inv) (by omega) (by omega) (by omega) (by omega) (by omega) (by(have q:=fI A1 (by assumption);omega)) (by(have q:=fI A1 (by assumption);omega)) (by(have q:=fI A1 (by assumption);omega)) (by(have q:=fI A1 (by assumption);omega)) (by(have q:=fI A1 (by assumption);omega)) mc) fun w344 m a hs=>?_
      simp only[iG] at m
      refine z1 hs m (k:=eM (uN (y1 m (h1:=p_ (cN (eB s))) (k:=fun a hs=>?_))))
      refine fH m hs nA (jW s _  (by omega)) fun v345 w346 m a hs=>?_
      simp only[iG] at m
      refine wpList_nil (aB ?_)
      refine dG ?_
      refine bN ?_
      refine z5 hs m (h3:=p_ (bQ m rfl pG (dX hscriptr))) (h4:=p_ (mE (r:=((cscript.length / 2:Nat):Int)) rfl rfl (by omega) (lD (n:=cscript.length) (by omega)))) (k:=eM fun a hs=>?_)
      refine aR hs rfl (fun h347=>?_) (fun h347=>?_)
      ·have h347p:=eq_of_beq h347
       refine bN ?_
       refine z1 hs m (h1:=p_ (cN (eB s))) (k:=fun a hs=>?_)
       refine fH m hs nA (jW s _  (by omega)) fun v348 w349 m a hs=>?_
       simp only[iG] at m
       refine z5 hs m (k:=eM (uN (y1 m (h1:=p_ (cN (eB s))) (k:=fun a hs=>?_))))
       refine fH m hs uP (pN s _  (by omega)) fun v350 w351 m a hs=>?_
       simp only[iG] at m
       refine z5 hs m (k:=eM fun a hs=>?_)
       refine fD ?_
       refine z6 hs m (h3:=dV rfl iU) (h4:=dV rfl iU) (h5:=dV rfl (fB (v:=.bool true) rfl rfl rfl)) (h6:=p_ (aP (r:=.bool true) rfl rfl rfl rfl)) (k:=y6 m (h2:=dV rfl iU) (h3:=dV rfl (iJ rfl rfl tZ)) (h4:=dV rfl iU) (h5:=dV rfl (iJ rfl rfl iP)) (h6:=dV rfl (oJ (a:=false) (b:=false) rfl rfl zM)) (k:=fun a hs=>?_))
       refine z2 hs m (h1:=p_ (aP (r:=.bool true) rfl rfl rfl rfl)) (k:=eM fun a hs=>?_)
       refine dG ?_
       refine bN ?_
       refine z2 hs m (k:=eM fun a hs=>?_)
       refine bV hs rfl rfl ?_
       refine wp_skip ?_
       refine aB ?_
       refine bN ?_
       refine z6 hs m (h2:=p_ (hO rfl rfl iP)) (h4:=dV rfl iU) (h5:=dV rfl iU) (h6:=dV rfl iU) (k:=y1 m (h1:=dV rfl (cN (sV o308.Kind o308.On o308.Now o308.Err o308.Answer o308.Rev o308.Snap_Now x310.v x311.v x312.v x313.v x314.v))) (k:=fun a hs=>?_))
       refine kU hs rfl rfl rfl ?_
       refine eW 3 (m.sub (a3 (a1 (a0 (a0 (a0 (a0 (a0 (a0 (a0 (a0 .n))))))))))) hs vO (fun R1 hR ⟨y1,sy,ly⟩ mc=>lI v299 (uV hp o308) v348 (qJ s) v350 (jV s) o308.Kind o308.On o308.Now o308.Err o308.Answer o308.Rev o308.Snap_Now x310 o308.Leases x311 o308.Events x312 o308.Routes x313 o308.Neighs x314 o308.Fdbs _ R1 (hx315.le hR) (hx316.le hR) (hx317.le hR) (hx318.le hR) (hx319.le hR) (by rfl) (by exact aA7 s) (by simp [jV]) (by simp [jV]) (by simp [jV]) (by simp [jV]) (by simp [jV]) (by(have q:=fI A1 (by assumption);omega)) (by(have q:=fI A1 (by assumption);omega)) (by(have q:=fI A1 (by assumption);omega)) (by(have q:=fI A1 (by assumption);omega)) (by(have q:=fI A1 (by assumption);omega)) mc) fun w353 m a hs=>?_
       simp only[iG] at m
       refine z2 hs m (h1:=dV rfl iU) (h2:=p_ (aP (r:=.bool false) rfl rfl rfl rfl)) (k:=eM fun a hs=>?_)
       refine bV hs rfl rfl ?_
       refine wp_skip ?_
       refine eA (aB ?_)
       refine fD ?_
       refine z3 hs m (k:=eM fun a hs=>?_)
       exact⟨script.length-(k+1),by omega,.inr ⟨k+1,uV (uV hp o308) o308,ra,gP rb o308,gP (jV s) o308,v348,v350,by omega,by exact iS hra,by exact iE hrb (by assumption) A1,by omega,by exact iE (sC s _ _) (by assumption) A1,rfl,hs.to ⟨rfl,rfl,rfl,rfl,rfl,rfl,rfl,rfl,rfl,rfl,rfl,trivial⟩,m.sub (a7 (a7 (a7 (a4 (a4 (a0 (a0 (a0 .n))))))))⟩⟩
      have h347p:=ne_of_beq_false h347
      refine wp_skip ?_
      refine aB ?_
      refine dG ?_
      refine bN ?_
      refine z2 hs m (k:=eM fun a hs=>?_)
      refine bV hs rfl rfl ?_
      refine wp_skip ?_
      refine aB ?_
      refine bN ?_
      refine z6 hs m (h2:=p_ (fE rfl rfl iP)) (h4:=iY rfl) (h5:=iY rfl) (h6:=iY rfl) (k:=y4 m (h1:=iY rfl) (h2:=iY rfl) (h3:=iY rfl) (h4:=p_ (aP (r:=.bool false) rfl rfl rfl rfl)) (k:=eM fun a hs=>?_))
      refine bV hs rfl rfl ?_
      refine wp_skip ?_
      refine eA (aB ?_)
      refine fD ?_
      refine z3 hs m (k:=eM fun a hs=>?_)
      exact⟨script.length-(k+1),by omega,.inl ⟨k+1,uV hp o308,ra,gP rb o308,by omega,by exact iS hra,by exact iE hrb (by assumption) A1,by omega,rfl,hs.to ⟨rfl,rfl,rfl,rfl,rfl,rfl,rfl,rfl,rfl,rfl,rfl,trivial⟩,m.sub (a5 (a5 (a5 (a2 (a2 (a1 .n))))))⟩⟩
     ·have hb342p:=dJ hb342
      refine z3 hs m (h3:=p_ (aP (r:=.bool false) rfl rfl rfl (by rw[hb342];rfl))) (k:=eM fun a hs=>?_)
      refine bV hs rfl rfl ?_
      refine wp_skip ?_
      refine aB ?_
      refine bN ?_
      refine z1 hs m (h1:=p_ (cN (eB s))) (k:=fun a hs=>?_)
      refine fH m hs nA (jW s _  (by omega)) fun v358 w359 m a hs=>?_
      simp only[iG] at m
      refine wpList_nil (aB ?_)
      refine dG ?_
      refine bN ?_
      refine z5 hs m (h3:=p_ (bQ m rfl pG (dX hscriptr))) (h4:=p_ (mE (r:=((cscript.length / 2:Nat):Int)) rfl rfl (by omega) (lD (n:=cscript.length) (by omega)))) (k:=eM fun a hs=>?_)
      refine aR hs rfl (fun h360=>?_) (fun h360=>?_)
      ·have h360p:=eq_of_beq h360
       refine bN ?_
       refine z1 hs m (h1:=p_ (cN (eB s))) (k:=fun a hs=>?_)
       refine fH m hs nA (jW s _  (by omega)) fun v361 w362 m a hs=>?_
       simp only[iG] at m
       refine z5 hs m (k:=eM (uN (y1 m (h1:=p_ (cN (eB s))) (k:=fun a hs=>?_))))
       refine fH m hs uP (pN s _  (by omega)) fun v363 w364 m a hs=>?_
       simp only[iG] at m
       refine z5 hs m (k:=eM fun a hs=>?_)
       refine fD ?_
       refine z6 hs m (h3:=dV rfl iU) (h4:=dV rfl iU) (h5:=dV rfl (fB (v:=.bool true) rfl rfl rfl)) (h6:=p_ (aP (r:=.bool true) rfl rfl rfl rfl)) (k:=y6 m (h2:=dV rfl iU) (h3:=dV rfl (iJ rfl rfl tZ)) (h4:=dV rfl iU) (h5:=dV rfl (iJ rfl rfl iP)) (h6:=dV rfl (oJ (a:=false) (b:=false) rfl rfl zM)) (k:=fun a hs=>?_))
       refine z2 hs m (h1:=p_ (aP (r:=.bool true) rfl rfl rfl rfl)) (k:=eM fun a hs=>?_)
       refine dG ?_
       refine bN ?_
       refine z2 hs m (k:=eM fun a hs=>?_)
       refine bV hs rfl rfl ?_
       refine wp_skip ?_
       refine aB ?_
       refine bN ?_
       refine z6 hs m (h2:=p_ (hO rfl rfl iP)) (h4:=dV rfl iU) (h5:=dV rfl iU) (h6:=dV rfl iU) (k:=y1 m (h1:=dV rfl (cN (sV o308.Kind o308.On o308.Now o308.Err o308.Answer o308.Rev o308.Snap_Now x310.v x311.v x312.v x313.v x314.v))) (k:=fun a hs=>?_))
       refine kU hs rfl rfl rfl ?_
       refine eW 3 (m.sub (a9 (a1 (a0 (a0 (a0 (a0 (a0 (a0 (a0 (a0 .n))))))))))) hs vO (fun R1 hR ⟨y1,sy,ly⟩ mc=>lI v299 hp v361 (qJ s) v363 (jV s) o308.Kind o308.On o308.Now o308.Err o308.Answer o308.Rev o308.Snap_Now x310 o308.Leases x311 o308.Events x312 o308.Routes x313 o308.Neighs x314 o308.Fdbs _ R1 (hx315.le hR) (hx316.le hR) (hx317.le hR) (hx318.le hR) (hx319.le hR) (by rfl) (by omega) (by omega) (by omega) (by omega) (by omega) (by omega) (by omega) (by omega) (by omega) (by omega) (by omega) mc) fun w366 m a hs=>?_
       simp only[iG] at m
       refine z2 hs m (h1:=dV rfl iU) (h2:=p_ (aP (r:=.bool false) rfl rfl rfl rfl)) (k:=eM fun a hs=>?_)
       refine bV hs rfl rfl ?_
       refine wp_skip ?_
       refine eA (aB ?_)
       refine fD ?_
       refine z3 hs m (k:=eM fun a hs=>?_)
       exact⟨script.length-(k+1),by omega,.inr ⟨k+1,uV hp o308,ra,rb,gP (jV s) o308,v361,v363,by omega,by exact iS hra,by exact iS hrb,by omega,by exact iE (sC s _ _) (by assumption) A1,rfl,hs.to ⟨rfl,rfl,rfl,rfl,rfl,rfl,rfl,rfl,rfl,rfl,rfl,trivial⟩,m.sub (a5 (a5 (a5 (a5 (a5 (a0 (a0 (a0 .n))))))))⟩⟩
      have h360p:=ne_of_beq_false h360
      refine wp_skip ?_
      refine aB ?_
      refine dG ?_
      refine bN ?_
      refine z2 hs m (k:=eM fun a hs=>?_)
      refine bV hs rfl rfl ?_
      refine wp_skip ?_
      refine aB ?_
      refine bN ?_
      refine z6 hs m (h2:=p_ (fE rfl rfl iP)) (h4:=iY rfl) (h5:=iY rfl) (h6:=iY rfl) (k:=y4 m (h1:=iY rfl) (h2:=iY rfl) (h3:=iY rfl) (h4:=p_ (aP (r:=.bool false) rfl rfl rfl rfl)) (k:=eM fun a hs=>?_))
      refine bV hs rfl rfl ?_
      refine wp_skip ?_
      refine eA (aB ?_)
      refine fD ?_
      refine z3 hs m (k:=eM fun a hs=>?_)
      exact⟨script.length-(k+1),by omega,.inl ⟨k+1,hp,ra,rb,by omega,by exact iS hra,by exact iS hrb,by omega,rfl,hs.to ⟨rfl,rfl,rfl,rfl,rfl,rfl,rfl,rfl,rfl,rfl,rfl,trivial⟩,m.sub (a2 (a2 (a2 (a2 (a2 (a2 .n))))))⟩⟩
   ·have zra:=wX hra A1 hk
    have zrb:=wX hrb A1 hk
    have zrx:=wX hrx A1 hk
    refine dG ?_
    refine bN ?_
    refine z4 hs m (h3:=p_ (bQ m rfl pG (dX hscriptr))) (k:=eM fun a hs=>?_)
    refine aR hs rfl (fun h370=>?_) (fun h370=>?_)
    rotate_left
    ·have h370p:=of_decide_eq_false h370
     refine wp_exit ?_
     refine eK (eK (lL (?_)))
     refine aB ?_
     refine bN ?_
     refine z1 hs m (k:=eM fun a hs=>?_)
     refine wp_ret ?_
     refine bH hs (vs:=[.bool true]) rfl ⟨rfl,trivial⟩ ?_
     refine⟨?_,m.sub .n⟩
     rfl
    have h370p:=of_decide_eq_true h370
    refine wp_skip ?_
    refine aB ?_
    refine dG ?_
    refine wp_block ?_
    refine bN ?_
    refine z2 hs m (k:=fun a hs=>?_)
    obtain⟨e371,he372⟩:=bI (l:=cscript) (i:=k) (by omega)
    obtain⟨o373,ho374⟩:=bI (l:=script) (i:=k) (by omega)
    obtain⟨x375,x376,x377,x378,x379,rfl,hx380,hx381,hx382,hx383,hx384⟩:=hscripte _ _ _ he372 ho374
    have lx375:=hx380.bd
    have lx376:=hx381.bd
    have lx377:=hx382.bd
    have lx378:=hx383.bd
    have lx379:=hx384.bd
    refine kE (c:=id) (e:=(sV o373.Kind o373.On o373.Now o373.Err o373.Answer o373.Rev o373.Snap_Now x375.v x376.v x377.v x378.v x379.v:List Value)) hs m (x:=(.tmp 73)) (ix:=(.tmp 74)) rfl rfl pG aAJ hscriptr (by omega) he372 fun p385 hp386 ok387=>?_
    refine z2 hs m (h1:=p_ (ok387 _ _ _ _ _)) (h2:=p_ (cN (sV o373.Kind o373.On o373.Now o373.Err o373.Answer o373.Rev o373.Snap_Now x375.v x376.v x377.v x378.v x379.v))) (k:=fun a hs=>?_)
    refine bZ hs m aOF rfl fun p388 w389 m a hs=>?_
    refine xB (cs':=sV o373.Kind o373.On o373.Now o373.Err o373.Answer o373.Rev o373.Snap_Now x375.v x376.v x377.v x378.v x379.v) (vs:=sV o373.Kind o373.On o373.Now o373.Err o373.Answer o373.Rev o373.Snap_Now x375.v x376.v x377.v x378.v x379.v) hs m rfl rfl aAJ s0 (by kernel_rfl) (by kernel_rfl) (by kernel_rfl) (by kernel_rfl) (by kernel_rfl) fun w390 m=>?_
    refine wpList_nil (aB ?_)
    refine dG ?_
    refine bN ?_
    refine z4 hs m (k:=fun a hs=>?_)
    rcases Bool.eq_false_or_eq_true (o373.On.v==0) with hb391|hb391
    ·have hb391p:=eq_of_beq hb391
     refine z3 hs m (h2:=dV hb391 (hO rfl rfl iP)) (h3:=p_ (aP (r:=.bool true) rfl rfl rfl (by rw[hb391];rfl))) (k:=eM fun a hs=>?_)
     refine lU hs rfl rfl ?_
     refine fD ?_
     refine z4 hs m (h4:=p_ (cN (sV o373.Kind o373.On o373.Now o373.Err o373.Answer o373.Rev o373.Snap_Now x375.v x376.v x377.v x378.v x379.v))) (k:=fun a hs=>?_)
     refine eW 3 (m.sub (a6 (a2 (a2 (a0 (a0 (a0 (a0 (a0 (a0 .n)))))))))) hs vO (fun R1 hR ⟨y1,sy,ly⟩ mc=>lI v299 hp v291 (iV ra) v293 ra o373.Kind o373.On o373.Now o373.Err o373.Answer o373.Rev o373.Snap_Now x375 o373.Leases x376 o373.Events x377 o373.Routes x378 o373.Neighs x379 o373.Fdbs _ R1 (hx380.le hR) (hx381.le hR) (hx382.le hR) (hx383.le hR) (hx384.le hR) (by rfl) (by exact hra.inv) (by omega) (by omega) (by omega) (by omega) (by omega) (by(have q:=fI A1 (by assumption);omega)) (by(have q:=fI A1 (by assumption);omega)) (by(have q:=fI A1 (by assumption);omega)) (by(have q:=fI A1 (by assumption);omega)) (by(have q:=fI A1 (by assumption);omega)) mc) fun w393 m a hs=>?_
     simp only[iG] at m
     refine z1 hs m (k:=eM (uN (y1 m (h1:=p_ (cN (eB s))) (k:=fun a hs=>?_))))
     refine fH m hs nA (jW s _  (by omega)) fun v394 w395 m a hs=>?_
     simp only[iG] at m
     refine wpList_nil (aB ?_)
     refine dG ?_
     refine bN ?_
     refine z5 hs m (h3:=p_ (bQ m rfl pG (dX hscriptr))) (h4:=p_ (mE (r:=((cscript.length / 2:Nat):Int)) rfl rfl (by omega) (lD (n:=cscript.length) (by omega)))) (k:=eM fun a hs=>?_)
     refine bV hs rfl (by(simp;omega)) ?_
     refine wp_skip ?_
     refine aB ?_
     refine dG ?_
     refine bN ?_
     refine z2 hs m (k:=eM fun a hs=>?_)
     refine bV hs rfl rfl ?_
     refine wp_skip ?_
     refine aB ?_
     refine bN ?_
     refine z6 hs m (h2:=p_ (hO rfl rfl iP)) (h4:=dV rfl iU) (h5:=dV rfl iU) (h6:=dV rfl iU) (k:=y1 m (h1:=dV rfl (cN (sV o373.Kind o373.On o373.Now o373.Err o373.Answer o373.Rev o373.Snap_Now x375.v x376.v x377.v x378.v x379.v))) (k:=fun a hs=>?_))
     refine kU hs rfl rfl rfl ?_
     refine eW 3 (m.sub (a1 (a7 (a7 (a0 (a0 (a0 (a0 (a0 (a0 (a0 .n))))))))))) hs vO (fun R1 hR ⟨y1,sy,ly⟩ mc=>lI v299 (uV hp o373) px (iV rx) py rx o373.Kind o373.On o373.Now o373.Err o373.Answer o373.Rev o373.Snap_Now x375 o373.Leases x376 o373.Events x377 o373.Routes x378 o373.Neighs x379 o373.Fdbs _ R1 (hx380.le hR) (hx381.le hR) (hx382.le hR) (hx383.le hR) (hx384.le hR) (by rfl) (by exact hrx.inv) (by omega) (by omega) (by omega) (by omega) (by omega) (by(have q:=fI A1 (by assumption);omega)) (by(have q:=fI A1 (by assumption);omega)) (by(have q:=fI A1 (by assumption);omega)) (by(have q:=fI A1 (by assumption);omega)) (by(have q:=fI A1 (by assumption);omega)) mc) fun w398 m a hs=>?_
     simp only[iG] at m
     refine z2 hs m (h1:=dV rfl iU) (h2:=p_ (aP (r:=.bool false) rfl rfl rfl rfl)) (k:=eM fun a hs=>?_)
     refine bV hs rfl rfl ?_
     refine wp_skip ?_
     refine eA (aB ?_)
     refine fD ?_
     refine z3 hs m (k:=eM fun a hs=>?_)
     exact⟨script.length-(k+1),by omega,.inr ⟨k+1,uV (uV hp o373) o373,gP ra o373,rb,gP rx o373,px,py,by omega,by exact iE hra (by assumption) A1,by exact iS hrb,by omega,by exact iE hrx (by assumption) A1,rfl,hs.to ⟨rfl,rfl,rfl,rfl,rfl,rfl,rfl,rfl,rfl,rfl,rfl,trivial⟩,m.sub (a7 (a4 (a4 (a5 (a5 (a0 (a0 (a0 .n))))))))⟩⟩
    ·have hb391p:=ne_of_beq_false hb391
     refine z3 hs m (h3:=p_ (aP (r:=.bool false) rfl rfl rfl (by rw[hb391];rfl))) (k:=eM fun a hs=>?_)
     refine bV hs rfl rfl ?_
     refine bN ?_
     refine z4 hs m (k:=fun a hs=>?_)
     rcases Bool.eq_false_or_eq_true (o373.On.v !=0) with hb401|hb401
     ·have hb401p:=fT hb401
      refine z3 hs m (h2:=dV hb401 (hO rfl rfl iP)) (h3:=p_ (aP (r:=.bool true) rfl rfl rfl (by rw[hb401];rfl))) (k:=eM fun a hs=>?_)
      refine lU hs rfl rfl ?_
      refine fD ?_
      refine z4 hs m (h4:=p_ (cN (sV o373.Kind o373.On o373.Now o373.Err o373.Answer o373.Rev o373.Snap_Now x375.v x376.v x377.v x378.v x379.v))) (k:=fun a hs=>?_)
      refine eW 3 (m.sub (a6 (a4 (a4 (a0 (a0 (a0 (a0 (a0 (a0 .n)))))))))) hs vO (fun R1 hR ⟨y1,sy,ly⟩ mc=>lI v299 hp v295 (iV rb) v297 rb o373.Kind o373.On o373.Now o373.Err o373.Answer o373.Rev o373.Snap_Now x375 o373.Leases x376 o373.Events x377 o373.Routes x378 o373.Neighs x379 o373.Fdbs _ R1 (hx380.le hR) (hx381.le hR) (hx382.le hR) (hx383.le hR) (hx384.le hR) (by rfl) (by exact hrb.inv) (by omega) (by omega) (by omega) (by omega) (by omega) (by(have q:=fI A1 (by assumption);omega)) (by(have q:=fI A1 (by assumption);omega)) (by(have q:=fI A1 (by assumption);omega)) (by(have q:=fI A1 (by assumption);omega)) (by(have q:=fI A1 (by assumption);omega)) mc) fun w403 m a hs=>?_
      simp only[iG] at m
      refine z1 hs m (k:=eM (uN (y1 m (h1:=p_ (cN (eB s))) (k:=fun a hs=>?_))))
      refine fH m hs nA (jW s _  (by omega)) fun v404 w405 m a hs=>?_
      simp only[iG] at m
      refine wpList_nil (aB ?_)
      refine dG ?_
      refine bN ?_
      refine z5 hs m (h3:=p_ (bQ m rfl pG (dX hscriptr))) (h4:=p_ (mE (r:=((cscript.length / 2:Nat):Int)) rfl rfl (by omega) (lD (n:=cscript.length) (by omega)))) (k:=eM fun a hs=>?_)
      refine bV hs rfl (by(simp;omega)) ?_
      refine wp_skip ?_
      refine aB ?_
      refine dG ?_
      refine bN ?_
      refine z2 hs m (k:=eM fun a hs=>?_)
      refine bV hs rfl rfl ?_
      refine wp_skip ?_
      refine aB ?_
      refine bN ?_
      refine z6 hs m (h2:=p_ (hO rfl rfl iP)) (h4:=dV rfl iU) (h5:=dV rfl iU) (h6:=dV rfl iU) (k:=y1 m (h1:=dV rfl (cN (sV o373.Kind o373.On o373.Now o373.Err o373.Answer o373.Rev o373.Snap_Now x375.v x376.v x377.v x378.v x379.v))) (k:=fun a hs=>?_))
      refine kU hs rfl rfl rfl ?_
      refine eW 3 (m.sub (a1 (a7 (a7 (a0 (a0 (a0 (a0 (a0 (a0 (a0 .n))))))))))) hs vO (fun R1 hR ⟨y1,sy,ly⟩ mc=>lI v299 (uV hp o373) px (iV rx) py rx o373.Kind o373.On o373.Now o373.Err o373.Answer o373.Rev o373.Snap_Now x375 o373.Leases x376 o373.Events x377 o373.Routes x378 o373.Neighs x379 o373.Fdbs _ R1 (hx380.le hR) (hx381.le hR) (hx382.le hR) (hx383.le hR) (hx384.le hR) (by rfl) (by exact hrx.inv) (by omega) (by omega) (by omega) (by omega) (by omega) (by(have q:=fI A1 (by assumption);omega)) (by(have q:=fI A1 (by assumption);omega)) (by(have q:=fI A1 (by assumption);omega)) (by(have q:=fI A1 (by assumption);omega)) (by(have q:=fI A1 (by assumption);omega)) mc) fun w408 m a hs=>?_
      simp only[iG] at m
      refine z2 hs m (h1:=dV rfl iU) (h2:=p_ (aP (r:=.bool false) rfl rfl rfl rfl)) (k:=eM fun a hs=>?_)
      refine bV hs rfl rfl ?_
      refine wp_skip ?_
      refine eA (aB ?_)
      refine fD ?_
      refine z3 hs m (k:=eM fun a hs=>?_)
      exact⟨script.length-(k+1),by omega,.inr ⟨k+1,uV (uV hp o373) o373,ra,gP rb o373,gP rx o373,px,py,by omega,by exact iS hra,by exact iE hrb (by assumption) A1,by omega,by exact iE hrx (by assumption) A1,rfl,hs.to ⟨rfl,rfl,rfl,rfl,rfl,rfl,rfl,rfl,rfl,rfl,rfl,trivial⟩,m.sub (a7 (a7 (a7 (a4 (a4 (a0 (a0 (a0 .n))))))))⟩⟩
     ·have hb401p:=dJ hb401
      refine z3 hs m (h3:=p_ (aP (r:=.bool false) rfl rfl rfl (by rw[hb401];rfl))) (k:=eM fun a hs=>?_)
      refine bV hs rfl rfl ?_
      refine wp_skip ?_
      refine aB ?_
      refine bN ?_
      refine z1 hs m (h1:=p_ (cN (eB s))) (k:=fun a hs=>?_)
      refine fH m hs nA (jW s _  (by omega)) fun v411 w412 m a hs=>?_
      simp only[iG] at m
      refine wpList_nil (aB ?_)
      refine dG ?_
      refine bN ?_
      refine z5 hs m (h3:=p_ (bQ m rfl pG (dX hscriptr))) (h4:=p_ (mE (r:=((cscript.length / 2:Nat):Int)) rfl rfl (by omega) (lD (n:=cscript.length) (by omega)))) (k:=eM fun a hs=>?_)
      refine bV hs rfl (by(simp;omega)) ?_
      refine wp_skip ?_
      refine aB ?_
      refine dG ?_
      refine bN ?_
      refine z2 hs m (k:=eM fun a hs=>?_)
      refine bV hs rfl rfl ?_
      refine wp_skip ?_
      refine aB ?_
      refine bN ?_
      refine z6 hs m (h2:=p_ (hO rfl rfl iP)) (h4:=dV rfl iU) (h5:=dV rfl iU) (h6:=dV rfl iU) (k:=y1 m (h1:=dV rfl (cN (sV o373.Kind o373.On o373.Now o373.Err o373.Answer o373.Rev o373.Snap_Now x375.v x376.v x377.v x378.v x379.v))) (k:=fun a hs=>?_))
      refine kU hs rfl rfl rfl ?_
      refine eW 3 (m.sub (a7 (a7 (a7 (a0 (a0 (a0 (a0 (a0 (a0 (a0 .n))))))))))) hs vO (fun R1 hR ⟨y1,sy,ly⟩ mc=>lI v299 hp px (iV rx) py rx o373.Kind o373.On o373.Now o373.Err o373.Answer o373.Rev o373.Snap_Now x375 o373.Leases x376 o373.Events x377 o373.Routes x378 o373.Neighs x379 o373.Fdbs _ R1 (hx380.le hR) (hx381.le hR) (hx382.le hR) (hx383.le hR) (hx384.le hR) (by rfl) (by omega) (by omega) (by omega) (by omega) (by omega) (by omega) (by omega) (by omega) (by omega) (by omega) (by omega) mc) fun w415 m a hs=>?_
      simp only[iG] at m
      refine z2 hs m (h1:=dV rfl iU) (h2:=p_ (aP (r:=.bool false) rfl rfl rfl rfl)) (k:=eM fun a hs=>?_)
      refine bV hs rfl rfl ?_
      refine wp_skip ?_
      refine eA (aB ?_)
      refine fD ?_
      refine z3 hs m (k:=eM fun a hs=>?_)
      exact⟨script.length-(k+1),by omega,.inr ⟨k+1,uV hp o373,ra,rb,gP rx o373,px,py,by omega,by exact iS hra,by exact iS hrb,by omega,by exact iE hrx (by assumption) A1,rfl,hs.to ⟨rfl,rfl,rfl,rfl,rfl,rfl,rfl,rfl,rfl,rfl,rfl,trivial⟩,m.sub (a5 (a5 (a5 (a5 (a5 (a0 (a0 (a0 .n))))))))⟩⟩
end Go.Proofs.YtnbpodjbemfpbaaGreat.Fw
