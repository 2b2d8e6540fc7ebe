/-
  Own work: walks and laws, joined by wip/tool/compact.py.
-/
import Derived.Test.YtnbpodjbemfpbaaGreatG4
import Derived.KernelRfl
import Derived.ProofKit
import Derived.OpenShut
import Derived.JoinedCond
import Derived.Carry
import Derived.Deep.Slices
import Derived.Test.YtnbpodjbemfpbaaGreatRows
import Derived.Test.YtnbpodjbemfpbaaGreatChecked
import Derived.WalkKit
set_option linter.all false
set_option linter.all false
set_option maxHeartbeats 4000000
set_option maxRecDepth 100000
namespace Go.Proofs.YtnbpodjbemfpbaaGreat.Fw
open Go
theorem next_c (pag : Addr) (ag : AgM) (now : Int) (w0 : World) (R : Hh) (A0 : ag.view.length ≤ 8388608) (A1 : ag.Routes.length ≤ 8388608) (A2 : ag.Neighs.length ≤ 8388608) (A3 : ag.Fdbs.length ≤ 8388608) (m : Hp w0 R [AgP pag ag] w0) : Calls Tryz.prog 31 ⟨[.pointer (some (padd pag 0)), .int .i64 now]⟩ w0 fun e w' => ∃ v, e = .returned v ∧ (v = (.agg ⟨cReq (nextQ ag now)⟩) ∧ Hp w0 R [AgP pag (nextA ag now)] w') := by
 refine enter (n := 41) Tryz.func31 rfl rfl rfl fun a (hs : St 41 [(0, .pointer (some (padd pag 0))), (1, .int .i64 now)] a) => ?_
 have mo := m.openAg r0
 clear m; obtain ⟨x1, x2, x3, x4, x5, x6, x7, m⟩ := mo
 refine c_reg ?_
 refine r_alloc hs m ze89 rfl ?_
 clear m hs a; intro p8 w9 m a hs
 refine wpList_nil (n_then ?_)
 refine c_seq ?_
 refine c_reg ?_
 refine s_ hs m (ok_move rfl) (b_ m (ok_nilCheck rfl) (b_ m (ok_fieldAddr (r := 9) rfl fd135_1 ty133 rfl) (b_ m (ok_load_sc rfl ty133 (bx_at r1) rfl) (b_ m (ok_len (r := 6) m rfl sl133 (rc_own r3) rfl) (b_ m (ok_move rfl) (bn_ ?_))))))
 clear hs a; intro a hs
 refine wp_block ?_
 refine wp_loop_rounds 7 ?_
 refine rounds_s ?_
 refine c_reg ?_
 refine s_ hs m (ok_bin (v := .bool true) rfl rfl rfl) (bn_ ?_)
 clear hs a; intro a hs
 refine c_seq ?_
 refine c_true hs rfl rfl ?_
 refine wp_skip ?_
 refine n_then ?_
 refine c_seq ?_
 refine wp_block ?_
 refine c_reg ?_
 refine elO (c := id) (e := ([.string (ByteArray.mk ⟨[100, 117, 109, 112]⟩), .func (.func 71) ⟨[]⟩ ⟨[.pointer (some (padd x1 0))]⟩] : List Value)) hs m (x := (.tmp 12)) (ix := (.tmp 14)) rfl rfl sl133 ty138 r3 (by omega) rfl fun p11 hp12 ok13 => ?_
 refine s_ hs m (ok13 _ _ _ _ _) (b_ m (ok_load_ag (vs := [.string (ByteArray.mk ⟨[100, 117, 109, 112]⟩), .func (.func 71) ⟨[]⟩ ⟨[.pointer (some (padd x1 0))]⟩]) rfl ty138 (el_at hp12 r3 (get_map _ (rfl : (rulesOf pag x1)[0]? = some ([.string (ByteArray.mk ⟨[100, 117, 109, 112]⟩), .func (.func 71) ⟨[]⟩ ⟨[.pointer (some (padd x1 0))]⟩] : List Value)))) rfl rfl) ?_)
 clear hs a; intro a hs
 refine r_alloc hs m ze138 rfl ?_
 clear m hs a w9; intro p14 w15 m a hs
 refine st_ ([.string (ByteArray.mk ⟨[100, 117, 109, 112]⟩), .func (.func 71) ⟨[]⟩ ⟨[.pointer (some (padd x1 0))]⟩]) ([.string (ByteArray.mk ⟨[100, 117, 109, 112]⟩), .func (.func 71) ⟨[]⟩ ⟨[.pointer (some (padd x1 0))]⟩]) hs m ty138 s0 ?_
 clear m w15; intro w16 m
 refine wpList_nil (n_then ?_)
 refine c_seq ?_
 refine c_reg ?_
 refine s_ hs m (ok_move rfl) (b_ m (ok_nilCheck rfl) (b_ m (ok_fieldAddr (r := 10) rfl fd135_2 ty89 rfl) (b_ m (ok_fieldAddr (r := 10) rfl fd89_0 ty3 rfl) (b_ m (ok_load_sc rfl ty3 (bx_at r2) rfl) (b_ m (ok_bin rfl rfl rfl) (bn_ ?_))))))
 clear hs a; intro a hs
 refine c_cond hs rfl (fun h17 => ?_) (fun h17 => ?_)
 ·have h17p := ne_of_bne h17
  refine wp_exit ?_
  refine ex_then (ex_miss rfl (ex_then (ex_then (ex_hit (?_)))))
  refine n_then ?_
  refine c_reg ?_
  refine s_ hs m (ok_move rfl) (b_ m (ok_nilCheck rfl) (b_ m (ok_fieldAddr (r := 10) rfl fd135_2 ty89 rfl) (b_ m (ok_load_ag (vs := cReq ag.opn) rfl ty89 (bx_at r2) (by kernel_rfl) (by kernel_rfl)) ?_)))
  clear hs a; intro a hs
  refine st_ (cReq ag.opn) (cReq ag.opn) hs m ty89 s1 ?_
  clear m w16; intro w18 m
  refine wpList_nil (n_then ?_)
  refine wp_ret ?_
  refine leave hs (vs := [.agg ⟨cReq ag.opn⟩]) rfl ⟨resv_cell (cs := cReq ag.opn) m rfl ty89 r1 rfl, trivial⟩ ?_
  replace m := (m.sub (.c r2 (.c r2 (.c r2 (.c r2 (.c r2 (.c r2 (.c r2 (.c r2 (.c r0 (.c r0 .n))))))))))).closeAg (p := pag) (A := ag)
  have q19 : ag = nextA ag now := by clear hs m; exact nx0 (by omega)
  rw [q19] at m
  refine ⟨_, rfl, ?_, m.sub (.c r0 .n)⟩
  have q20 : (ag.opn : TReq) = nextQ ag now := by clear hs m; exact (nq0 (by omega))
  (rw [q20]; rfl)
 have h17p := eq_of_bne_false h17
 refine wp_skip ?_
 refine n_then ?_
 refine c_reg ?_
 refine s_ hs m (ok_fieldAddr (r := 1) rfl fd138_1 ty136 rfl) (b_ m (ok_load_sc rfl ty136 (bx_at r0) rfl) (b_ m (ok_move rfl) ?_))
 clear hs a; intro a hs
 refine r_callP hs m rfl rfl ca71 rfl (new1_c now x1 pag ag _ (bx_at r3 _ m) ⟨x1, x2, x3, x4, x5, x6, x7, (bx_at r2 _ m), (bx_at r3 _ m), (m.rdv r4), (m.rdv r5), (m.rdv r6), (m.rdv r7), (m.rdv r8), (m.rdv r9)⟩ ) rfl ?_
 clear m hs a w16; intro w21 m a hs
 refine s_ hs m (ok_move rfl) (b_ m (ok_extract rfl rfl) (b_ m (ok_extract rfl rfl) ?_))
 clear hs a; intro a hs
 refine r_alloc hs m ze89 rfl ?_
 clear m hs a w21; intro p22 w23 m a hs
 refine st_ (cReq (⟨⟨1, rfl⟩, zCmd, zOp, ⟨0, rfl⟩, ⟨0, rfl⟩⟩ : TReq)) (cReq (⟨⟨1, rfl⟩, zCmd, zOp, ⟨0, rfl⟩, ⟨0, rfl⟩⟩ : TReq)) hs m ty89 s0 ?_
 clear m w23; intro w24 m
 refine s_ hs m (ok_assign rfl) (bn_ (bc_ (b_ m (ok_move rfl) (bn_ ?_))))
 clear hs a; intro a hs
 refine c_cond hs rfl (fun h25 => ?_) (fun h25 => ?_)
 ·have h25p := h25; simp only [bp_] at h25p
  refine c_last ?_
  refine s_ hs m (ok_move rfl) (b_ m (ok_load_ag (vs := cReq (⟨⟨1, rfl⟩, zCmd, zOp, ⟨0, rfl⟩, ⟨0, rfl⟩⟩ : TReq)) rfl ty89 (bx_at r0) (by kernel_rfl) (by kernel_rfl)) (b_ m (ok_nilCheck rfl) (b_ m (ok_fieldAddr (r := 10) rfl fd135_2 ty89 rfl) ?_)))
  clear hs a; intro a hs
  refine st_ (cAg ag.self x2.v (⟨⟨1, rfl⟩, zCmd, zOp, ⟨0, rfl⟩, ⟨0, rfl⟩⟩ : TReq) ag.read x3.v x4.v x5.v x6.v ag.cursor ag.stale x7.v ag.degraded ag.granted ag.waiting ag.wish ag.renewed ag.quiet) (cReq (⟨⟨1, rfl⟩, zCmd, zOp, ⟨0, rfl⟩, ⟨0, rfl⟩⟩ : TReq)) hs m ty89 s3 ?_
  clear m w24; intro w26 m
  refine wpList_nil (n_block (n_then ?_))
  refine c_last ?_
  refine s_ hs m (ok_add (r := 1) rfl rfl rfl) (b_ m (ok_move rfl) (bn_ ?_))
  clear hs a; intro a hs
  refine rounds_s ?_
  refine c_reg ?_
  refine s_ hs m (ok_bin (v := .bool true) rfl rfl rfl) (bn_ ?_)
  clear hs a; intro a hs
  refine c_seq ?_
  refine c_true hs rfl rfl ?_
  refine wp_skip ?_
  refine n_then ?_
  refine c_seq ?_
  refine wp_block ?_
  refine c_reg ?_
  refine elO (c := id) (e := ([.string (ByteArray.mk ⟨[115, 110, 97, 112, 115, 104, 111, 116]⟩), .func (.func 72) ⟨[]⟩ ⟨[.pointer (some (padd x1 0))]⟩] : List Value)) hs m (x := (.tmp 12)) (ix := (.tmp 14)) rfl rfl sl133 ty138 r5 (by omega) rfl fun p28 hp29 ok30 => ?_
  refine s_ hs m (ok30 _ _ _ _ _) (b_ m (ok_load_ag (vs := [.string (ByteArray.mk ⟨[115, 110, 97, 112, 115, 104, 111, 116]⟩), .func (.func 72) ⟨[]⟩ ⟨[.pointer (some (padd x1 0))]⟩]) rfl ty138 (el_at hp29 r5 (get_map _ (rfl : (rulesOf pag x1)[1]? = some ([.string (ByteArray.mk ⟨[115, 110, 97, 112, 115, 104, 111, 116]⟩), .func (.func 72) ⟨[]⟩ ⟨[.pointer (some (padd x1 0))]⟩] : List Value)))) rfl rfl) ?_)
  clear hs a; intro a hs
  refine r_alloc hs m ze138 rfl ?_
  clear m hs a w26; intro p31 w32 m a hs
  refine st_ ([.string (ByteArray.mk ⟨[115, 110, 97, 112, 115, 104, 111, 116]⟩), .func (.func 72) ⟨[]⟩ ⟨[.pointer (some (padd x1 0))]⟩]) ([.string (ByteArray.mk ⟨[115, 110, 97, 112, 115, 104, 111, 116]⟩), .func (.func 72) ⟨[]⟩ ⟨[.pointer (some (padd x1 0))]⟩]) hs m ty138 s0 ?_
  clear m w32; intro w33 m
  refine wpList_nil (n_then ?_)
  refine c_seq ?_
  refine c_reg ?_
  refine s_ hs m (ok_move rfl) (b_ m (ok_nilCheck rfl) (b_ m (ok_fieldAddr (r := 10) rfl fd135_2 ty89 rfl) (b_ m (ok_fieldAddr (r := 10) rfl fd89_0 ty3 rfl) (b_ m (ok_load_sc rfl ty3 (bx_at r4) rfl) (b_ m (ok_bin (v := .bool true) rfl rfl rfl) (bn_ ?_))))))
  clear hs a; intro a hs
  refine c_true hs rfl rfl ?_
  refine wp_exit ?_
  refine ex_then (ex_miss rfl (ex_then (ex_then (ex_hit (?_)))))
  refine n_then ?_
  refine c_reg ?_
  refine s_ hs m (ok_move rfl) (b_ m (ok_nilCheck rfl) (b_ m (ok_fieldAddr (r := 10) rfl fd135_2 ty89 rfl) (b_ m (ok_load_ag (vs := cReq (⟨⟨1, rfl⟩, zCmd, zOp, ⟨0, rfl⟩, ⟨0, rfl⟩⟩ : TReq)) rfl ty89 (bx_at r4) (by kernel_rfl) (by kernel_rfl)) ?_)))
  clear hs a; intro a hs
  refine st_ (cReq (⟨⟨1, rfl⟩, zCmd, zOp, ⟨0, rfl⟩, ⟨0, rfl⟩⟩ : TReq)) (cReq (⟨⟨1, rfl⟩, zCmd, zOp, ⟨0, rfl⟩, ⟨0, rfl⟩⟩ : TReq)) hs m ty89 s3 ?_
  clear m w33; intro w35 m
  refine wpList_nil (n_then ?_)
  refine wp_ret ?_
  refine leave hs (vs := [.agg ⟨cReq (⟨⟨1, rfl⟩, zCmd, zOp, ⟨0, rfl⟩, ⟨0, rfl⟩⟩ : TReq)⟩]) rfl ⟨resv_cell (cs := cReq (⟨⟨1, rfl⟩, zCmd, zOp, ⟨0, rfl⟩, ⟨0, rfl⟩⟩ : TReq)) m rfl ty89 r3 rfl, trivial⟩ ?_
  replace m := (m.sub (.c r4 (.c r4 (.c r4 (.c r4 (.c r4 (.c r4 (.c r4 (.c r4 (.c r0 (.c r0 (.c r0 (.c r0 .n))))))))))))).closeAg (p := pag) (A := ({ ag with opn := (⟨⟨1, rfl⟩, zCmd, zOp, ⟨0, rfl⟩, ⟨0, rfl⟩⟩ : TReq) } : AgM))
  have q36 : ({ ag with opn := (⟨⟨1, rfl⟩, zCmd, zOp, ⟨0, rfl⟩, ⟨0, rfl⟩⟩ : TReq) } : AgM) = nextA ag now := by clear hs m; exact nx (nq1 (by omega) (by assumption))
  rw [q36] at m
  refine ⟨_, rfl, ?_, m.sub (.c r0 .n)⟩
  have q37 : ((⟨⟨1, rfl⟩, zCmd, zOp, ⟨0, rfl⟩, ⟨0, rfl⟩⟩ : TReq) : TReq) = nextQ ag now := by clear hs m; exact (nq1 (by omega) (by assumption))
  (rw [q37]; rfl)
 have h25p := h25; simp only [bp_] at h25p
 refine wp_skip ?_
 refine n_block (n_then ?_)
 refine c_last ?_
 refine s_ hs m (ok_add (r := 1) rfl rfl rfl) (b_ m (ok_move rfl) (bn_ ?_))
 clear hs a; intro a hs
 refine rounds_s ?_
 refine c_reg ?_
 refine s_ hs m (ok_bin (v := .bool true) rfl rfl rfl) (bn_ ?_)
 clear hs a; intro a hs
 refine c_seq ?_
 refine c_true hs rfl rfl ?_
 refine wp_skip ?_
 refine n_then ?_
 refine c_seq ?_
 refine wp_block ?_
 refine c_reg ?_
 refine elO (c := id) (e := ([.string (ByteArray.mk ⟨[115, 110, 97, 112, 115, 104, 111, 116]⟩), .func (.func 72) ⟨[]⟩ ⟨[.pointer (some (padd x1 0))]⟩] : List Value)) hs m (x := (.tmp 12)) (ix := (.tmp 14)) rfl rfl sl133 ty138 r5 (by omega) rfl fun p39 hp40 ok41 => ?_
 refine s_ hs m (ok41 _ _ _ _ _) (b_ m (ok_load_ag (vs := [.string (ByteArray.mk ⟨[115, 110, 97, 112, 115, 104, 111, 116]⟩), .func (.func 72) ⟨[]⟩ ⟨[.pointer (some (padd x1 0))]⟩]) rfl ty138 (el_at hp40 r5 (get_map _ (rfl : (rulesOf pag x1)[1]? = some ([.string (ByteArray.mk ⟨[115, 110, 97, 112, 115, 104, 111, 116]⟩), .func (.func 72) ⟨[]⟩ ⟨[.pointer (some (padd x1 0))]⟩] : List Value)))) rfl rfl) ?_)
 clear hs a; intro a hs
 refine r_alloc hs m ze138 rfl ?_
 clear m hs a w24; intro p42 w43 m a hs
 refine st_ ([.string (ByteArray.mk ⟨[115, 110, 97, 112, 115, 104, 111, 116]⟩), .func (.func 72) ⟨[]⟩ ⟨[.pointer (some (padd x1 0))]⟩]) ([.string (ByteArray.mk ⟨[115, 110, 97, 112, 115, 104, 111, 116]⟩), .func (.func 72) ⟨[]⟩ ⟨[.pointer (some (padd x1 0))]⟩]) hs m ty138 s0 ?_
 clear m w43; intro w44 m
 refine wpList_nil (n_then ?_)
 refine c_seq ?_
 refine c_reg ?_
 refine s_ hs m (ok_move rfl) (b_ m (ok_nilCheck rfl) (b_ m (ok_fieldAddr (r := 10) rfl fd135_2 ty89 rfl) (b_ m (ok_fieldAddr (r := 10) rfl fd89_0 ty3 rfl) (b_ m (ok_load_sc rfl ty3 (bx_at r4) rfl) (b_ m (ok_bin rfl rfl rfl) (bn_ ?_))))))
 clear hs a; intro a hs
 refine c_false hs rfl h17 ?_
 refine wp_skip ?_
 refine n_then ?_
 refine c_reg ?_
 refine s_ hs m (ok_fieldAddr (r := 1) rfl fd138_1 ty136 rfl) (b_ m (ok_load_sc rfl ty136 (bx_at r0) rfl) (b_ m (ok_move rfl) ?_))
 clear hs a; intro a hs
 refine r_callP hs m rfl rfl ca72 rfl (new2_c now x1 pag ag _ (bx_at r5 _ m) ⟨x1, x2, x3, x4, x5, x6, x7, (bx_at r4 _ m), (bx_at r5 _ m), (m.rdv r6), (m.rdv r7), (m.rdv r8), (m.rdv r9), (m.rdv r10), (m.rdv r11)⟩ ) rfl ?_
 clear m hs a w44; intro w46 m a hs
 refine s_ hs m (ok_move rfl) (b_ m (ok_extract rfl rfl) (b_ m (ok_extract rfl rfl) ?_))
 clear hs a; intro a hs
 refine r_alloc hs m ze89 rfl ?_
 clear m hs a w46; intro p47 w48 m a hs
 refine st_ (cReq (⟨⟨2, rfl⟩, zCmd, zOp, ⟨0, rfl⟩, ⟨0, rfl⟩⟩ : TReq)) (cReq (⟨⟨2, rfl⟩, zCmd, zOp, ⟨0, rfl⟩, ⟨0, rfl⟩⟩ : TReq)) hs m ty89 s0 ?_
 clear m w48; intro w49 m
 refine s_ hs m (ok_assign rfl) (bn_ (bc_ (b_ m (ok_move rfl) (bn_ ?_))))
 clear hs a; intro a hs
 refine c_cond hs rfl (fun h50 => ?_) (fun h50 => ?_)
 ·refine c_last ?_
  refine s_ hs m (ok_move rfl) (b_ m (ok_load_ag (vs := cReq (⟨⟨2, rfl⟩, zCmd, zOp, ⟨0, rfl⟩, ⟨0, rfl⟩⟩ : TReq)) rfl ty89 (bx_at r0) (by kernel_rfl) (by kernel_rfl)) (b_ m (ok_nilCheck rfl) (b_ m (ok_fieldAddr (r := 10) rfl fd135_2 ty89 rfl) ?_)))
  clear hs a; intro a hs
  refine st_ (cAg ag.self x2.v (⟨⟨2, rfl⟩, zCmd, zOp, ⟨0, rfl⟩, ⟨0, rfl⟩⟩ : TReq) ag.read x3.v x4.v x5.v x6.v ag.cursor ag.stale x7.v ag.degraded ag.granted ag.waiting ag.wish ag.renewed ag.quiet) (cReq (⟨⟨2, rfl⟩, zCmd, zOp, ⟨0, rfl⟩, ⟨0, rfl⟩⟩ : TReq)) hs m ty89 s5 ?_
  clear m w49; intro w51 m
  refine wpList_nil (n_block (n_then ?_))
  refine c_last ?_
  refine s_ hs m (ok_add (r := 2) rfl rfl rfl) (b_ m (ok_move rfl) (bn_ ?_))
  clear hs a; intro a hs
  refine rounds_s ?_
  refine c_reg ?_
  refine s_ hs m (ok_bin (v := .bool true) rfl rfl rfl) (bn_ ?_)
  clear hs a; intro a hs
  refine c_seq ?_
  refine c_true hs rfl rfl ?_
  refine wp_skip ?_
  refine n_then ?_
  refine c_seq ?_
  refine wp_block ?_
  refine c_reg ?_
  refine elO (c := id) (e := ([.string (ByteArray.mk ⟨[107, 101, 114, 110, 101, 108]⟩), .func (.func 73) ⟨[.pointer (some (padd pag 0))]⟩ ⟨[]⟩] : List Value)) hs m (x := (.tmp 12)) (ix := (.tmp 14)) rfl rfl sl133 ty138 r7 (by omega) rfl fun p53 hp54 ok55 => ?_
  refine s_ hs m (ok55 _ _ _ _ _) (b_ m (ok_load_ag (vs := [.string (ByteArray.mk ⟨[107, 101, 114, 110, 101, 108]⟩), .func (.func 73) ⟨[.pointer (some (padd pag 0))]⟩ ⟨[]⟩]) rfl ty138 (el_at hp54 r7 (get_map _ (rfl : (rulesOf pag x1)[2]? = some ([.string (ByteArray.mk ⟨[107, 101, 114, 110, 101, 108]⟩), .func (.func 73) ⟨[.pointer (some (padd pag 0))]⟩ ⟨[]⟩] : List Value)))) rfl rfl) ?_)
  clear hs a; intro a hs
  refine r_alloc hs m ze138 rfl ?_
  clear m hs a w51; intro p56 w57 m a hs
  refine st_ ([.string (ByteArray.mk ⟨[107, 101, 114, 110, 101, 108]⟩), .func (.func 73) ⟨[.pointer (some (padd pag 0))]⟩ ⟨[]⟩]) ([.string (ByteArray.mk ⟨[107, 101, 114, 110, 101, 108]⟩), .func (.func 73) ⟨[.pointer (some (padd pag 0))]⟩ ⟨[]⟩]) hs m ty138 s0 ?_
  clear m w57; intro w58 m
  refine wpList_nil (n_then ?_)
  refine c_seq ?_
  refine c_reg ?_
  refine s_ hs m (ok_move rfl) (b_ m (ok_nilCheck rfl) (b_ m (ok_fieldAddr (r := 10) rfl fd135_2 ty89 rfl) (b_ m (ok_fieldAddr (r := 10) rfl fd89_0 ty3 rfl) (b_ m (ok_load_sc rfl ty3 (bx_at r6) rfl) (b_ m (ok_bin (v := .bool true) rfl rfl rfl) (bn_ ?_))))))
  clear hs a; intro a hs
  refine c_true hs rfl rfl ?_
  refine wp_exit ?_
  refine ex_then (ex_miss rfl (ex_then (ex_then (ex_hit (?_)))))
  refine n_then ?_
  refine c_reg ?_
  refine s_ hs m (ok_move rfl) (b_ m (ok_nilCheck rfl) (b_ m (ok_fieldAddr (r := 10) rfl fd135_2 ty89 rfl) (b_ m (ok_load_ag (vs := cReq (⟨⟨2, rfl⟩, zCmd, zOp, ⟨0, rfl⟩, ⟨0, rfl⟩⟩ : TReq)) rfl ty89 (bx_at r6) (by kernel_rfl) (by kernel_rfl)) ?_)))
  clear hs a; intro a hs
  refine st_ (cReq (⟨⟨2, rfl⟩, zCmd, zOp, ⟨0, rfl⟩, ⟨0, rfl⟩⟩ : TReq)) (cReq (⟨⟨2, rfl⟩, zCmd, zOp, ⟨0, rfl⟩, ⟨0, rfl⟩⟩ : TReq)) hs m ty89 s5 ?_
  clear m w58; intro w60 m
  refine wpList_nil (n_then ?_)
  refine wp_ret ?_
  refine leave hs (vs := [.agg ⟨cReq (⟨⟨2, rfl⟩, zCmd, zOp, ⟨0, rfl⟩, ⟨0, rfl⟩⟩ : TReq)⟩]) rfl ⟨resv_cell (cs := cReq (⟨⟨2, rfl⟩, zCmd, zOp, ⟨0, rfl⟩, ⟨0, rfl⟩⟩ : TReq)) m rfl ty89 r5 rfl, trivial⟩ ?_
  replace m := (m.sub (.c r6 (.c r6 (.c r6 (.c r6 (.c r6 (.c r6 (.c r6 (.c r6 (.c r0 (.c r0 (.c r0 (.c r0 (.c r0 (.c r0 .n))))))))))))))).closeAg (p := pag) (A := ({ ag with opn := (⟨⟨2, rfl⟩, zCmd, zOp, ⟨0, rfl⟩, ⟨0, rfl⟩⟩ : TReq) } : AgM))
  have q61 : ({ ag with opn := (⟨⟨2, rfl⟩, zCmd, zOp, ⟨0, rfl⟩, ⟨0, rfl⟩⟩ : TReq) } : AgM) = nextA ag now := by clear hs m; exact nx (nq2 (by omega) (by assumption) (by assumption))
  rw [q61] at m
  refine ⟨_, rfl, ?_, m.sub (.c r0 .n)⟩
  have q62 : ((⟨⟨2, rfl⟩, zCmd, zOp, ⟨0, rfl⟩, ⟨0, rfl⟩⟩ : TReq) : TReq) = nextQ ag now := by clear hs m; exact (nq2 (by omega) (by assumption) (by assumption))
  (rw [q62]; rfl)
 refine wp_skip ?_
 refine n_block (n_then ?_)
 refine c_last ?_
 refine s_ hs m (ok_add (r := 2) rfl rfl rfl) (b_ m (ok_move rfl) (bn_ ?_))
 clear hs a; intro a hs
 refine rounds_s ?_
 refine c_reg ?_
 refine s_ hs m (ok_bin (v := .bool true) rfl rfl rfl) (bn_ ?_)
 clear hs a; intro a hs
 refine c_seq ?_
 refine c_true hs rfl rfl ?_
 refine wp_skip ?_
 refine n_then ?_
 refine c_seq ?_
 refine wp_block ?_
 refine c_reg ?_
 refine elO (c := id) (e := ([.string (ByteArray.mk ⟨[107, 101, 114, 110, 101, 108]⟩), .func (.func 73) ⟨[.pointer (some (padd pag 0))]⟩ ⟨[]⟩] : List Value)) hs m (x := (.tmp 12)) (ix := (.tmp 14)) rfl rfl sl133 ty138 r7 (by omega) rfl fun p64 hp65 ok66 => ?_
 refine s_ hs m (ok66 _ _ _ _ _) (b_ m (ok_load_ag (vs := [.string (ByteArray.mk ⟨[107, 101, 114, 110, 101, 108]⟩), .func (.func 73) ⟨[.pointer (some (padd pag 0))]⟩ ⟨[]⟩]) rfl ty138 (el_at hp65 r7 (get_map _ (rfl : (rulesOf pag x1)[2]? = some ([.string (ByteArray.mk ⟨[107, 101, 114, 110, 101, 108]⟩), .func (.func 73) ⟨[.pointer (some (padd pag 0))]⟩ ⟨[]⟩] : List Value)))) rfl rfl) ?_)
 clear hs a; intro a hs
 refine r_alloc hs m ze138 rfl ?_
 clear m hs a w49; intro p67 w68 m a hs
 refine st_ ([.string (ByteArray.mk ⟨[107, 101, 114, 110, 101, 108]⟩), .func (.func 73) ⟨[.pointer (some (padd pag 0))]⟩ ⟨[]⟩]) ([.string (ByteArray.mk ⟨[107, 101, 114, 110, 101, 108]⟩), .func (.func 73) ⟨[.pointer (some (padd pag 0))]⟩ ⟨[]⟩]) hs m ty138 s0 ?_
 clear m w68; intro w69 m
 refine wpList_nil (n_then ?_)
 refine c_seq ?_
 refine c_reg ?_
 refine s_ hs m (ok_move rfl) (b_ m (ok_nilCheck rfl) (b_ m (ok_fieldAddr (r := 10) rfl fd135_2 ty89 rfl) (b_ m (ok_fieldAddr (r := 10) rfl fd89_0 ty3 rfl) (b_ m (ok_load_sc rfl ty3 (bx_at r6) rfl) (b_ m (ok_bin rfl rfl rfl) (bn_ ?_))))))
 clear hs a; intro a hs
 refine c_false hs rfl h17 ?_
 refine wp_skip ?_
 refine n_then ?_
 refine c_reg ?_
 refine s_ hs m (ok_fieldAddr (r := 1) rfl fd138_1 ty136 rfl) (b_ m (ok_load_sc rfl ty136 (bx_at r0) rfl) (b_ m (ok_move rfl) ?_))
 clear hs a; intro a hs
 refine r_callP hs m rfl rfl ca73 rfl (change_c pag ag now _ ⟨x1, x2, x3, x4, x5, x6, x7, (bx_at r6 _ m), (bx_at r7 _ m), (m.rdv r8), (m.rdv r9), (m.rdv r10), (m.rdv r11), (m.rdv r12), (m.rdv r13)⟩ (by omega) (by omega) (by omega) (by omega)) rfl ?_
 clear m hs a w69; intro w71 m a hs
 refine s_ hs m (ok_move rfl) (b_ m (ok_extract rfl rfl) (b_ m (ok_extract rfl rfl) ?_))
 clear hs a; intro a hs
 refine r_alloc hs m ze89 rfl ?_
 clear m hs a w71; intro p72 w73 m a hs
 refine st_ (cReq (chgQ ag)) (cReq (chgQ ag)) hs m ty89 s0 ?_
 clear m w73; intro w74 m
 refine s_ hs m (ok_assign rfl) (bn_ (bc_ (b_ m (ok_move rfl) (bn_ ?_))))
 clear hs a; intro a hs
 refine c_cond hs rfl (fun h75 => ?_) (fun h75 => ?_)
 ·refine c_last ?_
  refine s_ hs m (ok_move rfl) (b_ m (ok_load_ag (vs := cReq (chgQ ag)) rfl ty89 (bx_at r0) (by kernel_rfl) (by kernel_rfl)) (b_ m (ok_nilCheck rfl) (b_ m (ok_fieldAddr (r := 10) rfl fd135_2 ty89 rfl) ?_)))
  clear hs a; intro a hs
  refine st_ (cAg ag.self x2.v (chgQ ag) ag.read x3.v x4.v x5.v x6.v ag.cursor ag.stale x7.v ag.degraded ag.granted ag.waiting ag.wish ag.renewed ag.quiet) (cReq (chgQ ag)) hs m ty89 s7 ?_
  clear m w74; intro w76 m
  refine wpList_nil (n_block (n_then ?_))
  refine c_last ?_
  refine s_ hs m (ok_add (r := 3) rfl rfl rfl) (b_ m (ok_move rfl) (bn_ ?_))
  clear hs a; intro a hs
  refine rounds_s ?_
  refine c_reg ?_
  refine s_ hs m (ok_bin (v := .bool true) rfl rfl rfl) (bn_ ?_)
  clear hs a; intro a hs
  refine c_seq ?_
  refine c_true hs rfl rfl ?_
  refine wp_skip ?_
  refine n_then ?_
  refine c_seq ?_
  refine wp_block ?_
  refine c_reg ?_
  refine elO (c := id) (e := ([.string (ByteArray.mk ⟨[97, 99, 113, 117, 105, 114, 101]⟩), .func (.func 74) ⟨[.pointer (some (padd pag 0))]⟩ ⟨[]⟩] : List Value)) hs m (x := (.tmp 12)) (ix := (.tmp 14)) rfl rfl sl133 ty138 r9 (by omega) rfl fun p78 hp79 ok80 => ?_
  refine s_ hs m (ok80 _ _ _ _ _) (b_ m (ok_load_ag (vs := [.string (ByteArray.mk ⟨[97, 99, 113, 117, 105, 114, 101]⟩), .func (.func 74) ⟨[.pointer (some (padd pag 0))]⟩ ⟨[]⟩]) rfl ty138 (el_at hp79 r9 (get_map _ (rfl : (rulesOf pag x1)[3]? = some ([.string (ByteArray.mk ⟨[97, 99, 113, 117, 105, 114, 101]⟩), .func (.func 74) ⟨[.pointer (some (padd pag 0))]⟩ ⟨[]⟩] : List Value)))) rfl rfl) ?_)
  clear hs a; intro a hs
  refine r_alloc hs m ze138 rfl ?_
  clear m hs a w76; intro p81 w82 m a hs
  refine st_ ([.string (ByteArray.mk ⟨[97, 99, 113, 117, 105, 114, 101]⟩), .func (.func 74) ⟨[.pointer (some (padd pag 0))]⟩ ⟨[]⟩]) ([.string (ByteArray.mk ⟨[97, 99, 113, 117, 105, 114, 101]⟩), .func (.func 74) ⟨[.pointer (some (padd pag 0))]⟩ ⟨[]⟩]) hs m ty138 s0 ?_
  clear m w82; intro w83 m
  refine wpList_nil (n_then ?_)
  refine c_seq ?_
  refine c_reg ?_
  refine s_ hs m (ok_move rfl) (b_ m (ok_nilCheck rfl) (b_ m (ok_fieldAddr (r := 10) rfl fd135_2 ty89 rfl) (b_ m (ok_fieldAddr (r := 10) rfl fd89_0 ty3 rfl) (b_ m (ok_load_sc rfl ty3 (bx_at r8) rfl) (b_ m (ok_bin rfl rfl rfl) (bn_ ?_))))))
  clear hs a; intro a hs
  refine c_true hs rfl (by simp [chg_kind (by assumption)]) ?_
  refine wp_exit ?_
  refine ex_then (ex_miss rfl (ex_then (ex_then (ex_hit (?_)))))
  refine n_then ?_
  refine c_reg ?_
  refine s_ hs m (ok_move rfl) (b_ m (ok_nilCheck rfl) (b_ m (ok_fieldAddr (r := 10) rfl fd135_2 ty89 rfl) (b_ m (ok_load_ag (vs := cReq (chgQ ag)) rfl ty89 (bx_at r8) (by kernel_rfl) (by kernel_rfl)) ?_)))
  clear hs a; intro a hs
  refine st_ (cReq (chgQ ag)) (cReq (chgQ ag)) hs m ty89 s7 ?_
  clear m w83; intro w85 m
  refine wpList_nil (n_then ?_)
  refine wp_ret ?_
  refine leave hs (vs := [.agg ⟨cReq (chgQ ag)⟩]) rfl ⟨resv_cell (cs := cReq (chgQ ag)) m rfl ty89 r7 rfl, trivial⟩ ?_
  replace m := (m.sub (.c r8 (.c r8 (.c r8 (.c r8 (.c r8 (.c r8 (.c r8 (.c r8 (.c r0 (.c r0 (.c r0 (.c r0 (.c r0 (.c r0 (.c r0 (.c r0 .n))))))))))))))))).closeAg (p := pag) (A := ({ ag with opn := chgQ ag } : AgM))
  have q86 : ({ ag with opn := chgQ ag } : AgM) = nextA ag now := by clear hs m; exact nx (nq3 (by omega) (by assumption) (by assumption) (by assumption))
  rw [q86] at m
  refine ⟨_, rfl, ?_, m.sub (.c r0 .n)⟩
  have q87 : (chgQ ag : TReq) = nextQ ag now := by clear hs m; exact (nq3 (by omega) (by assumption) (by assumption) (by assumption))
  (rw [q87]; rfl)
 refine wp_skip ?_
 refine n_block (n_then ?_)
 refine c_last ?_
 refine s_ hs m (ok_add (r := 3) rfl rfl rfl) (b_ m (ok_move rfl) (bn_ ?_))
 clear hs a; intro a hs
 refine rounds_s ?_
 refine c_reg ?_
 refine s_ hs m (ok_bin (v := .bool true) rfl rfl rfl) (bn_ ?_)
 clear hs a; intro a hs
 refine c_seq ?_
 refine c_true hs rfl rfl ?_
 refine wp_skip ?_
 refine n_then ?_
 refine c_seq ?_
 refine wp_block ?_
 refine c_reg ?_
 refine elO (c := id) (e := ([.string (ByteArray.mk ⟨[97, 99, 113, 117, 105, 114, 101]⟩), .func (.func 74) ⟨[.pointer (some (padd pag 0))]⟩ ⟨[]⟩] : List Value)) hs m (x := (.tmp 12)) (ix := (.tmp 14)) rfl rfl sl133 ty138 r9 (by omega) rfl fun p89 hp90 ok91 => ?_
 refine s_ hs m (ok91 _ _ _ _ _) (b_ m (ok_load_ag (vs := [.string (ByteArray.mk ⟨[97, 99, 113, 117, 105, 114, 101]⟩), .func (.func 74) ⟨[.pointer (some (padd pag 0))]⟩ ⟨[]⟩]) rfl ty138 (el_at hp90 r9 (get_map _ (rfl : (rulesOf pag x1)[3]? = some ([.string (ByteArray.mk ⟨[97, 99, 113, 117, 105, 114, 101]⟩), .func (.func 74) ⟨[.pointer (some (padd pag 0))]⟩ ⟨[]⟩] : List Value)))) rfl rfl) ?_)
 clear hs a; intro a hs
 refine r_alloc hs m ze138 rfl ?_
 clear m hs a w74; intro p92 w93 m a hs
 refine st_ ([.string (ByteArray.mk ⟨[97, 99, 113, 117, 105, 114, 101]⟩), .func (.func 74) ⟨[.pointer (some (padd pag 0))]⟩ ⟨[]⟩]) ([.string (ByteArray.mk ⟨[97, 99, 113, 117, 105, 114, 101]⟩), .func (.func 74) ⟨[.pointer (some (padd pag 0))]⟩ ⟨[]⟩]) hs m ty138 s0 ?_
 clear m w93; intro w94 m
 refine wpList_nil (n_then ?_)
 refine c_seq ?_
 refine c_reg ?_
 refine s_ hs m (ok_move rfl) (b_ m (ok_nilCheck rfl) (b_ m (ok_fieldAddr (r := 10) rfl fd135_2 ty89 rfl) (b_ m (ok_fieldAddr (r := 10) rfl fd89_0 ty3 rfl) (b_ m (ok_load_sc rfl ty3 (bx_at r8) rfl) (b_ m (ok_bin rfl rfl rfl) (bn_ ?_))))))
 clear hs a; intro a hs
 refine c_false hs rfl h17 ?_
 refine wp_skip ?_
 refine n_then ?_
 refine c_reg ?_
 refine s_ hs m (ok_fieldAddr (r := 1) rfl fd138_1 ty136 rfl) (b_ m (ok_load_sc rfl ty136 (bx_at r0) rfl) (b_ m (ok_move rfl) ?_))
 clear hs a; intro a hs
 refine r_callP hs m rfl rfl ca74 rfl (acquire_c pag ag now _ ⟨x1, x2, x3, x4, x5, x6, x7, (bx_at r8 _ m), (bx_at r9 _ m), (m.rdv r10), (m.rdv r11), (m.rdv r12), (m.rdv r13), (m.rdv r14), (m.rdv r15)⟩ ) rfl ?_
 clear m hs a w94; intro w96 m a hs
 refine s_ hs m (ok_move rfl) (b_ m (ok_extract rfl rfl) (b_ m (ok_extract rfl rfl) ?_))
 clear hs a; intro a hs
 refine r_alloc hs m ze89 rfl ?_
 clear m hs a w96; intro p97 w98 m a hs
 refine st_ (cReq (acqQ ag)) (cReq (acqQ ag)) hs m ty89 s0 ?_
 clear m w98; intro w99 m
 refine s_ hs m (ok_assign rfl) (bn_ (bc_ (b_ m (ok_move rfl) (bn_ ?_))))
 clear hs a; intro a hs
 refine c_cond hs rfl (fun h100 => ?_) (fun h100 => ?_)
 ·refine c_last ?_
  refine s_ hs m (ok_move rfl) (b_ m (ok_load_ag (vs := cReq (acqQ ag)) rfl ty89 (bx_at r0) (by kernel_rfl) (by kernel_rfl)) (b_ m (ok_nilCheck rfl) (b_ m (ok_fieldAddr (r := 10) rfl fd135_2 ty89 rfl) ?_)))
  clear hs a; intro a hs
  refine st_ (cAg ag.self x2.v (acqQ ag) ag.read x3.v x4.v x5.v x6.v ag.cursor ag.stale x7.v ag.degraded ag.granted ag.waiting ag.wish ag.renewed ag.quiet) (cReq (acqQ ag)) hs m ty89 s9 ?_
  clear m w99; intro w101 m
  refine wpList_nil (n_block (n_then ?_))
  refine c_last ?_
  refine s_ hs m (ok_add (r := 4) rfl rfl rfl) (b_ m (ok_move rfl) (bn_ ?_))
  clear hs a; intro a hs
  refine rounds_s ?_
  refine c_reg ?_
  refine s_ hs m (ok_bin (v := .bool true) rfl rfl rfl) (bn_ ?_)
  clear hs a; intro a hs
  refine c_seq ?_
  refine c_true hs rfl rfl ?_
  refine wp_skip ?_
  refine n_then ?_
  refine c_seq ?_
  refine wp_block ?_
  refine c_reg ?_
  refine elO (c := id) (e := ([.string (ByteArray.mk ⟨[114, 101, 110, 101, 119]⟩), .func (.func 75) ⟨[.pointer (some (padd pag 0))]⟩ ⟨[]⟩] : List Value)) hs m (x := (.tmp 12)) (ix := (.tmp 14)) rfl rfl sl133 ty138 r11 (by omega) rfl fun p103 hp104 ok105 => ?_
  refine s_ hs m (ok105 _ _ _ _ _) (b_ m (ok_load_ag (vs := [.string (ByteArray.mk ⟨[114, 101, 110, 101, 119]⟩), .func (.func 75) ⟨[.pointer (some (padd pag 0))]⟩ ⟨[]⟩]) rfl ty138 (el_at hp104 r11 (get_map _ (rfl : (rulesOf pag x1)[4]? = some ([.string (ByteArray.mk ⟨[114, 101, 110, 101, 119]⟩), .func (.func 75) ⟨[.pointer (some (padd pag 0))]⟩ ⟨[]⟩] : List Value)))) rfl rfl) ?_)
  clear hs a; intro a hs
  refine r_alloc hs m ze138 rfl ?_
  clear m hs a w101; intro p106 w107 m a hs
  refine st_ ([.string (ByteArray.mk ⟨[114, 101, 110, 101, 119]⟩), .func (.func 75) ⟨[.pointer (some (padd pag 0))]⟩ ⟨[]⟩]) ([.string (ByteArray.mk ⟨[114, 101, 110, 101, 119]⟩), .func (.func 75) ⟨[.pointer (some (padd pag 0))]⟩ ⟨[]⟩]) hs m ty138 s0 ?_
  clear m w107; intro w108 m
  refine wpList_nil (n_then ?_)
  refine c_seq ?_
  refine c_reg ?_
  refine s_ hs m (ok_move rfl) (b_ m (ok_nilCheck rfl) (b_ m (ok_fieldAddr (r := 10) rfl fd135_2 ty89 rfl) (b_ m (ok_fieldAddr (r := 10) rfl fd89_0 ty3 rfl) (b_ m (ok_load_sc rfl ty3 (bx_at r10) rfl) (b_ m (ok_bin rfl rfl rfl) (bn_ ?_))))))
  clear hs a; intro a hs
  refine c_true hs rfl (by simp [acq_kind (by assumption)]) ?_
  refine wp_exit ?_
  refine ex_then (ex_miss rfl (ex_then (ex_then (ex_hit (?_)))))
  refine n_then ?_
  refine c_reg ?_
  refine s_ hs m (ok_move rfl) (b_ m (ok_nilCheck rfl) (b_ m (ok_fieldAddr (r := 10) rfl fd135_2 ty89 rfl) (b_ m (ok_load_ag (vs := cReq (acqQ ag)) rfl ty89 (bx_at r10) (by kernel_rfl) (by kernel_rfl)) ?_)))
  clear hs a; intro a hs
  refine st_ (cReq (acqQ ag)) (cReq (acqQ ag)) hs m ty89 s9 ?_
  clear m w108; intro w110 m
  refine wpList_nil (n_then ?_)
  refine wp_ret ?_
  refine leave hs (vs := [.agg ⟨cReq (acqQ ag)⟩]) rfl ⟨resv_cell (cs := cReq (acqQ ag)) m rfl ty89 r9 rfl, trivial⟩ ?_
  replace m := (m.sub (.c r10 (.c r10 (.c r10 (.c r10 (.c r10 (.c r10 (.c r10 (.c r10 (.c r0 (.c r0 (.c r0 (.c r0 (.c r0 (.c r0 (.c r0 (.c r0 (.c r0 (.c r0 .n))))))))))))))))))).closeAg (p := pag) (A := ({ ag with opn := acqQ ag } : AgM))
  have q111 : ({ ag with opn := acqQ ag } : AgM) = nextA ag now := by clear hs m; exact nx (nq4 (by omega) (by assumption) (by assumption) (by assumption) (by assumption))
  rw [q111] at m
  refine ⟨_, rfl, ?_, m.sub (.c r0 .n)⟩
  have q112 : (acqQ ag : TReq) = nextQ ag now := by clear hs m; exact (nq4 (by omega) (by assumption) (by assumption) (by assumption) (by assumption))
  (rw [q112]; rfl)
 refine wp_skip ?_
 refine n_block (n_then ?_)
 refine c_last ?_
 refine s_ hs m (ok_add (r := 4) rfl rfl rfl) (b_ m (ok_move rfl) (bn_ ?_))
 clear hs a; intro a hs
 refine rounds_s ?_
 refine c_reg ?_
 refine s_ hs m (ok_bin (v := .bool true) rfl rfl rfl) (bn_ ?_)
 clear hs a; intro a hs
 refine c_seq ?_
 refine c_true hs rfl rfl ?_
 refine wp_skip ?_
 refine n_then ?_
 refine c_seq ?_
 refine wp_block ?_
 refine c_reg ?_
 refine elO (c := id) (e := ([.string (ByteArray.mk ⟨[114, 101, 110, 101, 119]⟩), .func (.func 75) ⟨[.pointer (some (padd pag 0))]⟩ ⟨[]⟩] : List Value)) hs m (x := (.tmp 12)) (ix := (.tmp 14)) rfl rfl sl133 ty138 r11 (by omega) rfl fun p114 hp115 ok116 => ?_
 refine s_ hs m (ok116 _ _ _ _ _) (b_ m (ok_load_ag (vs := [.string (ByteArray.mk ⟨[114, 101, 110, 101, 119]⟩), .func (.func 75) ⟨[.pointer (some (padd pag 0))]⟩ ⟨[]⟩]) rfl ty138 (el_at hp115 r11 (get_map _ (rfl : (rulesOf pag x1)[4]? = some ([.string (ByteArray.mk ⟨[114, 101, 110, 101, 119]⟩), .func (.func 75) ⟨[.pointer (some (padd pag 0))]⟩ ⟨[]⟩] : List Value)))) rfl rfl) ?_)
 clear hs a; intro a hs
 refine r_alloc hs m ze138 rfl ?_
 clear m hs a w99; intro p117 w118 m a hs
 refine st_ ([.string (ByteArray.mk ⟨[114, 101, 110, 101, 119]⟩), .func (.func 75) ⟨[.pointer (some (padd pag 0))]⟩ ⟨[]⟩]) ([.string (ByteArray.mk ⟨[114, 101, 110, 101, 119]⟩), .func (.func 75) ⟨[.pointer (some (padd pag 0))]⟩ ⟨[]⟩]) hs m ty138 s0 ?_
 clear m w118; intro w119 m
 refine wpList_nil (n_then ?_)
 refine c_seq ?_
 refine c_reg ?_
 refine s_ hs m (ok_move rfl) (b_ m (ok_nilCheck rfl) (b_ m (ok_fieldAddr (r := 10) rfl fd135_2 ty89 rfl) (b_ m (ok_fieldAddr (r := 10) rfl fd89_0 ty3 rfl) (b_ m (ok_load_sc rfl ty3 (bx_at r10) rfl) (b_ m (ok_bin rfl rfl rfl) (bn_ ?_))))))
 clear hs a; intro a hs
 refine c_false hs rfl h17 ?_
 refine wp_skip ?_
 refine n_then ?_
 refine c_reg ?_
 refine s_ hs m (ok_fieldAddr (r := 1) rfl fd138_1 ty136 rfl) (b_ m (ok_load_sc rfl ty136 (bx_at r0) rfl) (b_ m (ok_move rfl) ?_))
 clear hs a; intro a hs
 refine r_callP hs m rfl rfl ca75 rfl (renew_c pag ag now _ ⟨x1, x2, x3, x4, x5, x6, x7, (bx_at r10 _ m), (bx_at r11 _ m), (m.rdv r12), (m.rdv r13), (m.rdv r14), (m.rdv r15), (m.rdv r16), (m.rdv r17)⟩ ) rfl ?_
 clear m hs a w119; intro w121 m a hs
 refine s_ hs m (ok_move rfl) (b_ m (ok_extract rfl rfl) (b_ m (ok_extract rfl rfl) ?_))
 clear hs a; intro a hs
 refine r_alloc hs m ze89 rfl ?_
 clear m hs a w121; intro p122 w123 m a hs
 refine st_ (cReq (renQ ag)) (cReq (renQ ag)) hs m ty89 s0 ?_
 clear m w123; intro w124 m
 refine s_ hs m (ok_assign rfl) (bn_ (bc_ (b_ m (ok_move rfl) (bn_ ?_))))
 clear hs a; intro a hs
 refine c_cond hs rfl (fun h125 => ?_) (fun h125 => ?_)
 ·refine c_last ?_
  refine s_ hs m (ok_move rfl) (b_ m (ok_load_ag (vs := cReq (renQ ag)) rfl ty89 (bx_at r0) (by kernel_rfl) (by kernel_rfl)) (b_ m (ok_nilCheck rfl) (b_ m (ok_fieldAddr (r := 10) rfl fd135_2 ty89 rfl) ?_)))
  clear hs a; intro a hs
  refine st_ (cAg ag.self x2.v (renQ ag) ag.read x3.v x4.v x5.v x6.v ag.cursor ag.stale x7.v ag.degraded ag.granted ag.waiting ag.wish ag.renewed ag.quiet) (cReq (renQ ag)) hs m ty89 s11 ?_
  clear m w124; intro w126 m
  refine wpList_nil (n_block (n_then ?_))
  refine c_last ?_
  refine s_ hs m (ok_add (r := 5) rfl rfl rfl) (b_ m (ok_move rfl) (bn_ ?_))
  clear hs a; intro a hs
  refine rounds_s ?_
  refine c_reg ?_
  refine s_ hs m (ok_bin (v := .bool true) rfl rfl rfl) (bn_ ?_)
  clear hs a; intro a hs
  refine c_seq ?_
  refine c_true hs rfl rfl ?_
  refine wp_skip ?_
  refine n_then ?_
  refine c_seq ?_
  refine wp_block ?_
  refine c_reg ?_
  refine elO (c := id) (e := ([.string (ByteArray.mk ⟨[119, 97, 116, 99, 104]⟩), .func (.func 76) ⟨[]⟩ ⟨[.pointer (some (padd x1 0))]⟩] : List Value)) hs m (x := (.tmp 12)) (ix := (.tmp 14)) rfl rfl sl133 ty138 r13 (by omega) rfl fun p128 hp129 ok130 => ?_
  refine s_ hs m (ok130 _ _ _ _ _) (b_ m (ok_load_ag (vs := [.string (ByteArray.mk ⟨[119, 97, 116, 99, 104]⟩), .func (.func 76) ⟨[]⟩ ⟨[.pointer (some (padd x1 0))]⟩]) rfl ty138 (el_at hp129 r13 (get_map _ (rfl : (rulesOf pag x1)[5]? = some ([.string (ByteArray.mk ⟨[119, 97, 116, 99, 104]⟩), .func (.func 76) ⟨[]⟩ ⟨[.pointer (some (padd x1 0))]⟩] : List Value)))) rfl rfl) ?_)
  clear hs a; intro a hs
  refine r_alloc hs m ze138 rfl ?_
  clear m hs a w126; intro p131 w132 m a hs
  refine st_ ([.string (ByteArray.mk ⟨[119, 97, 116, 99, 104]⟩), .func (.func 76) ⟨[]⟩ ⟨[.pointer (some (padd x1 0))]⟩]) ([.string (ByteArray.mk ⟨[119, 97, 116, 99, 104]⟩), .func (.func 76) ⟨[]⟩ ⟨[.pointer (some (padd x1 0))]⟩]) hs m ty138 s0 ?_
  clear m w132; intro w133 m
  refine wpList_nil (n_then ?_)
  refine c_seq ?_
  refine c_reg ?_
  refine s_ hs m (ok_move rfl) (b_ m (ok_nilCheck rfl) (b_ m (ok_fieldAddr (r := 10) rfl fd135_2 ty89 rfl) (b_ m (ok_fieldAddr (r := 10) rfl fd89_0 ty3 rfl) (b_ m (ok_load_sc rfl ty3 (bx_at r12) rfl) (b_ m (ok_bin rfl rfl rfl) (bn_ ?_))))))
  clear hs a; intro a hs
  refine c_true hs rfl (by simp [ren_kind (by assumption)]) ?_
  refine wp_exit ?_
  refine ex_then (ex_miss rfl (ex_then (ex_then (ex_hit (?_)))))
  refine n_then ?_
  refine c_reg ?_
  refine s_ hs m (ok_move rfl) (b_ m (ok_nilCheck rfl) (b_ m (ok_fieldAddr (r := 10) rfl fd135_2 ty89 rfl) (b_ m (ok_load_ag (vs := cReq (renQ ag)) rfl ty89 (bx_at r12) (by kernel_rfl) (by kernel_rfl)) ?_)))
  clear hs a; intro a hs
  refine st_ (cReq (renQ ag)) (cReq (renQ ag)) hs m ty89 s11 ?_
  clear m w133; intro w135 m
  refine wpList_nil (n_then ?_)
  refine wp_ret ?_
  refine leave hs (vs := [.agg ⟨cReq (renQ ag)⟩]) rfl ⟨resv_cell (cs := cReq (renQ ag)) m rfl ty89 r11 rfl, trivial⟩ ?_
  replace m := (m.sub (.c r12 (.c r12 (.c r12 (.c r12 (.c r12 (.c r12 (.c r12 (.c r12 (.c r0 (.c r0 (.c r0 (.c r0 (.c r0 (.c r0 (.c r0 (.c r0 (.c r0 (.c r0 (.c r0 (.c r0 .n))))))))))))))))))))).closeAg (p := pag) (A := ({ ag with opn := renQ ag } : AgM))
  have q136 : ({ ag with opn := renQ ag } : AgM) = nextA ag now := by clear hs m; exact nx (nq5 (by omega) (by assumption) (by assumption) (by assumption) (by assumption) (by assumption))
  rw [q136] at m
  refine ⟨_, rfl, ?_, m.sub (.c r0 .n)⟩
  have q137 : (renQ ag : TReq) = nextQ ag now := by clear hs m; exact (nq5 (by omega) (by assumption) (by assumption) (by assumption) (by assumption) (by assumption))
  (rw [q137]; rfl)
 refine wp_skip ?_
 refine n_block (n_then ?_)
 refine c_last ?_
 refine s_ hs m (ok_add (r := 5) rfl rfl rfl) (b_ m (ok_move rfl) (bn_ ?_))
 clear hs a; intro a hs
 refine rounds_s ?_
 refine c_reg ?_
 refine s_ hs m (ok_bin (v := .bool true) rfl rfl rfl) (bn_ ?_)
 clear hs a; intro a hs
 refine c_seq ?_
 refine c_true hs rfl rfl ?_
 refine wp_skip ?_
 refine n_then ?_
 refine c_seq ?_
 refine wp_block ?_
 refine c_reg ?_
 refine elO (c := id) (e := ([.string (ByteArray.mk ⟨[119, 97, 116, 99, 104]⟩), .func (.func 76) ⟨[]⟩ ⟨[.pointer (some (padd x1 0))]⟩] : List Value)) hs m (x := (.tmp 12)) (ix := (.tmp 14)) rfl rfl sl133 ty138 r13 (by omega) rfl fun p139 hp140 ok141 => ?_
 refine s_ hs m (ok141 _ _ _ _ _) (b_ m (ok_load_ag (vs := [.string (ByteArray.mk ⟨[119, 97, 116, 99, 104]⟩), .func (.func 76) ⟨[]⟩ ⟨[.pointer (some (padd x1 0))]⟩]) rfl ty138 (el_at hp140 r13 (get_map _ (rfl : (rulesOf pag x1)[5]? = some ([.string (ByteArray.mk ⟨[119, 97, 116, 99, 104]⟩), .func (.func 76) ⟨[]⟩ ⟨[.pointer (some (padd x1 0))]⟩] : List Value)))) rfl rfl) ?_)
 clear hs a; intro a hs
 refine r_alloc hs m ze138 rfl ?_
 clear m hs a w124; intro p142 w143 m a hs
 refine st_ ([.string (ByteArray.mk ⟨[119, 97, 116, 99, 104]⟩), .func (.func 76) ⟨[]⟩ ⟨[.pointer (some (padd x1 0))]⟩]) ([.string (ByteArray.mk ⟨[119, 97, 116, 99, 104]⟩), .func (.func 76) ⟨[]⟩ ⟨[.pointer (some (padd x1 0))]⟩]) hs m ty138 s0 ?_
 clear m w143; intro w144 m
 refine wpList_nil (n_then ?_)
 refine c_seq ?_
 refine c_reg ?_
 refine s_ hs m (ok_move rfl) (b_ m (ok_nilCheck rfl) (b_ m (ok_fieldAddr (r := 10) rfl fd135_2 ty89 rfl) (b_ m (ok_fieldAddr (r := 10) rfl fd89_0 ty3 rfl) (b_ m (ok_load_sc rfl ty3 (bx_at r12) rfl) (b_ m (ok_bin rfl rfl rfl) (bn_ ?_))))))
 clear hs a; intro a hs
 refine c_false hs rfl h17 ?_
 refine wp_skip ?_
 refine n_then ?_
 refine c_reg ?_
 refine s_ hs m (ok_fieldAddr (r := 1) rfl fd138_1 ty136 rfl) (b_ m (ok_load_sc rfl ty136 (bx_at r0) rfl) (b_ m (ok_move rfl) ?_))
 clear hs a; intro a hs
 refine r_callP hs m rfl rfl ca76 rfl (new3_c now x1 pag ag _ (bx_at r13 _ m) ⟨x1, x2, x3, x4, x5, x6, x7, (bx_at r12 _ m), (bx_at r13 _ m), (m.rdv r14), (m.rdv r15), (m.rdv r16), (m.rdv r17), (m.rdv r18), (m.rdv r19)⟩ ) rfl ?_
 clear m hs a w144; intro w146 m a hs
 refine s_ hs m (ok_move rfl) (b_ m (ok_extract rfl rfl) (b_ m (ok_extract rfl rfl) ?_))
 clear hs a; intro a hs
 refine r_alloc hs m ze89 rfl ?_
 clear m hs a w146; intro p147 w148 m a hs
 refine st_ (cReq (watchQ ag)) (cReq (watchQ ag)) hs m ty89 s0 ?_
 clear m w148; intro w149 m
 refine s_ hs m (ok_assign rfl) (bn_ (bc_ (b_ m (ok_move rfl) (bn_ ?_))))
 clear hs a; intro a hs
 refine c_true hs rfl rfl ?_
 refine c_last ?_
 refine s_ hs m (ok_move rfl) (b_ m (ok_load_ag (vs := cReq (watchQ ag)) rfl ty89 (bx_at r0) (by kernel_rfl) (by kernel_rfl)) (b_ m (ok_nilCheck rfl) (b_ m (ok_fieldAddr (r := 10) rfl fd135_2 ty89 rfl) ?_)))
 clear hs a; intro a hs
 refine st_ (cAg ag.self x2.v (watchQ ag) ag.read x3.v x4.v x5.v x6.v ag.cursor ag.stale x7.v ag.degraded ag.granted ag.waiting ag.wish ag.renewed ag.quiet) (cReq (watchQ ag)) hs m ty89 s13 ?_
 clear m w149; intro w151 m
 refine wpList_nil (n_block (n_then ?_))
 refine c_last ?_
 refine s_ hs m (ok_add (r := 6) rfl rfl rfl) (b_ m (ok_move rfl) (bn_ ?_))
 clear hs a; intro a hs
 refine rounds_s ?_
 refine c_reg ?_
 refine s_ hs m (ok_bin (v := .bool false) rfl rfl rfl) (bn_ ?_)
 clear hs a; intro a hs
 refine c_seq ?_
 refine c_false hs rfl rfl ?_
 refine wp_exit ?_
 refine ex_then (ex_then (ex_hit (?_)))
 refine n_then ?_
 refine c_reg ?_
 refine s_ hs m (ok_move rfl) (b_ m (ok_nilCheck rfl) (b_ m (ok_fieldAddr (r := 10) rfl fd135_2 ty89 rfl) (b_ m (ok_load_ag (vs := cReq (watchQ ag)) rfl ty89 (bx_at r13) (by kernel_rfl) (by kernel_rfl)) ?_)))
 clear hs a; intro a hs
 refine st_ (cReq (watchQ ag)) (cReq (watchQ ag)) hs m ty89 s12 ?_
 clear m w151; intro w153 m
 refine wpList_nil (n_then ?_)
 refine wp_ret ?_
 refine leave hs (vs := [.agg ⟨cReq (watchQ ag)⟩]) rfl ⟨resv_cell (cs := cReq (watchQ ag)) m rfl ty89 r12 rfl, trivial⟩ ?_
 replace m := (m.sub (.c r13 (.c r13 (.c r13 (.c r13 (.c r13 (.c r13 (.c r13 (.c r13 (.c r0 (.c r0 (.c r0 (.c r0 (.c r0 (.c r0 (.c r0 (.c r0 (.c r0 (.c r0 (.c r0 (.c r0 (.c r0 .n)))))))))))))))))))))).closeAg (p := pag) (A := ({ ag with opn := watchQ ag } : AgM))
 have q154 : ({ ag with opn := watchQ ag } : AgM) = nextA ag now := by clear hs m; exact nx (nq6 (by omega) (by assumption) (by assumption) (by assumption) (by assumption) (by assumption))
 rw [q154] at m
 refine ⟨_, rfl, ?_, m.sub (.c r0 .n)⟩
 have q155 : (watchQ ag : TReq) = nextQ ag now := by clear hs m; exact (nq6 (by omega) (by assumption) (by assumption) (by assumption) (by assumption) (by assumption))
 (rw [q155]; rfl)
end Go.Proofs.YtnbpodjbemfpbaaGreat.Fw
set_option linter.all false
set_option maxHeartbeats 4000000
set_option maxRecDepth 100000
namespace Go.Proofs.YtnbpodjbemfpbaaGreat.Fw
open Go
theorem newbad_c (s : TSelf) (w0 : World) (A1 : badSelf s = true) : Pure Tryz.prog 26 [.agg ⟨cSelf s⟩] (.tuple ⟨[(.pointer none), .int .i64 1]⟩) w0 := by
 refine enter (n := 46) Tryz.func26 rfl rfl rfl fun a (hs : St 46 [(0, .agg ⟨cSelf s⟩)] a) => ?_
 have m := Hp.start w0
 refine c_reg ?_
 refine r_box (cs := cSelf s) hs m rfl rfl rfl ?_
 clear m hs a; intro p1 w2 m a hs
 refine s_ hs m (ok_assign rfl) (b_ m (ok_assign rfl) (bn_ ?_))
 clear hs a; intro a hs
 refine c_seq ?_
 refine c_reg ?_
 refine s_ hs m (ok_fieldAddr (r := 0) rfl fd61_0 ty3 rfl) (b_ m (ok_load_sc rfl ty3 (bx_at r0) rfl) (b_ m (ok_bin rfl rfl rfl) (b_ m (ok_move rfl) ?_)))
 clear hs a; intro a hs
 refine l_cut (.c (.c (.c (.c (.n))))) (fun a w => St 46 [(1, .pointer (some (padd p1 0))), (12, .bool ((decide (s.Host.v < 0)) || (decide (s.Host.v > 63))))] a ∧ Hp w0 (hh w0) [Bx p1 61 (cSelf s)] w) ?_ ?_
 ·rcases Bool.eq_false_or_eq_true (decide (s.Host.v < 0)) with hb3 | hb3
  ·have hb3p := of_decide_eq_true hb3
   refine so_ hs hb3 (bo_ hb3 (bo_ hb3 (b_ m (ok_pick (r := .bool ((decide (s.Host.v < 0)) || (decide (s.Host.v > 63)))) rfl rfl rfl (by rw [hb3]; rfl)) ?_)))
   clear hs a; intro a hs
   exact wpList_nil (n_then ⟨hs.to ⟨rfl, rfl, trivial⟩, m⟩)
  ·have hb3p := of_decide_eq_false hb3
   refine sg_ hs hb3 m (ok_fieldAddr (r := 0) rfl fd61_0 ty3 rfl) (bg_ hb3 m (ok_load_sc rfl ty3 (bx_at r0) rfl) (bg_ hb3 m (ok_bin rfl rfl rfl) (b_ m (ok_pick (r := .bool ((decide (s.Host.v < 0)) || (decide (s.Host.v > 63)))) rfl rfl rfl (by rw [hb3]; rfl)) ?_)))
   clear hs a; intro a hs
   exact wpList_nil (n_then ⟨hs.to ⟨rfl, rfl, trivial⟩, m⟩)
 clear hs m a w2; rintro a w4 ⟨hs, m⟩
 refine s_ hs m (ok_move rfl) ?_
 clear hs a; intro a hs
 refine l_cut (.c (.c (.c (.c (.n))))) (fun a w => St 46 [(1, .pointer (some (padd p1 0))), (17, .bool (((decide (s.Host.v < 0)) || (decide (s.Host.v > 63))) || (decide (s.Renew.v < 1))))] a ∧ Hp w0 (hh w0) [Bx p1 61 (cSelf s)] w) ?_ ?_
 ·rcases Bool.eq_false_or_eq_true ((decide (s.Host.v < 0)) || (decide (s.Host.v > 63))) with hb5 | hb5
  ·have hb5p := hb5; simp only [bp_] at hb5p
   refine so_ hs hb5 (bo_ hb5 (bo_ hb5 (b_ m (ok_pick (r := .bool (((decide (s.Host.v < 0)) || (decide (s.Host.v > 63))) || (decide (s.Renew.v < 1)))) rfl rfl rfl (by rw [hb5]; rfl)) ?_)))
   clear hs a; intro a hs
   exact wpList_nil (n_then ⟨hs.to ⟨rfl, rfl, trivial⟩, m⟩)
  ·have hb5p := hb5; simp only [bp_] at hb5p
   refine sg_ hs hb5 m (ok_fieldAddr (r := 8) rfl fd61_3 ty2 rfl) (bg_ hb5 m (ok_load_sc rfl ty2 (bx_at r0) rfl) (bg_ hb5 m (ok_bin rfl rfl rfl) (b_ m (ok_pick (r := .bool (((decide (s.Host.v < 0)) || (decide (s.Host.v > 63))) || (decide (s.Renew.v < 1)))) rfl rfl rfl (by rw [hb5]; rfl)) ?_)))
   clear hs a; intro a hs
   exact wpList_nil (n_then ⟨hs.to ⟨rfl, rfl, trivial⟩, m⟩)
 clear hs m a w4; rintro a w6 ⟨hs, m⟩
 refine s_ hs m (ok_move rfl) ?_
 clear hs a; intro a hs
 refine l_cut (.c (.c (.c (.c (.n))))) (fun a w => St 46 [(1, .pointer (some (padd p1 0))), (22, .bool ((((decide (s.Host.v < 0)) || (decide (s.Host.v > 63))) || (decide (s.Renew.v < 1))) || (decide (s.Renew.v > 1099511627776))))] a ∧ Hp w0 (hh w0) [Bx p1 61 (cSelf s)] w) ?_ ?_
 ·rcases Bool.eq_false_or_eq_true (((decide (s.Host.v < 0)) || (decide (s.Host.v > 63))) || (decide (s.Renew.v < 1))) with hb7 | hb7
  ·have hb7p := hb7; simp only [bp_] at hb7p
   refine so_ hs hb7 (bo_ hb7 (bo_ hb7 (b_ m (ok_pick (r := .bool ((((decide (s.Host.v < 0)) || (decide (s.Host.v > 63))) || (decide (s.Renew.v < 1))) || (decide (s.Renew.v > 1099511627776)))) rfl rfl rfl (by rw [hb7]; rfl)) ?_)))
   clear hs a; intro a hs
   exact wpList_nil (n_then ⟨hs.to ⟨rfl, rfl, trivial⟩, m⟩)
  ·have hb7p := hb7; simp only [bp_] at hb7p
   refine sg_ hs hb7 m (ok_fieldAddr (r := 8) rfl fd61_3 ty2 rfl) (bg_ hb7 m (ok_load_sc rfl ty2 (bx_at r0) rfl) (bg_ hb7 m (ok_bin rfl rfl rfl) (b_ m (ok_pick (r := .bool ((((decide (s.Host.v < 0)) || (decide (s.Host.v > 63))) || (decide (s.Renew.v < 1))) || (decide (s.Renew.v > 1099511627776)))) rfl rfl rfl (by rw [hb7]; rfl)) ?_)))
   clear hs a; intro a hs
   exact wpList_nil (n_then ⟨hs.to ⟨rfl, rfl, trivial⟩, m⟩)
 clear hs m a w6; rintro a w8 ⟨hs, m⟩
 refine wpList_nil (n_then ?_)
 refine c_true hs rfl (by exact A1) ?_
 refine c_reg ?_
 refine s_ hs m (ok_assign rfl) (b_ m (ok_assign rfl) (bn_ ?_))
 clear hs a; intro a hs
 refine wp_ret ?_
 refine ret_then (leave hs (vs := [(.pointer none), .int .i64 1]) rfl ⟨rfl, rfl, trivial⟩ ?_)
 refine ⟨?_, m.sub .n⟩
 rfl
theorem newok_c (s : TSelf) (w0 : World) (A1 : badSelf s = false) : Calls Tryz.prog 26 ⟨[.agg ⟨cSelf s⟩]⟩ w0 fun e w' => ∃ v, e = .returned v ∧ (∃ x0 : Addr, v = (.tuple ⟨[.pointer (some (padd x0 0)), .int .i64 0]⟩) ∧ Hp w0 (hh w0) [AgP x0 (newA s)] w') := by
 refine enter (n := 46) Tryz.func26 rfl rfl rfl fun a (hs : St 46 [(0, .agg ⟨cSelf s⟩)] a) => ?_
 have m := Hp.start w0
 refine c_reg ?_
 refine r_box (cs := cSelf s) hs m rfl rfl rfl ?_
 clear m hs a; intro p1 w2 m a hs
 refine s_ hs m (ok_assign rfl) (b_ m (ok_assign rfl) (bn_ ?_))
 clear hs a; intro a hs
 refine c_seq ?_
 refine c_reg ?_
 refine s_ hs m (ok_fieldAddr (r := 0) rfl fd61_0 ty3 rfl) (b_ m (ok_load_sc rfl ty3 (bx_at r0) rfl) (b_ m (ok_bin rfl rfl rfl) (b_ m (ok_move rfl) ?_)))
 clear hs a; intro a hs
 refine l_cut (.c (.c (.c (.c (.n))))) (fun a w => St 46 [(1, .pointer (some (padd p1 0))), (12, .bool ((decide (s.Host.v < 0)) || (decide (s.Host.v > 63))))] a ∧ Hp w0 (hh w0) [Bx p1 61 (cSelf s)] w) ?_ ?_
 ·rcases Bool.eq_false_or_eq_true (decide (s.Host.v < 0)) with hb3 | hb3
  ·have hb3p := of_decide_eq_true hb3
   refine so_ hs hb3 (bo_ hb3 (bo_ hb3 (b_ m (ok_pick (r := .bool ((decide (s.Host.v < 0)) || (decide (s.Host.v > 63)))) rfl rfl rfl (by rw [hb3]; rfl)) ?_)))
   clear hs a; intro a hs
   exact wpList_nil (n_then ⟨hs.to ⟨rfl, rfl, trivial⟩, m⟩)
  ·have hb3p := of_decide_eq_false hb3
   refine sg_ hs hb3 m (ok_fieldAddr (r := 0) rfl fd61_0 ty3 rfl) (bg_ hb3 m (ok_load_sc rfl ty3 (bx_at r0) rfl) (bg_ hb3 m (ok_bin rfl rfl rfl) (b_ m (ok_pick (r := .bool ((decide (s.Host.v < 0)) || (decide (s.Host.v > 63)))) rfl rfl rfl (by rw [hb3]; rfl)) ?_)))
   clear hs a; intro a hs
   exact wpList_nil (n_then ⟨hs.to ⟨rfl, rfl, trivial⟩, m⟩)
 clear hs m a w2; rintro a w4 ⟨hs, m⟩
 refine s_ hs m (ok_move rfl) ?_
 clear hs a; intro a hs
 refine l_cut (.c (.c (.c (.c (.n))))) (fun a w => St 46 [(1, .pointer (some (padd p1 0))), (17, .bool (((decide (s.Host.v < 0)) || (decide (s.Host.v > 63))) || (decide (s.Renew.v < 1))))] a ∧ Hp w0 (hh w0) [Bx p1 61 (cSelf s)] w) ?_ ?_
 ·rcases Bool.eq_false_or_eq_true ((decide (s.Host.v < 0)) || (decide (s.Host.v > 63))) with hb5 | hb5
  ·have hb5p := hb5; simp only [bp_] at hb5p
   refine so_ hs hb5 (bo_ hb5 (bo_ hb5 (b_ m (ok_pick (r := .bool (((decide (s.Host.v < 0)) || (decide (s.Host.v > 63))) || (decide (s.Renew.v < 1)))) rfl rfl rfl (by rw [hb5]; rfl)) ?_)))
   clear hs a; intro a hs
   exact wpList_nil (n_then ⟨hs.to ⟨rfl, rfl, trivial⟩, m⟩)
  ·have hb5p := hb5; simp only [bp_] at hb5p
   refine sg_ hs hb5 m (ok_fieldAddr (r := 8) rfl fd61_3 ty2 rfl) (bg_ hb5 m (ok_load_sc rfl ty2 (bx_at r0) rfl) (bg_ hb5 m (ok_bin rfl rfl rfl) (b_ m (ok_pick (r := .bool (((decide (s.Host.v < 0)) || (decide (s.Host.v > 63))) || (decide (s.Renew.v < 1)))) rfl rfl rfl (by rw [hb5]; rfl)) ?_)))
   clear hs a; intro a hs
   exact wpList_nil (n_then ⟨hs.to ⟨rfl, rfl, trivial⟩, m⟩)
 clear hs m a w4; rintro a w6 ⟨hs, m⟩
 refine s_ hs m (ok_move rfl) ?_
 clear hs a; intro a hs
 refine l_cut (.c (.c (.c (.c (.n))))) (fun a w => St 46 [(1, .pointer (some (padd p1 0))), (22, .bool ((((decide (s.Host.v < 0)) || (decide (s.Host.v > 63))) || (decide (s.Renew.v < 1))) || (decide (s.Renew.v > 1099511627776))))] a ∧ Hp w0 (hh w0) [Bx p1 61 (cSelf s)] w) ?_ ?_
 ·rcases Bool.eq_false_or_eq_true (((decide (s.Host.v < 0)) || (decide (s.Host.v > 63))) || (decide (s.Renew.v < 1))) with hb7 | hb7
  ·have hb7p := hb7; simp only [bp_] at hb7p
   refine so_ hs hb7 (bo_ hb7 (bo_ hb7 (b_ m (ok_pick (r := .bool ((((decide (s.Host.v < 0)) || (decide (s.Host.v > 63))) || (decide (s.Renew.v < 1))) || (decide (s.Renew.v > 1099511627776)))) rfl rfl rfl (by rw [hb7]; rfl)) ?_)))
   clear hs a; intro a hs
   exact wpList_nil (n_then ⟨hs.to ⟨rfl, rfl, trivial⟩, m⟩)
  ·have hb7p := hb7; simp only [bp_] at hb7p
   refine sg_ hs hb7 m (ok_fieldAddr (r := 8) rfl fd61_3 ty2 rfl) (bg_ hb7 m (ok_load_sc rfl ty2 (bx_at r0) rfl) (bg_ hb7 m (ok_bin rfl rfl rfl) (b_ m (ok_pick (r := .bool ((((decide (s.Host.v < 0)) || (decide (s.Host.v > 63))) || (decide (s.Renew.v < 1))) || (decide (s.Renew.v > 1099511627776)))) rfl rfl rfl (by rw [hb7]; rfl)) ?_)))
   clear hs a; intro a hs
   exact wpList_nil (n_then ⟨hs.to ⟨rfl, rfl, trivial⟩, m⟩)
 clear hs m a w6; rintro a w8 ⟨hs, m⟩
 refine wpList_nil (n_then ?_)
 refine c_false hs rfl (by exact A1) ?_
 refine wp_skip ?_
 refine n_then ?_
 refine c_reg ?_
 refine s_ hs m (ok_load_ag (vs := cSelf s) rfl ty61 (bx_at r0) rfl rfl) (b_ m (ok_build (cs := cAg s nilH.v zReq false nilH.v nilH.v nilH.v nilH.v ⟨0, rfl⟩ true nilH.v false ⟨0, rfl⟩ false zPrefix false false) st135 ze135 rfl (by kernel_rfl)) ?_)
 clear hs a; intro a hs
 refine r_box (cs := cAg s nilH.v zReq false nilH.v nilH.v nilH.v nilH.v ⟨0, rfl⟩ true nilH.v false ⟨0, rfl⟩ false zPrefix false false) hs m rfl (by kernel_rfl) rfl ?_
 clear m hs a w8; intro p10 w11 m a hs
 refine r_alloc hs m ze63 rfl ?_
 clear m hs a w11; intro p12 w13 m a hs
 refine st_ ([.pointer (some (padd p10 0))]) ([.pointer (some (padd p10 0))]) hs m ty63 s0 ?_
 clear m w13; intro w14 m
 refine wpList_nil (n_then ?_)
 refine c_reg ?_
 refine s_ hs m (ok_load_sc rfl ty63 (bx_at r0) rfl) (b_ m (ok_makeFunc (us := []) (vs := [.pointer (some (padd p12 0))]) rfl rfl) (b_ m (ok_build (cs := [.string (ByteArray.mk ⟨[100, 117, 109, 112]⟩), .func (.func 71) ⟨[]⟩ ⟨[.pointer (some (padd p12 0))]⟩]) st138 ze138 rfl rfl) (b_ m (ok_makeFunc (us := []) (vs := [.pointer (some (padd p12 0))]) rfl rfl) (b_ m (ok_build (cs := [.string (ByteArray.mk ⟨[115, 110, 97, 112, 115, 104, 111, 116]⟩), .func (.func 72) ⟨[]⟩ ⟨[.pointer (some (padd p12 0))]⟩]) st138 ze138 rfl rfl) (b_ m (ok_load_sc rfl ty63 (bx_at r0) rfl) (b_ m (ok_makeFunc (us := [.pointer (some (padd p10 0))]) (vs := []) rfl rfl) (b_ m (ok_build (cs := [.string (ByteArray.mk ⟨[107, 101, 114, 110, 101, 108]⟩), .func (.func 73) ⟨[.pointer (some (padd p10 0))]⟩ ⟨[]⟩]) st138 ze138 rfl rfl) (b_ m (ok_load_sc rfl ty63 (bx_at r0) rfl) (b_ m (ok_makeFunc (us := [.pointer (some (padd p10 0))]) (vs := []) rfl rfl) (b_ m (ok_build (cs := [.string (ByteArray.mk ⟨[97, 99, 113, 117, 105, 114, 101]⟩), .func (.func 74) ⟨[.pointer (some (padd p10 0))]⟩ ⟨[]⟩]) st138 ze138 rfl rfl) (b_ m (ok_load_sc rfl ty63 (bx_at r0) rfl) ?_)))))))))))
 clear hs a; intro a hs
 refine s_ hs m (ok_makeFunc (us := [.pointer (some (padd p10 0))]) (vs := []) rfl rfl) (b_ m (ok_build (cs := [.string (ByteArray.mk ⟨[114, 101, 110, 101, 119]⟩), .func (.func 75) ⟨[.pointer (some (padd p10 0))]⟩ ⟨[]⟩]) st138 ze138 rfl rfl) (b_ m (ok_makeFunc (us := []) (vs := [.pointer (some (padd p12 0))]) rfl rfl) (b_ m (ok_build (cs := [.string (ByteArray.mk ⟨[119, 97, 116, 99, 104]⟩), .func (.func 76) ⟨[]⟩ ⟨[.pointer (some (padd p12 0))]⟩]) st138 ze138 rfl rfl) ?_)))
 clear hs a; intro a hs
 refine r_buildId (ys := [[.string (ByteArray.mk ⟨[100, 117, 109, 112]⟩), .func (.func 71) ⟨[]⟩ ⟨[.pointer (some (padd p12 0))]⟩], [.string (ByteArray.mk ⟨[115, 110, 97, 112, 115, 104, 111, 116]⟩), .func (.func 72) ⟨[]⟩ ⟨[.pointer (some (padd p12 0))]⟩], [.string (ByteArray.mk ⟨[107, 101, 114, 110, 101, 108]⟩), .func (.func 73) ⟨[.pointer (some (padd p10 0))]⟩ ⟨[]⟩], [.string (ByteArray.mk ⟨[97, 99, 113, 117, 105, 114, 101]⟩), .func (.func 74) ⟨[.pointer (some (padd p10 0))]⟩ ⟨[]⟩], [.string (ByteArray.mk ⟨[114, 101, 110, 101, 119]⟩), .func (.func 75) ⟨[.pointer (some (padd p10 0))]⟩ ⟨[]⟩], [.string (ByteArray.mk ⟨[119, 97, 116, 99, 104]⟩), .func (.func 76) ⟨[]⟩ ⟨[.pointer (some (padd p12 0))]⟩]]) hs m sl133 ty138 ze138 rfl rfl rfl rfl rfl rfl rfl rfl rfl ?_
 clear m hs a w14; intro v15 w16 m a hs
 refine s_ hs m (ok_nilCheck rfl) (b_ m (ok_fieldAddr (r := 9) rfl fd135_1 ty133 rfl) ?_)
 clear hs a; intro a hs
 refine st_ (cAg s v15.v zReq false nilH.v nilH.v nilH.v nilH.v ⟨0, rfl⟩ true nilH.v false ⟨0, rfl⟩ false zPrefix false false) [v15.v] hs m ty133 s2 ?_
 clear m w16; intro w17 m
 refine wpList_nil (n_then ?_)
 refine c_reg ?_
 refine s_ hs m (ok_load_sc rfl ty63 (bx_at r1) rfl) (b_ m (ok_assign rfl) (b_ m (ok_assign rfl) (bn_ ?_)))
 clear hs a; intro a hs
 refine wp_ret ?_
 refine leave hs (vs := [.pointer (some (padd p10 0)), .int .i64 0]) rfl ⟨rfl, rfl, trivial⟩ ?_
 replace m := m.nilSvM cRoute 4 51
 replace m := m.nilSvM cNeigh 7 54
 replace m := m.nilSvM cFdb 7 56
 replace m := m.nilSvM cLease 12 48
 replace m := m.nilSvM cPrefix 2 44
 replace m := (m.sub (.c r7 (.c r6 (.c r5 (.c r4 (.c r3 (.c r2 (.c r1 (.c r0 (.c r0 .n)))))))))).closeAg (p := p10) (A := (⟨s, zReq, false, ([] : List TRoute), ([] : List TNeigh), ([] : List TFdb), ([] : List TLease), ⟨0, rfl⟩, true, ([] : List TPrefix), false, ⟨0, rfl⟩, false, zPrefix, false, false⟩ : AgM))
 have q23 : (⟨s, zReq, false, ([] : List TRoute), ([] : List TNeigh), ([] : List TFdb), ([] : List TLease), ⟨0, rfl⟩, true, ([] : List TPrefix), false, ⟨0, rfl⟩, false, zPrefix, false, false⟩ : AgM) = newA s := by clear hs m; rfl
 rw [q23] at m
 refine ⟨_, rfl, p10, ?_, m.sub (.c r0 .n)⟩
 rfl
end Go.Proofs.YtnbpodjbemfpbaaGreat.Fw
set_option linter.all false
set_option maxHeartbeats 100000000
set_option maxRecDepth 100000
namespace Go.Proofs.YtnbpodjbemfpbaaGreat.Fw
open Go
theorem begun2_c (w0 : World) : Pure Tryz.prog 10 [] (.bool true) w0 := by
 refine enter (n := 65) Tryz.func10 rfl rfl rfl fun a (hs : St 65 [] a) => ?_
 have m := Hp.start w0
 refine c_reg ?_
 refine s_ hs m (ok_assign rfl) (bn_ (bc_ (b_ m (ok_build (cs := cSelf (⟨⟨2, rfl⟩, ⟨9, rfl⟩, zMAC, ⟨5, rfl⟩⟩ : TSelf)) st61 ze61 rfl rfl) ?_)))
 clear hs a; intro a hs
 refine r_call hs rfl rfl ca26 rfl (newok_c (⟨⟨2, rfl⟩, ⟨9, rfl⟩, zMAC, ⟨5, rfl⟩⟩ : TSelf) _  (by kernel_rfl)) rfl ?_
 clear hs a; rintro _ w2 ⟨v1, rfl, hm⟩ a hs
 replace m : Hp w0 (hh w0) [AgP v1 (newA (⟨⟨2, rfl⟩, ⟨9, rfl⟩, zMAC, ⟨5, rfl⟩⟩ : TSelf))] w2 := m.after hm
 clear hm
 refine s_ hs m (ok_move rfl) (b_ m (ok_extract rfl rfl) (b_ m (ok_extract rfl rfl) (b_ m (ok_assign rfl) (b_ m (ok_assign rfl) (bn_ ?_)))))
 clear hs a; intro a hs
 refine c_seq ?_
 refine c_reg ?_
 refine s_ hs m (ok_move rfl) (b_ m (ok_isNilP rfl rfl pt63) (b_ m (ok_move rfl) (bg_ rfl m (ok_move rfl) (bg_ rfl m (ok_bin (v := .bool false) rfl rfl rfl) (b_ m (ok_pick (r := .bool false) rfl rfl rfl rfl) (bn_ ?_))))))
 clear hs a; intro a hs
 refine c_false hs rfl rfl ?_
 refine wp_skip ?_
 refine n_then ?_
 refine c_reg ?_
 refine s_ hs m (ok_move rfl) ?_
 clear hs a; intro a hs
 obtain ⟨R1, hR, hR2, ⟨y1, sy, ly⟩, mc, back⟩ := Hp.split (Pc := [AgP v1 (newA (⟨⟨2, rfl⟩, ⟨9, rfl⟩, zMAC, ⟨5, rfl⟩⟩ : TSelf))]) (Ps := []) (m.sub (.c r0 .n))
 refine r_call hs rfl rfl ca31 rfl (next_c v1 (newA (⟨⟨2, rfl⟩, ⟨9, rfl⟩, zMAC, ⟨5, rfl⟩⟩ : TSelf)) 0 _ R1  (by exact Nat.le_of_ble_eq_true (by kernel_rfl)) (by exact Nat.le_of_ble_eq_true (by kernel_rfl)) (by exact Nat.le_of_ble_eq_true (by kernel_rfl)) (by exact Nat.le_of_ble_eq_true (by kernel_rfl)) mc) rfl ?_
 clear hs a; rintro _ w4 ⟨rfl, hm⟩ a hs
 replace m : Hp w0 (hh w0) [AgP v1 (nextA (newA (⟨⟨2, rfl⟩, ⟨9, rfl⟩, zMAC, ⟨5, rfl⟩⟩ : TSelf)) 0)] w4 := back _ _ hm
 clear hm back mc sy ly hR2 hR y1 R1 w2
 refine r_alloc hs m ze89 rfl ?_
 clear m hs a w4; intro p5 w6 m a hs
 refine st_ (cReq (nextQ (newA (⟨⟨2, rfl⟩, ⟨9, rfl⟩, zMAC, ⟨5, rfl⟩⟩ : TSelf)) 0)) (cReq (nextQ (newA (⟨⟨2, rfl⟩, ⟨9, rfl⟩, zMAC, ⟨5, rfl⟩⟩ : TSelf)) 0)) hs m ty89 s0 ?_
 clear m w6; intro w7 m
 refine wpList_nil (n_then ?_)
 refine c_seq ?_
 refine c_reg ?_
 refine s_ hs m (ok_fieldAddr (r := 0) rfl fd89_0 ty3 rfl) (b_ m (ok_load_sc rfl ty3 (bx_at r0) rfl) (b_ m (ok_bin rfl rfl rfl) (b_ m (ok_move rfl) ?_)))
 clear hs a; intro a hs
 have hb8 : ((((nextQ (newA (⟨⟨2, rfl⟩, ⟨9, rfl⟩, zMAC, ⟨5, rfl⟩⟩ : TSelf)) 0).Kind).v) != 1) = false := by kernel_rfl
 refine sg_ hs hb8 m (ok_move rfl) (bg_ hb8 m (ok_build (cs := cRe ⟨0, rfl⟩ (⟨⟨0, rfl⟩, zLease, ⟨0, rfl⟩, ⟨0, rfl⟩⟩ : TAnswer) ⟨0, rfl⟩ ⟨0, rfl⟩ nilH.v nilH.v nilH.v nilH.v nilH.v) st77 ze77 rfl (by kernel_rfl)) ?_)
 clear hs a; intro a hs
 refine g_strip hs rfl rfl hb8 ?_
 obtain ⟨R1, hR, hR2, ⟨y1, sy, ly⟩, mc, back⟩ := Hp.split (Pc := [AgP v1 (nextA (newA (⟨⟨2, rfl⟩, ⟨9, rfl⟩, zMAC, ⟨5, rfl⟩⟩ : TSelf)) 0)]) (Ps := [Bx p5 89 (cReq (nextQ (newA (⟨⟨2, rfl⟩, ⟨9, rfl⟩, zMAC, ⟨5, rfl⟩⟩ : TSelf)) 0))]) (m.sub (.c r1 (.c r0 .n)))
 refine r_call hs rfl rfl ca32 rfl (done_c v1 (nextA (newA (⟨⟨2, rfl⟩, ⟨9, rfl⟩, zMAC, ⟨5, rfl⟩⟩ : TSelf)) 0) ⟨0, rfl⟩ (⟨⟨0, rfl⟩, zLease, ⟨0, rfl⟩, ⟨0, rfl⟩⟩ : TAnswer) ⟨0, rfl⟩ ⟨0, rfl⟩ nilH ([] : List TLease) nilH ([] : List TEvent) nilH ([] : List TRoute) nilH ([] : List TNeigh) nilH ([] : List TFdb) _ R1 (RdS.nil _ _) (RdS.nil _ _) (RdS.nil _ _) (RdS.nil _ _) (RdS.nil _ _) (by exact Nat.le_of_ble_eq_true (by kernel_rfl)) (by exact Nat.le_of_ble_eq_true (by kernel_rfl)) (by exact Nat.le_of_ble_eq_true (by kernel_rfl)) (by exact Nat.le_of_ble_eq_true (by kernel_rfl)) (by exact Nat.le_of_ble_eq_true (by kernel_rfl)) (by exact Nat.le_of_ble_eq_true (by kernel_rfl)) (by exact Nat.le_of_ble_eq_true (by kernel_rfl)) (by exact Nat.le_of_ble_eq_true (by kernel_rfl)) (by exact Nat.le_of_ble_eq_true (by kernel_rfl)) (by exact Nat.le_of_ble_eq_true (by kernel_rfl)) mc) rfl ?_
 clear hs a; rintro _ w9 ⟨rfl, hm⟩ a hs
 replace m : Hp w0 (hh w0) [AgP v1 (doneA (nextA (newA (⟨⟨2, rfl⟩, ⟨9, rfl⟩, zMAC, ⟨5, rfl⟩⟩ : TSelf)) 0) (⟨⟨0, rfl⟩, (⟨⟨0, rfl⟩, zLease, ⟨0, rfl⟩, ⟨0, rfl⟩⟩ : TAnswer), ⟨0, rfl⟩, ⟨0, rfl⟩, [], [], [], [], []⟩ : ReM)), Bx p5 89 (cReq (nextQ (newA (⟨⟨2, rfl⟩, ⟨9, rfl⟩, zMAC, ⟨5, rfl⟩⟩ : TSelf)) 0))] w9 := back _ _ hm
 clear hm back mc sy ly hR2 hR y1 R1 w7
 refine sg_ hs hb8 m (ok_bin rfl rfl rfl) (b_ m (ok_pick (r := .bool ((doneE (nextA (newA (⟨⟨2, rfl⟩, ⟨9, rfl⟩, zMAC, ⟨5, rfl⟩⟩ : TSelf)) 0) (⟨⟨0, rfl⟩, (⟨⟨0, rfl⟩, zLease, ⟨0, rfl⟩, ⟨0, rfl⟩⟩ : TAnswer), ⟨0, rfl⟩, ⟨0, rfl⟩, [], [], [], [], []⟩ : ReM)) != 0)) rfl rfl rfl (by rw [hb8]; rfl)) (bn_ ?_))
 clear hs a; intro a hs
 refine c_false hs rfl (by kernel_rfl) ?_
 refine wp_skip ?_
 refine n_then ?_
 refine c_reg ?_
 refine s_ hs m (ok_move rfl) ?_
 clear hs a; intro a hs
 obtain ⟨R1, hR, hR2, ⟨y1, sy, ly⟩, mc, back⟩ := Hp.split (Pc := [AgP v1 (doneA (nextA (newA (⟨⟨2, rfl⟩, ⟨9, rfl⟩, zMAC, ⟨5, rfl⟩⟩ : TSelf)) 0) (⟨⟨0, rfl⟩, (⟨⟨0, rfl⟩, zLease, ⟨0, rfl⟩, ⟨0, rfl⟩⟩ : TAnswer), ⟨0, rfl⟩, ⟨0, rfl⟩, [], [], [], [], []⟩ : ReM))]) (Ps := [Bx p5 89 (cReq (nextQ (newA (⟨⟨2, rfl⟩, ⟨9, rfl⟩, zMAC, ⟨5, rfl⟩⟩ : TSelf)) 0))]) (m.sub (.c r0 (.c r0 .n)))
 refine r_call hs rfl rfl ca31 rfl (next_c v1 (doneA (nextA (newA (⟨⟨2, rfl⟩, ⟨9, rfl⟩, zMAC, ⟨5, rfl⟩⟩ : TSelf)) 0) (⟨⟨0, rfl⟩, (⟨⟨0, rfl⟩, zLease, ⟨0, rfl⟩, ⟨0, rfl⟩⟩ : TAnswer), ⟨0, rfl⟩, ⟨0, rfl⟩, [], [], [], [], []⟩ : ReM)) 0 _ R1  (by exact Nat.le_of_ble_eq_true (by kernel_rfl)) (by exact Nat.le_of_ble_eq_true (by kernel_rfl)) (by exact Nat.le_of_ble_eq_true (by kernel_rfl)) (by exact Nat.le_of_ble_eq_true (by kernel_rfl)) mc) rfl ?_
 clear hs a; rintro _ w11 ⟨rfl, hm⟩ a hs
 replace m : Hp w0 (hh w0) [AgP v1 (nextA (doneA (nextA (newA (⟨⟨2, rfl⟩, ⟨9, rfl⟩, zMAC, ⟨5, rfl⟩⟩ : TSelf)) 0) (⟨⟨0, rfl⟩, (⟨⟨0, rfl⟩, zLease, ⟨0, rfl⟩, ⟨0, rfl⟩⟩ : TAnswer), ⟨0, rfl⟩, ⟨0, rfl⟩, [], [], [], [], []⟩ : ReM)) 0), Bx p5 89 (cReq (nextQ (newA (⟨⟨2, rfl⟩, ⟨9, rfl⟩, zMAC, ⟨5, rfl⟩⟩ : TSelf)) 0))] w11 := back _ _ hm
 clear hm back mc sy ly hR2 hR y1 R1 w9
 refine st_ (cReq (nextQ (doneA (nextA (newA (⟨⟨2, rfl⟩, ⟨9, rfl⟩, zMAC, ⟨5, rfl⟩⟩ : TSelf)) 0) (⟨⟨0, rfl⟩, (⟨⟨0, rfl⟩, zLease, ⟨0, rfl⟩, ⟨0, rfl⟩⟩ : TAnswer), ⟨0, rfl⟩, ⟨0, rfl⟩, [], [], [], [], []⟩ : ReM)) 0)) (cReq (nextQ (doneA (nextA (newA (⟨⟨2, rfl⟩, ⟨9, rfl⟩, zMAC, ⟨5, rfl⟩⟩ : TSelf)) 0) (⟨⟨0, rfl⟩, (⟨⟨0, rfl⟩, zLease, ⟨0, rfl⟩, ⟨0, rfl⟩⟩ : TAnswer), ⟨0, rfl⟩, ⟨0, rfl⟩, [], [], [], [], []⟩ : ReM)) 0)) hs m ty89 s1 ?_
 clear m w11; intro w12 m
 refine wpList_nil (n_then ?_)
 refine c_reg ?_
 refine s_ hs m (ok_assign rfl) (bn_ (bc_ (b_ m (ok_move rfl) (b_ m (ok_build (cs := cPrefix (⟨⟨167772416, rfl⟩, ⟨24, rfl⟩⟩ : TPrefix)) st44 ze44 rfl rfl) (b_ m (ok_buildArr (cs := cMAC (⟨⟨2, rfl⟩, ⟨0, rfl⟩, ⟨0, rfl⟩, ⟨0, rfl⟩, ⟨0, rfl⟩, ⟨1, rfl⟩⟩ : TMAC)) ar46 ty5 ze46 rfl rfl) (b_ m (ok_build (cs := cLease (⟨⟨1, rfl⟩, (⟨⟨167772416, rfl⟩, ⟨24, rfl⟩⟩ : TPrefix), ⟨8, rfl⟩, (⟨⟨2, rfl⟩, ⟨0, rfl⟩, ⟨0, rfl⟩, ⟨0, rfl⟩, ⟨0, rfl⟩, ⟨1, rfl⟩⟩ : TMAC), ⟨0, rfl⟩, ⟨0, rfl⟩⟩ : TLease)) st48 ze48 rfl (by kernel_rfl)) ?_))))))
 clear hs a; intro a hs
 refine r_buildM (c := cLease) (ys := [(⟨⟨1, rfl⟩, (⟨⟨167772416, rfl⟩, ⟨24, rfl⟩⟩ : TPrefix), ⟨8, rfl⟩, (⟨⟨2, rfl⟩, ⟨0, rfl⟩, ⟨0, rfl⟩, ⟨0, rfl⟩, ⟨0, rfl⟩, ⟨1, rfl⟩⟩ : TMAC), ⟨0, rfl⟩, ⟨0, rfl⟩⟩ : TLease)]) hs m sl22 ty48 ze48 rfl rfl rfl rfl rfl (fun _ => rfl) rfl rfl rfl ?_
 clear m hs a w12; intro v13 w14 m a hs
 replace m := m.nilSvM cLease 12 48
 refine r_appendM (c := cLease) (xs := []) (ys := [(⟨⟨1, rfl⟩, (⟨⟨167772416, rfl⟩, ⟨24, rfl⟩⟩ : TPrefix), ⟨8, rfl⟩, (⟨⟨2, rfl⟩, ⟨0, rfl⟩, ⟨0, rfl⟩, ⟨0, rfl⟩, ⟨0, rfl⟩, ⟨1, rfl⟩⟩ : TMAC), ⟨0, rfl⟩, ⟨0, rfl⟩⟩ : TLease)]) hs m rfl rfl sl22 ni22 ty48 ze48 rfl by48 rfl r0 (m.rdv r1) (fun _ => rfl) (by simp) rfl ?_
 clear m hs a w14; intro v15 w17 m a hs
 refine s_ hs m (ok_assign rfl) (bn_ ?_)
 clear hs a; intro a hs
 refine c_seq ?_
 refine c_reg ?_
 refine s_ hs m (ok_fieldAddr (r := 0) rfl fd89_0 ty3 rfl) (b_ m (ok_load_sc rfl ty3 (bx_at r3) rfl) (b_ m (ok_bin rfl rfl rfl) (b_ m (ok_move rfl) ?_)))
 clear hs a; intro a hs
 have hb18 : ((((nextQ (doneA (nextA (newA (⟨⟨2, rfl⟩, ⟨9, rfl⟩, zMAC, ⟨5, rfl⟩⟩ : TSelf)) 0) (⟨⟨0, rfl⟩, (⟨⟨0, rfl⟩, zLease, ⟨0, rfl⟩, ⟨0, rfl⟩⟩ : TAnswer), ⟨0, rfl⟩, ⟨0, rfl⟩, [], [], [], [], []⟩ : ReM)) 0).Kind).v) != 2) = false := by kernel_rfl
 refine sg_ hs hb18 m (ok_move rfl) (bg_ hb18 m (ok_move rfl) (bg_ hb18 m (ok_build (cs := [.int .i64 4, .int .i64 0, v15.v]) st74 ze74 rfl rfl) (bg_ hb18 m (ok_build (cs := cRe ⟨0, rfl⟩ (⟨⟨0, rfl⟩, zLease, ⟨0, rfl⟩, ⟨0, rfl⟩⟩ : TAnswer) ⟨4, rfl⟩ ⟨0, rfl⟩ v15.v nilH.v nilH.v nilH.v nilH.v) st77 ze77 rfl (by kernel_rfl)) ?_)))
 clear hs a; intro a hs
 refine g_strip hs rfl rfl hb18 ?_
 obtain ⟨R1, hR, hR2, ⟨y1, sy, ly⟩, mc, back⟩ := Hp.split (Pc := [AgP v1 (nextA (doneA (nextA (newA (⟨⟨2, rfl⟩, ⟨9, rfl⟩, zMAC, ⟨5, rfl⟩⟩ : TSelf)) 0) (⟨⟨0, rfl⟩, (⟨⟨0, rfl⟩, zLease, ⟨0, rfl⟩, ⟨0, rfl⟩⟩ : TAnswer), ⟨0, rfl⟩, ⟨0, rfl⟩, [], [], [], [], []⟩ : ReM)) 0)]) (Ps := [Sv 12 48 v15.v ([(⟨⟨1, rfl⟩, (⟨⟨167772416, rfl⟩, ⟨24, rfl⟩⟩ : TPrefix), ⟨8, rfl⟩, (⟨⟨2, rfl⟩, ⟨0, rfl⟩, ⟨0, rfl⟩, ⟨0, rfl⟩, ⟨0, rfl⟩, ⟨1, rfl⟩⟩ : TMAC), ⟨0, rfl⟩, ⟨0, rfl⟩⟩ : TLease)].map cLease), Sv 12 48 v13.v ([(⟨⟨1, rfl⟩, (⟨⟨167772416, rfl⟩, ⟨24, rfl⟩⟩ : TPrefix), ⟨8, rfl⟩, (⟨⟨2, rfl⟩, ⟨0, rfl⟩, ⟨0, rfl⟩, ⟨0, rfl⟩, ⟨0, rfl⟩, ⟨1, rfl⟩⟩ : TMAC), ⟨0, rfl⟩, ⟨0, rfl⟩⟩ : TLease)].map cLease), Bx p5 89 (cReq (nextQ (doneA (nextA (newA (⟨⟨2, rfl⟩, ⟨9, rfl⟩, zMAC, ⟨5, rfl⟩⟩ : TSelf)) 0) (⟨⟨0, rfl⟩, (⟨⟨0, rfl⟩, zLease, ⟨0, rfl⟩, ⟨0, rfl⟩⟩ : TAnswer), ⟨0, rfl⟩, ⟨0, rfl⟩, [], [], [], [], []⟩ : ReM)) 0))]) (m.sub (.c r2 (.c r0 (.c r0 (.c r0 .n)))))
 refine r_call hs rfl rfl ca32 rfl (done_c v1 (nextA (doneA (nextA (newA (⟨⟨2, rfl⟩, ⟨9, rfl⟩, zMAC, ⟨5, rfl⟩⟩ : TSelf)) 0) (⟨⟨0, rfl⟩, (⟨⟨0, rfl⟩, zLease, ⟨0, rfl⟩, ⟨0, rfl⟩⟩ : TAnswer), ⟨0, rfl⟩, ⟨0, rfl⟩, [], [], [], [], []⟩ : ReM)) 0) ⟨0, rfl⟩ (⟨⟨0, rfl⟩, zLease, ⟨0, rfl⟩, ⟨0, rfl⟩⟩ : TAnswer) ⟨4, rfl⟩ ⟨0, rfl⟩ v15 [(⟨⟨1, rfl⟩, (⟨⟨167772416, rfl⟩, ⟨24, rfl⟩⟩ : TPrefix), ⟨8, rfl⟩, (⟨⟨2, rfl⟩, ⟨0, rfl⟩, ⟨0, rfl⟩, ⟨0, rfl⟩, ⟨0, rfl⟩, ⟨1, rfl⟩⟩ : TMAC), ⟨0, rfl⟩, ⟨0, rfl⟩⟩ : TLease)] nilH ([] : List TEvent) nilH ([] : List TRoute) nilH ([] : List TNeigh) nilH ([] : List TFdb) _ R1 (sep_rd sy ly r0) (RdS.nil _ _) (RdS.nil _ _) (RdS.nil _ _) (RdS.nil _ _) (by exact Nat.le_of_ble_eq_true (by kernel_rfl)) (by exact Nat.le_of_ble_eq_true (by kernel_rfl)) (by exact Nat.le_of_ble_eq_true (by kernel_rfl)) (by exact Nat.le_of_ble_eq_true (by kernel_rfl)) (by exact Nat.le_of_ble_eq_true (by kernel_rfl)) (by exact Nat.le_of_ble_eq_true (by kernel_rfl)) (by exact Nat.le_of_ble_eq_true (by kernel_rfl)) (by exact Nat.le_of_ble_eq_true (by kernel_rfl)) (by exact Nat.le_of_ble_eq_true (by kernel_rfl)) (by exact Nat.le_of_ble_eq_true (by kernel_rfl)) mc) rfl ?_
 clear hs a; rintro _ w19 ⟨rfl, hm⟩ a hs
 replace m : Hp w0 (hh w0) [AgP v1 (doneA (nextA (doneA (nextA (newA (⟨⟨2, rfl⟩, ⟨9, rfl⟩, zMAC, ⟨5, rfl⟩⟩ : TSelf)) 0) (⟨⟨0, rfl⟩, (⟨⟨0, rfl⟩, zLease, ⟨0, rfl⟩, ⟨0, rfl⟩⟩ : TAnswer), ⟨0, rfl⟩, ⟨0, rfl⟩, [], [], [], [], []⟩ : ReM)) 0) (⟨⟨0, rfl⟩, (⟨⟨0, rfl⟩, zLease, ⟨0, rfl⟩, ⟨0, rfl⟩⟩ : TAnswer), ⟨4, rfl⟩, ⟨0, rfl⟩, [(⟨⟨1, rfl⟩, (⟨⟨167772416, rfl⟩, ⟨24, rfl⟩⟩ : TPrefix), ⟨8, rfl⟩, (⟨⟨2, rfl⟩, ⟨0, rfl⟩, ⟨0, rfl⟩, ⟨0, rfl⟩, ⟨0, rfl⟩, ⟨1, rfl⟩⟩ : TMAC), ⟨0, rfl⟩, ⟨0, rfl⟩⟩ : TLease)], [], [], [], []⟩ : ReM)), Sv 12 48 v15.v ([(⟨⟨1, rfl⟩, (⟨⟨167772416, rfl⟩, ⟨24, rfl⟩⟩ : TPrefix), ⟨8, rfl⟩, (⟨⟨2, rfl⟩, ⟨0, rfl⟩, ⟨0, rfl⟩, ⟨0, rfl⟩, ⟨0, rfl⟩, ⟨1, rfl⟩⟩ : TMAC), ⟨0, rfl⟩, ⟨0, rfl⟩⟩ : TLease)].map cLease), Sv 12 48 v13.v ([(⟨⟨1, rfl⟩, (⟨⟨167772416, rfl⟩, ⟨24, rfl⟩⟩ : TPrefix), ⟨8, rfl⟩, (⟨⟨2, rfl⟩, ⟨0, rfl⟩, ⟨0, rfl⟩, ⟨0, rfl⟩, ⟨0, rfl⟩, ⟨1, rfl⟩⟩ : TMAC), ⟨0, rfl⟩, ⟨0, rfl⟩⟩ : TLease)].map cLease), Bx p5 89 (cReq (nextQ (doneA (nextA (newA (⟨⟨2, rfl⟩, ⟨9, rfl⟩, zMAC, ⟨5, rfl⟩⟩ : TSelf)) 0) (⟨⟨0, rfl⟩, (⟨⟨0, rfl⟩, zLease, ⟨0, rfl⟩, ⟨0, rfl⟩⟩ : TAnswer), ⟨0, rfl⟩, ⟨0, rfl⟩, [], [], [], [], []⟩ : ReM)) 0))] w19 := back _ _ hm
 clear hm back mc sy ly hR2 hR y1 R1 w17
 refine sg_ hs hb18 m (ok_bin rfl rfl rfl) (b_ m (ok_pick (r := .bool ((doneE (nextA (doneA (nextA (newA (⟨⟨2, rfl⟩, ⟨9, rfl⟩, zMAC, ⟨5, rfl⟩⟩ : TSelf)) 0) (⟨⟨0, rfl⟩, (⟨⟨0, rfl⟩, zLease, ⟨0, rfl⟩, ⟨0, rfl⟩⟩ : TAnswer), ⟨0, rfl⟩, ⟨0, rfl⟩, [], [], [], [], []⟩ : ReM)) 0) (⟨⟨0, rfl⟩, (⟨⟨0, rfl⟩, zLease, ⟨0, rfl⟩, ⟨0, rfl⟩⟩ : TAnswer), ⟨4, rfl⟩, ⟨0, rfl⟩, [(⟨⟨1, rfl⟩, (⟨⟨167772416, rfl⟩, ⟨24, rfl⟩⟩ : TPrefix), ⟨8, rfl⟩, (⟨⟨2, rfl⟩, ⟨0, rfl⟩, ⟨0, rfl⟩, ⟨0, rfl⟩, ⟨0, rfl⟩, ⟨1, rfl⟩⟩ : TMAC), ⟨0, rfl⟩, ⟨0, rfl⟩⟩ : TLease)], [], [], [], []⟩ : ReM)) != 0)) rfl rfl rfl (by rw [hb18]; rfl)) (bn_ ?_))
 clear hs a; intro a hs
 refine c_false hs rfl (by kernel_rfl) ?_
 refine wp_skip ?_
 refine n_then ?_
 refine c_reg ?_
 refine s_ hs m (ok_move rfl) ?_
 clear hs a; intro a hs
 obtain ⟨R1, hR, hR2, ⟨y1, sy, ly⟩, mc, back⟩ := Hp.split (Pc := [AgP v1 (doneA (nextA (doneA (nextA (newA (⟨⟨2, rfl⟩, ⟨9, rfl⟩, zMAC, ⟨5, rfl⟩⟩ : TSelf)) 0) (⟨⟨0, rfl⟩, (⟨⟨0, rfl⟩, zLease, ⟨0, rfl⟩, ⟨0, rfl⟩⟩ : TAnswer), ⟨0, rfl⟩, ⟨0, rfl⟩, [], [], [], [], []⟩ : ReM)) 0) (⟨⟨0, rfl⟩, (⟨⟨0, rfl⟩, zLease, ⟨0, rfl⟩, ⟨0, rfl⟩⟩ : TAnswer), ⟨4, rfl⟩, ⟨0, rfl⟩, [(⟨⟨1, rfl⟩, (⟨⟨167772416, rfl⟩, ⟨24, rfl⟩⟩ : TPrefix), ⟨8, rfl⟩, (⟨⟨2, rfl⟩, ⟨0, rfl⟩, ⟨0, rfl⟩, ⟨0, rfl⟩, ⟨0, rfl⟩, ⟨1, rfl⟩⟩ : TMAC), ⟨0, rfl⟩, ⟨0, rfl⟩⟩ : TLease)], [], [], [], []⟩ : ReM))]) (Ps := [Sv 12 48 v15.v ([(⟨⟨1, rfl⟩, (⟨⟨167772416, rfl⟩, ⟨24, rfl⟩⟩ : TPrefix), ⟨8, rfl⟩, (⟨⟨2, rfl⟩, ⟨0, rfl⟩, ⟨0, rfl⟩, ⟨0, rfl⟩, ⟨0, rfl⟩, ⟨1, rfl⟩⟩ : TMAC), ⟨0, rfl⟩, ⟨0, rfl⟩⟩ : TLease)].map cLease), Sv 12 48 v13.v ([(⟨⟨1, rfl⟩, (⟨⟨167772416, rfl⟩, ⟨24, rfl⟩⟩ : TPrefix), ⟨8, rfl⟩, (⟨⟨2, rfl⟩, ⟨0, rfl⟩, ⟨0, rfl⟩, ⟨0, rfl⟩, ⟨0, rfl⟩, ⟨1, rfl⟩⟩ : TMAC), ⟨0, rfl⟩, ⟨0, rfl⟩⟩ : TLease)].map cLease), Bx p5 89 (cReq (nextQ (doneA (nextA (newA (⟨⟨2, rfl⟩, ⟨9, rfl⟩, zMAC, ⟨5, rfl⟩⟩ : TSelf)) 0) (⟨⟨0, rfl⟩, (⟨⟨0, rfl⟩, zLease, ⟨0, rfl⟩, ⟨0, rfl⟩⟩ : TAnswer), ⟨0, rfl⟩, ⟨0, rfl⟩, [], [], [], [], []⟩ : ReM)) 0))]) (m.sub (.c r0 (.c r0 (.c r0 (.c r0 .n)))))
 refine r_call hs rfl rfl ca31 rfl (next_c v1 (doneA (nextA (doneA (nextA (newA (⟨⟨2, rfl⟩, ⟨9, rfl⟩, zMAC, ⟨5, rfl⟩⟩ : TSelf)) 0) (⟨⟨0, rfl⟩, (⟨⟨0, rfl⟩, zLease, ⟨0, rfl⟩, ⟨0, rfl⟩⟩ : TAnswer), ⟨0, rfl⟩, ⟨0, rfl⟩, [], [], [], [], []⟩ : ReM)) 0) (⟨⟨0, rfl⟩, (⟨⟨0, rfl⟩, zLease, ⟨0, rfl⟩, ⟨0, rfl⟩⟩ : TAnswer), ⟨4, rfl⟩, ⟨0, rfl⟩, [(⟨⟨1, rfl⟩, (⟨⟨167772416, rfl⟩, ⟨24, rfl⟩⟩ : TPrefix), ⟨8, rfl⟩, (⟨⟨2, rfl⟩, ⟨0, rfl⟩, ⟨0, rfl⟩, ⟨0, rfl⟩, ⟨0, rfl⟩, ⟨1, rfl⟩⟩ : TMAC), ⟨0, rfl⟩, ⟨0, rfl⟩⟩ : TLease)], [], [], [], []⟩ : ReM)) 0 _ R1  (by exact Nat.le_of_ble_eq_true (by kernel_rfl)) (by exact Nat.le_of_ble_eq_true (by kernel_rfl)) (by exact Nat.le_of_ble_eq_true (by kernel_rfl)) (by exact Nat.le_of_ble_eq_true (by kernel_rfl)) mc) rfl ?_
 clear hs a; rintro _ w21 ⟨rfl, hm⟩ a hs
 replace m : Hp w0 (hh w0) [AgP v1 (nextA (doneA (nextA (doneA (nextA (newA (⟨⟨2, rfl⟩, ⟨9, rfl⟩, zMAC, ⟨5, rfl⟩⟩ : TSelf)) 0) (⟨⟨0, rfl⟩, (⟨⟨0, rfl⟩, zLease, ⟨0, rfl⟩, ⟨0, rfl⟩⟩ : TAnswer), ⟨0, rfl⟩, ⟨0, rfl⟩, [], [], [], [], []⟩ : ReM)) 0) (⟨⟨0, rfl⟩, (⟨⟨0, rfl⟩, zLease, ⟨0, rfl⟩, ⟨0, rfl⟩⟩ : TAnswer), ⟨4, rfl⟩, ⟨0, rfl⟩, [(⟨⟨1, rfl⟩, (⟨⟨167772416, rfl⟩, ⟨24, rfl⟩⟩ : TPrefix), ⟨8, rfl⟩, (⟨⟨2, rfl⟩, ⟨0, rfl⟩, ⟨0, rfl⟩, ⟨0, rfl⟩, ⟨0, rfl⟩, ⟨1, rfl⟩⟩ : TMAC), ⟨0, rfl⟩, ⟨0, rfl⟩⟩ : TLease)], [], [], [], []⟩ : ReM)) 0), Sv 12 48 v15.v ([(⟨⟨1, rfl⟩, (⟨⟨167772416, rfl⟩, ⟨24, rfl⟩⟩ : TPrefix), ⟨8, rfl⟩, (⟨⟨2, rfl⟩, ⟨0, rfl⟩, ⟨0, rfl⟩, ⟨0, rfl⟩, ⟨0, rfl⟩, ⟨1, rfl⟩⟩ : TMAC), ⟨0, rfl⟩, ⟨0, rfl⟩⟩ : TLease)].map cLease), Sv 12 48 v13.v ([(⟨⟨1, rfl⟩, (⟨⟨167772416, rfl⟩, ⟨24, rfl⟩⟩ : TPrefix), ⟨8, rfl⟩, (⟨⟨2, rfl⟩, ⟨0, rfl⟩, ⟨0, rfl⟩, ⟨0, rfl⟩, ⟨0, rfl⟩, ⟨1, rfl⟩⟩ : TMAC), ⟨0, rfl⟩, ⟨0, rfl⟩⟩ : TLease)].map cLease), Bx p5 89 (cReq (nextQ (doneA (nextA (newA (⟨⟨2, rfl⟩, ⟨9, rfl⟩, zMAC, ⟨5, rfl⟩⟩ : TSelf)) 0) (⟨⟨0, rfl⟩, (⟨⟨0, rfl⟩, zLease, ⟨0, rfl⟩, ⟨0, rfl⟩⟩ : TAnswer), ⟨0, rfl⟩, ⟨0, rfl⟩, [], [], [], [], []⟩ : ReM)) 0))] w21 := back _ _ hm
 clear hm back mc sy ly hR2 hR y1 R1 w19
 refine st_ (cReq (nextQ (doneA (nextA (doneA (nextA (newA (⟨⟨2, rfl⟩, ⟨9, rfl⟩, zMAC, ⟨5, rfl⟩⟩ : TSelf)) 0) (⟨⟨0, rfl⟩, (⟨⟨0, rfl⟩, zLease, ⟨0, rfl⟩, ⟨0, rfl⟩⟩ : TAnswer), ⟨0, rfl⟩, ⟨0, rfl⟩, [], [], [], [], []⟩ : ReM)) 0) (⟨⟨0, rfl⟩, (⟨⟨0, rfl⟩, zLease, ⟨0, rfl⟩, ⟨0, rfl⟩⟩ : TAnswer), ⟨4, rfl⟩, ⟨0, rfl⟩, [(⟨⟨1, rfl⟩, (⟨⟨167772416, rfl⟩, ⟨24, rfl⟩⟩ : TPrefix), ⟨8, rfl⟩, (⟨⟨2, rfl⟩, ⟨0, rfl⟩, ⟨0, rfl⟩, ⟨0, rfl⟩, ⟨0, rfl⟩, ⟨1, rfl⟩⟩ : TMAC), ⟨0, rfl⟩, ⟨0, rfl⟩⟩ : TLease)], [], [], [], []⟩ : ReM)) 0)) (cReq (nextQ (doneA (nextA (doneA (nextA (newA (⟨⟨2, rfl⟩, ⟨9, rfl⟩, zMAC, ⟨5, rfl⟩⟩ : TSelf)) 0) (⟨⟨0, rfl⟩, (⟨⟨0, rfl⟩, zLease, ⟨0, rfl⟩, ⟨0, rfl⟩⟩ : TAnswer), ⟨0, rfl⟩, ⟨0, rfl⟩, [], [], [], [], []⟩ : ReM)) 0) (⟨⟨0, rfl⟩, (⟨⟨0, rfl⟩, zLease, ⟨0, rfl⟩, ⟨0, rfl⟩⟩ : TAnswer), ⟨4, rfl⟩, ⟨0, rfl⟩, [(⟨⟨1, rfl⟩, (⟨⟨167772416, rfl⟩, ⟨24, rfl⟩⟩ : TPrefix), ⟨8, rfl⟩, (⟨⟨2, rfl⟩, ⟨0, rfl⟩, ⟨0, rfl⟩, ⟨0, rfl⟩, ⟨0, rfl⟩, ⟨1, rfl⟩⟩ : TMAC), ⟨0, rfl⟩, ⟨0, rfl⟩⟩ : TLease)], [], [], [], []⟩ : ReM)) 0)) hs m ty89 s3 ?_
 clear m w21; intro w22 m
 refine wpList_nil (n_then ?_)
 refine c_reg ?_
 refine s_ hs m (ok_fieldAddr (r := 0) rfl fd89_0 ty3 rfl) (b_ m (ok_load_sc rfl ty3 (bx_at r3) rfl) (b_ m (ok_bin rfl rfl rfl) (b_ m (ok_move rfl) ?_)))
 clear hs a; intro a hs
 have hb23 : ((((nextQ (doneA (nextA (doneA (nextA (newA (⟨⟨2, rfl⟩, ⟨9, rfl⟩, zMAC, ⟨5, rfl⟩⟩ : TSelf)) 0) (⟨⟨0, rfl⟩, (⟨⟨0, rfl⟩, zLease, ⟨0, rfl⟩, ⟨0, rfl⟩⟩ : TAnswer), ⟨0, rfl⟩, ⟨0, rfl⟩, [], [], [], [], []⟩ : ReM)) 0) (⟨⟨0, rfl⟩, (⟨⟨0, rfl⟩, zLease, ⟨0, rfl⟩, ⟨0, rfl⟩⟩ : TAnswer), ⟨4, rfl⟩, ⟨0, rfl⟩, [(⟨⟨1, rfl⟩, (⟨⟨167772416, rfl⟩, ⟨24, rfl⟩⟩ : TPrefix), ⟨8, rfl⟩, (⟨⟨2, rfl⟩, ⟨0, rfl⟩, ⟨0, rfl⟩, ⟨0, rfl⟩, ⟨0, rfl⟩, ⟨1, rfl⟩⟩ : TMAC), ⟨0, rfl⟩, ⟨0, rfl⟩⟩ : TLease)], [], [], [], []⟩ : ReM)) 0).Kind).v) == 3) = true := by kernel_rfl
 refine sg_ hs hb23 m (ok_fieldAddr (r := 13) rfl fd89_2 ty58 rfl) (bg_ hb23 m (ok_fieldAddr (r := 13) rfl fd58_0 ty3 rfl) (bg_ hb23 m (ok_load_sc rfl ty3 (bx_at r3) rfl) (bg_ hb23 m (ok_bin rfl rfl rfl) (b_ m (ok_pick (r := .bool (((((nextQ (doneA (nextA (doneA (nextA (newA (⟨⟨2, rfl⟩, ⟨9, rfl⟩, zMAC, ⟨5, rfl⟩⟩ : TSelf)) 0) (⟨⟨0, rfl⟩, (⟨⟨0, rfl⟩, zLease, ⟨0, rfl⟩, ⟨0, rfl⟩⟩ : TAnswer), ⟨0, rfl⟩, ⟨0, rfl⟩, [], [], [], [], []⟩ : ReM)) 0) (⟨⟨0, rfl⟩, (⟨⟨0, rfl⟩, zLease, ⟨0, rfl⟩, ⟨0, rfl⟩⟩ : TAnswer), ⟨4, rfl⟩, ⟨0, rfl⟩, [(⟨⟨1, rfl⟩, (⟨⟨167772416, rfl⟩, ⟨24, rfl⟩⟩ : TPrefix), ⟨8, rfl⟩, (⟨⟨2, rfl⟩, ⟨0, rfl⟩, ⟨0, rfl⟩, ⟨0, rfl⟩, ⟨0, rfl⟩, ⟨1, rfl⟩⟩ : TMAC), ⟨0, rfl⟩, ⟨0, rfl⟩⟩ : TLease)], [], [], [], []⟩ : ReM)) 0).Op).Kind).v) == 5)) rfl rfl rfl (by rw [hb23]; rfl)) (b_ m (ok_move rfl) ?_)))))
 clear hs a; intro a hs
 have hb24 : (((((nextQ (doneA (nextA (doneA (nextA (newA (⟨⟨2, rfl⟩, ⟨9, rfl⟩, zMAC, ⟨5, rfl⟩⟩ : TSelf)) 0) (⟨⟨0, rfl⟩, (⟨⟨0, rfl⟩, zLease, ⟨0, rfl⟩, ⟨0, rfl⟩⟩ : TAnswer), ⟨0, rfl⟩, ⟨0, rfl⟩, [], [], [], [], []⟩ : ReM)) 0) (⟨⟨0, rfl⟩, (⟨⟨0, rfl⟩, zLease, ⟨0, rfl⟩, ⟨0, rfl⟩⟩ : TAnswer), ⟨4, rfl⟩, ⟨0, rfl⟩, [(⟨⟨1, rfl⟩, (⟨⟨167772416, rfl⟩, ⟨24, rfl⟩⟩ : TPrefix), ⟨8, rfl⟩, (⟨⟨2, rfl⟩, ⟨0, rfl⟩, ⟨0, rfl⟩, ⟨0, rfl⟩, ⟨0, rfl⟩, ⟨1, rfl⟩⟩ : TMAC), ⟨0, rfl⟩, ⟨0, rfl⟩⟩ : TLease)], [], [], [], []⟩ : ReM)) 0).Op).Kind).v) == 5) = true := by kernel_rfl
 refine sg_ hs hb24 m (ok_fieldAddr (r := 13) rfl fd89_2 ty58 rfl) (bg_ hb24 m (ok_fieldAddr (r := 25) rfl fd58_3 ty56 rfl) (bg_ hb24 m (ok_load_ag (vs := cFdb (((nextQ (doneA (nextA (doneA (nextA (newA (⟨⟨2, rfl⟩, ⟨9, rfl⟩, zMAC, ⟨5, rfl⟩⟩ : TSelf)) 0) (⟨⟨0, rfl⟩, (⟨⟨0, rfl⟩, zLease, ⟨0, rfl⟩, ⟨0, rfl⟩⟩ : TAnswer), ⟨0, rfl⟩, ⟨0, rfl⟩, [], [], [], [], []⟩ : ReM)) 0) (⟨⟨0, rfl⟩, (⟨⟨0, rfl⟩, zLease, ⟨0, rfl⟩, ⟨0, rfl⟩⟩ : TAnswer), ⟨4, rfl⟩, ⟨0, rfl⟩, [(⟨⟨1, rfl⟩, (⟨⟨167772416, rfl⟩, ⟨24, rfl⟩⟩ : TPrefix), ⟨8, rfl⟩, (⟨⟨2, rfl⟩, ⟨0, rfl⟩, ⟨0, rfl⟩, ⟨0, rfl⟩, ⟨0, rfl⟩, ⟨1, rfl⟩⟩ : TMAC), ⟨0, rfl⟩, ⟨0, rfl⟩⟩ : TLease)], [], [], [], []⟩ : ReM)) 0).Op).Fdb)) rfl ty56 (bx_at r3) (by kernel_rfl) (by kernel_rfl)) (bg_ hb24 m (ok_buildArr (cs := cMAC (⟨⟨2, rfl⟩, ⟨0, rfl⟩, ⟨0, rfl⟩, ⟨0, rfl⟩, ⟨0, rfl⟩, ⟨1, rfl⟩⟩ : TMAC)) ar46 ty5 ze46 rfl rfl) (bg_ hb24 m (ok_build (cs := cFdb (⟨(⟨⟨2, rfl⟩, ⟨0, rfl⟩, ⟨0, rfl⟩, ⟨0, rfl⟩, ⟨0, rfl⟩, ⟨1, rfl⟩⟩ : TMAC), ⟨8, rfl⟩⟩ : TFdb)) st56 ze56 rfl rfl) (bg_ hb24 m (ok_eqv (b := decide (((nextQ (doneA (nextA (doneA (nextA (newA (⟨⟨2, rfl⟩, ⟨9, rfl⟩, zMAC, ⟨5, rfl⟩⟩ : TSelf)) 0) (⟨⟨0, rfl⟩, (⟨⟨0, rfl⟩, zLease, ⟨0, rfl⟩, ⟨0, rfl⟩⟩ : TAnswer), ⟨0, rfl⟩, ⟨0, rfl⟩, [], [], [], [], []⟩ : ReM)) 0) (⟨⟨0, rfl⟩, (⟨⟨0, rfl⟩, zLease, ⟨0, rfl⟩, ⟨0, rfl⟩⟩ : TAnswer), ⟨4, rfl⟩, ⟨0, rfl⟩, [(⟨⟨1, rfl⟩, (⟨⟨167772416, rfl⟩, ⟨24, rfl⟩⟩ : TPrefix), ⟨8, rfl⟩, (⟨⟨2, rfl⟩, ⟨0, rfl⟩, ⟨0, rfl⟩, ⟨0, rfl⟩, ⟨0, rfl⟩, ⟨1, rfl⟩⟩ : TMAC), ⟨0, rfl⟩, ⟨0, rfl⟩⟩ : TLease)], [], [], [], []⟩ : ReM)) 0).Op).Fdb = (⟨(⟨⟨2, rfl⟩, ⟨0, rfl⟩, ⟨0, rfl⟩, ⟨0, rfl⟩, ⟨0, rfl⟩, ⟨1, rfl⟩⟩ : TMAC), ⟨8, rfl⟩⟩ : TFdb))) rfl rfl eqT56 (fFdb _) (fFdb _) (iFdb (((nextQ (doneA (nextA (doneA (nextA (newA (⟨⟨2, rfl⟩, ⟨9, rfl⟩, zMAC, ⟨5, rfl⟩⟩ : TSelf)) 0) (⟨⟨0, rfl⟩, (⟨⟨0, rfl⟩, zLease, ⟨0, rfl⟩, ⟨0, rfl⟩⟩ : TAnswer), ⟨0, rfl⟩, ⟨0, rfl⟩, [], [], [], [], []⟩ : ReM)) 0) (⟨⟨0, rfl⟩, (⟨⟨0, rfl⟩, zLease, ⟨0, rfl⟩, ⟨0, rfl⟩⟩ : TAnswer), ⟨4, rfl⟩, ⟨0, rfl⟩, [(⟨⟨1, rfl⟩, (⟨⟨167772416, rfl⟩, ⟨24, rfl⟩⟩ : TPrefix), ⟨8, rfl⟩, (⟨⟨2, rfl⟩, ⟨0, rfl⟩, ⟨0, rfl⟩, ⟨0, rfl⟩, ⟨0, rfl⟩, ⟨1, rfl⟩⟩ : TMAC), ⟨0, rfl⟩, ⟨0, rfl⟩⟩ : TLease)], [], [], [], []⟩ : ReM)) 0).Op).Fdb) (⟨(⟨⟨2, rfl⟩, ⟨0, rfl⟩, ⟨0, rfl⟩, ⟨0, rfl⟩, ⟨0, rfl⟩, ⟨1, rfl⟩⟩ : TMAC), ⟨8, rfl⟩⟩ : TFdb))) (b_ m (ok_pick (r := .bool (decide (((nextQ (doneA (nextA (doneA (nextA (newA (⟨⟨2, rfl⟩, ⟨9, rfl⟩, zMAC, ⟨5, rfl⟩⟩ : TSelf)) 0) (⟨⟨0, rfl⟩, (⟨⟨0, rfl⟩, zLease, ⟨0, rfl⟩, ⟨0, rfl⟩⟩ : TAnswer), ⟨0, rfl⟩, ⟨0, rfl⟩, [], [], [], [], []⟩ : ReM)) 0) (⟨⟨0, rfl⟩, (⟨⟨0, rfl⟩, zLease, ⟨0, rfl⟩, ⟨0, rfl⟩⟩ : TAnswer), ⟨4, rfl⟩, ⟨0, rfl⟩, [(⟨⟨1, rfl⟩, (⟨⟨167772416, rfl⟩, ⟨24, rfl⟩⟩ : TPrefix), ⟨8, rfl⟩, (⟨⟨2, rfl⟩, ⟨0, rfl⟩, ⟨0, rfl⟩, ⟨0, rfl⟩, ⟨0, rfl⟩, ⟨1, rfl⟩⟩ : TMAC), ⟨0, rfl⟩, ⟨0, rfl⟩⟩ : TLease)], [], [], [], []⟩ : ReM)) 0).Op).Fdb = (⟨(⟨⟨2, rfl⟩, ⟨0, rfl⟩, ⟨0, rfl⟩, ⟨0, rfl⟩, ⟨0, rfl⟩, ⟨1, rfl⟩⟩ : TMAC), ⟨8, rfl⟩⟩ : TFdb)))) rfl rfl rfl (by rw [hb24]; rfl)) (b_ m (ok_assign rfl) (bn_ ?_))))))))
 clear hs a; intro a hs
 refine wp_ret ?_
 refine leave hs (vs := [.bool (decide (((nextQ (doneA (nextA (doneA (nextA (newA (⟨⟨2, rfl⟩, ⟨9, rfl⟩, zMAC, ⟨5, rfl⟩⟩ : TSelf)) 0) (⟨⟨0, rfl⟩, (⟨⟨0, rfl⟩, zLease, ⟨0, rfl⟩, ⟨0, rfl⟩⟩ : TAnswer), ⟨0, rfl⟩, ⟨0, rfl⟩, [], [], [], [], []⟩ : ReM)) 0) (⟨⟨0, rfl⟩, (⟨⟨0, rfl⟩, zLease, ⟨0, rfl⟩, ⟨0, rfl⟩⟩ : TAnswer), ⟨4, rfl⟩, ⟨0, rfl⟩, [(⟨⟨1, rfl⟩, (⟨⟨167772416, rfl⟩, ⟨24, rfl⟩⟩ : TPrefix), ⟨8, rfl⟩, (⟨⟨2, rfl⟩, ⟨0, rfl⟩, ⟨0, rfl⟩, ⟨0, rfl⟩, ⟨0, rfl⟩, ⟨1, rfl⟩⟩ : TMAC), ⟨0, rfl⟩, ⟨0, rfl⟩⟩ : TLease)], [], [], [], []⟩ : ReM)) 0).Op).Fdb = (⟨(⟨⟨2, rfl⟩, ⟨0, rfl⟩, ⟨0, rfl⟩, ⟨0, rfl⟩, ⟨0, rfl⟩, ⟨1, rfl⟩⟩ : TMAC), ⟨8, rfl⟩⟩ : TFdb)))]) rfl ⟨rfl, trivial⟩ ?_
 refine ⟨?_, m.sub .n⟩
 have q25 : (decide (((nextQ (doneA (nextA (doneA (nextA (newA (⟨⟨2, rfl⟩, ⟨9, rfl⟩, zMAC, ⟨5, rfl⟩⟩ : TSelf)) 0) (⟨⟨0, rfl⟩, (⟨⟨0, rfl⟩, zLease, ⟨0, rfl⟩, ⟨0, rfl⟩⟩ : TAnswer), ⟨0, rfl⟩, ⟨0, rfl⟩, [], [], [], [], []⟩ : ReM)) 0) (⟨⟨0, rfl⟩, (⟨⟨0, rfl⟩, zLease, ⟨0, rfl⟩, ⟨0, rfl⟩⟩ : TAnswer), ⟨4, rfl⟩, ⟨0, rfl⟩, [(⟨⟨1, rfl⟩, (⟨⟨167772416, rfl⟩, ⟨24, rfl⟩⟩ : TPrefix), ⟨8, rfl⟩, (⟨⟨2, rfl⟩, ⟨0, rfl⟩, ⟨0, rfl⟩, ⟨0, rfl⟩, ⟨0, rfl⟩, ⟨1, rfl⟩⟩ : TMAC), ⟨0, rfl⟩, ⟨0, rfl⟩⟩ : TLease)], [], [], [], []⟩ : ReM)) 0).Op).Fdb = (⟨(⟨⟨2, rfl⟩, ⟨0, rfl⟩, ⟨0, rfl⟩, ⟨0, rfl⟩, ⟨0, rfl⟩, ⟨1, rfl⟩⟩ : TMAC), ⟨8, rfl⟩⟩ : TFdb)) : Bool) = true := by clear hs m; kernel_rfl
 (rw [q25]; rfl)
end Go.Proofs.YtnbpodjbemfpbaaGreat.Fw
set_option linter.all false
set_option maxHeartbeats 4000000
set_option maxRecDepth 100000
namespace Go.Proofs.YtnbpodjbemfpbaaGreat.Fw
open Go
theorem sameView_c (x_Has : Bool) (x_Lease : TLease) (x_Cursor : Fx .i64) (x_Synced : Bool) (x_Degraded : Bool) (vx_Leases : SH) (x_Leases : List TLease) (vx_Skipped : SH) (x_Skipped : List TPrefix) (vx_Have_Routes : SH) (x_Have_Routes : List TRoute) (vx_Have_Neighs : SH) (x_Have_Neighs : List TNeigh) (vx_Have_Fdbs : SH) (x_Have_Fdbs : List TFdb) (y_Has : Bool) (y_Lease : TLease) (y_Cursor : Fx .i64) (y_Synced : Bool) (y_Degraded : Bool) (vy_Leases : SH) (y_Leases : List TLease) (vy_Skipped : SH) (y_Skipped : List TPrefix) (vy_Have_Routes : SH) (y_Have_Routes : List TRoute) (vy_Have_Neighs : SH) (y_Have_Neighs : List TNeigh) (vy_Have_Fdbs : SH) (y_Have_Fdbs : List TFdb) (w0 : World) (hx_Leases : RdS (hh w0) 12 vx_Leases.v (x_Leases.map cLease)) (hx_Skipped : RdS (hh w0) 2 vx_Skipped.v (x_Skipped.map cPrefix)) (hx_Have_Routes : RdS (hh w0) 4 vx_Have_Routes.v (x_Have_Routes.map cRoute)) (hx_Have_Neighs : RdS (hh w0) 7 vx_Have_Neighs.v (x_Have_Neighs.map cNeigh)) (hx_Have_Fdbs : RdS (hh w0) 7 vx_Have_Fdbs.v (x_Have_Fdbs.map cFdb)) (hy_Leases : RdS (hh w0) 12 vy_Leases.v (y_Leases.map cLease)) (hy_Skipped : RdS (hh w0) 2 vy_Skipped.v (y_Skipped.map cPrefix)) (hy_Have_Routes : RdS (hh w0) 4 vy_Have_Routes.v (y_Have_Routes.map cRoute)) (hy_Have_Neighs : RdS (hh w0) 7 vy_Have_Neighs.v (y_Have_Neighs.map cNeigh)) (hy_Have_Fdbs : RdS (hh w0) 7 vy_Have_Fdbs.v (y_Have_Fdbs.map cFdb)) (E0 : y_Has = x_Has) (E1 : y_Lease = x_Lease) (E2 : y_Cursor = x_Cursor) (E3 : y_Synced = x_Synced) (E4 : y_Degraded = x_Degraded) (E5 : y_Leases = x_Leases) (E6 : y_Skipped = x_Skipped) (E7 : y_Have_Routes = x_Have_Routes) (E8 : y_Have_Neighs = x_Have_Neighs) (E9 : y_Have_Fdbs = x_Have_Fdbs) : Pure Tryz.prog 33 [.agg ⟨cVw x_Has x_Lease x_Cursor x_Synced x_Degraded vx_Leases.v vx_Skipped.v vx_Have_Routes.v vx_Have_Neighs.v vx_Have_Fdbs.v⟩, .agg ⟨cVw y_Has y_Lease y_Cursor y_Synced y_Degraded vy_Leases.v vy_Skipped.v vy_Have_Routes.v vy_Have_Neighs.v vy_Have_Fdbs.v⟩] (.bool true) w0 := by
 have lvx_Leases := hx_Leases.bd
 have lvx_Skipped := hx_Skipped.bd
 have lvx_Have_Routes := hx_Have_Routes.bd
 have lvx_Have_Neighs := hx_Have_Neighs.bd
 have lvx_Have_Fdbs := hx_Have_Fdbs.bd
 have lvy_Leases := hy_Leases.bd
 have lvy_Skipped := hy_Skipped.bd
 have lvy_Have_Routes := hy_Have_Routes.bd
 have lvy_Have_Neighs := hy_Have_Neighs.bd
 have lvy_Have_Fdbs := hy_Have_Fdbs.bd
 refine enter (n := 82) Tryz.func33 rfl rfl rfl fun a (hs : St 82 [(0, .agg ⟨cVw x_Has x_Lease x_Cursor x_Synced x_Degraded vx_Leases.v vx_Skipped.v vx_Have_Routes.v vx_Have_Neighs.v vx_Have_Fdbs.v⟩), (1, .agg ⟨cVw y_Has y_Lease y_Cursor y_Synced y_Degraded vy_Leases.v vy_Skipped.v vy_Have_Routes.v vy_Have_Neighs.v vy_Have_Fdbs.v⟩)] a) => ?_
 have m := Hp.start w0
 refine c_reg ?_
 refine r_box (cs := cVw x_Has x_Lease x_Cursor x_Synced x_Degraded vx_Leases.v vx_Skipped.v vx_Have_Routes.v vx_Have_Neighs.v vx_Have_Fdbs.v) hs m rfl (by kernel_rfl) rfl ?_
 clear m hs a; intro p1 w2 m a hs
 refine r_box (cs := cVw y_Has y_Lease y_Cursor y_Synced y_Degraded vy_Leases.v vy_Skipped.v vy_Have_Routes.v vy_Have_Neighs.v vy_Have_Fdbs.v) hs m rfl (by kernel_rfl) rfl ?_
 clear m hs a w2; intro p3 w4 m a hs
 refine s_ hs m (ok_assign rfl) (bn_ ?_)
 clear hs a; intro a hs
 refine c_seq ?_
 refine c_reg ?_
 refine s_ hs m (ok_fieldAddr (r := 0) rfl fd84_0 ty4 rfl) (b_ m (ok_load_sc rfl ty4 (bx_at r1) rfl) (b_ m (ok_fieldAddr (r := 0) rfl fd84_0 ty4 rfl) (b_ m (ok_load_sc rfl ty4 (bx_at r0) rfl) (b_ m (ok_neB rfl rfl ub4) (b_ m (ok_move rfl) ?_)))))
 clear hs a; intro a hs
 have hb5 : (x_Has != y_Has) = false := by simp [E0]
 refine sg_ hs hb5 m (ok_fieldAddr (r := 1) rfl fd84_1 ty48 rfl) (bg_ hb5 m (ok_load_ag (vs := cLease x_Lease) rfl ty48 (bx_at r1) (by kernel_rfl) (by kernel_rfl)) (bg_ hb5 m (ok_fieldAddr (r := 1) rfl fd84_1 ty48 rfl) (bg_ hb5 m (ok_load_ag (vs := cLease y_Lease) rfl ty48 (bx_at r0) (by kernel_rfl) (by kernel_rfl)) (bg_ hb5 m (ok_nev (b := decide (x_Lease = y_Lease)) rfl rfl eqT48 (fLease _) (fLease _) (iLease x_Lease y_Lease)) (b_ m (ok_pick (r := .bool (!(decide (x_Lease = y_Lease)))) rfl rfl rfl (by rw [hb5]; rfl)) (b_ m (ok_move rfl) ?_))))))
 clear hs a; intro a hs
 have hb6 : (!(decide (x_Lease = y_Lease))) = false := by simp [E1]
 refine sg_ hs hb6 m (ok_fieldAddr (r := 13) rfl fd84_2 ty2 rfl) (bg_ hb6 m (ok_load_sc rfl ty2 (bx_at r1) rfl) (bg_ hb6 m (ok_fieldAddr (r := 13) rfl fd84_2 ty2 rfl) (bg_ hb6 m (ok_load_sc rfl ty2 (bx_at r0) rfl) (bg_ hb6 m (ok_bin rfl rfl rfl) (b_ m (ok_pick (r := .bool (x_Cursor.v != y_Cursor.v)) rfl rfl rfl (by rw [hb6]; rfl)) (b_ m (ok_move rfl) ?_))))))
 clear hs a; intro a hs
 have hb7 : (x_Cursor.v != y_Cursor.v) = false := by simp [E2]
 refine sg_ hs hb7 m (ok_fieldAddr (r := 14) rfl fd84_3 ty4 rfl) (bg_ hb7 m (ok_load_sc rfl ty4 (bx_at r1) rfl) (bg_ hb7 m (ok_fieldAddr (r := 14) rfl fd84_3 ty4 rfl) (bg_ hb7 m (ok_load_sc rfl ty4 (bx_at r0) rfl) (bg_ hb7 m (ok_neB rfl rfl ub4) (b_ m (ok_pick (r := .bool (x_Synced != y_Synced)) rfl rfl rfl (by rw [hb7]; rfl)) (b_ m (ok_move rfl) ?_))))))
 clear hs a; intro a hs
 have hb8 : (x_Synced != y_Synced) = false := by simp [E3]
 refine sg_ hs hb8 m (ok_fieldAddr (r := 15) rfl fd84_4 ty4 rfl) (bg_ hb8 m (ok_load_sc rfl ty4 (bx_at r1) rfl) (bg_ hb8 m (ok_fieldAddr (r := 15) rfl fd84_4 ty4 rfl) (bg_ hb8 m (ok_load_sc rfl ty4 (bx_at r0) rfl) (bg_ hb8 m (ok_neB rfl rfl ub4) (b_ m (ok_pick (r := .bool (x_Degraded != y_Degraded)) rfl rfl rfl (by rw [hb8]; rfl)) (b_ m (ok_move rfl) ?_))))))
 clear hs a; intro a hs
 have hb9 : (x_Degraded != y_Degraded) = false := by simp [E4]
 refine sg_ hs hb9 m (ok_fieldAddr (r := 17) rfl fd84_6 ty82 rfl) (bg_ hb9 m (ok_load_sc rfl ty82 (bx_at r1) rfl) (bg_ hb9 m (ok_len (r := (x_Skipped.length : Int)) m rfl sl82 (rc_fr hx_Skipped) (by simp)) (bg_ hb9 m (ok_fieldAddr (r := 17) rfl fd84_6 ty82 rfl) (bg_ hb9 m (ok_load_sc rfl ty82 (bx_at r0) rfl) (bg_ hb9 m (ok_len (r := (y_Skipped.length : Int)) m rfl sl82 (rc_fr hy_Skipped) (by simp)) (bg_ hb9 m (ok_bin rfl rfl rfl) (b_ m (ok_pick (r := .bool ((x_Skipped.length : Int) != (y_Skipped.length : Int))) rfl rfl rfl (by rw [hb9]; rfl)) (bn_ ?_))))))))
 clear hs a; intro a hs
 refine c_false hs rfl (by simp [E6]) ?_
 refine wp_skip ?_
 refine n_then ?_
 refine c_seq ?_
 refine c_reg ?_
 refine s_ hs m (ok_assign rfl) (bn_ ?_)
 clear hs a; intro a hs
 refine wp_block ?_
 refine wp_loop_ghost (fun gn a w => ∃ k : Nat, (k ≤ x_Skipped.length) ∧ gn = x_Skipped.length - k ∧ St 82 [(2, .pointer (some (padd p1 0))), (3, .pointer (some (padd p3 0))), (5, .int .i64 (k : Int))] a ∧ Hp w0 (hh w0) [Bx p1 84 (cVw x_Has x_Lease x_Cursor x_Synced x_Degraded vx_Leases.v vx_Skipped.v vx_Have_Routes.v vx_Have_Neighs.v vx_Have_Fdbs.v), Bx p3 84 (cVw y_Has y_Lease y_Cursor y_Synced y_Degraded vy_Leases.v vy_Skipped.v vy_Have_Routes.v vy_Have_Neighs.v vy_Have_Fdbs.v)] w) (x_Skipped.length - 0) ⟨0, by omega, rfl, hs.to ⟨rfl, rfl, rfl, trivial⟩, m.sub (.c r1 (.c r0 .n))⟩ ?_
 clear hs m a w4
 rintro gn a w11 ⟨k, hk, rfl, hs, m⟩
 have hE6 := congrArg List.length E6
 refine c_seq ?_
 refine c_reg ?_
 refine s_ hs m (ok_move rfl) (b_ m (ok_fieldAddr (r := 17) rfl fd84_6 ty82 rfl) (b_ m (ok_load_sc rfl ty82 (bx_at r0) rfl) (b_ m (ok_len (r := (x_Skipped.length : Int)) m rfl sl82 (rc_fr hx_Skipped) (by simp)) (b_ m (ok_bin rfl rfl rfl) (bn_ ?_)))))
 clear hs a; intro a hs
 refine c_cond hs rfl (fun h12 => ?_) (fun h12 => ?_)
 rotate_left
 ·have h12p := of_decide_eq_false h12
  refine wp_exit ?_
  refine ex_then (ex_then (ex_hit (?_)))
  refine n_then ?_
  refine c_reg ?_
  refine s_ hs m (ok_fieldAddr (r := 16) rfl fd84_5 ty22 rfl) (b_ m (ok_load_sc rfl ty22 (bx_at r0) rfl) (b_ m (ok_fieldAddr (r := 16) rfl fd84_5 ty22 rfl) (b_ m (ok_load_sc rfl ty22 (bx_at r1) rfl) ?_)))
  clear hs a; intro a hs
  refine r_callP hs m rfl rfl ca15 rfl (sameLeases_c vx_Leases x_Leases vy_Leases y_Leases _ (m.rd hx_Leases) (m.rd hy_Leases) ) rfl ?_
  clear m hs a w11; intro w13 m a hs
  refine s_ hs m (ok_assign rfl) (bn_ (bc_ (b_ m (ok_fieldAddr (r := 18) rfl fd84_7 ty29 rfl) (b_ m (ok_load_ag (vs := [vx_Have_Routes.v, vx_Have_Neighs.v, vx_Have_Fdbs.v]) rfl ty29 (bx_at r0) (by kernel_rfl) (by kernel_rfl)) (b_ m (ok_fieldAddr (r := 18) rfl fd84_7 ty29 rfl) (b_ m (ok_load_ag (vs := [vy_Have_Routes.v, vy_Have_Neighs.v, vy_Have_Fdbs.v]) rfl ty29 (bx_at r1) (by kernel_rfl) (by kernel_rfl)) ?_))))))
  clear hs a; intro a hs
  refine r_callP hs m rfl rfl ca14 rfl (sameTables_c vx_Have_Routes x_Have_Routes vx_Have_Neighs x_Have_Neighs vx_Have_Fdbs x_Have_Fdbs vy_Have_Routes y_Have_Routes vy_Have_Neighs y_Have_Neighs vy_Have_Fdbs y_Have_Fdbs _ (m.rd hx_Have_Routes) (m.rd hx_Have_Neighs) (m.rd hx_Have_Fdbs) (m.rd hy_Have_Routes) (m.rd hy_Have_Neighs) (m.rd hy_Have_Fdbs) ) rfl ?_
  clear m hs a w13; intro w14 m a hs
  refine s_ hs m (ok_assign rfl) (bn_ (bc_ (b_ m (ok_move rfl) (b_ m (ok_move rfl) ?_))))
  clear hs a; intro a hs
  refine l_cut (.c (.c (.n))) (fun a w => St 82 [(81, .bool ((decide (x_Leases = y_Leases)) && (decide (x_Have_Routes = y_Have_Routes ∧ x_Have_Neighs = y_Have_Neighs ∧ x_Have_Fdbs = y_Have_Fdbs))))] a ∧ Hp w0 (hh w0) [Bx p1 84 (cVw x_Has x_Lease x_Cursor x_Synced x_Degraded vx_Leases.v vx_Skipped.v vx_Have_Routes.v vx_Have_Neighs.v vx_Have_Fdbs.v), Bx p3 84 (cVw y_Has y_Lease y_Cursor y_Synced y_Degraded vy_Leases.v vy_Skipped.v vy_Have_Routes.v vy_Have_Neighs.v vy_Have_Fdbs.v)] w) ?_ ?_
  ·rcases Bool.eq_false_or_eq_true (decide (x_Leases = y_Leases)) with hb15 | hb15
   ·have hb15p := of_decide_eq_true hb15
    refine sg_ hs hb15 m (ok_move rfl) (b_ m (ok_pick (r := .bool ((decide (x_Leases = y_Leases)) && (decide (x_Have_Routes = y_Have_Routes ∧ x_Have_Neighs = y_Have_Neighs ∧ x_Have_Fdbs = y_Have_Fdbs)))) rfl rfl rfl (by rw [hb15]; rfl)) ?_)
    clear hs a; intro a hs
    exact wpList_nil (n_then ⟨hs.to ⟨rfl, trivial⟩, m⟩)
   ·have hb15p := of_decide_eq_false hb15
    refine so_ hs hb15 (b_ m (ok_pick (r := .bool ((decide (x_Leases = y_Leases)) && (decide (x_Have_Routes = y_Have_Routes ∧ x_Have_Neighs = y_Have_Neighs ∧ x_Have_Fdbs = y_Have_Fdbs)))) rfl rfl rfl (by rw [hb15]; rfl)) ?_)
    clear hs a; intro a hs
    exact wpList_nil (n_then ⟨hs.to ⟨rfl, trivial⟩, m⟩)
  clear hs m a w14; rintro a w16 ⟨hs, m⟩
  refine s_ hs m (ok_assign rfl) (bn_ ?_)
  clear hs a; intro a hs
  refine wp_ret ?_
  refine leave hs (vs := [.bool ((decide (x_Leases = y_Leases)) && (decide (x_Have_Routes = y_Have_Routes ∧ x_Have_Neighs = y_Have_Neighs ∧ x_Have_Fdbs = y_Have_Fdbs)))]) rfl ⟨rfl, trivial⟩ ?_
  refine ⟨?_, m.sub .n⟩
  have q17 : ((decide (x_Leases = y_Leases)) && (decide (x_Have_Routes = y_Have_Routes ∧ x_Have_Neighs = y_Have_Neighs ∧ x_Have_Fdbs = y_Have_Fdbs)) : Bool) = true := by clear hs m; simp [*]
  (rw [q17]; rfl)
 have h12p := of_decide_eq_true h12
 refine wp_skip ?_
 refine n_then ?_
 refine c_seq ?_
 refine wp_block ?_
 refine c_draw m mo (by kernel_rfl) ?_
 refine sq_ hs (ok_fieldAddr (r := 17) rfl fd84_6 ty82 rfl) (bq_ (ok_load_sc rfl ty82 (bx_at r0) rfl) (bq_ (ok_move rfl) ?_))
 clear hs a; intro a hs
 obtain ⟨e18, he19⟩ := get_of_lt (l := x_Skipped) (i := k) (by omega)
 refine elF (c := cPrefix) (e := e18) hs m (x := (.tmp 58)) (ix := (.tmp 59)) rfl rfl sl82 ty44 hx_Skipped (by omega) he19 fun p20 hp21 ok22 => ?_
 refine sq_ hs (ok22 _ _ _ _ _) (bq_ (ok_load_ag (vs := cPrefix e18) rfl ty44 (fr_at hp21) rfl rfl) (bq_ (ok_fieldAddr (r := 17) rfl fd84_6 ty82 rfl) (bq_ (ok_load_sc rfl ty82 (bx_at r1) rfl) (bq_ (ok_move rfl) ?_))))
 clear hs a; intro a hs
 obtain ⟨e23, he24⟩ := get_of_lt (l := y_Skipped) (i := k) (by omega)
 refine elF (c := cPrefix) (e := e23) hs m (x := (.tmp 63)) (ix := (.tmp 64)) rfl rfl sl82 ty44 hy_Skipped (by omega) he24 fun p25 hp26 ok27 => ?_
 refine sq_ hs (ok27 _ _ _ _ _) (bq_ (ok_load_ag (vs := cPrefix e23) rfl ty44 (fr_at hp26) rfl rfl) (bq_ (ok_nev (b := decide (e18 = e23)) rfl rfl eqT44 (fPrefix _) (fPrefix _) (iPrefix e18 e23)) ?_))
 clear hs a; intro a hs
 refine wpQuiet_nil ?_; clear m w11; intro w28 m
 refine c_false hs rfl (by exact ne_same (by assumption) (by assumption) E6) ?_
 refine wp_skip ?_
 refine n_block (n_then ?_)
 refine c_last ?_
 refine s_ hs m (ok_move rfl) (b_ m (ok_add (r := (k : Int) + 1) rfl rfl (wrap_i64 (by omega) (by omega))) (b_ m (ok_assign rfl) (bn_ ?_)))
 clear hs a; intro a hs
 exact ⟨x_Skipped.length - (k + 1), by omega, k + 1, by omega, rfl, hs.to ⟨rfl, rfl, rfl, trivial⟩, m.sub (.c r0 (.c r0 .n))⟩
end Go.Proofs.YtnbpodjbemfpbaaGreat.Fw
set_option linter.all false
set_option maxHeartbeats 4000000
set_option maxRecDepth 100000
namespace Go.Proofs.YtnbpodjbemfpbaaGreat.Fw
open Go
theorem agentQuiet_c (s : TSelf) (vscript : SH) (script : List OqM) (oth : Int) (w0 : World) (hscript : RdN OqR (hh w0) 26 vscript.v script) (A1 : opsSz script ≤ 1048576) : Pure Tryz.prog 8 [.agg ⟨cSelf s⟩, vscript.v, .int .i64 oth] (.bool true) w0 := by
 have hscript0 := hscript
 obtain ⟨cscript, hscriptr, hscriptl, hscripte⟩ := hscript0
 have lvscript := hscriptr.bd
 refine enter (n := 130) Tryz.func8 rfl rfl rfl fun a (hs : St 130 [(0, .agg ⟨cSelf s⟩), (1, vscript.v), (2, .int .i64 oth)] a) => ?_
 have m := Hp.start w0
 rcases Bool.eq_false_or_eq_true (badSelf s) with hbs | hbs
 ·refine c_reg ?_
  refine r_box (cs := cSelf s) hs m rfl rfl rfl ?_
  clear m hs a; intro p1 w2 m a hs
  refine s_ hs m (ok_assign rfl) (bn_ (bc_ ?_))
  clear hs a; intro a hs
  refine r_callP hs m rfl rfl ca10 rfl (begun2_c  _  ) rfl ?_
  clear m hs a w2; intro w3 m a hs
  refine s_ hs m (ok_assign rfl) (bn_ ?_)
  clear hs a; intro a hs
  refine c_seq ?_
  refine c_reg ?_
  refine s_ hs m (ok_move rfl) (b_ m (ok_not rfl) (bn_ ?_))
  clear hs a; intro a hs
  refine c_false hs rfl rfl ?_
  refine wp_skip ?_
  refine n_then ?_
  refine c_reg ?_
  refine s_ hs m (ok_load_ag (vs := cSelf s) rfl ty61 (bx_at r0) rfl rfl) ?_
  clear hs a; intro a hs
  refine r_callP hs m rfl rfl ca26 rfl (newbad_c s _  (by omega)) rfl ?_
  clear m hs a w3; intro w5 m a hs
  refine s_ hs m (ok_move rfl) (b_ m (ok_extract rfl rfl) (b_ m (ok_extract rfl rfl) (b_ m (ok_assign rfl) (b_ m (ok_assign rfl) (bn_ (bc_ (b_ m (ok_load_ag (vs := cSelf s) rfl ty61 (bx_at r0) rfl rfl) ?_)))))))
  clear hs a; intro a hs
  refine r_callP hs m rfl rfl ca26 rfl (newbad_c s _  (by omega)) rfl ?_
  clear m hs a w5; intro w6 m a hs
  refine s_ hs m (ok_move rfl) (b_ m (ok_extract rfl rfl) (b_ m (ok_extract rfl rfl) (b_ m (ok_assign rfl) (b_ m (ok_assign rfl) (bn_ ?_)))))
  clear hs a; intro a hs
  refine c_seq ?_
  refine c_reg ?_
  refine s_ hs m (ok_move rfl) (b_ m (ok_isNilN rfl rfl pt63) (b_ m (ok_move rfl) (bo_ rfl (bo_ rfl (b_ m (ok_pick (r := .bool true) rfl rfl rfl rfl) (b_ m (ok_move rfl) (bo_ rfl (bo_ rfl (b_ m (ok_pick (r := .bool true) rfl rfl rfl rfl) (b_ m (ok_move rfl) (bo_ rfl ?_)))))))))))
  clear hs a; intro a hs
  refine so_ hs rfl (b_ m (ok_pick (r := .bool true) rfl rfl rfl rfl) (bn_ ?_))
  clear hs a; intro a hs
  refine c_true hs rfl rfl ?_
  refine c_reg ?_
  refine s_ hs m (ok_fieldAddr (r := 0) rfl fd61_0 ty3 rfl) (b_ m (ok_load_sc rfl ty3 (bx_at r0) rfl) (b_ m (ok_bin rfl rfl rfl) (b_ m (ok_move rfl) ?_)))
  clear hs a; intro a hs
  refine l_cut (.c (.c (.c (.c (.n))))) (fun a w => St 130 [(3, .pointer (some (padd p1 0))), (54, .bool ((decide (s.Host.v < 0)) || (decide (s.Host.v > 63))))] a ∧ Hp w0 (hh w0) [Bx p1 61 (cSelf s)] w) ?_ ?_
  ·rcases Bool.eq_false_or_eq_true (decide (s.Host.v < 0)) with hb8 | hb8
   ·have hb8p := of_decide_eq_true hb8
    refine so_ hs hb8 (bo_ hb8 (bo_ hb8 (b_ m (ok_pick (r := .bool ((decide (s.Host.v < 0)) || (decide (s.Host.v > 63)))) rfl rfl rfl (by rw [hb8]; rfl)) ?_)))
    clear hs a; intro a hs
    exact wpList_nil (n_then ⟨hs.to ⟨rfl, rfl, trivial⟩, m⟩)
   ·have hb8p := of_decide_eq_false hb8
    refine sg_ hs hb8 m (ok_fieldAddr (r := 0) rfl fd61_0 ty3 rfl) (bg_ hb8 m (ok_load_sc rfl ty3 (bx_at r0) rfl) (bg_ hb8 m (ok_bin rfl rfl rfl) (b_ m (ok_pick (r := .bool ((decide (s.Host.v < 0)) || (decide (s.Host.v > 63)))) rfl rfl rfl (by rw [hb8]; rfl)) ?_)))
    clear hs a; intro a hs
    exact wpList_nil (n_then ⟨hs.to ⟨rfl, rfl, trivial⟩, m⟩)
  clear hs m a w6; rintro a w9 ⟨hs, m⟩
  refine s_ hs m (ok_move rfl) ?_
  clear hs a; intro a hs
  refine l_cut (.c (.c (.c (.c (.n))))) (fun a w => St 130 [(3, .pointer (some (padd p1 0))), (59, .bool (((decide (s.Host.v < 0)) || (decide (s.Host.v > 63))) || (decide (s.Renew.v < 1))))] a ∧ Hp w0 (hh w0) [Bx p1 61 (cSelf s)] w) ?_ ?_
  ·rcases Bool.eq_false_or_eq_true ((decide (s.Host.v < 0)) || (decide (s.Host.v > 63))) with hb10 | hb10
   ·have hb10p := hb10; simp only [bp_] at hb10p
    refine so_ hs hb10 (bo_ hb10 (bo_ hb10 (b_ m (ok_pick (r := .bool (((decide (s.Host.v < 0)) || (decide (s.Host.v > 63))) || (decide (s.Renew.v < 1)))) rfl rfl rfl (by rw [hb10]; rfl)) ?_)))
    clear hs a; intro a hs
    exact wpList_nil (n_then ⟨hs.to ⟨rfl, rfl, trivial⟩, m⟩)
   ·have hb10p := hb10; simp only [bp_] at hb10p
    refine sg_ hs hb10 m (ok_fieldAddr (r := 8) rfl fd61_3 ty2 rfl) (bg_ hb10 m (ok_load_sc rfl ty2 (bx_at r0) rfl) (bg_ hb10 m (ok_bin rfl rfl rfl) (b_ m (ok_pick (r := .bool (((decide (s.Host.v < 0)) || (decide (s.Host.v > 63))) || (decide (s.Renew.v < 1)))) rfl rfl rfl (by rw [hb10]; rfl)) ?_)))
    clear hs a; intro a hs
    exact wpList_nil (n_then ⟨hs.to ⟨rfl, rfl, trivial⟩, m⟩)
  clear hs m a w9; rintro a w11 ⟨hs, m⟩
  refine s_ hs m (ok_move rfl) ?_
  clear hs a; intro a hs
  refine l_cut (.c (.c (.c (.c (.n))))) (fun a w => St 130 [(64, .bool ((((decide (s.Host.v < 0)) || (decide (s.Host.v > 63))) || (decide (s.Renew.v < 1))) || (decide (s.Renew.v > 1099511627776))))] a ∧ Hp w0 (hh w0) [Bx p1 61 (cSelf s)] w) ?_ ?_
  ·rcases Bool.eq_false_or_eq_true (((decide (s.Host.v < 0)) || (decide (s.Host.v > 63))) || (decide (s.Renew.v < 1))) with hb12 | hb12
   ·have hb12p := hb12; simp only [bp_] at hb12p
    refine so_ hs hb12 (bo_ hb12 (bo_ hb12 (b_ m (ok_pick (r := .bool ((((decide (s.Host.v < 0)) || (decide (s.Host.v > 63))) || (decide (s.Renew.v < 1))) || (decide (s.Renew.v > 1099511627776)))) rfl rfl rfl (by rw [hb12]; rfl)) ?_)))
    clear hs a; intro a hs
    exact wpList_nil (n_then ⟨hs.to ⟨rfl, trivial⟩, m⟩)
   ·have hb12p := hb12; simp only [bp_] at hb12p
    refine sg_ hs hb12 m (ok_fieldAddr (r := 8) rfl fd61_3 ty2 rfl) (bg_ hb12 m (ok_load_sc rfl ty2 (bx_at r0) rfl) (bg_ hb12 m (ok_bin rfl rfl rfl) (b_ m (ok_pick (r := .bool ((((decide (s.Host.v < 0)) || (decide (s.Host.v > 63))) || (decide (s.Renew.v < 1))) || (decide (s.Renew.v > 1099511627776)))) rfl rfl rfl (by rw [hb12]; rfl)) ?_)))
    clear hs a; intro a hs
    exact wpList_nil (n_then ⟨hs.to ⟨rfl, trivial⟩, m⟩)
  clear hs m a w11; rintro a w13 ⟨hs, m⟩
  refine s_ hs m (ok_assign rfl) (bn_ ?_)
  clear hs a; intro a hs
  refine wp_ret ?_
  refine ret_then (leave hs (vs := [.bool ((((decide (s.Host.v < 0)) || (decide (s.Host.v > 63))) || (decide (s.Renew.v < 1))) || (decide (s.Renew.v > 1099511627776)))]) rfl ⟨rfl, trivial⟩ ?_)
  refine ⟨?_, m.sub .n⟩
  have q14 : ((((decide (s.Host.v < 0)) || (decide (s.Host.v > 63))) || (decide (s.Renew.v < 1))) || (decide (s.Renew.v > 1099511627776)) : Bool) = true := by clear hs m; exact hbs
  (rw [q14]; rfl)
 ·refine c_reg ?_
  refine r_box (cs := cSelf s) hs m rfl rfl rfl ?_
  clear m hs a; intro p15 w16 m a hs
  refine s_ hs m (ok_assign rfl) (bn_ (bc_ ?_))
  clear hs a; intro a hs
  refine r_callP hs m rfl rfl ca10 rfl (begun2_c  _  ) rfl ?_
  clear m hs a w16; intro w17 m a hs
  refine s_ hs m (ok_assign rfl) (bn_ ?_)
  clear hs a; intro a hs
  refine c_seq ?_
  refine c_reg ?_
  refine s_ hs m (ok_move rfl) (b_ m (ok_not rfl) (bn_ ?_))
  clear hs a; intro a hs
  refine c_false hs rfl rfl ?_
  refine wp_skip ?_
  refine n_then ?_
  refine c_reg ?_
  refine s_ hs m (ok_load_ag (vs := cSelf s) rfl ty61 (bx_at r0) rfl rfl) ?_
  clear hs a; intro a hs
  refine r_call hs rfl rfl ca26 rfl (newok_c s _  (by omega)) rfl ?_
  clear hs a; rintro _ w20 ⟨v19, rfl, hm⟩ a hs
  replace m : Hp w0 (hh w0) [AgP v19 (newA s), Bx p15 61 (cSelf s)] w20 := m.after hm
  clear hm w17
  refine s_ hs m (ok_move rfl) (b_ m (ok_extract rfl rfl) (b_ m (ok_extract rfl rfl) (b_ m (ok_assign rfl) (b_ m (ok_assign rfl) (bn_ (bc_ (b_ m (ok_load_ag (vs := cSelf s) rfl ty61 (bx_at r1) rfl rfl) ?_)))))))
  clear hs a; intro a hs
  refine r_call hs rfl rfl ca26 rfl (newok_c s _  (by omega)) rfl ?_
  clear hs a; rintro _ w22 ⟨v21, rfl, hm⟩ a hs
  replace m : Hp w0 (hh w0) [AgP v21 (newA s), AgP v19 (newA s), Bx p15 61 (cSelf s)] w22 := m.after hm
  clear hm w20
  refine s_ hs m (ok_move rfl) (b_ m (ok_extract rfl rfl) (b_ m (ok_extract rfl rfl) (b_ m (ok_assign rfl) (b_ m (ok_assign rfl) (bn_ ?_)))))
  clear hs a; intro a hs
  refine c_seq ?_
  refine c_reg ?_
  refine s_ hs m (ok_move rfl) (b_ m (ok_isNilP rfl rfl pt63) (b_ m (ok_move rfl) (bg_ rfl m (ok_move rfl) (bg_ rfl m (ok_isNilP rfl rfl pt63) (b_ m (ok_pick (r := .bool false) rfl rfl rfl rfl) (b_ m (ok_move rfl) (bg_ rfl m (ok_move rfl) (bg_ rfl m (ok_bin (v := .bool false) rfl rfl rfl) (b_ m (ok_pick (r := .bool false) rfl rfl rfl rfl) (b_ m (ok_move rfl) (bg_ rfl m (ok_move rfl) ?_)))))))))))
  clear hs a; intro a hs
  refine sg_ hs rfl m (ok_bin (v := .bool false) rfl rfl rfl) (b_ m (ok_pick (r := .bool false) rfl rfl rfl rfl) (bn_ ?_))
  clear hs a; intro a hs
  refine c_false hs rfl rfl ?_
  refine wp_skip ?_
  refine n_then ?_
  refine c_reg ?_
  refine s_ hs m (ok_assign rfl) (bn_ ?_)
  clear hs a; intro a hs
  refine c_seq ?_
  refine c_reg ?_
  refine s_ hs m (ok_assign rfl) (bn_ ?_)
  clear hs a; intro a hs
  refine wp_block ?_
  have q24 : newA s = (gK s script 0) := by clear hs m; exact gK_0
  replace m := m.swp (q := AgP v19 (gK s script 0)) s1 (fun _ e => by rw [← q24]; exact e)
  have q25 : newA s = (gK s script 0) := by clear hs m; exact gK_0
  replace m := m.swp (q := AgP v21 (gK s script 0)) s0 (fun _ e => by rw [← q25]; exact e)
  refine wp_loop_ghost (fun gn a w => ∃ k : Nat, ∃ op : Bool, (k ≤ script.length) ∧ (op = false → (gK s script k).opn.Kind.v = 0) ∧ gn = script.length - k ∧ St 130 [(1, vscript.v), (2, .int .i64 oth), (8, .pointer (some (padd v19 0))), (10, .pointer (some (padd v21 0))), (12, .bool op), (13, .int .i64 (k : Int))] a ∧ Hp w0 (hh w0) [AgP v19 (gK s script k), AgP v21 (gK s script k)] w) (script.length - 0) ⟨0, false, by omega, by (intro _; rw [← gK_0]; rfl), rfl, hs.to ⟨rfl, rfl, rfl, rfl, rfl, rfl, trivial⟩, m.sub (.c r1 (.c r0 .n))⟩ ?_
  clear hs m a w22
  rintro gn a w26 ⟨k, op, hk, hop, rfl, hs, m⟩
  have hgs := gK_sz (s := s) A1 (k := k) (by omega)
  refine c_seq ?_
  refine c_reg ?_
  refine s_ hs m (ok_move rfl) (b_ m (ok_move rfl) (b_ m (ok_len (r := (cscript.length : Int)) m rfl sl62 (rc_fr hscriptr) (by simp)) (b_ m (ok_bin rfl rfl rfl) (bn_ ?_))))
  clear hs a; intro a hs
  refine c_cond hs rfl (fun h27 => ?_) (fun h27 => ?_)
  rotate_left
  ·have h27p := of_decide_eq_false h27
   refine wp_exit ?_
   refine ex_then (ex_then (ex_hit (?_)))
   refine n_then ?_
   refine c_reg ?_
   refine s_ hs m (ok_move rfl) ?_
   clear hs a; intro a hs
   refine r_call hs rfl rfl ca30 rfl (view_c v19 (gK s script k) _ (m.rdAg r0) (by omega) (by omega) (by omega) (by omega) (by omega)) rfl ?_
   clear hs a; rintro _ w33 ⟨v28, v29, v30, v31, v32, rfl, hm⟩ a hs
   replace m : Hp w0 (hh w0) [Sv 12 48 v28.v (((gK s script k).view).map cLease), Sv 2 44 v29.v (((gK s script k).skipped).map cPrefix), Sv 4 51 v30.v (((gK s script k).Routes).map cRoute), Sv 7 54 v31.v (((gK s script k).Neighs).map cNeigh), Sv 7 56 v32.v (((gK s script k).Fdbs).map cFdb), AgP v19 (gK s script k), AgP v21 (gK s script k)] w33 := m.after hm
   clear hm w26
   refine r_alloc hs m ze84 rfl ?_
   clear m hs a w33; intro p34 w35 m a hs
   refine st_ (cVw (decide (ownI (gK s script k).self.Host.v (gK s script k).view ≥ 0)) (vwLease (gK s script k)) ((gK s script k).cursor) (vwSync (gK s script k)) ((gK s script k).degraded) v28.v v29.v v30.v v31.v v32.v) (cVw (decide (ownI (gK s script k).self.Host.v (gK s script k).view ≥ 0)) (vwLease (gK s script k)) ((gK s script k).cursor) (vwSync (gK s script k)) ((gK s script k).degraded) v28.v v29.v v30.v v31.v v32.v) hs m ty84 s0 ?_
   clear m w35; intro w36 m
   refine wpList_nil (n_then ?_)
   refine c_reg ?_
   refine s_ hs m (ok_move rfl) ?_
   clear hs a; intro a hs
   refine r_call hs rfl rfl ca30 rfl (view_c v21 (gK s script k) _ (m.rdAg r7) (by omega) (by omega) (by omega) (by omega) (by omega)) rfl ?_
   clear hs a; rintro _ w42 ⟨v37, v38, v39, v40, v41, rfl, hm⟩ a hs
   replace m : Hp w0 (hh w0) [Sv 12 48 v37.v (((gK s script k).view).map cLease), Sv 2 44 v38.v (((gK s script k).skipped).map cPrefix), Sv 4 51 v39.v (((gK s script k).Routes).map cRoute), Sv 7 54 v40.v (((gK s script k).Neighs).map cNeigh), Sv 7 56 v41.v (((gK s script k).Fdbs).map cFdb), Bx p34 84 (cVw (decide (ownI (gK s script k).self.Host.v (gK s script k).view ≥ 0)) (vwLease (gK s script k)) ((gK s script k).cursor) (vwSync (gK s script k)) ((gK s script k).degraded) v28.v v29.v v30.v v31.v v32.v), Sv 12 48 v28.v (((gK s script k).view).map cLease), Sv 2 44 v29.v (((gK s script k).skipped).map cPrefix), Sv 4 51 v30.v (((gK s script k).Routes).map cRoute), Sv 7 54 v31.v (((gK s script k).Neighs).map cNeigh), Sv 7 56 v32.v (((gK s script k).Fdbs).map cFdb), AgP v19 (gK s script k), AgP v21 (gK s script k)] w42 := m.after hm
   clear hm w36
   refine r_alloc hs m ze84 rfl ?_
   clear m hs a w42; intro p43 w44 m a hs
   refine st_ (cVw (decide (ownI (gK s script k).self.Host.v (gK s script k).view ≥ 0)) (vwLease (gK s script k)) ((gK s script k).cursor) (vwSync (gK s script k)) ((gK s script k).degraded) v37.v v38.v v39.v v40.v v41.v) (cVw (decide (ownI (gK s script k).self.Host.v (gK s script k).view ≥ 0)) (vwLease (gK s script k)) ((gK s script k).cursor) (vwSync (gK s script k)) ((gK s script k).degraded) v37.v v38.v v39.v v40.v v41.v) hs m ty84 s0 ?_
   clear m w44; intro w45 m
   refine wpList_nil (n_then ?_)
   refine c_reg ?_
   refine s_ hs m (ok_load_ag (vs := cVw (decide (ownI (gK s script k).self.Host.v (gK s script k).view ≥ 0)) (vwLease (gK s script k)) ((gK s script k).cursor) (vwSync (gK s script k)) ((gK s script k).degraded) v28.v v29.v v30.v v31.v v32.v) rfl ty84 (bx_at r6) (by kernel_rfl) (by kernel_rfl)) (b_ m (ok_load_ag (vs := cVw (decide (ownI (gK s script k).self.Host.v (gK s script k).view ≥ 0)) (vwLease (gK s script k)) ((gK s script k).cursor) (vwSync (gK s script k)) ((gK s script k).degraded) v37.v v38.v v39.v v40.v v41.v) rfl ty84 (bx_at r0) (by kernel_rfl) (by kernel_rfl)) ?_)
   clear hs a; intro a hs
   refine r_callP hs m rfl rfl ca33 rfl (sameView_c (decide (ownI (gK s script k).self.Host.v (gK s script k).view ≥ 0)) (vwLease (gK s script k)) ((gK s script k).cursor) (vwSync (gK s script k)) ((gK s script k).degraded) v28 ((gK s script k).view) v29 ((gK s script k).skipped) v30 ((gK s script k).Routes) v31 ((gK s script k).Neighs) v32 ((gK s script k).Fdbs) (decide (ownI (gK s script k).self.Host.v (gK s script k).view ≥ 0)) (vwLease (gK s script k)) ((gK s script k).cursor) (vwSync (gK s script k)) ((gK s script k).degraded) v37 ((gK s script k).view) v38 ((gK s script k).skipped) v39 ((gK s script k).Routes) v40 ((gK s script k).Neighs) v41 ((gK s script k).Fdbs) _ (m.rdv r7) (m.rdv r8) (m.rdv r9) (m.rdv r10) (m.rdv r11) (m.rdv r1) (m.rdv r2) (m.rdv r3) (m.rdv r4) (m.rdv r5) (by rfl) (by rfl) (by rfl) (by rfl) (by rfl) (by rfl) (by rfl) (by rfl) (by rfl) (by rfl)) rfl ?_
   clear m hs a w45; intro w46 m a hs
   refine s_ hs m (ok_assign rfl) (bn_ ?_)
   clear hs a; intro a hs
   refine wp_ret ?_
   refine leave hs (vs := [.bool true]) rfl ⟨rfl, trivial⟩ ?_
   refine ⟨?_, m.sub .n⟩
   rfl
  have h27p := of_decide_eq_true h27
  refine wp_skip ?_
  refine n_then ?_
  refine c_seq ?_
  refine wp_block ?_
  refine c_reg ?_
  refine s_ hs m (ok_move rfl) (b_ m (ok_move rfl) ?_)
  clear hs a; intro a hs
  obtain ⟨e47, he48⟩ := get_of_lt (l := cscript) (i := k) (by omega)
  obtain ⟨o49, ho50⟩ := get_of_lt (l := script) (i := k) (by omega)
  obtain ⟨x51, x52, x53, x54, x55, rfl, hx56, hx57, hx58, hx59, hx60⟩ := hscripte _ _ _ he48 ho50
  have lx51 := hx56.bd
  have lx52 := hx57.bd
  have lx53 := hx58.bd
  have lx54 := hx59.bd
  have lx55 := hx60.bd
  refine elF (c := id) (e := (cOq o49.Kind o49.On o49.Now o49.Err o49.Answer o49.Rev o49.Snap_Now x51.v x52.v x53.v x54.v x55.v : List Value)) hs m (x := (.tmp 71)) (ix := (.tmp 72)) rfl rfl sl62 ty79 hscriptr (by omega) he48 fun p61 hp62 ok63 => ?_
  refine s_ hs m (ok63 _ _ _ _ _) (b_ m (ok_load_ag (vs := cOq o49.Kind o49.On o49.Now o49.Err o49.Answer o49.Rev o49.Snap_Now x51.v x52.v x53.v x54.v x55.v) rfl ty79 (fr_at hp62) (by kernel_rfl) (by kernel_rfl)) ?_)
  clear hs a; intro a hs
  refine r_alloc hs m ze79 rfl ?_
  clear m hs a w26; intro p64 w65 m a hs
  refine st_ (cOq o49.Kind o49.On o49.Now o49.Err o49.Answer o49.Rev o49.Snap_Now x51.v x52.v x53.v x54.v x55.v) (cOq o49.Kind o49.On o49.Now o49.Err o49.Answer o49.Rev o49.Snap_Now x51.v x52.v x53.v x54.v x55.v) hs m ty79 s0 ?_
  clear m w65; intro w66 m
  refine wpList_nil (n_then ?_)
  refine c_reg ?_
  refine s_ hs m (ok_move rfl) ?_
  clear hs a; intro a hs
  refine r_call hs rfl rfl ca30 rfl (view_c v21 (gK s script k) _ (m.rdAg r2) (by omega) (by omega) (by omega) (by omega) (by omega)) rfl ?_
  clear hs a; rintro _ w72 ⟨v67, v68, v69, v70, v71, rfl, hm⟩ a hs
  replace m : Hp w0 (hh w0) [Sv 12 48 v67.v (((gK s script k).view).map cLease), Sv 2 44 v68.v (((gK s script k).skipped).map cPrefix), Sv 4 51 v69.v (((gK s script k).Routes).map cRoute), Sv 7 54 v70.v (((gK s script k).Neighs).map cNeigh), Sv 7 56 v71.v (((gK s script k).Fdbs).map cFdb), Bx p64 79 (cOq o49.Kind o49.On o49.Now o49.Err o49.Answer o49.Rev o49.Snap_Now x51.v x52.v x53.v x54.v x55.v), AgP v19 (gK s script k), AgP v21 (gK s script k)] w72 := m.after hm
  clear hm w66
  refine wpList_nil (n_then ?_)
  refine c_reg ?_
  refine s_ hs m (ok_fieldAddr (r := 0) rfl fd79_0 ty3 rfl) (b_ m (ok_load_sc rfl ty3 (bx_at r5) rfl) (bn_ ?_))
  clear hs a; intro a hs
  refine wp_block ?_
  refine c_reg ?_
  refine s_ hs m (ok_bin rfl rfl rfl) (b_ m (ok_assign rfl) (bn_ ?_))
  clear hs a; intro a hs
  refine c_cond hs rfl (fun h73 => ?_) (fun h73 => ?_)
  ·have h73p := eq_of_beq h73
   refine c_reg ?_
   refine s_ hs m (ok_move rfl) (b_ m (ok_fieldAddr (r := 2) rfl fd79_2 ty2 rfl) (b_ m (ok_load_sc rfl ty2 (bx_at r5) rfl) ?_))
   clear hs a; intro a hs
   obtain ⟨R1, hR, hR2, ⟨y1, sy, ly⟩, mc, back⟩ := Hp.split (Pc := [AgP v19 (gK s script k)]) (Ps := [Sv 12 48 v67.v (((gK s script k).view).map cLease), Sv 2 44 v68.v (((gK s script k).skipped).map cPrefix), Sv 4 51 v69.v (((gK s script k).Routes).map cRoute), Sv 7 54 v70.v (((gK s script k).Neighs).map cNeigh), Sv 7 56 v71.v (((gK s script k).Fdbs).map cFdb), Bx p64 79 (cOq o49.Kind o49.On o49.Now o49.Err o49.Answer o49.Rev o49.Snap_Now x51.v x52.v x53.v x54.v x55.v), AgP v21 (gK s script k)]) (m.sub (.c r6 (.c r0 (.c r0 (.c r0 (.c r0 (.c r0 (.c r0 (.c r0 .n)))))))))
   refine r_call hs rfl rfl ca31 rfl (next_c v19 (gK s script k) o49.Now.v _ R1  (by omega) (by omega) (by omega) (by omega) mc) rfl ?_
   clear hs a; rintro _ w74 ⟨rfl, hm⟩ a hs
   replace m : Hp w0 (hh w0) [AgP v19 (nextA (gK s script k) o49.Now.v), Sv 12 48 v67.v (((gK s script k).view).map cLease), Sv 2 44 v68.v (((gK s script k).skipped).map cPrefix), Sv 4 51 v69.v (((gK s script k).Routes).map cRoute), Sv 7 54 v70.v (((gK s script k).Neighs).map cNeigh), Sv 7 56 v71.v (((gK s script k).Fdbs).map cFdb), Bx p64 79 (cOq o49.Kind o49.On o49.Now o49.Err o49.Answer o49.Rev o49.Snap_Now x51.v x52.v x53.v x54.v x55.v), AgP v21 (gK s script k)] w74 := back _ _ hm
   clear hm back mc sy ly hR2 hR y1 R1 w72
   refine r_alloc hs m ze89 rfl ?_
   clear m hs a w74; intro p75 w76 m a hs
   refine st_ (cReq (nextQ (gK s script k) o49.Now.v)) (cReq (nextQ (gK s script k) o49.Now.v)) hs m ty89 s0 ?_
   clear m w76; intro w77 m
   refine wpList_nil (n_then ?_)
   refine c_reg ?_
   refine s_ hs m (ok_move rfl) (b_ m (ok_fieldAddr (r := 2) rfl fd79_2 ty2 rfl) (b_ m (ok_load_sc rfl ty2 (bx_at r7) rfl) ?_))
   clear hs a; intro a hs
   obtain ⟨R1, hR, hR2, ⟨y1, sy, ly⟩, mc, back⟩ := Hp.split (Pc := [AgP v21 (gK s script k)]) (Ps := [Bx p75 89 (cReq (nextQ (gK s script k) o49.Now.v)), AgP v19 (nextA (gK s script k) o49.Now.v), Sv 12 48 v67.v (((gK s script k).view).map cLease), Sv 2 44 v68.v (((gK s script k).skipped).map cPrefix), Sv 4 51 v69.v (((gK s script k).Routes).map cRoute), Sv 7 54 v70.v (((gK s script k).Neighs).map cNeigh), Sv 7 56 v71.v (((gK s script k).Fdbs).map cFdb), Bx p64 79 (cOq o49.Kind o49.On o49.Now o49.Err o49.Answer o49.Rev o49.Snap_Now x51.v x52.v x53.v x54.v x55.v)]) (m.sub (.c r8 (.c r0 (.c r0 (.c r0 (.c r0 (.c r0 (.c r0 (.c r0 (.c r0 .n))))))))))
   refine r_call hs rfl rfl ca31 rfl (next_c v21 (gK s script k) o49.Now.v _ R1  (by omega) (by omega) (by omega) (by omega) mc) rfl ?_
   clear hs a; rintro _ w78 ⟨rfl, hm⟩ a hs
   replace m : Hp w0 (hh w0) [AgP v21 (nextA (gK s script k) o49.Now.v), Bx p75 89 (cReq (nextQ (gK s script k) o49.Now.v)), AgP v19 (nextA (gK s script k) o49.Now.v), Sv 12 48 v67.v (((gK s script k).view).map cLease), Sv 2 44 v68.v (((gK s script k).skipped).map cPrefix), Sv 4 51 v69.v (((gK s script k).Routes).map cRoute), Sv 7 54 v70.v (((gK s script k).Neighs).map cNeigh), Sv 7 56 v71.v (((gK s script k).Fdbs).map cFdb), Bx p64 79 (cOq o49.Kind o49.On o49.Now o49.Err o49.Answer o49.Rev o49.Snap_Now x51.v x52.v x53.v x54.v x55.v)] w78 := back _ _ hm
   clear hm back mc sy ly hR2 hR y1 R1 w77
   refine r_alloc hs m ze89 rfl ?_
   clear m hs a w78; intro p79 w80 m a hs
   refine st_ (cReq (nextQ (gK s script k) o49.Now.v)) (cReq (nextQ (gK s script k) o49.Now.v)) hs m ty89 s0 ?_
   clear m w80; intro w81 m
   refine wpList_nil (n_then ?_)
   refine c_reg ?_
   refine s_ hs m (ok_move rfl) (b_ m (ok_move rfl) ?_)
   clear hs a; intro a hs
   obtain ⟨R1, hR, hR2, ⟨y1, sy, ly⟩, mc, back⟩ := Hp.split (Pc := [AgP v21 (nextA (gK s script k) o49.Now.v)]) (Ps := [Bx p79 89 (cReq (nextQ (gK s script k) o49.Now.v)), Bx p75 89 (cReq (nextQ (gK s script k) o49.Now.v)), AgP v19 (nextA (gK s script k) o49.Now.v), Sv 12 48 v67.v (((gK s script k).view).map cLease), Sv 2 44 v68.v (((gK s script k).skipped).map cPrefix), Sv 4 51 v69.v (((gK s script k).Routes).map cRoute), Sv 7 54 v70.v (((gK s script k).Neighs).map cNeigh), Sv 7 56 v71.v (((gK s script k).Fdbs).map cFdb), Bx p64 79 (cOq o49.Kind o49.On o49.Now o49.Err o49.Answer o49.Rev o49.Snap_Now x51.v x52.v x53.v x54.v x55.v)]) (m.sub (.c r1 (.c r0 (.c r0 (.c r0 (.c r0 (.c r0 (.c r0 (.c r0 (.c r0 (.c r0 .n)))))))))))
   refine r_call hs rfl rfl ca31 rfl (next_c v21 (nextA (gK s script k) o49.Now.v) oth _ R1  (by (simp only [nextA]; omega)) (by (simp only [nextA]; omega)) (by (simp only [nextA]; omega)) (by (simp only [nextA]; omega)) mc) rfl ?_
   clear hs a; rintro _ w82 ⟨rfl, hm⟩ a hs
   replace m : Hp w0 (hh w0) [AgP v21 (nextA (nextA (gK s script k) o49.Now.v) oth), Bx p79 89 (cReq (nextQ (gK s script k) o49.Now.v)), Bx p75 89 (cReq (nextQ (gK s script k) o49.Now.v)), AgP v19 (nextA (gK s script k) o49.Now.v), Sv 12 48 v67.v (((gK s script k).view).map cLease), Sv 2 44 v68.v (((gK s script k).skipped).map cPrefix), Sv 4 51 v69.v (((gK s script k).Routes).map cRoute), Sv 7 54 v70.v (((gK s script k).Neighs).map cNeigh), Sv 7 56 v71.v (((gK s script k).Fdbs).map cFdb), Bx p64 79 (cOq o49.Kind o49.On o49.Now o49.Err o49.Answer o49.Rev o49.Snap_Now x51.v x52.v x53.v x54.v x55.v)] w82 := back _ _ hm
   clear hm back mc sy ly hR2 hR y1 R1 w81
   refine r_alloc hs m ze89 rfl ?_
   clear m hs a w82; intro p83 w84 m a hs
   refine st_ (cReq (nextQ (nextA (gK s script k) o49.Now.v) oth)) (cReq (nextQ (nextA (gK s script k) o49.Now.v) oth)) hs m ty89 s0 ?_
   clear m w84; intro w85 m
   refine wpList_nil (n_then ?_)
   refine c_seq ?_
   refine c_reg ?_
   refine s_ hs m (ok_load_ag (vs := cReq (nextQ (gK s script k) o49.Now.v)) rfl ty89 (bx_at r3) (by kernel_rfl) (by kernel_rfl)) (b_ m (ok_load_ag (vs := cReq (nextQ (gK s script k) o49.Now.v)) rfl ty89 (bx_at r2) (by kernel_rfl) (by kernel_rfl)) (b_ m (ok_nev (b := decide (nextQ (gK s script k) o49.Now.v = nextQ (gK s script k) o49.Now.v)) rfl rfl eqT89 (fReq _) (fReq _) (iReq (nextQ (gK s script k) o49.Now.v) (nextQ (gK s script k) o49.Now.v))) (b_ m (ok_move rfl) ?_)))
   clear hs a; intro a hs
   have hb86 : (!(decide (nextQ (gK s script k) o49.Now.v = nextQ (gK s script k) o49.Now.v))) = false := by simp [nextQ_idem]
   refine sg_ hs hb86 m (ok_load_ag (vs := cReq (nextQ (nextA (gK s script k) o49.Now.v) oth)) rfl ty89 (bx_at r0) (by kernel_rfl) (by kernel_rfl)) (bg_ hb86 m (ok_load_ag (vs := cReq (nextQ (gK s script k) o49.Now.v)) rfl ty89 (bx_at r2) (by kernel_rfl) (by kernel_rfl)) (bg_ hb86 m (ok_nev (b := decide (nextQ (nextA (gK s script k) o49.Now.v) oth = nextQ (gK s script k) o49.Now.v)) rfl rfl eqT89 (fReq _) (fReq _) (iReq (nextQ (nextA (gK s script k) o49.Now.v) oth) (nextQ (gK s script k) o49.Now.v))) (b_ m (ok_pick (r := .bool (!(decide (nextQ (nextA (gK s script k) o49.Now.v) oth = nextQ (gK s script k) o49.Now.v)))) rfl rfl rfl (by rw [hb86]; rfl)) (bn_ ?_))))
   clear hs a; intro a hs
   refine c_false hs rfl (by simp [nextQ_idem]) ?_
   refine wp_skip ?_
   refine n_then ?_
   refine c_last ?_
   refine s_ hs m (ok_assign rfl) ?_
   clear hs a; intro a hs
   refine wpList_nil (n_block (n_block (n_then ?_)))
   refine c_last ?_
   refine s_ hs m (ok_move rfl) (b_ m (ok_add (r := (k : Int) + 1) rfl rfl (wrap_i64 (by omega) (by omega))) (b_ m (ok_assign rfl) (bn_ ?_)))
   clear hs a; intro a hs
   have q88 : nextA (gK s script k) o49.Now.v = (gK s script (k + 1)) := by clear hs m; exact gK_q (by assumption) (by omega)
   replace m := m.swp (q := AgP v19 (gK s script (k + 1))) s4 (fun _ e => by rw [← q88]; exact e)
   have q89 : nextA (nextA (gK s script k) o49.Now.v) oth = (gK s script (k + 1)) := by clear hs m; exact gK_q2 (by assumption) (by omega)
   replace m := m.swp (q := AgP v21 (gK s script (k + 1))) s1 (fun _ e => by rw [← q89]; exact e)
   exact ⟨script.length - (k + 1), by omega, k + 1, true, by omega, by (intro h; cases h), rfl, hs.to ⟨rfl, rfl, rfl, rfl, rfl, rfl, trivial⟩, m.sub (.c r4 (.c r1 .n))⟩
  have h73p := ne_of_beq_false h73
  refine c_reg ?_
  refine s_ hs m (ok_bin rfl rfl rfl) (b_ m (ok_assign rfl) (bn_ ?_))
  clear hs a; intro a hs
  refine c_cond hs rfl (fun h90 => ?_) (fun h90 => ?_)
  ·have h90p := eq_of_beq h90
   refine c_reg ?_
   refine s_ hs m (ok_move rfl) (b_ m (ok_fieldAddr (r := 3) rfl fd79_3 ty77 rfl) (b_ m (ok_load_ag (vs := cRe o49.Err o49.Answer o49.Rev o49.Snap_Now x51.v x52.v x53.v x54.v x55.v) rfl ty77 (bx_at r5) (by kernel_rfl) (by kernel_rfl)) ?_))
   clear hs a; intro a hs
   obtain ⟨R1, hR, hR2, ⟨y1, sy, ly⟩, mc, back⟩ := Hp.split (Pc := [AgP v19 (gK s script k)]) (Ps := [Sv 12 48 v67.v (((gK s script k).view).map cLease), Sv 2 44 v68.v (((gK s script k).skipped).map cPrefix), Sv 4 51 v69.v (((gK s script k).Routes).map cRoute), Sv 7 54 v70.v (((gK s script k).Neighs).map cNeigh), Sv 7 56 v71.v (((gK s script k).Fdbs).map cFdb), Bx p64 79 (cOq o49.Kind o49.On o49.Now o49.Err o49.Answer o49.Rev o49.Snap_Now x51.v x52.v x53.v x54.v x55.v), AgP v21 (gK s script k)]) (m.sub (.c r6 (.c r0 (.c r0 (.c r0 (.c r0 (.c r0 (.c r0 (.c r0 .n)))))))))
   refine r_call hs rfl rfl ca32 rfl (done_c v19 (gK s script k) o49.Err o49.Answer o49.Rev o49.Snap_Now x51 o49.Leases x52 o49.Events x53 o49.Routes x54 o49.Neighs x55 o49.Fdbs _ R1 (hx56.le hR) (hx57.le hR) (hx58.le hR) (hx59.le hR) (hx60.le hR) (by omega) (by omega) (by omega) (by omega) (by omega) (by (have q := op_sz A1 (by assumption); omega)) (by (have q := op_sz A1 (by assumption); omega)) (by (have q := op_sz A1 (by assumption); omega)) (by (have q := op_sz A1 (by assumption); omega)) (by (have q := op_sz A1 (by assumption); omega)) mc) rfl ?_
   clear hs a; rintro _ w91 ⟨rfl, hm⟩ a hs
   replace m : Hp w0 (hh w0) [AgP v19 (doneA (gK s script k) (⟨o49.Err, o49.Answer, o49.Rev, o49.Snap_Now, o49.Leases, o49.Events, o49.Routes, o49.Neighs, o49.Fdbs⟩ : ReM)), Sv 12 48 v67.v (((gK s script k).view).map cLease), Sv 2 44 v68.v (((gK s script k).skipped).map cPrefix), Sv 4 51 v69.v (((gK s script k).Routes).map cRoute), Sv 7 54 v70.v (((gK s script k).Neighs).map cNeigh), Sv 7 56 v71.v (((gK s script k).Fdbs).map cFdb), Bx p64 79 (cOq o49.Kind o49.On o49.Now o49.Err o49.Answer o49.Rev o49.Snap_Now x51.v x52.v x53.v x54.v x55.v), AgP v21 (gK s script k)] w91 := back _ _ hm
   clear hm back mc sy ly hR2 hR y1 R1 w72
   refine s_ hs m (ok_assign rfl) (bn_ (bc_ (b_ m (ok_move rfl) (b_ m (ok_fieldAddr (r := 3) rfl fd79_3 ty77 rfl) (b_ m (ok_load_ag (vs := cRe o49.Err o49.Answer o49.Rev o49.Snap_Now x51.v x52.v x53.v x54.v x55.v) rfl ty77 (bx_at r6) (by kernel_rfl) (by kernel_rfl)) ?_)))))
   clear hs a; intro a hs
   obtain ⟨R1, hR, hR2, ⟨y1, sy, ly⟩, mc, back⟩ := Hp.split (Pc := [AgP v21 (gK s script k)]) (Ps := [AgP v19 (doneA (gK s script k) (⟨o49.Err, o49.Answer, o49.Rev, o49.Snap_Now, o49.Leases, o49.Events, o49.Routes, o49.Neighs, o49.Fdbs⟩ : ReM)), Sv 12 48 v67.v (((gK s script k).view).map cLease), Sv 2 44 v68.v (((gK s script k).skipped).map cPrefix), Sv 4 51 v69.v (((gK s script k).Routes).map cRoute), Sv 7 54 v70.v (((gK s script k).Neighs).map cNeigh), Sv 7 56 v71.v (((gK s script k).Fdbs).map cFdb), Bx p64 79 (cOq o49.Kind o49.On o49.Now o49.Err o49.Answer o49.Rev o49.Snap_Now x51.v x52.v x53.v x54.v x55.v)]) (m.sub (.c r7 (.c r0 (.c r0 (.c r0 (.c r0 (.c r0 (.c r0 (.c r0 .n)))))))))
   refine r_call hs rfl rfl ca32 rfl (done_c v21 (gK s script k) o49.Err o49.Answer o49.Rev o49.Snap_Now x51 o49.Leases x52 o49.Events x53 o49.Routes x54 o49.Neighs x55 o49.Fdbs _ R1 (hx56.le hR) (hx57.le hR) (hx58.le hR) (hx59.le hR) (hx60.le hR) (by omega) (by omega) (by omega) (by omega) (by omega) (by (have q := op_sz A1 (by assumption); omega)) (by (have q := op_sz A1 (by assumption); omega)) (by (have q := op_sz A1 (by assumption); omega)) (by (have q := op_sz A1 (by assumption); omega)) (by (have q := op_sz A1 (by assumption); omega)) mc) rfl ?_
   clear hs a; rintro _ w92 ⟨rfl, hm⟩ a hs
   replace m : Hp w0 (hh w0) [AgP v21 (doneA (gK s script k) (⟨o49.Err, o49.Answer, o49.Rev, o49.Snap_Now, o49.Leases, o49.Events, o49.Routes, o49.Neighs, o49.Fdbs⟩ : ReM)), AgP v19 (doneA (gK s script k) (⟨o49.Err, o49.Answer, o49.Rev, o49.Snap_Now, o49.Leases, o49.Events, o49.Routes, o49.Neighs, o49.Fdbs⟩ : ReM)), Sv 12 48 v67.v (((gK s script k).view).map cLease), Sv 2 44 v68.v (((gK s script k).skipped).map cPrefix), Sv 4 51 v69.v (((gK s script k).Routes).map cRoute), Sv 7 54 v70.v (((gK s script k).Neighs).map cNeigh), Sv 7 56 v71.v (((gK s script k).Fdbs).map cFdb), Bx p64 79 (cOq o49.Kind o49.On o49.Now o49.Err o49.Answer o49.Rev o49.Snap_Now x51.v x52.v x53.v x54.v x55.v)] w92 := back _ _ hm
   clear hm back mc sy ly hR2 hR y1 R1 w91
   refine s_ hs m (ok_assign rfl) (bn_ ?_)
   clear hs a; intro a hs
   refine c_seq ?_
   refine c_reg ?_
   refine s_ hs m (ok_move rfl) (b_ m (ok_move rfl) (b_ m (ok_bin rfl rfl rfl) (b_ m (ok_move rfl) ?_)))
   clear hs a; intro a hs
   have hb93 : ((doneE (gK s script k) (⟨o49.Err, o49.Answer, o49.Rev, o49.Snap_Now, o49.Leases, o49.Events, o49.Routes, o49.Neighs, o49.Fdbs⟩ : ReM)) != (doneE (gK s script k) (⟨o49.Err, o49.Answer, o49.Rev, o49.Snap_Now, o49.Leases, o49.Events, o49.Routes, o49.Neighs, o49.Fdbs⟩ : ReM))) = false := by simp
   refine sg_ hs hb93 m (ok_move rfl) (bg_ hb93 m (ok_not rfl) (bg_ hb93 m (ok_move rfl) ?_))
   clear hs a; intro a hs
   rcases Bool.eq_false_or_eq_true (!op) with hb94 | hb94
   ·have hb94p := hb94; simp only [bp_] at hb94p
    refine sg_ hs hb94 m (ok_move rfl) (bg_ hb94 m (ok_bin rfl rfl rfl) (bg_ hb93 m (ok_pick (r := .bool ((doneE (gK s script k) (⟨o49.Err, o49.Answer, o49.Rev, o49.Snap_Now, o49.Leases, o49.Events, o49.Routes, o49.Neighs, o49.Fdbs⟩ : ReM)) != 160)) rfl rfl rfl (by rw [hb94]; rfl)) (b_ m (ok_pick (r := .bool ((doneE (gK s script k) (⟨o49.Err, o49.Answer, o49.Rev, o49.Snap_Now, o49.Leases, o49.Events, o49.Routes, o49.Neighs, o49.Fdbs⟩ : ReM)) != 160)) rfl rfl rfl (by rw [hb93]; rfl)) (bn_ ?_))))
    clear hs a; intro a hs
    refine c_false hs rfl (by rw [(done_err0 (hop (nb_t (by assumption)))).1]; rfl) ?_
    refine wp_skip ?_
    refine n_then ?_
    refine c_reg ?_
    refine s_ hs m (ok_move rfl) (b_ m (ok_bin rfl rfl rfl) (bn_ ?_))
    clear hs a; intro a hs
    refine c_cond hs rfl (fun h96 => ?_) (fun h96 => ?_)
    ·have h96p := eq_of_beq h96
     refine c_last ?_
     refine s_ hs m (ok_assign rfl) ?_
     clear hs a; intro a hs
     refine wpList_nil (n_block (n_block (n_then ?_)))
     refine c_last ?_
     refine s_ hs m (ok_move rfl) (b_ m (ok_add (r := (k : Int) + 1) rfl rfl (wrap_i64 (by omega) (by omega))) (b_ m (ok_assign rfl) (bn_ ?_)))
     clear hs a; intro a hs
     have q97 : doneA (gK s script k) (⟨o49.Err, o49.Answer, o49.Rev, o49.Snap_Now, o49.Leases, o49.Events, o49.Routes, o49.Neighs, o49.Fdbs⟩ : ReM) = (gK s script (k + 1)) := by clear hs m; exact gK_d (by assumption) (by omega)
     replace m := m.swp (q := AgP v19 (gK s script (k + 1))) s1 (fun _ e => by rw [← q97]; exact e)
     have q98 : doneA (gK s script k) (⟨o49.Err, o49.Answer, o49.Rev, o49.Snap_Now, o49.Leases, o49.Events, o49.Routes, o49.Neighs, o49.Fdbs⟩ : ReM) = (gK s script (k + 1)) := by clear hs m; exact gK_d (by assumption) (by omega)
     replace m := m.swp (q := AgP v21 (gK s script (k + 1))) s0 (fun _ e => by rw [← q98]; exact e)
     exact ⟨script.length - (k + 1), by omega, k + 1, false, by omega, by (intro _; rw [← gK_d (by assumption) (by omega)]; exact done_ok0 (by omega)), rfl, hs.to ⟨rfl, rfl, rfl, rfl, rfl, rfl, trivial⟩, m.sub (.c r1 (.c r0 .n))⟩
    have h96p := ne_of_beq_false h96
    refine wp_skip ?_
    refine n_block (n_block (n_then ?_))
    refine c_last ?_
    refine s_ hs m (ok_move rfl) (b_ m (ok_add (r := (k : Int) + 1) rfl rfl (wrap_i64 (by omega) (by omega))) (b_ m (ok_assign rfl) (bn_ ?_)))
    clear hs a; intro a hs
    have q99 : doneA (gK s script k) (⟨o49.Err, o49.Answer, o49.Rev, o49.Snap_Now, o49.Leases, o49.Events, o49.Routes, o49.Neighs, o49.Fdbs⟩ : ReM) = (gK s script (k + 1)) := by clear hs m; exact gK_d (by assumption) (by omega)
    replace m := m.swp (q := AgP v19 (gK s script (k + 1))) s1 (fun _ e => by rw [← q99]; exact e)
    have q100 : doneA (gK s script k) (⟨o49.Err, o49.Answer, o49.Rev, o49.Snap_Now, o49.Leases, o49.Events, o49.Routes, o49.Neighs, o49.Fdbs⟩ : ReM) = (gK s script (k + 1)) := by clear hs m; exact gK_d (by assumption) (by omega)
    replace m := m.swp (q := AgP v21 (gK s script (k + 1))) s0 (fun _ e => by rw [← q100]; exact e)
    exact ⟨script.length - (k + 1), by omega, k + 1, op, by omega, by (rw [← gK_d (by assumption) (by omega)]; exact done_stay hop), rfl, hs.to ⟨rfl, rfl, rfl, rfl, rfl, rfl, trivial⟩, m.sub (.c r1 (.c r0 .n))⟩
   ·have hb94p := hb94; simp only [bp_] at hb94p
    refine so_ hs hb94 (bo_ hb94 (bg_ hb93 m (ok_pick (r := .bool false) rfl rfl rfl (by rw [hb94]; rfl)) (b_ m (ok_pick (r := .bool false) rfl rfl rfl (by rw [hb93]; rfl)) (bn_ ?_))))
    clear hs a; intro a hs
    refine c_false hs rfl rfl ?_
    refine wp_skip ?_
    refine n_then ?_
    refine c_reg ?_
    refine s_ hs m (ok_move rfl) (b_ m (ok_bin rfl rfl rfl) (bn_ ?_))
    clear hs a; intro a hs
    refine c_cond hs rfl (fun h102 => ?_) (fun h102 => ?_)
    ·have h102p := eq_of_beq h102
     refine c_last ?_
     refine s_ hs m (ok_assign rfl) ?_
     clear hs a; intro a hs
     refine wpList_nil (n_block (n_block (n_then ?_)))
     refine c_last ?_
     refine s_ hs m (ok_move rfl) (b_ m (ok_add (r := (k : Int) + 1) rfl rfl (wrap_i64 (by omega) (by omega))) (b_ m (ok_assign rfl) (bn_ ?_)))
     clear hs a; intro a hs
     have q103 : doneA (gK s script k) (⟨o49.Err, o49.Answer, o49.Rev, o49.Snap_Now, o49.Leases, o49.Events, o49.Routes, o49.Neighs, o49.Fdbs⟩ : ReM) = (gK s script (k + 1)) := by clear hs m; exact gK_d (by assumption) (by omega)
     replace m := m.swp (q := AgP v19 (gK s script (k + 1))) s1 (fun _ e => by rw [← q103]; exact e)
     have q104 : doneA (gK s script k) (⟨o49.Err, o49.Answer, o49.Rev, o49.Snap_Now, o49.Leases, o49.Events, o49.Routes, o49.Neighs, o49.Fdbs⟩ : ReM) = (gK s script (k + 1)) := by clear hs m; exact gK_d (by assumption) (by omega)
     replace m := m.swp (q := AgP v21 (gK s script (k + 1))) s0 (fun _ e => by rw [← q104]; exact e)
     exact ⟨script.length - (k + 1), by omega, k + 1, false, by omega, by (intro _; rw [← gK_d (by assumption) (by omega)]; exact done_ok0 (by omega)), rfl, hs.to ⟨rfl, rfl, rfl, rfl, rfl, rfl, trivial⟩, m.sub (.c r1 (.c r0 .n))⟩
    have h102p := ne_of_beq_false h102
    refine wp_skip ?_
    refine n_block (n_block (n_then ?_))
    refine c_last ?_
    refine s_ hs m (ok_move rfl) (b_ m (ok_add (r := (k : Int) + 1) rfl rfl (wrap_i64 (by omega) (by omega))) (b_ m (ok_assign rfl) (bn_ ?_)))
    clear hs a; intro a hs
    have q105 : doneA (gK s script k) (⟨o49.Err, o49.Answer, o49.Rev, o49.Snap_Now, o49.Leases, o49.Events, o49.Routes, o49.Neighs, o49.Fdbs⟩ : ReM) = (gK s script (k + 1)) := by clear hs m; exact gK_d (by assumption) (by omega)
    replace m := m.swp (q := AgP v19 (gK s script (k + 1))) s1 (fun _ e => by rw [← q105]; exact e)
    have q106 : doneA (gK s script k) (⟨o49.Err, o49.Answer, o49.Rev, o49.Snap_Now, o49.Leases, o49.Events, o49.Routes, o49.Neighs, o49.Fdbs⟩ : ReM) = (gK s script (k + 1)) := by clear hs m; exact gK_d (by assumption) (by omega)
    replace m := m.swp (q := AgP v21 (gK s script (k + 1))) s0 (fun _ e => by rw [← q106]; exact e)
    exact ⟨script.length - (k + 1), by omega, k + 1, op, by omega, by (rw [← gK_d (by assumption) (by omega)]; exact done_stay hop), rfl, hs.to ⟨rfl, rfl, rfl, rfl, rfl, rfl, trivial⟩, m.sub (.c r1 (.c r0 .n))⟩
  have h90p := ne_of_beq_false h90
  refine wp_skip ?_
  refine n_block (n_block (n_then ?_))
  refine c_last ?_
  refine s_ hs m (ok_move rfl) (b_ m (ok_add (r := (k : Int) + 1) rfl rfl (wrap_i64 (by omega) (by omega))) (b_ m (ok_assign rfl) (bn_ ?_)))
  clear hs a; intro a hs
  have q107 : (gK s script k) = (gK s script (k + 1)) := by clear hs m; exact gK_n (by assumption) (by omega) (by omega)
  replace m := m.swp (q := AgP v19 (gK s script (k + 1))) s6 (fun _ e => by rw [← q107]; exact e)
  have q108 : (gK s script k) = (gK s script (k + 1)) := by clear hs m; exact gK_n (by assumption) (by omega) (by omega)
  replace m := m.swp (q := AgP v21 (gK s script (k + 1))) s7 (fun _ e => by rw [← q108]; exact e)
  exact ⟨script.length - (k + 1), by omega, k + 1, op, by omega, by (rw [← gK_n (by assumption) (by omega) (by omega)]; exact hop), rfl, hs.to ⟨rfl, rfl, rfl, rfl, rfl, rfl, trivial⟩, m.sub (.c r6 (.c r6 .n))⟩
end Go.Proofs.YtnbpodjbemfpbaaGreat.Fw
set_option linter.all false
namespace Go.Proofs.YtnbpodjbemfpbaaGreat.Fw
open Go Go.ChangeShapes Go.WideShapes Go.ChangeAt Go.RowKit
section
variable {H : Type} {enc : TypeId × Value → H} {P : Program} {w : World} {base : Nat} {spare : Nat → Bool} {held : Bool} {fuel : Nat} {t : TypeId} {cs : List Value} {x : DataW H × List MemPlace}
theorem cellsOf_ty {ag : Bool} {n : Nat} (h : tyI P t = some (ag, n)) : P.cellsOf t = n := by
  obtain ⟨d, i, h1, h2, h3, h4⟩ := tyI_spec h
  simp [Program.cellsOf, h2, h4]
theorem trod_fx {k : IntKind} (ht : inI P t = some k) (h : DataW.trod enc P w base spare held fuel t cs = some x) : ∃ y : Fx k, cs = [.int k y.v] := by
  obtain ⟨n, rfl, _, hw⟩ := DataW.trod_int (inI_spec ht) h
  refine ⟨⟨n, ?_⟩, rfl⟩
  simp only [Lit.wf, Bool.and_eq_true, decide_eq_true_eq] at hw
  cases k <;> simp [IntKind.wrap, IntKind.min, IntKind.max, IntKind.signed, IntKind.bits] at hw ⊢ <;> (try split) <;> omega
theorem trod_bo (ht : P.underlying t = some .bool) (h : DataW.trod enc P w base spare held fuel t cs = some x) : ∃ y : Bool, cs = [.bool y] :=
  let ⟨b, h1, _⟩ := DataW.trod_bool ht h
  ⟨b, h1⟩
theorem trod_len {fs : List (Nat × Nat)} {ag : Bool} {n : Nat} (hs : stI P t = some fs) (ht : tyI P t = some (ag, n)) (h : DataW.trod enc P w base spare held fuel t cs = some x) : cs.length = n := by
  obtain ⟨fds, h1, _⟩ := stI_spec hs
  obtain ⟨_, _, _, _, hl, _⟩ := DataW.trod_struct h1 h
  rw [hl, cellsOf_ty ht]
theorem trod_lenA {m n : Nat} {E : TypeId} {ag : Bool} (hs : arI P t = some (m, E)) (ht : tyI P t = some (ag, n)) (h : DataW.trod enc P w base spare held fuel t cs = some x) : cs.length = n := by
  obtain ⟨_, _, _, _, hl, _⟩ := DataW.trod_array (arI_spec hs) h
  rw [hl, cellsOf_ty ht]
theorem trod_fd {i o n : Nat} {U : TypeId} {ag : Bool} (hf : fdI P t i = some (o, U)) (hu : tyI P U = some (ag, n)) (h : DataW.trod enc P w base spare held fuel t cs = some x) : ∃ m y, DataW.trod enc P w base spare held m U ((cs.drop o).take n) = some y := by
  obtain ⟨fs, f, h1, h2, rfl, rfl⟩ := fdI_spec hf
  obtain ⟨xs, m, _, _, _, hx, hall⟩ := DataW.trod_struct h1 h
  have := hall i f h2
  rw [cellsOf_ty hu] at this
  have hi : i < xs.length := by
    rw [hx]
    exact (Array.getElem?_eq_some_iff.1 h2).1
  exact ⟨m, xs[i], by rw [this, List.getElem?_eq_getElem hi]⟩
theorem trod_el {i m n : Nat} {E : TypeId} {ag : Bool} (hs : arI P t = some (m, E)) (hu : tyI P E = some (ag, n)) (hi : Nat.blt i m = true) (h : DataW.trod enc P w base spare held fuel t cs = some x) : ∃ q y, DataW.trod enc P w base spare held q E ((cs.drop (i * n)).take n) = some y := by
  obtain ⟨xs, q, _, _, _, hx, hall⟩ := DataW.trod_array (arI_spec hs) h
  have hlt : i < m := Nat.le_of_ble_eq_true hi
  have := hall i hlt
  rw [cellsOf_ty hu] at this
  exact ⟨q, xs[i], by rw [this, List.getElem?_eq_getElem (by omega)]⟩
theorem rd_sliceQ {α : Type} {c : α → List Value} {q : DataW H → α → Prop} {E : TypeId} {ag : Bool} {k : Nat} (ht : slI P t = some E) (hE : tyI P E = some (ag, k)) (hk : Nat.ble 1 k = true)
    (hel : ∀ (m : Nat) (es : List Value) (y : DataW H × List MemPlace), DataW.trod enc P w base spare held m E es = some y → ∃ z : α, es = c z ∧ q y.1 z) (hck : ∀ z : α, (c z).length = k)
    (h : DataW.trod enc P w base spare held fuel t cs = some x) :
    ∃ (v : SH) (xs : List α), cs = [v.v] ∧ ((x.1 = .nil ∧ xs = []) ∨ ∃ els sp, x.1 = .slice els sp ∧ els.length = xs.length ∧ ∀ (i : Nat) (z : α), xs[i]? = some z → ∃ d, els[i]? = some d ∧ q d z) ∧ (xs.length ≤ 140737488355328 → RdS (hh w) k v.v (xs.map c)) := by
  rcases Go.Deep.open_slice (slI_spec ht) h with ⟨rfl, rfl⟩ | ⟨a, len, cap, m, n, D, Pl, rfl, hb, hl, hcap, rfl, rfl, hall⟩
  · exact ⟨nilH, [], rfl, .inl ⟨rfl, rfl⟩, fun _ => RdS.nil _ _⟩
  have hk1 : 1 ≤ k := Nat.le_of_ble_eq_true hk
  rw [cellsOf_ty hE] at hall
  have hm : len ≤ (if spare a.block = true then cap else len) := by split <;> omega
  by_cases hlen : len = 0
  · subst hlen
    exact ⟨⟨some a, 0, cap⟩, [], rfl, .inr ⟨_, _, rfl, by simp, by simp⟩, fun _ => ⟨by simp, by simp, some a, cap, rfl, by simp, fun h => absurd rfl h⟩⟩
  -- the elements
  have hex : ∀ i, i < len → ∃ z : α, w.cells? base (a.add (i * k)) k = some (c z) ∧ q (D i) z := by
    intro i hi
    obtain ⟨cs', h1, h2⟩ := hall i (by omega)
    obtain ⟨z, rfl, hq⟩ := hel _ _ _ h2
    exact ⟨z, h1, hq⟩
  have hxs : ∀ n, n ≤ len → ∃ xs : List α, xs.length = n ∧ ∀ i z, xs[i]? = some z → w.cells? base (a.add (i * k)) k = some (c z) ∧ q (D i) z := by
    intro n
    induction n with
    | zero => intro _; exact ⟨[], rfl, by simp⟩
    | succ n ih =>
      intro hn
      obtain ⟨xs, h1, h2⟩ := ih (by omega)
      obtain ⟨z, hz⟩ := hex n (by omega)
      refine ⟨xs ++ [z], by simp [h1], fun i y hy => ?_⟩
      rw [List.getElem?_append] at hy
      split at hy
      · exact h2 i y hy
      · rename_i hge
        have : i = n := by
          have := (List.getElem?_eq_some_iff.1 hy).1
          simp at this
          omega
        subst this
        rw [h1] at hy
        simp at hy
        subst hy
        exact hz
  obtain ⟨xs, hx1, hx2⟩ := hxs len (Nat.le_refl _)
  refine ⟨⟨some a, len, cap⟩, xs, rfl, .inr ⟨_, _, rfl, by simp [hx1], fun i z hz => ⟨D i, by have hi := (List.getElem?_eq_some_iff.1 hz).1; simp [show i < len by omega], (hx2 i z hz).2⟩⟩, fun hbd => ?_⟩
  -- the block
  have hcell : ∀ j, j < len * k → ∃ v, w.cell? (a.add j) = some v ∧ ((xs.map c).flatten)[j]? = some v := by
    intro j hj
    have hi : j / k < len := Nat.div_lt_of_lt_mul (by rw [Nat.mul_comm]; exact hj)
    obtain ⟨z, hz⟩ := get_of_lt (l := xs) (i := j / k) (by omega)
    have h1 := (hx2 _ _ hz).1
    unfold World.cells? at h1
    split at h1
    · have h2 := mapM_some_get h1 (j % k) (j % k) (by simp [Nat.mod_lt _ (show 0 < k by omega)])
      rw [Go.Deep.add_add, show j / k * k + j % k = j by rw [Nat.mul_comm]; exact Nat.div_add_mod j k] at h2
      have hlt : j % k < (c z).length := by rw [hck]; exact Nat.mod_lt _ (by omega)
      refine ⟨(c z)[j % k], by rw [h2, List.getElem?_eq_getElem hlt], ?_⟩
      have hfc := flat_cells (k := k) (ds := xs.map c) (i := j / k) (d := c z) (by intro d hd; obtain ⟨y, _, rfl⟩ := List.mem_map.1 hd; exact hck y) (get_map c hz)
      have h3 : (((xs.map c).flatten.drop (j / k * k)).take k)[j % k]? = (c z)[j % k]? := by rw [hfc]
      rw [List.getElem?_take_of_lt (Nat.mod_lt _ (by omega)), List.getElem?_drop, show j / k * k + j % k = j by rw [Nat.mul_comm]; exact Nat.div_add_mod j k] at h3
      rw [h3, List.getElem?_eq_getElem hlt]
    · cases h1
  obtain ⟨v0, hv0, _⟩ := hcell 0 (Nat.mul_pos (by omega) (by omega))
  obtain ⟨blk, off, spot⟩ := a
  have hobj : spot = none ∧ ∃ arr T fz, w.heap[blk]? = some (.cells arr T fz) := by
    rw [add_zero'] at hv0
    unfold World.cell? at hv0
    split at hv0
    · rename_i h1
      split at hv0
      · cases hv0
      · rename_i h2
        exact ⟨by simpa using h2, _, _, _, h1⟩
    · cases hv0
  obtain ⟨rfl, arr, T, fz, hblk⟩ := hobj
  have hfl : (xs.map c).flatten.length = len * k := by
    rw [flat_len (k := k) (by intro d hd; obtain ⟨y, _, rfl⟩ := List.mem_map.1 hd; exact hck y)]
    simp [hx1]
  refine ⟨by intro d hd; obtain ⟨y, _, rfl⟩ := List.mem_map.1 hd; exact hck y, by simpa using hbd, some ⟨blk, off, none⟩, cap, by simp [SH.v, hx1], by simpa [hx1] using hl, fun _ => ⟨blk, off, arr, T, fz, rfl, hblk, ?_⟩⟩
  apply List.ext_getElem?
  intro j
  simp only [List.length_map, hx1]
  by_cases hj : j < len * k
  · obtain ⟨v, h1, h2⟩ := hcell j hj
    rw [h2, List.getElem?_take_of_lt hj, List.getElem?_drop]
    rw [add_flat] at h1
    simpa [World.cell?, hblk] using h1
  · rw [List.getElem?_eq_none (by simp; omega), List.getElem?_eq_none (by omega)]
theorem rd_slice {α : Type} {c : α → List Value} {E : TypeId} {ag : Bool} {k : Nat} (ht : slI P t = some E) (hE : tyI P E = some (ag, k)) (hk : Nat.ble 1 k = true)
    (hel : ∀ (m : Nat) (es : List Value) (y : DataW H × List MemPlace), DataW.trod enc P w base spare held m E es = some y → ∃ z : α, es = c z) (hck : ∀ z : α, (c z).length = k)
    (h : DataW.trod enc P w base spare held fuel t cs = some x) :
    ∃ (v : SH) (xs : List α), cs = [v.v] ∧ ((x.1 = .nil ∧ xs = []) ∨ ∃ els sp, x.1 = .slice els sp ∧ els.length = xs.length) ∧ (xs.length ≤ 140737488355328 → RdS (hh w) k v.v (xs.map c)) := by
  obtain ⟨v, xs, h1, h2, h3⟩ := rd_sliceQ (c := c) (q := fun _ _ => True) ht hE hk (fun m es y h => by obtain ⟨z, e⟩ := hel m es y h; exact ⟨z, e, trivial⟩) hck h
  refine ⟨v, xs, h1, ?_, h3⟩
  rcases h2 with h2 | ⟨els, sp, h4, h5, _⟩
  · exact .inl h2
  · exact .inr ⟨els, sp, h4, h5⟩
end
/-! ### from a walk's end to the row's -/
section
variable {H : Type} {enc : TypeId × Value → H} {P : Program}
theorem post_kept {f : Func} {s : ChangeSpec} {apart fresh handsOn again : Bool} {W W' : World} {args : Array Value} {v : Value} {ds gs : List (DataW H)} {before pa pv : List MemPlace}
    (hW : DataW.Whole enc P f.params.toList s.vars apart W args.toList ds gs before) (hb : Below W.heap.size W W')
    (hres : ∀ (b : Nat) (sp : Nat → Bool) (hd : Bool), DataW.TrodAll enc P W' b sp hd f.resultTypes.toList (v.resultList f.resultTypes.size) (s.fn H (ds ++ gs)).results [])
    (hargs : ∀ sp : Nat → Bool, (∀ p ∈ before, sp p.block = true) → DataW.TrodAll enc P W' 0 sp true f.params.toList args.toList (s.fn H (ds ++ gs)).args pa)
    (hvars : ∀ sp : Nat → Bool, (∀ p ∈ before, sp p.block = true) → DataW.TrodVars enc P W' sp s.vars (s.fn H (ds ++ gs)).vars pv)
    (hps : before = pa ++ pv)
    (hok : ∀ (j : Nat) (t : TypeId) (r : Value), f.resultTypes[j]? = some t → (v.resultList f.resultTypes.size)[j]? = some r → Value.okWide P W' .any 0 t r) :
    s.post enc P f apart fresh handsOn again W args v W' := by
  have hlt := hW.lt
  have hold : ∀ p ∈ before, (fun b => decide (b < W.heap.size)) p.block = true := fun p hp => by simpa using hlt p hp
  have hfr : W.keptBut W' (fun p => p ∈ before ∧ (p ∈ ([] : List MemPlace) ∨ p ∈ pa ∨ p ∈ pv)) := hb.frame _
  have hW0 := hW
  obtain ⟨_, _, _, _, _, hz, hn⟩ := hW0
  refine ⟨ds, gs, before, [], pa, pv, hW, hres _ _ _, hargs _ hold, hvars _ hold, hfr, fun _ => ⟨hok, ds.map id |> fun _ => _, _, [] ++ pa ++ pv, ⟨[] ++ pa, pv, trodAll_append (hargs _ (fun _ _ => rfl)) (hres _ _ _), hvars _ (fun _ _ => rfl), rfl, ?_, ?_⟩, ?_⟩⟩
  · intro b off hp
    have hmem : MemPlace.cell b off ∈ before := by rw [hps]; simpa using hp
    rw [Below.frozen hb (p := ⟨b, off, none⟩) (hlt _ hmem)]
    exact hz b off hmem
  · intro ha
    have h2 := hn ha
    rw [hps] at h2
    simpa using h2
  · intro p hp _
    rw [hps]
    simpa using hp
theorem trodAll_kept (hl : laidOutB P = true) {W W' : World} (hb : Below W.heap.size W W') : ∀ {ts : List TypeId} {vs : List Value} {ds : List (DataW H)} {ps : List MemPlace} {sp : Nat → Bool}, (∀ t ∈ ts, P.readableRec t = true ∧ t < P.types.size) → (∀ p ∈ ps, p.block < W.heap.size) → (∀ p ∈ ps, sp p.block = true) →
    DataW.TrodAll enc P W 0 (fun _ => true) true ts vs ds ps → DataW.TrodAll enc P W' 0 sp true ts vs ds ps
  | [], _, _, _, _, _, _, _, h => by
    obtain ⟨rfl, rfl, rfl⟩ := trodAll_nil h
    exact trodAll_mk0
  | t :: ts, vs, ds, ps, sp, hr, hlt, hsp, h => by
    obtain ⟨v, vs1, d, ds1, a, b, rfl, rfl, rfl, h1, h2⟩ := trodAll_cons h
    have ht := hr t (by simp)
    refine trodAll_cons_mk (Go.WideElems.Trod_stays hl ht.1 ht.2 h1 (fun p hp => hb.same (hlt p (by simp [hp]))) (fun p hp => hsp p (by simp [hp]))) (trodAll_kept hl hb (fun t ht => hr t (by simp [ht])) (fun p hp => hlt p (by simp [hp])) (fun p hp => hsp p (by simp [hp])) h2)
end
end Go.Proofs.YtnbpodjbemfpbaaGreat.Fw
set_option linter.all false
namespace Go.Proofs.YtnbpodjbemfpbaaGreat.Fw
open Go Go.ChangeShapes Go.WideShapes Go.ChangeAt Go.RowKit
theorem bulk_len {H : Type} : ∀ (l : List (DataW H)), l.length ≤ Rows.uptoBulkAll l
  | [] => Nat.le_refl _
  | d :: r => by
    have := bulk_len r
    have h1 : 1 ≤ Rows.uptoBulk d := by
      cases d with
      | lit l => cases l <;> simp [Rows.uptoBulk]
      | _ => simp [Rows.uptoBulk]
    simp only [Rows.uptoBulkAll, List.length_cons]
    omega
theorem bulk_mem {H : Type} {d : DataW H} : ∀ {l : List (DataW H)}, d ∈ l → Rows.uptoBulk d ≤ Rows.uptoBulkAll l
  | e :: r, h => by
    simp only [Rows.uptoBulkAll]
    rcases List.mem_cons.1 h with rfl | h
    · omega
    · have := bulk_mem h
      omega
section
variable {H : Type} {enc : TypeId × Value → H} {P : Program} {w : World} {base : Nat} {spare : Nat → Bool} {held : Bool} {fuel : Nat} {t : TypeId} {cs : List Value} {x : DataW H × List MemPlace}
theorem trod_fdB {i o n : Nat} {U : TypeId} {ag : Bool} (hf : fdI P t i = some (o, U)) (hu : tyI P U = some (ag, n)) (h : DataW.trod enc P w base spare held fuel t cs = some x) : ∃ m y, DataW.trod enc P w base spare held m U ((cs.drop o).take n) = some y ∧ Rows.uptoBulk y.1 < Rows.uptoBulk x.1 := by
  obtain ⟨fs, f, h1, h2, rfl, rfl⟩ := fdI_spec hf
  obtain ⟨xs, m, _, hx1, _, hx, hall⟩ := DataW.trod_struct h1 h
  have := hall i f h2
  rw [cellsOf_ty hu] at this
  have hi : i < xs.length := by
    rw [hx]
    exact (Array.getElem?_eq_some_iff.1 h2).1
  refine ⟨m, xs[i], by rw [this, List.getElem?_eq_getElem hi], ?_⟩
  rw [hx1]
  simp only [Rows.uptoBulk]
  have := bulk_mem (List.mem_map_of_mem (f := (·.1)) (List.getElem_mem hi))
  omega
end
end Go.Proofs.YtnbpodjbemfpbaaGreat.Fw
set_option linter.all false
namespace Go.Proofs.YtnbpodjbemfpbaaGreat.Fw
open Go Go.ChangeShapes Go.WideShapes Go.ChangeAt Go.RowKit
theorem bulk_get {H : Type} {a : DataW H} : ∀ {l : List (DataW H)} {i : Nat}, l[i]? = some a → Rows.uptoBulk a + Rows.uptoBulkAll (l.drop (i + 1)) ≤ Rows.uptoBulkAll l
  | [], _, h => by simp at h
  | d :: r, 0, h => by
    simp only [List.getElem?_cons_zero, Option.some.injEq] at h
    subst h
    simp [Rows.uptoBulkAll]
  | d :: r, i + 1, h => by
    simp only [List.getElem?_cons_succ] at h
    have := bulk_get h
    simp only [List.drop_succ_cons, Rows.uptoBulkAll]
    omega
theorem bulk_three {H : Type} {a b c : DataW H} {l : List (DataW H)} {i j k : Nat} (hi : l[i]? = some a) (hj : l[j]? = some b) (hk : l[k]? = some c) (hij : i < j) (hjk : j < k) : Rows.uptoBulk a + Rows.uptoBulk b + Rows.uptoBulk c ≤ Rows.uptoBulkAll l := by
  have h1 := bulk_get hi
  have h2 := bulk_get (l := l.drop (i + 1)) (i := j - (i + 1)) (a := b) (by rw [List.getElem?_drop, show i + 1 + (j - (i + 1)) = j by omega]; exact hj)
  have h3 := bulk_get (l := (l.drop (i + 1)).drop (j - (i + 1) + 1)) (i := k - (j + 1)) (a := c) (by rw [List.getElem?_drop, List.getElem?_drop, show i + 1 + (j - (i + 1) + 1 + (k - (j + 1))) = k by omega]; exact hk)
  omega
section
variable {H : Type} {enc : TypeId × Value → H} {P : Program} {w : World} {base : Nat} {spare : Nat → Bool} {held : Bool} {fuel : Nat} {t : TypeId} {cs : List Value} {x : DataW H × List MemPlace}
theorem trod_fd3 {i j k o1 o2 o3 n1 n2 n3 : Nat} {U1 U2 U3 : TypeId} {a1 a2 a3 : Bool} (f1 : fdI P t i = some (o1, U1)) (u1 : tyI P U1 = some (a1, n1)) (f2 : fdI P t j = some (o2, U2)) (u2 : tyI P U2 = some (a2, n2)) (f3 : fdI P t k = some (o3, U3)) (u3 : tyI P U3 = some (a3, n3)) (hij : Nat.blt i j = true) (hjk : Nat.blt j k = true)
    (h : DataW.trod enc P w base spare held fuel t cs = some x) : ∃ m y1 y2 y3, DataW.trod enc P w base spare held m U1 ((cs.drop o1).take n1) = some y1 ∧ DataW.trod enc P w base spare held m U2 ((cs.drop o2).take n2) = some y2 ∧ DataW.trod enc P w base spare held m U3 ((cs.drop o3).take n3) = some y3 ∧ Rows.uptoBulk y1.1 + Rows.uptoBulk y2.1 + Rows.uptoBulk y3.1 < Rows.uptoBulk x.1 := by
  obtain ⟨fs, g1, h1, h2, rfl, rfl⟩ := fdI_spec f1
  obtain ⟨fs', g2, h1', h2', rfl, rfl⟩ := fdI_spec f2
  obtain ⟨fs'', g3, h1'', h2'', rfl, rfl⟩ := fdI_spec f3
  rw [h1] at h1' h1''
  cases h1'
  cases h1''
  obtain ⟨xs, m, _, hx1, _, hx, hall⟩ := DataW.trod_struct h1 h
  have e1 := hall i g1 h2
  have e2 := hall j g2 h2'
  have e3 := hall k g3 h2''
  rw [cellsOf_ty u1] at e1
  rw [cellsOf_ty u2] at e2
  rw [cellsOf_ty u3] at e3
  have l1 : i < xs.length := by rw [hx]; exact (Array.getElem?_eq_some_iff.1 h2).1
  have l2 : j < xs.length := by rw [hx]; exact (Array.getElem?_eq_some_iff.1 h2').1
  have l3 : k < xs.length := by rw [hx]; exact (Array.getElem?_eq_some_iff.1 h2'').1
  refine ⟨m, xs[i], xs[j], xs[k], by rw [e1, List.getElem?_eq_getElem l1], by rw [e2, List.getElem?_eq_getElem l2], by rw [e3, List.getElem?_eq_getElem l3], ?_⟩
  rw [hx1]
  simp only [Rows.uptoBulk]
  have := bulk_three (l := xs.map (·.1)) (i := i) (j := j) (k := k) (a := xs[i].1) (b := xs[j].1) (c := xs[k].1) (by rw [List.getElem?_map, List.getElem?_eq_getElem l1]; rfl) (by rw [List.getElem?_map, List.getElem?_eq_getElem l2]; rfl) (by rw [List.getElem?_map, List.getElem?_eq_getElem l3]; rfl) (Nat.le_of_ble_eq_true hij) (Nat.le_of_ble_eq_true hjk)
  omega
theorem rd_sliceL {α : Type} {c : α → List Value} {E : TypeId} {ag : Bool} {k B : Nat} (ht : slI P t = some E) (hE : tyI P E = some (ag, k)) (hk : Nat.ble 1 k = true)
    (hel : ∀ (m : Nat) (es : List Value) (y : DataW H × List MemPlace), DataW.trod enc P w base spare held m E es = some y → ∃ z : α, es = c z) (hck : ∀ z : α, (c z).length = k)
    (h : DataW.trod enc P w base spare held fuel t cs = some x) (hB : Rows.uptoBulk x.1 ≤ B) (hB2 : Nat.ble B 140737488355328 = true) :
    ∃ (v : SH) (xs : List α), cs = [v.v] ∧ xs.length < Rows.uptoBulk x.1 ∧ RdS (hh w) k v.v (xs.map c) := by
  obtain ⟨v, xs, h1, h2, h3⟩ := rd_slice (c := c) ht hE hk hel hck h
  have hB3 : B ≤ 140737488355328 := Nat.le_of_ble_eq_true hB2
  have hl : xs.length < Rows.uptoBulk x.1 := by
    rcases h2 with ⟨h4, rfl⟩ | ⟨els, sp, h4, h5⟩
    · rw [h4]; simp [Rows.uptoBulk]
    · rw [h4]
      simp only [Rows.uptoBulk]
      have := bulk_len els
      omega
  exact ⟨v, xs, h1, hl, h3 (by omega)⟩
theorem bulk_sum {α : Type} {f : α → Nat} {q : DataW H → α → Prop} (hq : ∀ d z, q d z → f z ≤ Rows.uptoBulk d) : ∀ (els : List (DataW H)) (xs : List α), els.length = xs.length → (∀ (i : Nat) (z : α), xs[i]? = some z → ∃ d, els[i]? = some d ∧ q d z) → (xs.map f).sum ≤ Rows.uptoBulkAll els
  | [], [], _, _ => by simp [Rows.uptoBulkAll]
  | [], _ :: _, h, _ => by simp at h
  | _ :: _, [], h, _ => by simp at h
  | d :: els, z :: xs, h, hx => by
    have ih := bulk_sum hq els xs (by simpa using h) (fun i y hy => by have := hx (i + 1) y (by simpa using hy); simpa using this)
    obtain ⟨d', h1, h2⟩ := hx 0 z rfl
    simp only [List.getElem?_cons_zero, Option.some.injEq] at h1
    subst h1
    have := hq _ _ h2
    simp only [List.map_cons, List.sum_cons, Rows.uptoBulkAll]
    omega
theorem rd_nest {α : Type} {r : Hh → List Value → α → Prop} {f : α → Nat} {E : TypeId} {ag : Bool} {k B : Nat} (ht : slI P t = some E) (hE : tyI P E = some (ag, k)) (hk : Nat.ble 1 k = true)
    (hel : ∀ (m : Nat) (es : List Value) (y : DataW H × List MemPlace), DataW.trod enc P w base spare held m E es = some y → Rows.uptoBulk y.1 ≤ B → ∃ z : α, es.length = k ∧ r (hh w) es z ∧ f z ≤ Rows.uptoBulk y.1)
    (h : DataW.trod enc P w base spare held fuel t cs = some x) (hB : Rows.uptoBulk x.1 ≤ B) (hB2 : Nat.ble B 140737488355328 = true) (hlen : ∀ (m : Nat) (es : List Value) (y : DataW H × List MemPlace), DataW.trod enc P w base spare held m E es = some y → es.length = k) :
    ∃ (v : SH) (zs : List α), cs = [v.v] ∧ (zs.map f).sum ≤ Rows.uptoBulk x.1 ∧ RdN r (hh w) k v.v zs := by
  have hB3 : B ≤ 140737488355328 := Nat.le_of_ble_eq_true hB2
  obtain ⟨v, xs, h1, h2, h3⟩ := rd_sliceQ (α := {es : List Value // es.length = k}) (c := fun z => z.1) (q := fun d z => ∃ m pl, DataW.trod enc P w base spare held m E z.1 = some (d, pl)) ht hE hk (fun m es y h => ⟨⟨es, hlen m es y h⟩, rfl, m, y.2, h⟩) (fun z => z.2) h
  have hl : xs.length ≤ B := by
    rcases h2 with ⟨h4, rfl⟩ | ⟨els, sp, h4, h5, _⟩
    · simp
    · rw [h4] at hB
      simp only [Rows.uptoBulk] at hB
      have := bulk_len els
      omega
  -- the elements' models
  have hz : ∃ zs : List α, zs.length = xs.length ∧ (∀ (i : Nat) (cs : List Value) (z : α), (xs.map (fun z => z.1))[i]? = some cs → zs[i]? = some z → r (hh w) cs z) ∧ (zs.map f).sum ≤ Rows.uptoBulk x.1 := by
    rcases h2 with ⟨h4, rfl⟩ | ⟨els, sp, h4, h5, h6⟩
    · exact ⟨[], rfl, by simp, by simp⟩
    · rw [h4] at hB ⊢
      simp only [Rows.uptoBulk] at hB ⊢
      have hone : ∀ i, i < xs.length → ∃ z : α, (∀ cs : List Value, (xs.map (fun z => z.1))[i]? = some cs → r (hh w) cs z) ∧ ∃ d, els[i]? = some d ∧ f z ≤ Rows.uptoBulk d := by
        intro i hi
        obtain ⟨d, hd, m, pl, ht⟩ := h6 i _ (List.getElem?_eq_getElem hi)
        have hb := bulk_mem (List.mem_of_getElem? hd)
        obtain ⟨z, _, z2, z3⟩ := hel m _ _ ht (by simp only; omega)
        exact ⟨z, fun cs hc => by simp [List.getElem?_map, List.getElem?_eq_getElem hi] at hc; rw [← hc]; exact z2, d, hd, z3⟩
      have hzs : ∀ n, n ≤ xs.length → ∃ zs : List α, zs.length = n ∧ ∀ (i : Nat) (z : α), zs[i]? = some z → (∀ cs : List Value, (xs.map (fun z => z.1))[i]? = some cs → r (hh w) cs z) ∧ ∃ d, els[i]? = some d ∧ f z ≤ Rows.uptoBulk d := by
        intro n
        induction n with
        | zero => intro _; exact ⟨[], rfl, by simp⟩
        | succ n ih =>
          intro hn
          obtain ⟨zs, g1, g2⟩ := ih (by omega)
          obtain ⟨z, hz⟩ := hone n (by omega)
          refine ⟨zs ++ [z], by simp [g1], fun i y hy => ?_⟩
          rw [List.getElem?_append] at hy
          split at hy
          · exact g2 i y hy
          · have : i = n := by
              have := (List.getElem?_eq_some_iff.1 hy).1
              simp at this
              omega
            subst this
            rw [g1] at hy
            simp at hy
            subst hy
            exact hz
      obtain ⟨zs, g1, g2⟩ := hzs xs.length (Nat.le_refl _)
      refine ⟨zs, g1, fun i cs z hc hz => (g2 i z hz).1 cs hc, ?_⟩
      have := bulk_sum (f := f) (q := fun d z => f z ≤ Rows.uptoBulk d) (fun _ _ h => h) els zs (by omega) (fun i z hz => (g2 i z hz).2)
      omega
  obtain ⟨zs, g1, g2, g3⟩ := hz
  refine ⟨v, zs, h1, g3, xs.map (fun z => z.1), ?_, by simp [g1], g2⟩
  rw [List.map_map]
  exact h3 (by omega)
end
end Go.Proofs.YtnbpodjbemfpbaaGreat.Fw
set_option linter.all false
namespace Go.Proofs.YtnbpodjbemfpbaaGreat.Fw
open Go
section
variable {H : Type} {enc : TypeId × Value → H} {w : World} {base : Nat} {spare : Nat → Bool} {held : Bool} {fuel : Nat} {cs : List Value} {x : DataW H × List MemPlace}
theorem open44 (h : DataW.trod enc Tryz.prog w base spare held fuel 44 cs = some x) : ∃ y : TPrefix, cs = cPrefix y := by
  have hl := trod_len st44 ty44 h
  obtain ⟨m0, x0, h0⟩ := trod_fd fd44_0 ty42 h
  obtain ⟨y0, e0⟩ := trod_fx in42 h0
  obtain ⟨m1, x1, h1⟩ := trod_fd fd44_1 ty3 h
  obtain ⟨y1, e1⟩ := trod_fx in3 h1
  match cs, hl with
  | [a0, a1], _ =>
    simp only [List.drop, List.take, List.cons.injEq, and_true] at e0 e1
    exact ⟨⟨y0, y1⟩, by simp [cPrefix, e0, e1]⟩
theorem open46 (h : DataW.trod enc Tryz.prog w base spare held fuel 46 cs = some x) : ∃ y : TMAC, cs = cMAC y := by
  have hl := trod_lenA ar46 ty46 h
  obtain ⟨m0, x0, h0⟩ := trod_el (i := 0) ar46 ty5 rfl h
  obtain ⟨y0, e0⟩ := trod_fx in5 h0
  obtain ⟨m1, x1, h1⟩ := trod_el (i := 1) ar46 ty5 rfl h
  obtain ⟨y1, e1⟩ := trod_fx in5 h1
  obtain ⟨m2, x2, h2⟩ := trod_el (i := 2) ar46 ty5 rfl h
  obtain ⟨y2, e2⟩ := trod_fx in5 h2
  obtain ⟨m3, x3, h3⟩ := trod_el (i := 3) ar46 ty5 rfl h
  obtain ⟨y3, e3⟩ := trod_fx in5 h3
  obtain ⟨m4, x4, h4⟩ := trod_el (i := 4) ar46 ty5 rfl h
  obtain ⟨y4, e4⟩ := trod_fx in5 h4
  obtain ⟨m5, x5, h5⟩ := trod_el (i := 5) ar46 ty5 rfl h
  obtain ⟨y5, e5⟩ := trod_fx in5 h5
  match cs, hl with
  | [a0, a1, a2, a3, a4, a5], _ =>
    simp only [List.drop, List.take, List.cons.injEq, and_true] at e0 e1 e2 e3 e4 e5
    exact ⟨⟨y0, y1, y2, y3, y4, y5⟩, by simp [cMAC, e0, e1, e2, e3, e4, e5]⟩
theorem open48 (h : DataW.trod enc Tryz.prog w base spare held fuel 48 cs = some x) : ∃ y : TLease, cs = cLease y := by
  have hl := trod_len st48 ty48 h
  obtain ⟨m0, x0, h0⟩ := trod_fd fd48_0 ty3 h
  obtain ⟨y0, e0⟩ := trod_fx in3 h0
  obtain ⟨m1, x1, h1⟩ := trod_fd fd48_1 ty44 h
  obtain ⟨y1, e1⟩ := open44 h1
  obtain ⟨m2, x2, h2⟩ := trod_fd fd48_2 ty42 h
  obtain ⟨y2, e2⟩ := trod_fx in42 h2
  obtain ⟨m3, x3, h3⟩ := trod_fd fd48_3 ty46 h
  obtain ⟨y3, e3⟩ := open46 h3
  obtain ⟨m4, x4, h4⟩ := trod_fd fd48_4 ty2 h
  obtain ⟨y4, e4⟩ := trod_fx in2 h4
  obtain ⟨m5, x5, h5⟩ := trod_fd fd48_5 ty2 h
  obtain ⟨y5, e5⟩ := trod_fx in2 h5
  match cs, hl with
  | [a0, a1, a2, a3, a4, a5, a6, a7, a8, a9, a10, a11], _ =>
    simp only [List.drop, List.take, cMAC, cPrefix, List.cons.injEq, and_true] at e0 e1 e2 e3 e4 e5
    exact ⟨⟨y0, y1, y2, y3, y4, y5⟩, by simp [cLease, e0, e1, e2, e3, e4, e5]⟩
theorem open51 (h : DataW.trod enc Tryz.prog w base spare held fuel 51 cs = some x) : ∃ y : TRoute, cs = cRoute y := by
  have hl := trod_len st51 ty51 h
  obtain ⟨m0, x0, h0⟩ := trod_fd fd51_0 ty44 h
  obtain ⟨y0, e0⟩ := open44 h0
  obtain ⟨m1, x1, h1⟩ := trod_fd fd51_1 ty42 h
  obtain ⟨y1, e1⟩ := trod_fx in42 h1
  obtain ⟨m2, x2, h2⟩ := trod_fd fd51_2 ty4 h
  obtain ⟨y2, e2⟩ := trod_bo ub4 h2
  match cs, hl with
  | [a0, a1, a2, a3], _ =>
    simp only [List.drop, List.take, cPrefix, List.cons.injEq, and_true] at e0 e1 e2
    exact ⟨⟨y0, y1, y2⟩, by simp [cRoute, e0, e1, e2]⟩
theorem open54 (h : DataW.trod enc Tryz.prog w base spare held fuel 54 cs = some x) : ∃ y : TNeigh, cs = cNeigh y := by
  have hl := trod_len st54 ty54 h
  obtain ⟨m0, x0, h0⟩ := trod_fd fd54_0 ty42 h
  obtain ⟨y0, e0⟩ := trod_fx in42 h0
  obtain ⟨m1, x1, h1⟩ := trod_fd fd54_1 ty46 h
  obtain ⟨y1, e1⟩ := open46 h1
  match cs, hl with
  | [a0, a1, a2, a3, a4, a5, a6], _ =>
    simp only [List.drop, List.take, cMAC, List.cons.injEq, and_true] at e0 e1
    exact ⟨⟨y0, y1⟩, by simp [cNeigh, e0, e1]⟩
theorem open56 (h : DataW.trod enc Tryz.prog w base spare held fuel 56 cs = some x) : ∃ y : TFdb, cs = cFdb y := by
  have hl := trod_len st56 ty56 h
  obtain ⟨m0, x0, h0⟩ := trod_fd fd56_0 ty46 h
  obtain ⟨y0, e0⟩ := open46 h0
  obtain ⟨m1, x1, h1⟩ := trod_fd fd56_1 ty42 h
  obtain ⟨y1, e1⟩ := trod_fx in42 h1
  match cs, hl with
  | [a0, a1, a2, a3, a4, a5, a6], _ =>
    simp only [List.drop, List.take, cMAC, List.cons.injEq, and_true] at e0 e1
    exact ⟨⟨y0, y1⟩, by simp [cFdb, e0, e1]⟩
theorem open61 (h : DataW.trod enc Tryz.prog w base spare held fuel 61 cs = some x) : ∃ y : TSelf, cs = cSelf y := by
  have hl := trod_len st61 ty61 h
  obtain ⟨m0, x0, h0⟩ := trod_fd fd61_0 ty3 h
  obtain ⟨y0, e0⟩ := trod_fx in3 h0
  obtain ⟨m1, x1, h1⟩ := trod_fd fd61_1 ty42 h
  obtain ⟨y1, e1⟩ := trod_fx in42 h1
  obtain ⟨m2, x2, h2⟩ := trod_fd fd61_2 ty46 h
  obtain ⟨y2, e2⟩ := open46 h2
  obtain ⟨m3, x3, h3⟩ := trod_fd fd61_3 ty2 h
  obtain ⟨y3, e3⟩ := trod_fx in2 h3
  match cs, hl with
  | [a0, a1, a2, a3, a4, a5, a6, a7, a8], _ =>
    simp only [List.drop, List.take, cMAC, List.cons.injEq, and_true] at e0 e1 e2 e3
    exact ⟨⟨y0, y1, y2, y3⟩, by simp [cSelf, e0, e1, e2, e3]⟩
theorem open72 (h : DataW.trod enc Tryz.prog w base spare held fuel 72 cs = some x) : ∃ y : TAnswer, cs = cAnswer y := by
  have hl := trod_len st72 ty72 h
  obtain ⟨m0, x0, h0⟩ := trod_fd fd72_0 ty36 h
  obtain ⟨y0, e0⟩ := trod_fx in36 h0
  obtain ⟨m1, x1, h1⟩ := trod_fd fd72_1 ty48 h
  obtain ⟨y1, e1⟩ := open48 h1
  obtain ⟨m2, x2, h2⟩ := trod_fd fd72_2 ty2 h
  obtain ⟨y2, e2⟩ := trod_fx in2 h2
  obtain ⟨m3, x3, h3⟩ := trod_fd fd72_3 ty2 h
  obtain ⟨y3, e3⟩ := trod_fx in2 h3
  match cs, hl with
  | [a0, a1, a2, a3, a4, a5, a6, a7, a8, a9, a10, a11, a12, a13, a14], _ =>
    simp only [List.drop, List.take, cLease, List.cons.injEq, and_true] at e0 e1 e2 e3
    exact ⟨⟨y0, y1, y2, y3⟩, by simp [cAnswer, e0, e1, e2, e3]⟩
theorem open161 (h : DataW.trod enc Tryz.prog w base spare held fuel 161 cs = some x) : ∃ y : TEvent, cs = cEvent y := by
  have hl := trod_len st161 ty161 h
  obtain ⟨m0, x0, h0⟩ := trod_fd fd161_0 ty2 h
  obtain ⟨y0, e0⟩ := trod_fx in2 h0
  obtain ⟨m1, x1, h1⟩ := trod_fd fd161_1 ty3 h
  obtain ⟨y1, e1⟩ := trod_fx in3 h1
  obtain ⟨m2, x2, h2⟩ := trod_fd fd161_2 ty48 h
  obtain ⟨y2, e2⟩ := open48 h2
  match cs, hl with
  | [a0, a1, a2, a3, a4, a5, a6, a7, a8, a9, a10, a11, a12, a13], _ =>
    simp only [List.drop, List.take, cLease, List.cons.injEq, and_true] at e0 e1 e2
    exact ⟨⟨y0, y1, y2⟩, by simp [cEvent, e0, e1, e2]⟩
end
end Go.Proofs.YtnbpodjbemfpbaaGreat.Fw
set_option linter.all false
set_option maxHeartbeats 2000000
namespace Go.Proofs.YtnbpodjbemfpbaaGreat.Fw
open Go Go.ChangeShapes Go.WideShapes
theorem opsSz_sum : ∀ l : List OqM, opsSz l = (l.map opSz).sum
  | [] => rfl
  | o :: r => by simp only [opsSz, List.map_cons, List.sum_cons, opsSz_sum r]
section
variable {H : Type} {enc : TypeId × Value → H} {w : World} {base : Nat} {spare : Nat → Bool} {held : Bool} {fuel : Nat} {cs : List Value} {x : DataW H × List MemPlace}
theorem open79 {B : Nat} (hB2 : Nat.ble B 140737488355328 = true) (h : DataW.trod enc Tryz.prog w base spare held fuel 79 cs = some x) (hB : Rows.uptoBulk x.1 ≤ B) : ∃ z : OqM, cs.length = 26 ∧ OqR (hh w) cs z ∧ opSz z ≤ Rows.uptoBulk x.1 := by
  have hl := trod_len st79 ty79 h
  obtain ⟨_, _, h0⟩ := trod_fd fd79_0 ty3 h
  obtain ⟨y0, e0⟩ := trod_fx in3 h0
  obtain ⟨_, _, h1⟩ := trod_fd fd79_1 ty3 h
  obtain ⟨y1, e1⟩ := trod_fx in3 h1
  obtain ⟨_, _, h2⟩ := trod_fd fd79_2 ty2 h
  obtain ⟨y2, e2⟩ := trod_fx in2 h2
  obtain ⟨_, x3, h3, b3⟩ := trod_fdB fd79_3 ty77 h
  obtain ⟨_, _, h4⟩ := trod_fd fd77_0 ty36 h3
  obtain ⟨y4, e4⟩ := trod_fx in36 h4
  obtain ⟨_, _, h5⟩ := trod_fd fd77_1 ty72 h3
  obtain ⟨y5, e5⟩ := open72 h5
  obtain ⟨_, x6, x7, x8, h6, h7, h8, b6⟩ := trod_fd3 fd77_2 ty74 fd77_3 ty75 fd77_4 ty29 (by kernel_rfl) (by kernel_rfl) h3
  obtain ⟨_, _, h9⟩ := trod_fd fd74_0 ty2 h6
  obtain ⟨y9, e9⟩ := trod_fx in2 h9
  obtain ⟨_, _, h10⟩ := trod_fd fd74_1 ty2 h6
  obtain ⟨y10, e10⟩ := trod_fx in2 h10
  obtain ⟨_, x11, h11, b11⟩ := trod_fdB fd74_2 ty22 h6
  obtain ⟨_, x12, x13, x14, h12, h13, h14, b12⟩ := trod_fd3 fd29_0 ty25 fd29_1 ty26 fd29_2 ty27 (by kernel_rfl) (by kernel_rfl) h8
  obtain ⟨v1, l, g1, s1, R1⟩ := rd_sliceL (c := cLease) (B := B) sl22 ty48 (by kernel_rfl) (fun m es y h => open48 h) lLease h11 (by omega) hB2
  obtain ⟨v2, ev, g2, s2, R2⟩ := rd_sliceL (c := cEvent) (B := B) sl75 ty161 (by kernel_rfl) (fun m es y h => open161 h) lEvent h7 (by omega) hB2
  obtain ⟨v3, r, g3, s3, R3⟩ := rd_sliceL (c := cRoute) (B := B) sl25 ty51 (by kernel_rfl) (fun m es y h => open51 h) lRoute h12 (by omega) hB2
  obtain ⟨v4, n, g4, s4, R4⟩ := rd_sliceL (c := cNeigh) (B := B) sl26 ty54 (by kernel_rfl) (fun m es y h => open54 h) lNeigh h13 (by omega) hB2
  obtain ⟨v5, f, g5, s5, R5⟩ := rd_sliceL (c := cFdb) (B := B) sl27 ty56 (by kernel_rfl) (fun m es y h => open56 h) lFdb h14 (by omega) hB2
  refine ⟨⟨y0, y1, y2, y4, y5, y9, y10, l, ev, r, n, f⟩, hl, ⟨v1, v2, v3, v4, v5, ?_, R1, R2, R3, R4, R5⟩, ?_⟩
  · match cs, hl with
    | [a0, a1, a2, a3, a4, a5, a6, a7, a8, a9, a10, a11, a12, a13, a14, a15, a16, a17, a18, a19, a20, a21, a22, a23, a24, a25], _ =>
      simp only [List.drop, List.take, cAnswer, List.cons.injEq, and_true] at e0 e1 e2 e4 e5 e9 e10 g1 g2 g3 g4 g5
      simp [cOq, e0, e1, e2, e4, e5, e9, e10, g1, g2, g3, g4, g5]
  · simp only [opSz]
    omega
theorem rd_script (h : DataW.trod enc Tryz.prog w base spare held fuel 62 cs = some x) (hB : Rows.uptoBulk x.1 ≤ 1048576) : ∃ (v : SH) (ops : List OqM), cs = [v.v] ∧ opsSz ops ≤ 1048576 ∧ RdN OqR (hh w) 26 v.v ops := by
  obtain ⟨v, zs, h1, h2, h3⟩ := rd_nest (f := opSz) (r := OqR) (B := 1048576) (k := 26) sl62 ty79 (by kernel_rfl) (fun m es y h hb => open79 (by kernel_rfl) h hb) h hB (by kernel_rfl) (fun m es y h => trod_len st79 ty79 h)
  exact ⟨v, zs, h1, by rw [opsSz_sum]; omega, h3⟩
end
end Go.Proofs.YtnbpodjbemfpbaaGreat.Fw
set_option linter.all false
set_option maxRecDepth 100000
namespace Go.Proofs.YtnbpodjbemfpbaaGreat.agentQuiet
open Go Go.ChangeShapes Go.WideShapes Go.ChangeAt Go.RowKit Go.Proofs.YtnbpodjbemfpbaaGreat.Fw
theorem own : ownKnob Tryz.prog.godebug = none := by kernel_rfl
theorem laid : laidOutB Tryz.prog = true := by kernel_rfl
theorem contract (H : Type) (enc : TypeId × Value → H) (W : World) (base : Nat) (args : Array Value) (ds gs : List (DataW H)) (before : List MemPlace)
    (hk : Rows.uptoSmall H (ds ++ gs) = true)
    (hval : ∀ (j : Nat) t v, Tryz.f8.params[j]? = some t → args[j]? = some v → Value.okWide Tryz.prog W .any base t v)
    (hW : DataW.Whole enc Tryz.prog Tryz.f8.params.toList Rows.agentQuietSpec.vars false W args.toList ds gs before) :
    Calls Tryz.prog 8 args W fun e W' => ∃ v, e = .returned v ∧ Rows.agentQuietSpec.post enc Tryz.prog Tryz.f8 false true false false W args v W' := by
  have hW' := hW
  obtain ⟨p, q, hA0, hV, rfl, hfz, hnd⟩ := hW
  have hA : DataW.TrodAll enc Tryz.prog W 0 (fun _ => true) true Tryz.f8.params.toList args.toList ds p := hA0
  have hp : Tryz.f8.params = #[61, 62, 2] := by kernel_rfl
  rw [hp] at hA hval
  have hA1 := hA
  obtain ⟨v0, vs0, d0, ds0, p0, q0, hargs, rfl, rfl, h0, r0⟩ := trodAll_cons hA
  obtain ⟨v1, vs1, d1, ds1, p1, q1, rfl, rfl, rfl, h1, r1⟩ := trodAll_cons r0
  obtain ⟨v2, vs2, d2, ds2, p2, q2, rfl, rfl, rfl, h2, r2⟩ := trodAll_cons r1
  obtain ⟨rfl, rfl, rfl⟩ := trodAll_nil r2
  obtain rfl : args = #[v0, v1, v2] := by cases args; simp_all
  obtain ⟨rfl, rfl⟩ := trodVars_none hV
  have hk' : Rows.uptoBulkAll ([d0, d1, d2] ++ []) ≤ 1048576 := of_decide_eq_true hk
  simp only [List.cons_append, List.nil_append, Rows.uptoBulkAll] at hk'
  obtain ⟨oth, rfl, rfl, rfl, w1⟩ := open_int (inI_spec in2) (hval 2 2 v2 rfl rfl) h2
  obtain ⟨fs0, g0, _⟩ := stI_spec st61
  obtain ⟨⟨c0⟩, rfl, _⟩ := okWide_struct g0 (hval 0 61 v0 rfl rfl)
  obtain ⟨a1, l1, c1, rfl⟩ := okWide_slice (slI_spec sl62) (hval 1 62 v1 rfl rfl)
  obtain ⟨fuel0, f0⟩ := h0
  obtain ⟨fuel1, f1⟩ := h1
  obtain ⟨s, e0⟩ := open61 f0
  obtain ⟨x, ops, e1, hsz, hrd⟩ := rd_script f1 (by simp only; omega)
  have hv : Value.slice a1 l1 c1 = x.v := by simpa [Value.cells] using e1
  simp only [Value.cells] at e0
  subst e0
  rw [hv] at hA1 hW' ⊢
  refine (agentQuiet_c s x ops oth W hrd hsz).mono fun e W' ⟨he, hg⟩ => ?_
  subst he
  have hb := hg.below
  refine ⟨_, rfl, post_kept (pa := p0 ++ (p1 ++ ([] ++ []))) (pv := []) hW' hb (fun _ _ _ => trodAll_cons_mk (shut_bool ub4 _) trodAll_mk0) (fun sp hsp => ?_) (fun _ _ => rfl) (by simp) (ok_one (by kernel_rfl) rfl (okWide_bool_mk ub4 _))⟩
  rw [hp]
  exact trodAll_kept laid hb (by simp only [List.mem_cons, List.not_mem_nil, or_false]; rintro t (rfl | rfl | rfl); exact ⟨by kernel_rfl, of_decide_eq_true (by kernel_rfl)⟩; exact ⟨by kernel_rfl, of_decide_eq_true (by kernel_rfl)⟩; exact ⟨by kernel_rfl, of_decide_eq_true (by kernel_rfl)⟩) (fun y hy => hW'.lt y (by simpa using hy)) (fun y hy => hsp y (by simpa using hy)) hA1
set_option maxRecDepth 100000 in
theorem lifted (os : Os) (started : os.Started) (H : Type) (enc : TypeId × Value → H) (F : Stop.Interp) :
    ReturnsInHanded {} Tryz.checked os 8 .any ((Rows.OpenSpec.upto Rows.agentQuietSpec).pre6 enc Tryz.prog Tryz.f8 Rows.agentQuietUptoRow.domain false) (((Rows.OpenSpec.upto Rows.agentQuietSpec).at F).post enc Tryz.prog Tryz.f8 false true false false) := by
  refine returnsInHanded_of_cond (C := Tryz.checked) (s := Rows.OpenSpec.upto Rows.agentQuietSpec) (k := Rows.uptoSmall) rfl own started (by kernel_rfl) Tryz.func8
    (OpenSpec.witness (enc := enc) (C := Tryz.checked) (s := Rows.OpenSpec.upto Rows.agentQuietSpec) (k := Rows.uptoSmall) rfl false ⟨#[], #[.agg #[.int .i64 0, .int .u32 0, .int .u8 0, .int .u8 0, .int .u8 0, .int .u8 0, .int .u8 0, .int .u8 0, .int .i64 0], .slice none 0 0, .int .i64 0], []⟩ 8 (by kernel_rfl) (by kernel_rfl) (by kernel_rfl)
      (x := ([.agg [.lit (.int .i64 0), .lit (.int .u32 0), .agg [.lit (.int .u8 0), .lit (.int .u8 0), .lit (.int .u8 0), .lit (.int .u8 0), .lit (.int .u8 0), .lit (.int .u8 0)], .lit (.int .i64 0)], .nil, .lit (.int .i64 0)], [], [])) (by kernel_rfl) rfl (by kernel_rfl)) ?_
  intro W base args ds gs before hval hW _ hk _
  exact contract H enc W base args ds gs before hk hval hW
theorem over : Rows.agentQuietUptoRow.holds Tryz.pinned (Rows.OpenSpec.upto Rows.agentQuietSpec) :=
  OpenClaim.holds_of_cond 8 Tryz.f8 rfl rfl rfl rfl rfl rfl rfl ⟨rfl, rfl, rfl, rfl, rfl⟩ rfl rfl rfl rfl rfl (by kernel_rfl) Tryz.func8 (by kernel_rfl)
    (of_decide_eq_true (by kernel_rfl)) (by unfold Func.isWrapper; rw [if_neg (of_decide_eq_false (by kernel_rfl))]; exact ⟨rfl, rfl⟩)
    (fun os started H enc _ F => lifted os started H enc F)
theorem proved : Rows.AgentQuietUptoSaid :=
  over
end Go.Proofs.YtnbpodjbemfpbaaGreat.agentQuiet
