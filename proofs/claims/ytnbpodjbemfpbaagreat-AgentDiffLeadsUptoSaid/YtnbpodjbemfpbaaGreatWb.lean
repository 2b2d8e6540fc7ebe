/-
  Walks: printed by wip/tool/agent.py.
-/
import Derived.Test.YtnbpodjbemfpbaaGreatWl
import Derived.Test.YtnbpodjbemfpbaaGreatFw16
import Derived.KernelRfl
set_option linter.all false
set_option maxHeartbeats 100000000
set_option maxRecDepth 100000
namespace Go.Proofs.YtnbpodjbemfpbaaGreat.Fw
open Go
def lit0 : TMAC := (⟨⟨0, rfl⟩, ⟨0, rfl⟩, ⟨0, rfl⟩, ⟨0, rfl⟩, ⟨0, rfl⟩, ⟨0, rfl⟩⟩ : TMAC)
def lit1 : TSelf := (⟨⟨2, rfl⟩, ⟨9, rfl⟩, lit0, ⟨5, rfl⟩⟩ : TSelf)
def lit2 : TPrefix := (⟨⟨0, rfl⟩, ⟨0, rfl⟩⟩ : TPrefix)
def lit3 : TCmd := (⟨⟨0, rfl⟩, ⟨0, rfl⟩, lit2, ⟨0, rfl⟩, lit0, ⟨0, rfl⟩⟩ : TCmd)
def lit4 : TRoute := (⟨lit2, ⟨0, rfl⟩, false⟩ : TRoute)
def lit5 : TOp := (⟨⟨0, rfl⟩, lit4, (⟨⟨0, rfl⟩, lit0⟩ : TNeigh), (⟨lit0, ⟨0, rfl⟩⟩ : TFdb)⟩ : TOp)
def lit6 : TReq := (⟨⟨0, rfl⟩, lit3, lit5, ⟨0, rfl⟩, ⟨0, rfl⟩⟩ : TReq)
def lit7 : TReq := (⟨⟨1, rfl⟩, lit3, lit5, ⟨0, rfl⟩, ⟨0, rfl⟩⟩ : TReq)
def lit8 : TLease := (⟨⟨0, rfl⟩, lit2, ⟨0, rfl⟩, lit0, ⟨0, rfl⟩, ⟨0, rfl⟩⟩ : TLease)
def lit9 : TAnswer := (⟨⟨0, rfl⟩, lit8, ⟨0, rfl⟩, ⟨0, rfl⟩⟩ : TAnswer)
def lit10 : TReq := (⟨⟨2, rfl⟩, lit3, lit5, ⟨0, rfl⟩, ⟨0, rfl⟩⟩ : TReq)
def lit11 : TPrefix := (⟨⟨167772416, rfl⟩, ⟨24, rfl⟩⟩ : TPrefix)
def lit12 : TMAC := (⟨⟨2, rfl⟩, ⟨0, rfl⟩, ⟨0, rfl⟩, ⟨0, rfl⟩, ⟨0, rfl⟩, ⟨1, rfl⟩⟩ : TMAC)
def lit13 : TLease := (⟨⟨1, rfl⟩, lit11, ⟨8, rfl⟩, lit12, ⟨0, rfl⟩, ⟨0, rfl⟩⟩ : TLease)
def lit14 : TOp := (⟨⟨5, rfl⟩, lit4, (⟨⟨0, rfl⟩, lit0⟩ : TNeigh), (⟨⟨⟨2, rfl⟩, ⟨0, rfl⟩, ⟨0, rfl⟩, ⟨0, rfl⟩, ⟨0, rfl⟩, ⟨1, rfl⟩⟩, ⟨8, rfl⟩⟩ : TFdb)⟩ : TOp)
def lit15 : TOp := (⟨⟨3, rfl⟩, lit4, (⟨⟨167772416, rfl⟩, ⟨⟨2, rfl⟩, ⟨0, rfl⟩, ⟨0, rfl⟩, ⟨0, rfl⟩, ⟨0, rfl⟩, ⟨1, rfl⟩⟩⟩ : TNeigh), (⟨lit0, ⟨0, rfl⟩⟩ : TFdb)⟩ : TOp)
def lit16 : TOp := (⟨⟨1, rfl⟩, (⟨⟨⟨167772416, rfl⟩, ⟨24, rfl⟩⟩, ⟨167772416, rfl⟩, false⟩ : TRoute), (⟨⟨0, rfl⟩, lit0⟩ : TNeigh), (⟨lit0, ⟨0, rfl⟩⟩ : TFdb)⟩ : TOp)
def lit17 : TReq := (⟨⟨3, rfl⟩, lit3, lit14, ⟨0, rfl⟩, ⟨0, rfl⟩⟩ : TReq)
theorem begun_c (w0 : World) : Pure Tryz.prog 10 [] (.bool true) w0 := by
  refine enter (n := 65) Tryz.func10 rfl rfl rfl fun a (hs : St 65 [] a) => ?_
  have m := Hp.start w0
  refine c_reg ?_
  refine r_ok hs m (ok_assign rfl) rfl ?_
  clear hs a; intro a hs
  refine wpList_nil (n_then ?_)
  refine c_reg ?_
  refine r_ok hs m (ok_build (cs := cSelf lit1) st61 ze61 rfl (by kernel_rfl)) rfl ?_
  clear hs a; intro a hs
  refine r_call (us := [.agg ⟨cSelf lit1⟩]) (Rc := fun v w' => ∃ v9 : SH, ∃ p6 : Addr, ∃ p4 : Addr, v = (.tuple ⟨[.pointer (some (padd p4 0)), .int .i64 0]⟩) ∧ Hp w0 (hh w0) [Sv 2 138 v9.v (([[.string (ByteArray.mk ⟨[100, 117, 109, 112]⟩), .func (.func 71) ⟨[]⟩ ⟨[.pointer (some (padd p6 0))]⟩], [.string (ByteArray.mk ⟨[115, 110, 97, 112, 115, 104, 111, 116]⟩), .func (.func 72) ⟨[]⟩ ⟨[.pointer (some (padd p6 0))]⟩], [.string (ByteArray.mk ⟨[107, 101, 114, 110, 101, 108]⟩), .func (.func 73) ⟨[.pointer (some (padd p4 0))]⟩ ⟨[]⟩], [.string (ByteArray.mk ⟨[97, 99, 113, 117, 105, 114, 101]⟩), .func (.func 74) ⟨[.pointer (some (padd p4 0))]⟩ ⟨[]⟩], [.string (ByteArray.mk ⟨[114, 101, 110, 101, 119]⟩), .func (.func 75) ⟨[.pointer (some (padd p4 0))]⟩ ⟨[]⟩], [.string (ByteArray.mk ⟨[119, 97, 116, 99, 104]⟩), .func (.func 76) ⟨[]⟩ ⟨[.pointer (some (padd p6 0))]⟩]] : List (List Value)).map id), Bx p6 63 [.pointer (some (padd p4 0))], Bx p4 135 (List.append (cSelf lit1) (List.append [v9.v] (List.append (cReq lit6) (List.append [.bool false, nilH.v, nilH.v, nilH.v, nilH.v, .int .i64 0, .bool true, nilH.v, .bool false, .int .i64 0, .bool false] (List.append (cPrefix lit2) [.bool false, .bool false])))))] w') hs rfl rfl ca26 rfl (enter (n := 46) Tryz.func26 rfl rfl rfl fun a (hs : St 46 [(0, .agg ⟨cSelf lit1⟩)] a) => ?_) rfl ?_
  · refine c_reg ?_
    refine r_box (cs := cSelf lit1) hs m rfl (by kernel_rfl) rfl ?_
    clear m hs a; intro p1 w2 m a hs
    refine r_ok hs m (ok_assign rfl) rfl ?_
    clear hs a; intro a hs
    refine r_ok hs m (ok_assign rfl) rfl ?_
    clear hs a; intro a hs
    refine wpList_nil (n_then ?_)
    refine c_seq ?_
    refine c_reg ?_
    refine r_ok hs m (ok_fieldAddr (r := 0) rfl fd61_0 ty3 rfl) rfl ?_
    clear hs a; intro a hs
    refine r_ok hs m (ok_load_sc rfl ty3 (bx_at r0) rfl) rfl ?_
    clear hs a; intro a hs
    refine r_ok hs m (ok_bin (v := .bool false) rfl rfl rfl) rfl ?_
    clear hs a; intro a hs
    refine r_ok hs m (ok_move rfl) rfl ?_
    clear hs a; intro a hs
    refine r_okg hs rfl rfl rfl m (ok_fieldAddr (r := 0) rfl fd61_0 ty3 rfl) rfl ?_
    clear hs a; intro a hs
    refine r_okg hs rfl rfl rfl m (ok_load_sc rfl ty3 (bx_at r0) rfl) rfl ?_
    clear hs a; intro a hs
    refine r_okg hs rfl rfl rfl m (ok_bin (v := .bool false) rfl rfl rfl) rfl ?_
    clear hs a; intro a hs
    refine r_ok hs m (ok_pick (r := .bool false) rfl rfl rfl rfl) rfl ?_
    clear hs a; intro a hs
    refine r_ok hs m (ok_move rfl) rfl ?_
    clear hs a; intro a hs
    refine r_okg hs rfl rfl rfl m (ok_fieldAddr (r := 8) rfl fd61_3 ty2 rfl) rfl ?_
    clear hs a; intro a hs
    refine r_okg hs rfl rfl rfl m (ok_load_sc rfl ty2 (bx_at r0) rfl) rfl ?_
    clear hs a; intro a hs
    refine r_okg hs rfl rfl rfl m (ok_bin (v := .bool false) rfl rfl rfl) rfl ?_
    clear hs a; intro a hs
    refine r_ok hs m (ok_pick (r := .bool false) rfl rfl rfl rfl) rfl ?_
    clear hs a; intro a hs
    refine r_ok hs m (ok_move rfl) rfl ?_
    clear hs a; intro a hs
    refine r_okg hs rfl rfl rfl m (ok_fieldAddr (r := 8) rfl fd61_3 ty2 rfl) rfl ?_
    clear hs a; intro a hs
    refine r_okg hs rfl rfl rfl m (ok_load_sc rfl ty2 (bx_at r0) rfl) rfl ?_
    clear hs a; intro a hs
    refine r_okg hs rfl rfl rfl m (ok_bin (v := .bool false) rfl rfl rfl) rfl ?_
    clear hs a; intro a hs
    refine r_ok hs m (ok_pick (r := .bool false) rfl rfl rfl rfl) rfl ?_
    clear hs a; intro a hs
    refine wpList_nil (n_then ?_)
    refine c_false hs rfl rfl ?_
    refine wp_skip ?_
    refine n_then ?_
    refine c_reg ?_
    refine r_ok hs m (ok_load_ag (vs := cSelf lit1) rfl ty61 (bx_at r0) (by kernel_rfl) (by kernel_rfl)) rfl ?_
    clear hs a; intro a hs
    refine r_ok hs m (ok_build (cs := List.append (cSelf lit1) (List.append [nilH.v] (List.append (cReq lit6) (List.append [.bool false, nilH.v, nilH.v, nilH.v, nilH.v, .int .i64 0, .bool true, nilH.v, .bool false, .int .i64 0, .bool false] (List.append (cPrefix lit2) [.bool false, .bool false]))))) st135 ze135 rfl (by kernel_rfl)) rfl ?_
    clear hs a; intro a hs
    refine r_box (cs := List.append (cSelf lit1) (List.append [nilH.v] (List.append (cReq lit6) (List.append [.bool false, nilH.v, nilH.v, nilH.v, nilH.v, .int .i64 0, .bool true, nilH.v, .bool false, .int .i64 0, .bool false] (List.append (cPrefix lit2) [.bool false, .bool false]))))) hs m rfl (by kernel_rfl) rfl ?_
    clear m hs a w2; intro p4 w5 m a hs
    refine r_alloc hs m ze63 rfl ?_
    clear m hs a w5; intro p6 w7 m a hs
    refine r_store (cs' := [.pointer (some (padd p4 0))]) (vs := [.pointer (some (padd p4 0))]) hs m rfl rfl ty63 s0 (by kernel_rfl) (by kernel_rfl) (by kernel_rfl) (by kernel_rfl) (by kernel_rfl) ?_
    clear m w7; intro w8 m
    refine wpList_nil (n_then ?_)
    refine c_reg ?_
    refine r_ok hs m (ok_load_sc rfl ty63 (bx_at r0) rfl) rfl ?_
    clear hs a; intro a hs
    refine r_ok hs m (ok_makeFunc (us := []) (vs := [.pointer (some (padd p6 0))]) rfl rfl) rfl ?_
    clear hs a; intro a hs
    refine r_ok hs m (ok_build (cs := [.string (ByteArray.mk ⟨[100, 117, 109, 112]⟩), .func (.func 71) ⟨[]⟩ ⟨[.pointer (some (padd p6 0))]⟩]) st138 ze138 rfl (by kernel_rfl)) rfl ?_
    clear hs a; intro a hs
    refine r_ok hs m (ok_makeFunc (us := []) (vs := [.pointer (some (padd p6 0))]) rfl rfl) rfl ?_
    clear hs a; intro a hs
    refine r_ok hs m (ok_build (cs := [.string (ByteArray.mk ⟨[115, 110, 97, 112, 115, 104, 111, 116]⟩), .func (.func 72) ⟨[]⟩ ⟨[.pointer (some (padd p6 0))]⟩]) st138 ze138 rfl (by kernel_rfl)) rfl ?_
    clear hs a; intro a hs
    refine r_ok hs m (ok_load_sc rfl ty63 (bx_at r0) rfl) rfl ?_
    clear hs a; intro a hs
    refine r_ok hs m (ok_makeFunc (us := [.pointer (some (padd p4 0))]) (vs := []) rfl rfl) rfl ?_
    clear hs a; intro a hs
    refine r_ok hs m (ok_build (cs := [.string (ByteArray.mk ⟨[107, 101, 114, 110, 101, 108]⟩), .func (.func 73) ⟨[.pointer (some (padd p4 0))]⟩ ⟨[]⟩]) st138 ze138 rfl (by kernel_rfl)) rfl ?_
    clear hs a; intro a hs
    refine r_ok hs m (ok_load_sc rfl ty63 (bx_at r0) rfl) rfl ?_
    clear hs a; intro a hs
    refine r_ok hs m (ok_makeFunc (us := [.pointer (some (padd p4 0))]) (vs := []) rfl rfl) rfl ?_
    clear hs a; intro a hs
    refine r_ok hs m (ok_build (cs := [.string (ByteArray.mk ⟨[97, 99, 113, 117, 105, 114, 101]⟩), .func (.func 74) ⟨[.pointer (some (padd p4 0))]⟩ ⟨[]⟩]) st138 ze138 rfl (by kernel_rfl)) rfl ?_
    clear hs a; intro a hs
    refine r_ok hs m (ok_load_sc rfl ty63 (bx_at r0) rfl) rfl ?_
    clear hs a; intro a hs
    refine r_ok hs m (ok_makeFunc (us := [.pointer (some (padd p4 0))]) (vs := []) rfl rfl) rfl ?_
    clear hs a; intro a hs
    refine r_ok hs m (ok_build (cs := [.string (ByteArray.mk ⟨[114, 101, 110, 101, 119]⟩), .func (.func 75) ⟨[.pointer (some (padd p4 0))]⟩ ⟨[]⟩]) st138 ze138 rfl (by kernel_rfl)) rfl ?_
    clear hs a; intro a hs
    refine r_ok hs m (ok_makeFunc (us := []) (vs := [.pointer (some (padd p6 0))]) rfl rfl) rfl ?_
    clear hs a; intro a hs
    refine r_ok hs m (ok_build (cs := [.string (ByteArray.mk ⟨[119, 97, 116, 99, 104]⟩), .func (.func 76) ⟨[]⟩ ⟨[.pointer (some (padd p6 0))]⟩]) st138 ze138 rfl (by kernel_rfl)) rfl ?_
    clear hs a; intro a hs
    refine r_buildId (ys := [[.string (ByteArray.mk ⟨[100, 117, 109, 112]⟩), .func (.func 71) ⟨[]⟩ ⟨[.pointer (some (padd p6 0))]⟩], [.string (ByteArray.mk ⟨[115, 110, 97, 112, 115, 104, 111, 116]⟩), .func (.func 72) ⟨[]⟩ ⟨[.pointer (some (padd p6 0))]⟩], [.string (ByteArray.mk ⟨[107, 101, 114, 110, 101, 108]⟩), .func (.func 73) ⟨[.pointer (some (padd p4 0))]⟩ ⟨[]⟩], [.string (ByteArray.mk ⟨[97, 99, 113, 117, 105, 114, 101]⟩), .func (.func 74) ⟨[.pointer (some (padd p4 0))]⟩ ⟨[]⟩], [.string (ByteArray.mk ⟨[114, 101, 110, 101, 119]⟩), .func (.func 75) ⟨[.pointer (some (padd p4 0))]⟩ ⟨[]⟩], [.string (ByteArray.mk ⟨[119, 97, 116, 99, 104]⟩), .func (.func 76) ⟨[]⟩ ⟨[.pointer (some (padd p6 0))]⟩]]) hs m sl133 ty138 ze138 rfl rfl rfl rfl rfl rfl rfl rfl rfl ?_
    clear m hs a w8; intro v9 w10 m a hs
    refine r_ok hs m (ok_nilCheck rfl) rfl ?_
    clear hs a; intro a hs
    refine r_ok hs m (ok_fieldAddr (r := 9) rfl fd135_1 ty133 rfl) rfl ?_
    clear hs a; intro a hs
    refine r_store (cs' := List.append (cSelf lit1) (List.append [v9.v] (List.append (cReq lit6) (List.append [.bool false, nilH.v, nilH.v, nilH.v, nilH.v, .int .i64 0, .bool true, nilH.v, .bool false, .int .i64 0, .bool false] (List.append (cPrefix lit2) [.bool false, .bool false]))))) (vs := [v9.v]) hs m rfl rfl ty133 s2 (by kernel_rfl) (by kernel_rfl) (by kernel_rfl) (by kernel_rfl) (by kernel_rfl) ?_
    clear m w10; intro w11 m
    refine wpList_nil (n_then ?_)
    refine c_reg ?_
    refine r_ok hs m (ok_load_sc rfl ty63 (bx_at r1) rfl) rfl ?_
    clear hs a; intro a hs
    refine r_ok hs m (ok_assign rfl) rfl ?_
    clear hs a; intro a hs
    refine r_ok hs m (ok_assign rfl) rfl ?_
    clear hs a; intro a hs
    refine wpList_nil (n_then ?_)
    refine wp_ret ?_
    refine leave hs (vs := [.pointer (some (padd p4 0)), .int .i64 0]) rfl ⟨rfl, rfl, trivial⟩ ?_
    exact ⟨_, rfl, v9, p6, p4, rfl, m.sub (.c r0 (.c r0 (.c r0 .n)))⟩
  clear hs a m; rintro _ w12 ⟨v9, p6, p4, rfl, m⟩ a hs
  refine r_ok hs m (ok_move rfl) rfl ?_
  clear hs a; intro a hs
  refine r_ok hs m (ok_extract rfl rfl) rfl ?_
  clear hs a; intro a hs
  refine r_ok hs m (ok_extract rfl rfl) rfl ?_
  clear hs a; intro a hs
  refine r_ok hs m (ok_assign rfl) rfl ?_
  clear hs a; intro a hs
  refine r_ok hs m (ok_assign rfl) rfl ?_
  clear hs a; intro a hs
  refine wpList_nil (n_then ?_)
  refine c_seq ?_
  refine c_reg ?_
  refine r_ok hs m (ok_move rfl) rfl ?_
  clear hs a; intro a hs
  refine r_ok hs m (ok_isNilP rfl rfl pt63) rfl ?_
  clear hs a; intro a hs
  refine r_ok hs m (ok_move rfl) rfl ?_
  clear hs a; intro a hs
  refine r_okg hs rfl rfl rfl m (ok_move rfl) rfl ?_
  clear hs a; intro a hs
  refine r_okg hs rfl rfl rfl m (ok_bin (v := .bool false) rfl rfl rfl) rfl ?_
  clear hs a; intro a hs
  refine r_ok hs m (ok_pick (r := .bool false) rfl rfl rfl rfl) rfl ?_
  clear hs a; intro a hs
  refine wpList_nil (n_then ?_)
  refine c_false hs rfl rfl ?_
  refine wp_skip ?_
  refine n_then ?_
  refine c_reg ?_
  refine r_ok hs m (ok_move rfl) rfl ?_
  clear hs a; intro a hs
  refine r_call (us := [.pointer (some (padd p4 0)), .int .i64 0]) (Rc := fun v w' => v = (.agg ⟨cReq lit7⟩) ∧ Hp w0 (hh w0) [Sv 2 138 v9.v (([[.string (ByteArray.mk ⟨[100, 117, 109, 112]⟩), .func (.func 71) ⟨[]⟩ ⟨[.pointer (some (padd p6 0))]⟩], [.string (ByteArray.mk ⟨[115, 110, 97, 112, 115, 104, 111, 116]⟩), .func (.func 72) ⟨[]⟩ ⟨[.pointer (some (padd p6 0))]⟩], [.string (ByteArray.mk ⟨[107, 101, 114, 110, 101, 108]⟩), .func (.func 73) ⟨[.pointer (some (padd p4 0))]⟩ ⟨[]⟩], [.string (ByteArray.mk ⟨[97, 99, 113, 117, 105, 114, 101]⟩), .func (.func 74) ⟨[.pointer (some (padd p4 0))]⟩ ⟨[]⟩], [.string (ByteArray.mk ⟨[114, 101, 110, 101, 119]⟩), .func (.func 75) ⟨[.pointer (some (padd p4 0))]⟩ ⟨[]⟩], [.string (ByteArray.mk ⟨[119, 97, 116, 99, 104]⟩), .func (.func 76) ⟨[]⟩ ⟨[.pointer (some (padd p6 0))]⟩]] : List (List Value)).map id), Bx p6 63 [.pointer (some (padd p4 0))], Bx p4 135 (List.append (cSelf lit1) (List.append [v9.v] (List.append (cReq lit7) (List.append [.bool false, nilH.v, nilH.v, nilH.v, nilH.v, .int .i64 0, .bool true, nilH.v, .bool false, .int .i64 0, .bool false] (List.append (cPrefix lit2) [.bool false, .bool false])))))] w') hs rfl rfl ca31 rfl (enter (n := 41) Tryz.func31 rfl rfl rfl fun a (hs : St 41 [(0, .pointer (some (padd p4 0))), (1, .int .i64 0)] a) => ?_) rfl ?_
  · refine c_reg ?_
    refine r_alloc hs m ze89 rfl ?_
    clear m hs a w12; intro p14 w15 m a hs
    refine wpList_nil (n_then ?_)
    refine c_seq ?_
    refine c_reg ?_
    refine r_ok hs m (ok_move rfl) rfl ?_
    clear hs a; intro a hs
    refine r_ok hs m (ok_nilCheck rfl) rfl ?_
    clear hs a; intro a hs
    refine r_ok hs m (ok_fieldAddr (r := 9) rfl fd135_1 ty133 rfl) rfl ?_
    clear hs a; intro a hs
    refine r_ok hs m (ok_load_sc rfl ty133 (bx_at r3) rfl) rfl ?_
    clear hs a; intro a hs
    refine r_ok hs m (ok_len (r := 6) m rfl sl133 (rc_own r1) rfl) rfl ?_
    clear hs a; intro a hs
    refine r_ok hs m (ok_move rfl) rfl ?_
    clear hs a; intro a hs
    refine wpList_nil (n_then ?_)
    refine wp_block ?_
    refine wp_loop_rounds 13 ?_
    refine rounds_s ?_
    refine c_reg ?_
    refine r_ok hs m (ok_bin (v := .bool true) rfl rfl rfl) rfl ?_
    clear hs a; intro a hs
    refine wpList_nil (n_then ?_)
    refine c_seq ?_
    refine c_true hs rfl rfl ?_
    refine wp_skip ?_
    refine n_then ?_
    refine c_seq ?_
    refine wp_block ?_
    refine c_reg ?_
    refine elO (c := id) (e := ([.string (ByteArray.mk ⟨[100, 117, 109, 112]⟩), .func (.func 71) ⟨[]⟩ ⟨[.pointer (some (padd p6 0))]⟩] : List Value)) hs m (x := (.tmp 12)) (ix := (.tmp 14)) rfl rfl sl133 ty138 r1 (by omega) rfl fun p17 hp18 ok19 => ?_
    refine r_ok hs m (ok19 _ _ _ _ _) rfl ?_
    clear hs a; intro a hs
    refine r_ok hs m (ok_load_ag (vs := [.string (ByteArray.mk ⟨[100, 117, 109, 112]⟩), .func (.func 71) ⟨[]⟩ ⟨[.pointer (some (padd p6 0))]⟩]) rfl ty138 (el_at hp18 r1 (get_map _ (rfl : ([[.string (ByteArray.mk ⟨[100, 117, 109, 112]⟩), .func (.func 71) ⟨[]⟩ ⟨[.pointer (some (padd p6 0))]⟩], [.string (ByteArray.mk ⟨[115, 110, 97, 112, 115, 104, 111, 116]⟩), .func (.func 72) ⟨[]⟩ ⟨[.pointer (some (padd p6 0))]⟩], [.string (ByteArray.mk ⟨[107, 101, 114, 110, 101, 108]⟩), .func (.func 73) ⟨[.pointer (some (padd p4 0))]⟩ ⟨[]⟩], [.string (ByteArray.mk ⟨[97, 99, 113, 117, 105, 114, 101]⟩), .func (.func 74) ⟨[.pointer (some (padd p4 0))]⟩ ⟨[]⟩], [.string (ByteArray.mk ⟨[114, 101, 110, 101, 119]⟩), .func (.func 75) ⟨[.pointer (some (padd p4 0))]⟩ ⟨[]⟩], [.string (ByteArray.mk ⟨[119, 97, 116, 99, 104]⟩), .func (.func 76) ⟨[]⟩ ⟨[.pointer (some (padd p6 0))]⟩]])[0]? = some ([.string (ByteArray.mk ⟨[100, 117, 109, 112]⟩), .func (.func 71) ⟨[]⟩ ⟨[.pointer (some (padd p6 0))]⟩] : List Value)))) (by kernel_rfl) (by kernel_rfl)) rfl ?_
    clear hs a; intro a hs
    refine r_alloc hs m ze138 rfl ?_
    clear m hs a w15; intro p20 w21 m a hs
    refine r_store (cs' := [.string (ByteArray.mk ⟨[100, 117, 109, 112]⟩), .func (.func 71) ⟨[]⟩ ⟨[.pointer (some (padd p6 0))]⟩]) (vs := [.string (ByteArray.mk ⟨[100, 117, 109, 112]⟩), .func (.func 71) ⟨[]⟩ ⟨[.pointer (some (padd p6 0))]⟩]) hs m rfl rfl ty138 s0 (by kernel_rfl) (by kernel_rfl) (by kernel_rfl) (by kernel_rfl) (by kernel_rfl) ?_
    clear m w21; intro w22 m
    refine wpList_nil (n_then ?_)
    refine c_seq ?_
    refine c_reg ?_
    refine r_ok hs m (ok_move rfl) rfl ?_
    clear hs a; intro a hs
    refine r_ok hs m (ok_nilCheck rfl) rfl ?_
    clear hs a; intro a hs
    refine r_ok hs m (ok_fieldAddr (r := 10) rfl fd135_2 ty89 rfl) rfl ?_
    clear hs a; intro a hs
    refine r_ok hs m (ok_fieldAddr (r := 10) rfl fd89_0 ty3 rfl) rfl ?_
    clear hs a; intro a hs
    refine r_ok hs m (ok_load_sc rfl ty3 (bx_at r4) rfl) rfl ?_
    clear hs a; intro a hs
    refine r_ok hs m (ok_bin (v := .bool false) rfl rfl rfl) rfl ?_
    clear hs a; intro a hs
    refine wpList_nil (n_then ?_)
    refine c_false hs rfl rfl ?_
    refine wp_skip ?_
    refine n_then ?_
    refine c_reg ?_
    refine r_ok hs m (ok_fieldAddr (r := 1) rfl fd138_1 ty136 rfl) rfl ?_
    clear hs a; intro a hs
    refine r_ok hs m (ok_load_sc rfl ty136 (bx_at r0) rfl) rfl ?_
    clear hs a; intro a hs
    refine r_ok hs m (ok_move rfl) rfl ?_
    clear hs a; intro a hs
    refine r_call (us := [.int .i64 0, .pointer (some (padd p6 0))]) (Rc := fun v w' => v = (.tuple ⟨[.agg ⟨cReq lit7⟩, .bool true]⟩) ∧ Hp w0 (hh w0) [Bx p20 138 [.string (ByteArray.mk ⟨[100, 117, 109, 112]⟩), .func (.func 71) ⟨[]⟩ ⟨[.pointer (some (padd p6 0))]⟩], Bx p14 89 (cReq lit6), Sv 2 138 v9.v (([[.string (ByteArray.mk ⟨[100, 117, 109, 112]⟩), .func (.func 71) ⟨[]⟩ ⟨[.pointer (some (padd p6 0))]⟩], [.string (ByteArray.mk ⟨[115, 110, 97, 112, 115, 104, 111, 116]⟩), .func (.func 72) ⟨[]⟩ ⟨[.pointer (some (padd p6 0))]⟩], [.string (ByteArray.mk ⟨[107, 101, 114, 110, 101, 108]⟩), .func (.func 73) ⟨[.pointer (some (padd p4 0))]⟩ ⟨[]⟩], [.string (ByteArray.mk ⟨[97, 99, 113, 117, 105, 114, 101]⟩), .func (.func 74) ⟨[.pointer (some (padd p4 0))]⟩ ⟨[]⟩], [.string (ByteArray.mk ⟨[114, 101, 110, 101, 119]⟩), .func (.func 75) ⟨[.pointer (some (padd p4 0))]⟩ ⟨[]⟩], [.string (ByteArray.mk ⟨[119, 97, 116, 99, 104]⟩), .func (.func 76) ⟨[]⟩ ⟨[.pointer (some (padd p6 0))]⟩]] : List (List Value)).map id), Bx p6 63 [.pointer (some (padd p4 0))], Bx p4 135 (List.append (cSelf lit1) (List.append [v9.v] (List.append (cReq lit6) (List.append [.bool false, nilH.v, nilH.v, nilH.v, nilH.v, .int .i64 0, .bool true, nilH.v, .bool false, .int .i64 0, .bool false] (List.append (cPrefix lit2) [.bool false, .bool false])))))] w') hs rfl rfl ca71 rfl (enter (n := 11) Tryz.func71 rfl rfl rfl fun a (hs : St 11 [(0, .int .i64 0), (1, .pointer (some (padd p6 0)))] a) => ?_) rfl ?_
    · refine c_reg ?_
      refine r_alloc hs m ze89 rfl ?_
      clear m hs a w22; intro p24 w25 m a hs
      refine r_ok hs m (ok_assign rfl) rfl ?_
      clear hs a; intro a hs
      refine wpList_nil (n_then ?_)
      refine c_drawH (Hp w0 (hh w0) [Bx p20 138 [.string (ByteArray.mk ⟨[100, 117, 109, 112]⟩), .func (.func 71) ⟨[]⟩ ⟨[.pointer (some (padd p6 0))]⟩], Bx p14 89 (cReq lit6), Sv 2 138 v9.v (([[.string (ByteArray.mk ⟨[100, 117, 109, 112]⟩), .func (.func 71) ⟨[]⟩ ⟨[.pointer (some (padd p6 0))]⟩], [.string (ByteArray.mk ⟨[115, 110, 97, 112, 115, 104, 111, 116]⟩), .func (.func 72) ⟨[]⟩ ⟨[.pointer (some (padd p6 0))]⟩], [.string (ByteArray.mk ⟨[107, 101, 114, 110, 101, 108]⟩), .func (.func 73) ⟨[.pointer (some (padd p4 0))]⟩ ⟨[]⟩], [.string (ByteArray.mk ⟨[97, 99, 113, 117, 105, 114, 101]⟩), .func (.func 74) ⟨[.pointer (some (padd p4 0))]⟩ ⟨[]⟩], [.string (ByteArray.mk ⟨[114, 101, 110, 101, 119]⟩), .func (.func 75) ⟨[.pointer (some (padd p4 0))]⟩ ⟨[]⟩], [.string (ByteArray.mk ⟨[119, 97, 116, 99, 104]⟩), .func (.func 76) ⟨[]⟩ ⟨[.pointer (some (padd p6 0))]⟩]] : List (List Value)).map id), Bx p6 63 [.pointer (some (padd p4 0))], Bx p4 135 (List.append (cSelf lit1) (List.append [v9.v] (List.append (cReq lit6) (List.append [.bool false, nilH.v, nilH.v, nilH.v, nilH.v, .int .i64 0, .bool true, nilH.v, .bool false, .int .i64 0, .bool false] (List.append (cPrefix lit2) [.bool false, .bool false])))))]) m mo ?_; clear m w25; intro w26 m
      refine h_ok (i := 0) rfl (by kernel_rfl) (by kernel_rfl) (by kernel_rfl) hs (m.sub (.c r1 (.c r1 (.c r1 (.c r1 (.c r1 .n)))))) (ok_build (cs := cReq lit7) st89 ze89 rfl (by kernel_rfl)) rfl ?_
      clear hs a; intro a hs
      refine h_ok (i := 1) rfl (by kernel_rfl) (by kernel_rfl) (by kernel_rfl) hs (m.sub (.c r1 (.c r1 (.c r1 (.c r1 (.c r1 .n)))))) (ok_load_sc rfl ty63 (bx_at r3) rfl) rfl ?_
      clear hs a; intro a hs
      refine h_ok (i := 2) rfl (by kernel_rfl) (by kernel_rfl) (by kernel_rfl) hs (m.sub (.c r1 (.c r1 (.c r1 (.c r1 (.c r1 .n)))))) (ok_nilCheck rfl) rfl ?_
      clear hs a; intro a hs
      refine h_ok (i := 3) rfl (by kernel_rfl) (by kernel_rfl) (by kernel_rfl) hs (m.sub (.c r1 (.c r1 (.c r1 (.c r1 (.c r1 .n)))))) (ok_fieldAddr (r := 44) rfl fd135_3 ty4 rfl) rfl ?_
      clear hs a; intro a hs
      refine h_ok (i := 4) rfl (by kernel_rfl) (by kernel_rfl) (by kernel_rfl) hs (m.sub (.c r1 (.c r1 (.c r1 (.c r1 (.c r1 .n)))))) (ok_load_sc rfl ty4 (bx_at r4) rfl) rfl ?_
      clear hs a; intro a hs
      refine h_ok (i := 5) rfl (by kernel_rfl) (by kernel_rfl) (by kernel_rfl) hs (m.sub (.c r1 (.c r1 (.c r1 (.c r1 (.c r1 .n)))))) (ok_not rfl) rfl ?_
      clear hs a; intro a hs
      refine h_eff (i := 6) (by kernel_rfl) rfl ?_
      refine r_store (cs' := cReq lit7) (vs := cReq lit7) hs m rfl rfl ty89 s0 (by kernel_rfl) (by kernel_rfl) (by kernel_rfl) (by kernel_rfl) (by kernel_rfl) ?_
      clear m w26; intro w27 m
      refine wpList_nil (n_then ⟨(m.sub (.c r1 (.c r1 (.c r1 (.c r1 (.c r1 .n)))))), ?_⟩)
      refine h_ok (i := 7) rfl (by kernel_rfl) (by kernel_rfl) (by kernel_rfl) hs (m.sub (.c r1 (.c r1 (.c r1 (.c r1 (.c r1 .n)))))) (ok_assign rfl) rfl ?_
      clear hs a; intro a hs
      refine h_done (by kernel_rfl) (n_then ?_)
      refine wp_ret ?_
      refine leave hs (vs := [.agg ⟨cReq lit7⟩, .bool true]) rfl ⟨resv_cell (cs := cReq lit7) m rfl ty89 r0 rfl, rfl, trivial⟩ ?_
      exact ⟨_, rfl, rfl, m.sub (.c r1 (.c r1 (.c r1 (.c r1 (.c r1 .n)))))⟩
    clear hs a m w22; rintro _ w28 ⟨rfl, m⟩ a hs
    refine r_ok hs m (ok_move rfl) rfl ?_
    clear hs a; intro a hs
    refine r_ok hs m (ok_extract rfl rfl) rfl ?_
    clear hs a; intro a hs
    refine r_ok hs m (ok_extract rfl rfl) rfl ?_
    clear hs a; intro a hs
    refine r_alloc hs m ze89 rfl ?_
    clear m hs a w28; intro p29 w30 m a hs
    refine r_store (cs' := cReq lit7) (vs := cReq lit7) hs m rfl rfl ty89 s0 (by kernel_rfl) (by kernel_rfl) (by kernel_rfl) (by kernel_rfl) (by kernel_rfl) ?_
    clear m w30; intro w31 m
    refine r_ok hs m (ok_assign rfl) rfl ?_
    clear hs a; intro a hs
    refine wpList_nil (n_then ?_)
    refine c_reg ?_
    refine r_ok hs m (ok_move rfl) rfl ?_
    clear hs a; intro a hs
    refine wpList_nil (n_then ?_)
    refine c_true hs rfl rfl ?_
    refine c_last ?_
    refine r_ok hs m (ok_move rfl) rfl ?_
    clear hs a; intro a hs
    refine r_ok hs m (ok_load_ag (vs := cReq lit7) rfl ty89 (bx_at r0) (by kernel_rfl) (by kernel_rfl)) rfl ?_
    clear hs a; intro a hs
    refine r_ok hs m (ok_nilCheck rfl) rfl ?_
    clear hs a; intro a hs
    refine r_ok hs m (ok_fieldAddr (r := 10) rfl fd135_2 ty89 rfl) rfl ?_
    clear hs a; intro a hs
    refine r_store (cs' := List.append (cSelf lit1) (List.append [v9.v] (List.append (cReq lit7) (List.append [.bool false, nilH.v, nilH.v, nilH.v, nilH.v, .int .i64 0, .bool true, nilH.v, .bool false, .int .i64 0, .bool false] (List.append (cPrefix lit2) [.bool false, .bool false]))))) (vs := cReq lit7) hs m rfl rfl ty89 s5 (by kernel_rfl) (by kernel_rfl) (by kernel_rfl) (by kernel_rfl) (by kernel_rfl) ?_
    clear m w31; intro w33 m
    refine wpList_nil (n_block (n_then ?_))
    refine c_last ?_
    refine r_ok hs m (ok_add (r := 1) rfl rfl rfl) rfl ?_
    clear hs a; intro a hs
    refine r_ok hs m (ok_move rfl) rfl ?_
    clear hs a; intro a hs
    refine wpList_nil (n_then ?_)
    refine rounds_s ?_
    refine c_reg ?_
    refine r_ok hs m (ok_bin (v := .bool true) rfl rfl rfl) rfl ?_
    clear hs a; intro a hs
    refine wpList_nil (n_then ?_)
    refine c_seq ?_
    refine c_true hs rfl rfl ?_
    refine wp_skip ?_
    refine n_then ?_
    refine c_seq ?_
    refine wp_block ?_
    refine c_reg ?_
    refine elO (c := id) (e := ([.string (ByteArray.mk ⟨[115, 110, 97, 112, 115, 104, 111, 116]⟩), .func (.func 72) ⟨[]⟩ ⟨[.pointer (some (padd p6 0))]⟩] : List Value)) hs m (x := (.tmp 12)) (ix := (.tmp 14)) rfl rfl sl133 ty138 r3 (by omega) rfl fun p35 hp36 ok37 => ?_
    refine r_ok hs m (ok37 _ _ _ _ _) rfl ?_
    clear hs a; intro a hs
    refine r_ok hs m (ok_load_ag (vs := [.string (ByteArray.mk ⟨[115, 110, 97, 112, 115, 104, 111, 116]⟩), .func (.func 72) ⟨[]⟩ ⟨[.pointer (some (padd p6 0))]⟩]) rfl ty138 (el_at hp36 r3 (get_map _ (rfl : ([[.string (ByteArray.mk ⟨[100, 117, 109, 112]⟩), .func (.func 71) ⟨[]⟩ ⟨[.pointer (some (padd p6 0))]⟩], [.string (ByteArray.mk ⟨[115, 110, 97, 112, 115, 104, 111, 116]⟩), .func (.func 72) ⟨[]⟩ ⟨[.pointer (some (padd p6 0))]⟩], [.string (ByteArray.mk ⟨[107, 101, 114, 110, 101, 108]⟩), .func (.func 73) ⟨[.pointer (some (padd p4 0))]⟩ ⟨[]⟩], [.string (ByteArray.mk ⟨[97, 99, 113, 117, 105, 114, 101]⟩), .func (.func 74) ⟨[.pointer (some (padd p4 0))]⟩ ⟨[]⟩], [.string (ByteArray.mk ⟨[114, 101, 110, 101, 119]⟩), .func (.func 75) ⟨[.pointer (some (padd p4 0))]⟩ ⟨[]⟩], [.string (ByteArray.mk ⟨[119, 97, 116, 99, 104]⟩), .func (.func 76) ⟨[]⟩ ⟨[.pointer (some (padd p6 0))]⟩]])[1]? = some ([.string (ByteArray.mk ⟨[115, 110, 97, 112, 115, 104, 111, 116]⟩), .func (.func 72) ⟨[]⟩ ⟨[.pointer (some (padd p6 0))]⟩] : List Value)))) (by kernel_rfl) (by kernel_rfl)) rfl ?_
    clear hs a; intro a hs
    refine r_alloc hs m ze138 rfl ?_
    clear m hs a w33; intro p38 w39 m a hs
    refine r_store (cs' := [.string (ByteArray.mk ⟨[115, 110, 97, 112, 115, 104, 111, 116]⟩), .func (.func 72) ⟨[]⟩ ⟨[.pointer (some (padd p6 0))]⟩]) (vs := [.string (ByteArray.mk ⟨[115, 110, 97, 112, 115, 104, 111, 116]⟩), .func (.func 72) ⟨[]⟩ ⟨[.pointer (some (padd p6 0))]⟩]) hs m rfl rfl ty138 s0 (by kernel_rfl) (by kernel_rfl) (by kernel_rfl) (by kernel_rfl) (by kernel_rfl) ?_
    clear m w39; intro w40 m
    refine wpList_nil (n_then ?_)
    refine c_seq ?_
    refine c_reg ?_
    refine r_ok hs m (ok_move rfl) rfl ?_
    clear hs a; intro a hs
    refine r_ok hs m (ok_nilCheck rfl) rfl ?_
    clear hs a; intro a hs
    refine r_ok hs m (ok_fieldAddr (r := 10) rfl fd135_2 ty89 rfl) rfl ?_
    clear hs a; intro a hs
    refine r_ok hs m (ok_fieldAddr (r := 10) rfl fd89_0 ty3 rfl) rfl ?_
    clear hs a; intro a hs
    refine r_ok hs m (ok_load_sc rfl ty3 (bx_at r6) rfl) rfl ?_
    clear hs a; intro a hs
    refine r_ok hs m (ok_bin (v := .bool true) rfl rfl rfl) rfl ?_
    clear hs a; intro a hs
    refine wpList_nil (n_then ?_)
    refine c_true hs rfl rfl ?_
    refine wp_exit ?_
    refine ex_then (ex_miss rfl (ex_then (ex_then (ex_hit (?_)))))
    refine n_then ?_
    refine c_reg ?_
    refine r_ok hs m (ok_move rfl) rfl ?_
    clear hs a; intro a hs
    refine r_ok hs m (ok_nilCheck rfl) rfl ?_
    clear hs a; intro a hs
    refine r_ok hs m (ok_fieldAddr (r := 10) rfl fd135_2 ty89 rfl) rfl ?_
    clear hs a; intro a hs
    refine r_ok hs m (ok_load_ag (vs := cReq lit7) rfl ty89 (bx_at r6) (by kernel_rfl) (by kernel_rfl)) rfl ?_
    clear hs a; intro a hs
    refine r_store (cs' := cReq lit7) (vs := cReq lit7) hs m rfl rfl ty89 s3 (by kernel_rfl) (by kernel_rfl) (by kernel_rfl) (by kernel_rfl) (by kernel_rfl) ?_
    clear m w40; intro w42 m
    refine wpList_nil (n_then ?_)
    refine wp_ret ?_
    refine leave hs (vs := [.agg ⟨cReq lit7⟩]) rfl ⟨resv_cell (cs := cReq lit7) m rfl ty89 r3 rfl, trivial⟩ ?_
    exact ⟨_, rfl, rfl, m.sub (.c r4 (.c r4 (.c r4 .n)))⟩
  clear hs a m w12; rintro _ w43 ⟨rfl, m⟩ a hs
  refine r_alloc hs m ze89 rfl ?_
  clear m hs a w43; intro p44 w45 m a hs
  refine r_store (cs' := cReq lit7) (vs := cReq lit7) hs m rfl rfl ty89 s0 (by kernel_rfl) (by kernel_rfl) (by kernel_rfl) (by kernel_rfl) (by kernel_rfl) ?_
  clear m w45; intro w46 m
  refine wpList_nil (n_then ?_)
  refine c_seq ?_
  refine c_reg ?_
  refine r_ok hs m (ok_fieldAddr (r := 0) rfl fd89_0 ty3 rfl) rfl ?_
  clear hs a; intro a hs
  refine r_ok hs m (ok_load_sc rfl ty3 (bx_at r0) rfl) rfl ?_
  clear hs a; intro a hs
  refine r_ok hs m (ok_bin (v := .bool false) rfl rfl rfl) rfl ?_
  clear hs a; intro a hs
  refine r_ok hs m (ok_move rfl) rfl ?_
  clear hs a; intro a hs
  refine r_okg hs rfl rfl rfl m (ok_move rfl) rfl ?_
  clear hs a; intro a hs
  refine r_okg hs rfl rfl rfl m (ok_build (cs := List.append [.int .i64 0] (List.append (cAnswer lit9) [.int .i64 0, .int .i64 0, nilH.v, nilH.v, nilH.v, nilH.v, nilH.v])) st77 ze77 rfl (by kernel_rfl)) rfl ?_
  clear hs a; intro a hs
  refine g_strip hs rfl rfl rfl ?_
  refine r_call (us := [.pointer (some (padd p4 0)), .agg ⟨List.append [.int .i64 0] (List.append (cAnswer lit9) [.int .i64 0, .int .i64 0, nilH.v, nilH.v, nilH.v, nilH.v, nilH.v])⟩]) (Rc := fun v w' => ∃ v74 : SH, ∃ v72 : SH, ∃ v70 : SH, v = (.int .i64 0) ∧ Hp w0 (hh w0) [Sv 7 56 v74.v (([] : List TFdb).map cFdb), Sv 7 54 v72.v (([] : List TNeigh).map cNeigh), Sv 4 51 v70.v (([] : List TRoute).map cRoute), Bx p44 89 (cReq lit7), Sv 2 138 v9.v (([[.string (ByteArray.mk ⟨[100, 117, 109, 112]⟩), .func (.func 71) ⟨[]⟩ ⟨[.pointer (some (padd p6 0))]⟩], [.string (ByteArray.mk ⟨[115, 110, 97, 112, 115, 104, 111, 116]⟩), .func (.func 72) ⟨[]⟩ ⟨[.pointer (some (padd p6 0))]⟩], [.string (ByteArray.mk ⟨[107, 101, 114, 110, 101, 108]⟩), .func (.func 73) ⟨[.pointer (some (padd p4 0))]⟩ ⟨[]⟩], [.string (ByteArray.mk ⟨[97, 99, 113, 117, 105, 114, 101]⟩), .func (.func 74) ⟨[.pointer (some (padd p4 0))]⟩ ⟨[]⟩], [.string (ByteArray.mk ⟨[114, 101, 110, 101, 119]⟩), .func (.func 75) ⟨[.pointer (some (padd p4 0))]⟩ ⟨[]⟩], [.string (ByteArray.mk ⟨[119, 97, 116, 99, 104]⟩), .func (.func 76) ⟨[]⟩ ⟨[.pointer (some (padd p6 0))]⟩]] : List (List Value)).map id), Bx p6 63 [.pointer (some (padd p4 0))], Bx p4 135 (List.append (cSelf lit1) (List.append [v9.v] (List.append (cReq lit6) (List.append [.bool true, v70.v, v72.v, v74.v, nilH.v, .int .i64 0, .bool true, nilH.v, .bool false, .int .i64 0, .bool false] (List.append (cPrefix lit2) [.bool false, .bool false])))))] w') hs rfl rfl ca32 rfl (enter (n := 75) Tryz.func32 rfl rfl rfl fun a (hs : St 75 [(0, .pointer (some (padd p4 0))), (1, .agg ⟨List.append [.int .i64 0] (List.append (cAnswer lit9) [.int .i64 0, .int .i64 0, nilH.v, nilH.v, nilH.v, nilH.v, nilH.v])⟩)] a) => ?_) rfl ?_
  · refine c_reg ?_
    refine r_box (cs := List.append [.int .i64 0] (List.append (cAnswer lit9) [.int .i64 0, .int .i64 0, nilH.v, nilH.v, nilH.v, nilH.v, nilH.v])) hs m rfl (by kernel_rfl) rfl ?_
    clear m hs a w46; intro p47 w48 m a hs
    refine r_ok hs m (ok_assign rfl) rfl ?_
    clear hs a; intro a hs
    refine wpList_nil (n_then ?_)
    refine c_reg ?_
    refine r_ok hs m (ok_assign rfl) rfl ?_
    clear hs a; intro a hs
    refine wpList_nil (n_then ?_)
    refine c_reg ?_
    refine r_ok hs m (ok_assign rfl) rfl ?_
    clear hs a; intro a hs
    refine wpList_nil (n_then ?_)
    refine c_seq ?_
    refine c_reg ?_
    refine r_ok hs m (ok_move rfl) rfl ?_
    clear hs a; intro a hs
    refine r_ok hs m (ok_nilCheck rfl) rfl ?_
    clear hs a; intro a hs
    refine r_ok hs m (ok_fieldAddr (r := 10) rfl fd135_2 ty89 rfl) rfl ?_
    clear hs a; intro a hs
    refine r_ok hs m (ok_fieldAddr (r := 10) rfl fd89_0 ty3 rfl) rfl ?_
    clear hs a; intro a hs
    refine r_ok hs m (ok_load_sc rfl ty3 (bx_at r4) rfl) rfl ?_
    clear hs a; intro a hs
    refine wpList_nil (n_then ?_)
    refine wp_block ?_
    refine c_reg ?_
    refine r_ok hs m (ok_bin (v := .bool false) rfl rfl rfl) rfl ?_
    clear hs a; intro a hs
    refine r_ok hs m (ok_assign rfl) rfl ?_
    clear hs a; intro a hs
    refine wpList_nil (n_then ?_)
    refine c_false hs rfl rfl ?_
    refine c_reg ?_
    refine r_ok hs m (ok_bin (v := .bool true) rfl rfl rfl) rfl ?_
    clear hs a; intro a hs
    refine r_ok hs m (ok_assign rfl) rfl ?_
    clear hs a; intro a hs
    refine wpList_nil (n_then ?_)
    refine c_true hs rfl rfl ?_
    refine c_last ?_
    refine r_ok hs m (ok_move rfl) rfl ?_
    clear hs a; intro a hs
    refine r_ok hs m (ok_load_ag (vs := List.append [.int .i64 0] (List.append (cAnswer lit9) [.int .i64 0, .int .i64 0, nilH.v, nilH.v, nilH.v, nilH.v, nilH.v])) rfl ty77 (bx_at r0) (by kernel_rfl) (by kernel_rfl)) rfl ?_
    clear hs a; intro a hs
    refine r_call (us := [.pointer (some (padd p4 0)), .agg ⟨List.append [.int .i64 0] (List.append (cAnswer lit9) [.int .i64 0, .int .i64 0, nilH.v, nilH.v, nilH.v, nilH.v, nilH.v])⟩]) (Rc := fun v w' => ∃ v74 : SH, ∃ v72 : SH, ∃ v70 : SH, v = (.int .i64 0) ∧ Hp w0 (hh w0) [Sv 7 56 v74.v (([] : List TFdb).map cFdb), Sv 7 54 v72.v (([] : List TNeigh).map cNeigh), Sv 4 51 v70.v (([] : List TRoute).map cRoute), Bx p47 77 (List.append [.int .i64 0] (List.append (cAnswer lit9) [.int .i64 0, .int .i64 0, nilH.v, nilH.v, nilH.v, nilH.v, nilH.v])), Bx p44 89 (cReq lit7), Sv 2 138 v9.v (([[.string (ByteArray.mk ⟨[100, 117, 109, 112]⟩), .func (.func 71) ⟨[]⟩ ⟨[.pointer (some (padd p6 0))]⟩], [.string (ByteArray.mk ⟨[115, 110, 97, 112, 115, 104, 111, 116]⟩), .func (.func 72) ⟨[]⟩ ⟨[.pointer (some (padd p6 0))]⟩], [.string (ByteArray.mk ⟨[107, 101, 114, 110, 101, 108]⟩), .func (.func 73) ⟨[.pointer (some (padd p4 0))]⟩ ⟨[]⟩], [.string (ByteArray.mk ⟨[97, 99, 113, 117, 105, 114, 101]⟩), .func (.func 74) ⟨[.pointer (some (padd p4 0))]⟩ ⟨[]⟩], [.string (ByteArray.mk ⟨[114, 101, 110, 101, 119]⟩), .func (.func 75) ⟨[.pointer (some (padd p4 0))]⟩ ⟨[]⟩], [.string (ByteArray.mk ⟨[119, 97, 116, 99, 104]⟩), .func (.func 76) ⟨[]⟩ ⟨[.pointer (some (padd p6 0))]⟩]] : List (List Value)).map id), Bx p6 63 [.pointer (some (padd p4 0))], Bx p4 135 (List.append (cSelf lit1) (List.append [v9.v] (List.append (cReq lit7) (List.append [.bool true, v70.v, v72.v, v74.v, nilH.v, .int .i64 0, .bool true, nilH.v, .bool false, .int .i64 0, .bool false] (List.append (cPrefix lit2) [.bool false, .bool false])))))] w') hs rfl rfl ca86 rfl (enter (n := 41) Tryz.func86 rfl rfl rfl fun a (hs : St 41 [(0, .pointer (some (padd p4 0))), (1, .agg ⟨List.append [.int .i64 0] (List.append (cAnswer lit9) [.int .i64 0, .int .i64 0, nilH.v, nilH.v, nilH.v, nilH.v, nilH.v])⟩)] a) => ?_) rfl ?_
    · refine c_reg ?_
      refine r_box (cs := List.append [.int .i64 0] (List.append (cAnswer lit9) [.int .i64 0, .int .i64 0, nilH.v, nilH.v, nilH.v, nilH.v, nilH.v])) hs m rfl (by kernel_rfl) rfl ?_
      clear m hs a w48; intro p51 w52 m a hs
      refine r_ok hs m (ok_assign rfl) rfl ?_
      clear hs a; intro a hs
      refine wpList_nil (n_then ?_)
      refine c_seq ?_
      refine c_reg ?_
      refine r_ok hs m (ok_fieldAddr (r := 0) rfl fd77_0 ty36 rfl) rfl ?_
      clear hs a; intro a hs
      refine r_ok hs m (ok_load_sc rfl ty36 (bx_at r0) rfl) rfl ?_
      clear hs a; intro a hs
      refine r_ok hs m (ok_bin (v := .bool false) rfl rfl rfl) rfl ?_
      clear hs a; intro a hs
      refine wpList_nil (n_then ?_)
      refine c_false hs rfl rfl ?_
      refine wp_skip ?_
      refine n_then ?_
      refine c_seq ?_
      refine c_reg ?_
      refine r_ok hs m (ok_fieldAddr (r := 20) rfl fd77_4 ty29 rfl) rfl ?_
      clear hs a; intro a hs
      refine r_ok hs m (ok_load_ag (vs := [nilH.v, nilH.v, nilH.v]) rfl ty29 (bx_at r0) (by kernel_rfl) (by kernel_rfl)) rfl ?_
      clear hs a; intro a hs
      refine r_call (us := [.agg ⟨[nilH.v, nilH.v, nilH.v]⟩]) (Rc := fun v w' => v = (.bool true) ∧ Hp w0 (hh w0) [Bx p51 77 (List.append [.int .i64 0] (List.append (cAnswer lit9) [.int .i64 0, .int .i64 0, nilH.v, nilH.v, nilH.v, nilH.v, nilH.v])), Bx p47 77 (List.append [.int .i64 0] (List.append (cAnswer lit9) [.int .i64 0, .int .i64 0, nilH.v, nilH.v, nilH.v, nilH.v, nilH.v])), Bx p44 89 (cReq lit7), Sv 2 138 v9.v (([[.string (ByteArray.mk ⟨[100, 117, 109, 112]⟩), .func (.func 71) ⟨[]⟩ ⟨[.pointer (some (padd p6 0))]⟩], [.string (ByteArray.mk ⟨[115, 110, 97, 112, 115, 104, 111, 116]⟩), .func (.func 72) ⟨[]⟩ ⟨[.pointer (some (padd p6 0))]⟩], [.string (ByteArray.mk ⟨[107, 101, 114, 110, 101, 108]⟩), .func (.func 73) ⟨[.pointer (some (padd p4 0))]⟩ ⟨[]⟩], [.string (ByteArray.mk ⟨[97, 99, 113, 117, 105, 114, 101]⟩), .func (.func 74) ⟨[.pointer (some (padd p4 0))]⟩ ⟨[]⟩], [.string (ByteArray.mk ⟨[114, 101, 110, 101, 119]⟩), .func (.func 75) ⟨[.pointer (some (padd p4 0))]⟩ ⟨[]⟩], [.string (ByteArray.mk ⟨[119, 97, 116, 99, 104]⟩), .func (.func 76) ⟨[]⟩ ⟨[.pointer (some (padd p6 0))]⟩]] : List (List Value)).map id), Bx p6 63 [.pointer (some (padd p4 0))], Bx p4 135 (List.append (cSelf lit1) (List.append [v9.v] (List.append (cReq lit7) (List.append [.bool false, nilH.v, nilH.v, nilH.v, nilH.v, .int .i64 0, .bool true, nilH.v, .bool false, .int .i64 0, .bool false] (List.append (cPrefix lit2) [.bool false, .bool false])))))] w') hs rfl rfl ca56 rfl (enter (n := 30) Tryz.func56 rfl rfl rfl fun a (hs : St 30 [(0, .agg ⟨[nilH.v, nilH.v, nilH.v]⟩)] a) => ?_) rfl ?_
      · refine c_reg ?_
        refine r_box (cs := [nilH.v, nilH.v, nilH.v]) hs m rfl (by kernel_rfl) rfl ?_
        clear m hs a w52; intro p54 w55 m a hs
        refine r_ok hs m (ok_assign rfl) rfl ?_
        clear hs a; intro a hs
        refine wpList_nil (n_then ?_)
        refine c_seq ?_
        refine c_reg ?_
        refine r_ok hs m (ok_fieldAddr (r := 0) rfl fd29_0 ty25 rfl) rfl ?_
        clear hs a; intro a hs
        refine r_ok hs m (ok_load_sc rfl ty25 (bx_at r0) rfl) rfl ?_
        clear hs a; intro a hs
        refine r_ok hs m (ok_lenH (x := nilH) rfl sl25) rfl ?_
        clear hs a; intro a hs
        refine r_ok hs m (ok_move rfl) rfl ?_
        clear hs a; intro a hs
        refine wpList_nil (n_then ?_)
        refine wp_block ?_
        refine wp_loop_rounds 13 ?_
        refine rounds_s ?_
        refine c_reg ?_
        refine r_ok hs m (ok_bin (v := .bool false) rfl rfl rfl) rfl ?_
        clear hs a; intro a hs
        refine wpList_nil (n_then ?_)
        refine c_seq ?_
        refine c_false hs rfl rfl ?_
        refine wp_exit ?_
        refine ex_then (ex_then (ex_hit (?_)))
        refine n_then ?_
        refine c_reg ?_
        refine r_ok hs m (ok_fieldAddr (r := 0) rfl fd29_0 ty25 rfl) rfl ?_
        clear hs a; intro a hs
        refine r_ok hs m (ok_load_sc rfl ty25 (bx_at r0) rfl) rfl ?_
        clear hs a; intro a hs
        refine r_call (us := [nilH.v, .func (.func 45) ⟨[]⟩ ⟨[]⟩]) (Rc := fun v w' => v = (.bool true) ∧ Hp w0 (hh w0) [Bx p54 29 [nilH.v, nilH.v, nilH.v], Bx p51 77 (List.append [.int .i64 0] (List.append (cAnswer lit9) [.int .i64 0, .int .i64 0, nilH.v, nilH.v, nilH.v, nilH.v, nilH.v])), Bx p47 77 (List.append [.int .i64 0] (List.append (cAnswer lit9) [.int .i64 0, .int .i64 0, nilH.v, nilH.v, nilH.v, nilH.v, nilH.v])), Bx p44 89 (cReq lit7), Sv 2 138 v9.v (([[.string (ByteArray.mk ⟨[100, 117, 109, 112]⟩), .func (.func 71) ⟨[]⟩ ⟨[.pointer (some (padd p6 0))]⟩], [.string (ByteArray.mk ⟨[115, 110, 97, 112, 115, 104, 111, 116]⟩), .func (.func 72) ⟨[]⟩ ⟨[.pointer (some (padd p6 0))]⟩], [.string (ByteArray.mk ⟨[107, 101, 114, 110, 101, 108]⟩), .func (.func 73) ⟨[.pointer (some (padd p4 0))]⟩ ⟨[]⟩], [.string (ByteArray.mk ⟨[97, 99, 113, 117, 105, 114, 101]⟩), .func (.func 74) ⟨[.pointer (some (padd p4 0))]⟩ ⟨[]⟩], [.string (ByteArray.mk ⟨[114, 101, 110, 101, 119]⟩), .func (.func 75) ⟨[.pointer (some (padd p4 0))]⟩ ⟨[]⟩], [.string (ByteArray.mk ⟨[119, 97, 116, 99, 104]⟩), .func (.func 76) ⟨[]⟩ ⟨[.pointer (some (padd p6 0))]⟩]] : List (List Value)).map id), Bx p6 63 [.pointer (some (padd p4 0))], Bx p4 135 (List.append (cSelf lit1) (List.append [v9.v] (List.append (cReq lit7) (List.append [.bool false, nilH.v, nilH.v, nilH.v, nilH.v, .int .i64 0, .bool true, nilH.v, .bool false, .int .i64 0, .bool false] (List.append (cPrefix lit2) [.bool false, .bool false])))))] w') hs rfl rfl ca109 rfl (enter (n := 28) Tryz.func109 rfl rfl rfl fun a (hs : St 28 [(0, nilH.v), (1, .func (.func 45) ⟨[]⟩ ⟨[]⟩)] a) => ?_) rfl ?_
        · refine c_reg ?_
          refine r_ok hs m (ok_assign rfl) rfl ?_
          clear hs a; intro a hs
          refine wpList_nil (n_then ?_)
          refine c_seq ?_
          refine c_reg ?_
          refine r_ok hs m (ok_move rfl) rfl ?_
          clear hs a; intro a hs
          refine r_ok hs m (ok_lenH (x := nilH) rfl sl25) rfl ?_
          clear hs a; intro a hs
          refine r_ok hs m (ok_move rfl) rfl ?_
          clear hs a; intro a hs
          refine wpList_nil (n_then ?_)
          refine wp_block ?_
          refine wp_loop_rounds 13 ?_
          refine rounds_s ?_
          refine c_reg ?_
          refine r_ok hs m (ok_bin (v := .bool false) rfl rfl rfl) rfl ?_
          clear hs a; intro a hs
          refine wpList_nil (n_then ?_)
          refine c_seq ?_
          refine c_false hs rfl rfl ?_
          refine wp_exit ?_
          refine ex_then (ex_then (ex_hit (?_)))
          refine n_then ?_
          refine c_reg ?_
          refine r_ok hs m (ok_assign rfl) rfl ?_
          clear hs a; intro a hs
          refine wpList_nil (n_then ?_)
          refine wp_ret ?_
          refine leave hs (vs := [.bool true]) rfl ⟨rfl, trivial⟩ ?_
          exact ⟨_, rfl, rfl, m.sub (.c r0 (.c r0 (.c r0 (.c r0 (.c r0 (.c r0 (.c r0 .n)))))))⟩
        clear hs a m w55; rintro _ w58 ⟨rfl, m⟩ a hs
        refine r_ok hs m (ok_move rfl) rfl ?_
        clear hs a; intro a hs
        refine r_okg hs rfl rfl rfl m (ok_fieldAddr (r := 1) rfl fd29_1 ty26 rfl) rfl ?_
        clear hs a; intro a hs
        refine r_okg hs rfl rfl rfl m (ok_load_sc rfl ty26 (bx_at r0) rfl) rfl ?_
        clear hs a; intro a hs
        refine g_strip hs rfl rfl rfl ?_
        refine r_call (us := [nilH.v, .func (.func 47) ⟨[]⟩ ⟨[]⟩]) (Rc := fun v w' => v = (.bool true) ∧ Hp w0 (hh w0) [Bx p54 29 [nilH.v, nilH.v, nilH.v], Bx p51 77 (List.append [.int .i64 0] (List.append (cAnswer lit9) [.int .i64 0, .int .i64 0, nilH.v, nilH.v, nilH.v, nilH.v, nilH.v])), Bx p47 77 (List.append [.int .i64 0] (List.append (cAnswer lit9) [.int .i64 0, .int .i64 0, nilH.v, nilH.v, nilH.v, nilH.v, nilH.v])), Bx p44 89 (cReq lit7), Sv 2 138 v9.v (([[.string (ByteArray.mk ⟨[100, 117, 109, 112]⟩), .func (.func 71) ⟨[]⟩ ⟨[.pointer (some (padd p6 0))]⟩], [.string (ByteArray.mk ⟨[115, 110, 97, 112, 115, 104, 111, 116]⟩), .func (.func 72) ⟨[]⟩ ⟨[.pointer (some (padd p6 0))]⟩], [.string (ByteArray.mk ⟨[107, 101, 114, 110, 101, 108]⟩), .func (.func 73) ⟨[.pointer (some (padd p4 0))]⟩ ⟨[]⟩], [.string (ByteArray.mk ⟨[97, 99, 113, 117, 105, 114, 101]⟩), .func (.func 74) ⟨[.pointer (some (padd p4 0))]⟩ ⟨[]⟩], [.string (ByteArray.mk ⟨[114, 101, 110, 101, 119]⟩), .func (.func 75) ⟨[.pointer (some (padd p4 0))]⟩ ⟨[]⟩], [.string (ByteArray.mk ⟨[119, 97, 116, 99, 104]⟩), .func (.func 76) ⟨[]⟩ ⟨[.pointer (some (padd p6 0))]⟩]] : List (List Value)).map id), Bx p6 63 [.pointer (some (padd p4 0))], Bx p4 135 (List.append (cSelf lit1) (List.append [v9.v] (List.append (cReq lit7) (List.append [.bool false, nilH.v, nilH.v, nilH.v, nilH.v, .int .i64 0, .bool true, nilH.v, .bool false, .int .i64 0, .bool false] (List.append (cPrefix lit2) [.bool false, .bool false])))))] w') hs rfl rfl ca110 rfl (enter (n := 28) Tryz.func110 rfl rfl rfl fun a (hs : St 28 [(0, nilH.v), (1, .func (.func 47) ⟨[]⟩ ⟨[]⟩)] a) => ?_) rfl ?_
        · refine c_reg ?_
          refine r_ok hs m (ok_assign rfl) rfl ?_
          clear hs a; intro a hs
          refine wpList_nil (n_then ?_)
          refine c_seq ?_
          refine c_reg ?_
          refine r_ok hs m (ok_move rfl) rfl ?_
          clear hs a; intro a hs
          refine r_ok hs m (ok_lenH (x := nilH) rfl sl26) rfl ?_
          clear hs a; intro a hs
          refine r_ok hs m (ok_move rfl) rfl ?_
          clear hs a; intro a hs
          refine wpList_nil (n_then ?_)
          refine wp_block ?_
          refine wp_loop_rounds 13 ?_
          refine rounds_s ?_
          refine c_reg ?_
          refine r_ok hs m (ok_bin (v := .bool false) rfl rfl rfl) rfl ?_
          clear hs a; intro a hs
          refine wpList_nil (n_then ?_)
          refine c_seq ?_
          refine c_false hs rfl rfl ?_
          refine wp_exit ?_
          refine ex_then (ex_then (ex_hit (?_)))
          refine n_then ?_
          refine c_reg ?_
          refine r_ok hs m (ok_assign rfl) rfl ?_
          clear hs a; intro a hs
          refine wpList_nil (n_then ?_)
          refine wp_ret ?_
          refine leave hs (vs := [.bool true]) rfl ⟨rfl, trivial⟩ ?_
          exact ⟨_, rfl, rfl, m.sub (.c r0 (.c r0 (.c r0 (.c r0 (.c r0 (.c r0 (.c r0 .n)))))))⟩
        clear hs a m w58; rintro _ w60 ⟨rfl, m⟩ a hs
        refine r_ok hs m (ok_pick (r := .bool true) rfl rfl rfl rfl) rfl ?_
        clear hs a; intro a hs
        refine r_ok hs m (ok_move rfl) rfl ?_
        clear hs a; intro a hs
        refine r_okg hs rfl rfl rfl m (ok_fieldAddr (r := 2) rfl fd29_2 ty27 rfl) rfl ?_
        clear hs a; intro a hs
        refine r_okg hs rfl rfl rfl m (ok_load_sc rfl ty27 (bx_at r0) rfl) rfl ?_
        clear hs a; intro a hs
        refine g_strip hs rfl rfl rfl ?_
        refine r_call (us := [nilH.v, .func (.func 49) ⟨[]⟩ ⟨[]⟩]) (Rc := fun v w' => v = (.bool true) ∧ Hp w0 (hh w0) [Bx p54 29 [nilH.v, nilH.v, nilH.v], Bx p51 77 (List.append [.int .i64 0] (List.append (cAnswer lit9) [.int .i64 0, .int .i64 0, nilH.v, nilH.v, nilH.v, nilH.v, nilH.v])), Bx p47 77 (List.append [.int .i64 0] (List.append (cAnswer lit9) [.int .i64 0, .int .i64 0, nilH.v, nilH.v, nilH.v, nilH.v, nilH.v])), Bx p44 89 (cReq lit7), Sv 2 138 v9.v (([[.string (ByteArray.mk ⟨[100, 117, 109, 112]⟩), .func (.func 71) ⟨[]⟩ ⟨[.pointer (some (padd p6 0))]⟩], [.string (ByteArray.mk ⟨[115, 110, 97, 112, 115, 104, 111, 116]⟩), .func (.func 72) ⟨[]⟩ ⟨[.pointer (some (padd p6 0))]⟩], [.string (ByteArray.mk ⟨[107, 101, 114, 110, 101, 108]⟩), .func (.func 73) ⟨[.pointer (some (padd p4 0))]⟩ ⟨[]⟩], [.string (ByteArray.mk ⟨[97, 99, 113, 117, 105, 114, 101]⟩), .func (.func 74) ⟨[.pointer (some (padd p4 0))]⟩ ⟨[]⟩], [.string (ByteArray.mk ⟨[114, 101, 110, 101, 119]⟩), .func (.func 75) ⟨[.pointer (some (padd p4 0))]⟩ ⟨[]⟩], [.string (ByteArray.mk ⟨[119, 97, 116, 99, 104]⟩), .func (.func 76) ⟨[]⟩ ⟨[.pointer (some (padd p6 0))]⟩]] : List (List Value)).map id), Bx p6 63 [.pointer (some (padd p4 0))], Bx p4 135 (List.append (cSelf lit1) (List.append [v9.v] (List.append (cReq lit7) (List.append [.bool false, nilH.v, nilH.v, nilH.v, nilH.v, .int .i64 0, .bool true, nilH.v, .bool false, .int .i64 0, .bool false] (List.append (cPrefix lit2) [.bool false, .bool false])))))] w') hs rfl rfl ca111 rfl (enter (n := 28) Tryz.func111 rfl rfl rfl fun a (hs : St 28 [(0, nilH.v), (1, .func (.func 49) ⟨[]⟩ ⟨[]⟩)] a) => ?_) rfl ?_
        · refine c_reg ?_
          refine r_ok hs m (ok_assign rfl) rfl ?_
          clear hs a; intro a hs
          refine wpList_nil (n_then ?_)
          refine c_seq ?_
          refine c_reg ?_
          refine r_ok hs m (ok_move rfl) rfl ?_
          clear hs a; intro a hs
          refine r_ok hs m (ok_lenH (x := nilH) rfl sl27) rfl ?_
          clear hs a; intro a hs
          refine r_ok hs m (ok_move rfl) rfl ?_
          clear hs a; intro a hs
          refine wpList_nil (n_then ?_)
          refine wp_block ?_
          refine wp_loop_rounds 13 ?_
          refine rounds_s ?_
          refine c_reg ?_
          refine r_ok hs m (ok_bin (v := .bool false) rfl rfl rfl) rfl ?_
          clear hs a; intro a hs
          refine wpList_nil (n_then ?_)
          refine c_seq ?_
          refine c_false hs rfl rfl ?_
          refine wp_exit ?_
          refine ex_then (ex_then (ex_hit (?_)))
          refine n_then ?_
          refine c_reg ?_
          refine r_ok hs m (ok_assign rfl) rfl ?_
          clear hs a; intro a hs
          refine wpList_nil (n_then ?_)
          refine wp_ret ?_
          refine leave hs (vs := [.bool true]) rfl ⟨rfl, trivial⟩ ?_
          exact ⟨_, rfl, rfl, m.sub (.c r0 (.c r0 (.c r0 (.c r0 (.c r0 (.c r0 (.c r0 .n)))))))⟩
        clear hs a m w60; rintro _ w62 ⟨rfl, m⟩ a hs
        refine r_ok hs m (ok_pick (r := .bool true) rfl rfl rfl rfl) rfl ?_
        clear hs a; intro a hs
        refine r_ok hs m (ok_assign rfl) rfl ?_
        clear hs a; intro a hs
        refine wpList_nil (n_then ?_)
        refine wp_ret ?_
        refine leave hs (vs := [.bool true]) rfl ⟨rfl, trivial⟩ ?_
        exact ⟨_, rfl, rfl, m.sub (.c r1 (.c r1 (.c r1 (.c r1 (.c r1 (.c r1 .n))))))⟩
      clear hs a m w52; rintro _ w63 ⟨rfl, m⟩ a hs
      refine r_ok hs m (ok_not rfl) rfl ?_
      clear hs a; intro a hs
      refine wpList_nil (n_then ?_)
      refine c_false hs rfl rfl ?_
      refine wp_skip ?_
      refine n_then ?_
      refine c_reg ?_
      refine r_ok hs m (ok_move rfl) rfl ?_
      clear hs a; intro a hs
      refine r_ok hs m (ok_move rfl) rfl ?_
      clear hs a; intro a hs
      refine r_ok hs m (ok_fieldAddr (r := 20) rfl fd77_4 ty29 rfl) rfl ?_
      clear hs a; intro a hs
      refine r_ok hs m (ok_load_ag (vs := [nilH.v, nilH.v, nilH.v]) rfl ty29 (bx_at r0) (by kernel_rfl) (by kernel_rfl)) rfl ?_
      clear hs a; intro a hs
      refine r_call (us := [.agg ⟨[nilH.v, nilH.v, nilH.v]⟩]) (Rc := fun v w' => ∃ v74 : SH, ∃ v72 : SH, ∃ v70 : SH, v = (.agg ⟨[v70.v, v72.v, v74.v]⟩) ∧ Hp w0 (hh w0) [Sv 7 56 v74.v (([] : List TFdb).map cFdb), Sv 7 54 v72.v (([] : List TNeigh).map cNeigh), Sv 4 51 v70.v (([] : List TRoute).map cRoute), Bx p51 77 (List.append [.int .i64 0] (List.append (cAnswer lit9) [.int .i64 0, .int .i64 0, nilH.v, nilH.v, nilH.v, nilH.v, nilH.v])), Bx p47 77 (List.append [.int .i64 0] (List.append (cAnswer lit9) [.int .i64 0, .int .i64 0, nilH.v, nilH.v, nilH.v, nilH.v, nilH.v])), Bx p44 89 (cReq lit7), Sv 2 138 v9.v (([[.string (ByteArray.mk ⟨[100, 117, 109, 112]⟩), .func (.func 71) ⟨[]⟩ ⟨[.pointer (some (padd p6 0))]⟩], [.string (ByteArray.mk ⟨[115, 110, 97, 112, 115, 104, 111, 116]⟩), .func (.func 72) ⟨[]⟩ ⟨[.pointer (some (padd p6 0))]⟩], [.string (ByteArray.mk ⟨[107, 101, 114, 110, 101, 108]⟩), .func (.func 73) ⟨[.pointer (some (padd p4 0))]⟩ ⟨[]⟩], [.string (ByteArray.mk ⟨[97, 99, 113, 117, 105, 114, 101]⟩), .func (.func 74) ⟨[.pointer (some (padd p4 0))]⟩ ⟨[]⟩], [.string (ByteArray.mk ⟨[114, 101, 110, 101, 119]⟩), .func (.func 75) ⟨[.pointer (some (padd p4 0))]⟩ ⟨[]⟩], [.string (ByteArray.mk ⟨[119, 97, 116, 99, 104]⟩), .func (.func 76) ⟨[]⟩ ⟨[.pointer (some (padd p6 0))]⟩]] : List (List Value)).map id), Bx p6 63 [.pointer (some (padd p4 0))], Bx p4 135 (List.append (cSelf lit1) (List.append [v9.v] (List.append (cReq lit7) (List.append [.bool false, nilH.v, nilH.v, nilH.v, nilH.v, .int .i64 0, .bool true, nilH.v, .bool false, .int .i64 0, .bool false] (List.append (cPrefix lit2) [.bool false, .bool false])))))] w') hs rfl rfl ca83 rfl (enter (n := 13) Tryz.func83 rfl rfl rfl fun a (hs : St 13 [(0, .agg ⟨[nilH.v, nilH.v, nilH.v]⟩)] a) => ?_) rfl ?_
      · refine c_reg ?_
        refine r_box (cs := [nilH.v, nilH.v, nilH.v]) hs m rfl (by kernel_rfl) rfl ?_
        clear m hs a w63; intro p65 w66 m a hs
        refine r_alloc hs m ze29 rfl ?_
        clear m hs a w66; intro p67 w68 m a hs
        refine wpList_nil (n_then ?_)
        refine c_drawH (Hp w0 (hh w0) [Bx p65 29 [nilH.v, nilH.v, nilH.v], Bx p51 77 (List.append [.int .i64 0] (List.append (cAnswer lit9) [.int .i64 0, .int .i64 0, nilH.v, nilH.v, nilH.v, nilH.v, nilH.v])), Bx p47 77 (List.append [.int .i64 0] (List.append (cAnswer lit9) [.int .i64 0, .int .i64 0, nilH.v, nilH.v, nilH.v, nilH.v, nilH.v])), Bx p44 89 (cReq lit7), Sv 2 138 v9.v (([[.string (ByteArray.mk ⟨[100, 117, 109, 112]⟩), .func (.func 71) ⟨[]⟩ ⟨[.pointer (some (padd p6 0))]⟩], [.string (ByteArray.mk ⟨[115, 110, 97, 112, 115, 104, 111, 116]⟩), .func (.func 72) ⟨[]⟩ ⟨[.pointer (some (padd p6 0))]⟩], [.string (ByteArray.mk ⟨[107, 101, 114, 110, 101, 108]⟩), .func (.func 73) ⟨[.pointer (some (padd p4 0))]⟩ ⟨[]⟩], [.string (ByteArray.mk ⟨[97, 99, 113, 117, 105, 114, 101]⟩), .func (.func 74) ⟨[.pointer (some (padd p4 0))]⟩ ⟨[]⟩], [.string (ByteArray.mk ⟨[114, 101, 110, 101, 119]⟩), .func (.func 75) ⟨[.pointer (some (padd p4 0))]⟩ ⟨[]⟩], [.string (ByteArray.mk ⟨[119, 97, 116, 99, 104]⟩), .func (.func 76) ⟨[]⟩ ⟨[.pointer (some (padd p6 0))]⟩]] : List (List Value)).map id), Bx p6 63 [.pointer (some (padd p4 0))], Bx p4 135 (List.append (cSelf lit1) (List.append [v9.v] (List.append (cReq lit7) (List.append [.bool false, nilH.v, nilH.v, nilH.v, nilH.v, .int .i64 0, .bool true, nilH.v, .bool false, .int .i64 0, .bool false] (List.append (cPrefix lit2) [.bool false, .bool false])))))]) m mo ?_; clear m w68; intro w69 m
        refine h_ok (i := 0) rfl (by kernel_rfl) (by kernel_rfl) (by kernel_rfl) hs (m.sub (.c r1 (.c r1 (.c r1 (.c r1 (.c r1 (.c r1 (.c r1 .n)))))))) (ok_fieldAddr (r := 0) rfl fd29_0 ty25 rfl) rfl ?_
        clear hs a; intro a hs
        refine h_ok (i := 1) rfl (by kernel_rfl) (by kernel_rfl) (by kernel_rfl) hs (m.sub (.c r1 (.c r1 (.c r1 (.c r1 (.c r1 (.c r1 (.c r1 .n)))))))) (ok_load_sc rfl ty25 (bx_at r0) rfl) rfl ?_
        clear hs a; intro a hs
        refine h_ok (i := 3) rfl (by kernel_rfl) (by kernel_rfl) (by kernel_rfl) hs (m.sub (.c r1 (.c r1 (.c r1 (.c r1 (.c r1 (.c r1 (.c r1 .n)))))))) (ok_fieldAddr (r := 1) rfl fd29_1 ty26 rfl) rfl ?_
        clear hs a; intro a hs
        refine h_ok (i := 4) rfl (by kernel_rfl) (by kernel_rfl) (by kernel_rfl) hs (m.sub (.c r1 (.c r1 (.c r1 (.c r1 (.c r1 (.c r1 (.c r1 .n)))))))) (ok_load_sc rfl ty26 (bx_at r0) rfl) rfl ?_
        clear hs a; intro a hs
        refine h_ok (i := 6) rfl (by kernel_rfl) (by kernel_rfl) (by kernel_rfl) hs (m.sub (.c r1 (.c r1 (.c r1 (.c r1 (.c r1 (.c r1 (.c r1 .n)))))))) (ok_fieldAddr (r := 2) rfl fd29_2 ty27 rfl) rfl ?_
        clear hs a; intro a hs
        refine h_ok (i := 7) rfl (by kernel_rfl) (by kernel_rfl) (by kernel_rfl) hs (m.sub (.c r1 (.c r1 (.c r1 (.c r1 (.c r1 (.c r1 (.c r1 .n)))))))) (ok_load_sc rfl ty27 (bx_at r0) rfl) rfl ?_
        clear hs a; intro a hs
        refine h_eff (i := 2) (by kernel_rfl) rfl ?_
        refine r_call hs rfl rfl ca126 rfl (cloneRoute_c nilH ([] : List TRoute) _ (RdS.nil _ _) (by first | omega | rfl | exact bsI_le _ _ | assumption | decide)) rfl ?_
        clear hs a; rintro _ w71 ⟨v70, rfl, hm⟩ a hs
        replace m : Hp w0 (hh w0) [Sv 4 51 v70.v (([] : List TRoute).map cRoute), Bx p67 29 [nilH.v, nilH.v, nilH.v], Bx p65 29 [nilH.v, nilH.v, nilH.v], Bx p51 77 (List.append [.int .i64 0] (List.append (cAnswer lit9) [.int .i64 0, .int .i64 0, nilH.v, nilH.v, nilH.v, nilH.v, nilH.v])), Bx p47 77 (List.append [.int .i64 0] (List.append (cAnswer lit9) [.int .i64 0, .int .i64 0, nilH.v, nilH.v, nilH.v, nilH.v, nilH.v])), Bx p44 89 (cReq lit7), Sv 2 138 v9.v (([[.string (ByteArray.mk ⟨[100, 117, 109, 112]⟩), .func (.func 71) ⟨[]⟩ ⟨[.pointer (some (padd p6 0))]⟩], [.string (ByteArray.mk ⟨[115, 110, 97, 112, 115, 104, 111, 116]⟩), .func (.func 72) ⟨[]⟩ ⟨[.pointer (some (padd p6 0))]⟩], [.string (ByteArray.mk ⟨[107, 101, 114, 110, 101, 108]⟩), .func (.func 73) ⟨[.pointer (some (padd p4 0))]⟩ ⟨[]⟩], [.string (ByteArray.mk ⟨[97, 99, 113, 117, 105, 114, 101]⟩), .func (.func 74) ⟨[.pointer (some (padd p4 0))]⟩ ⟨[]⟩], [.string (ByteArray.mk ⟨[114, 101, 110, 101, 119]⟩), .func (.func 75) ⟨[.pointer (some (padd p4 0))]⟩ ⟨[]⟩], [.string (ByteArray.mk ⟨[119, 97, 116, 99, 104]⟩), .func (.func 76) ⟨[]⟩ ⟨[.pointer (some (padd p6 0))]⟩]] : List (List Value)).map id), Bx p6 63 [.pointer (some (padd p4 0))], Bx p4 135 (List.append (cSelf lit1) (List.append [v9.v] (List.append (cReq lit7) (List.append [.bool false, nilH.v, nilH.v, nilH.v, nilH.v, .int .i64 0, .bool true, nilH.v, .bool false, .int .i64 0, .bool false] (List.append (cPrefix lit2) [.bool false, .bool false])))))] w71 := m.after hm
        clear hm w69
        refine wpList_nil (n_then ⟨(m.sub (.c r2 (.c r2 (.c r2 (.c r2 (.c r2 (.c r2 (.c r2 .n)))))))), ?_⟩)
        refine h_eff (i := 5) (by kernel_rfl) rfl ?_
        refine r_call hs rfl rfl ca127 rfl (cloneNeigh_c nilH ([] : List TNeigh) _ (RdS.nil _ _) (by first | omega | rfl | exact bsI_le _ _ | assumption | decide)) rfl ?_
        clear hs a; rintro _ w73 ⟨v72, rfl, hm⟩ a hs
        replace m : Hp w0 (hh w0) [Sv 7 54 v72.v (([] : List TNeigh).map cNeigh), Sv 4 51 v70.v (([] : List TRoute).map cRoute), Bx p67 29 [nilH.v, nilH.v, nilH.v], Bx p65 29 [nilH.v, nilH.v, nilH.v], Bx p51 77 (List.append [.int .i64 0] (List.append (cAnswer lit9) [.int .i64 0, .int .i64 0, nilH.v, nilH.v, nilH.v, nilH.v, nilH.v])), Bx p47 77 (List.append [.int .i64 0] (List.append (cAnswer lit9) [.int .i64 0, .int .i64 0, nilH.v, nilH.v, nilH.v, nilH.v, nilH.v])), Bx p44 89 (cReq lit7), Sv 2 138 v9.v (([[.string (ByteArray.mk ⟨[100, 117, 109, 112]⟩), .func (.func 71) ⟨[]⟩ ⟨[.pointer (some (padd p6 0))]⟩], [.string (ByteArray.mk ⟨[115, 110, 97, 112, 115, 104, 111, 116]⟩), .func (.func 72) ⟨[]⟩ ⟨[.pointer (some (padd p6 0))]⟩], [.string (ByteArray.mk ⟨[107, 101, 114, 110, 101, 108]⟩), .func (.func 73) ⟨[.pointer (some (padd p4 0))]⟩ ⟨[]⟩], [.string (ByteArray.mk ⟨[97, 99, 113, 117, 105, 114, 101]⟩), .func (.func 74) ⟨[.pointer (some (padd p4 0))]⟩ ⟨[]⟩], [.string (ByteArray.mk ⟨[114, 101, 110, 101, 119]⟩), .func (.func 75) ⟨[.pointer (some (padd p4 0))]⟩ ⟨[]⟩], [.string (ByteArray.mk ⟨[119, 97, 116, 99, 104]⟩), .func (.func 76) ⟨[]⟩ ⟨[.pointer (some (padd p6 0))]⟩]] : List (List Value)).map id), Bx p6 63 [.pointer (some (padd p4 0))], Bx p4 135 (List.append (cSelf lit1) (List.append [v9.v] (List.append (cReq lit7) (List.append [.bool false, nilH.v, nilH.v, nilH.v, nilH.v, .int .i64 0, .bool true, nilH.v, .bool false, .int .i64 0, .bool false] (List.append (cPrefix lit2) [.bool false, .bool false])))))] w73 := m.after hm
        clear hm w71
        refine wpList_nil (n_then ⟨(m.sub (.c r3 (.c r3 (.c r3 (.c r3 (.c r3 (.c r3 (.c r3 .n)))))))), ?_⟩)
        refine h_eff (i := 8) (by kernel_rfl) rfl ?_
        refine r_call hs rfl rfl ca128 rfl (cloneFdb_c nilH ([] : List TFdb) _ (RdS.nil _ _) (by first | omega | rfl | exact bsI_le _ _ | assumption | decide)) rfl ?_
        clear hs a; rintro _ w75 ⟨v74, rfl, hm⟩ a hs
        replace m : Hp w0 (hh w0) [Sv 7 56 v74.v (([] : List TFdb).map cFdb), Sv 7 54 v72.v (([] : List TNeigh).map cNeigh), Sv 4 51 v70.v (([] : List TRoute).map cRoute), Bx p67 29 [nilH.v, nilH.v, nilH.v], Bx p65 29 [nilH.v, nilH.v, nilH.v], Bx p51 77 (List.append [.int .i64 0] (List.append (cAnswer lit9) [.int .i64 0, .int .i64 0, nilH.v, nilH.v, nilH.v, nilH.v, nilH.v])), Bx p47 77 (List.append [.int .i64 0] (List.append (cAnswer lit9) [.int .i64 0, .int .i64 0, nilH.v, nilH.v, nilH.v, nilH.v, nilH.v])), Bx p44 89 (cReq lit7), Sv 2 138 v9.v (([[.string (ByteArray.mk ⟨[100, 117, 109, 112]⟩), .func (.func 71) ⟨[]⟩ ⟨[.pointer (some (padd p6 0))]⟩], [.string (ByteArray.mk ⟨[115, 110, 97, 112, 115, 104, 111, 116]⟩), .func (.func 72) ⟨[]⟩ ⟨[.pointer (some (padd p6 0))]⟩], [.string (ByteArray.mk ⟨[107, 101, 114, 110, 101, 108]⟩), .func (.func 73) ⟨[.pointer (some (padd p4 0))]⟩ ⟨[]⟩], [.string (ByteArray.mk ⟨[97, 99, 113, 117, 105, 114, 101]⟩), .func (.func 74) ⟨[.pointer (some (padd p4 0))]⟩ ⟨[]⟩], [.string (ByteArray.mk ⟨[114, 101, 110, 101, 119]⟩), .func (.func 75) ⟨[.pointer (some (padd p4 0))]⟩ ⟨[]⟩], [.string (ByteArray.mk ⟨[119, 97, 116, 99, 104]⟩), .func (.func 76) ⟨[]⟩ ⟨[.pointer (some (padd p6 0))]⟩]] : List (List Value)).map id), Bx p6 63 [.pointer (some (padd p4 0))], Bx p4 135 (List.append (cSelf lit1) (List.append [v9.v] (List.append (cReq lit7) (List.append [.bool false, nilH.v, nilH.v, nilH.v, nilH.v, .int .i64 0, .bool true, nilH.v, .bool false, .int .i64 0, .bool false] (List.append (cPrefix lit2) [.bool false, .bool false])))))] w75 := m.after hm
        clear hm w73
        refine wpList_nil (n_then ⟨(m.sub (.c r4 (.c r4 (.c r4 (.c r4 (.c r4 (.c r4 (.c r4 .n)))))))), ?_⟩)
        refine h_ok (i := 9) rfl (by kernel_rfl) (by kernel_rfl) (by kernel_rfl) hs (m.sub (.c r4 (.c r4 (.c r4 (.c r4 (.c r4 (.c r4 (.c r4 .n)))))))) (ok_build (cs := [v70.v, v72.v, v74.v]) st29 ze29 rfl (by kernel_rfl)) rfl ?_
        clear hs a; intro a hs
        refine h_eff (i := 10) (by kernel_rfl) rfl ?_
        refine r_store (cs' := [v70.v, v72.v, v74.v]) (vs := [v70.v, v72.v, v74.v]) hs m rfl rfl ty29 s3 (by kernel_rfl) (by kernel_rfl) (by kernel_rfl) (by kernel_rfl) (by kernel_rfl) ?_
        clear m w75; intro w76 m
        refine wpList_nil (n_then ⟨(m.sub (.c r4 (.c r4 (.c r4 (.c r4 (.c r4 (.c r4 (.c r4 .n)))))))), ?_⟩)
        refine h_done (by kernel_rfl) (n_then ?_)
        refine wp_ret ?_
        refine leave hs (vs := [.agg ⟨[v70.v, v72.v, v74.v]⟩]) rfl ⟨resv_cell (cs := [v70.v, v72.v, v74.v]) m rfl ty29 r3 rfl, trivial⟩ ?_
        exact ⟨_, rfl, v74, v72, v70, rfl, m.sub (.c r0 (.c r0 (.c r0 (.c r2 (.c r2 (.c r2 (.c r2 (.c r2 (.c r2 .n)))))))))⟩
      clear hs a m w63; rintro _ w77 ⟨v74, v72, v70, rfl, m⟩ a hs
      refine r_ok hs m (ok_nilCheck rfl) rfl ?_
      clear hs a; intro a hs
      refine r_ok hs m (ok_fieldAddr (r := 45) rfl fd135_4 ty29 rfl) rfl ?_
      clear hs a; intro a hs
      refine r_store (cs' := List.append (cSelf lit1) (List.append [v9.v] (List.append (cReq lit7) (List.append [.bool false, v70.v, v72.v, v74.v, nilH.v, .int .i64 0, .bool true, nilH.v, .bool false, .int .i64 0, .bool false] (List.append (cPrefix lit2) [.bool false, .bool false]))))) (vs := [v70.v, v72.v, v74.v]) hs m rfl rfl ty29 s8 (by kernel_rfl) (by kernel_rfl) (by kernel_rfl) (by kernel_rfl) (by kernel_rfl) ?_
      clear m w77; intro w78 m
      refine r_ok hs m (ok_nilCheck rfl) rfl ?_
      clear hs a; intro a hs
      refine r_ok hs m (ok_fieldAddr (r := 44) rfl fd135_3 ty4 rfl) rfl ?_
      clear hs a; intro a hs
      refine r_store (cs' := List.append (cSelf lit1) (List.append [v9.v] (List.append (cReq lit7) (List.append [.bool true, v70.v, v72.v, v74.v, nilH.v, .int .i64 0, .bool true, nilH.v, .bool false, .int .i64 0, .bool false] (List.append (cPrefix lit2) [.bool false, .bool false]))))) (vs := [.bool true]) hs m rfl rfl ty4 s8 (by kernel_rfl) (by kernel_rfl) (by kernel_rfl) (by kernel_rfl) (by kernel_rfl) ?_
      clear m w78; intro w79 m
      refine wpList_nil (n_then ?_)
      refine c_seq ?_
      refine c_reg ?_
      refine r_ok hs m (ok_move rfl) rfl ?_
      clear hs a; intro a hs
      refine r_ok hs m (ok_nilCheck rfl) rfl ?_
      clear hs a; intro a hs
      refine r_ok hs m (ok_fieldAddr (r := 45) rfl fd135_4 ty29 rfl) rfl ?_
      clear hs a; intro a hs
      refine r_ok hs m (ok_fieldAddr (r := 45) rfl fd29_0 ty25 rfl) rfl ?_
      clear hs a; intro a hs
      refine r_ok hs m (ok_load_sc rfl ty25 (bx_at r8) rfl) rfl ?_
      clear hs a; intro a hs
      refine r_ok hs m (ok_len (r := 0) m rfl sl25 (rc_own r2) rfl) rfl ?_
      clear hs a; intro a hs
      refine r_ok hs m (ok_move rfl) rfl ?_
      clear hs a; intro a hs
      refine wpList_nil (n_then ?_)
      refine wp_block ?_
      refine wp_loop_rounds 13 ?_
      refine rounds_s ?_
      refine c_reg ?_
      refine r_ok hs m (ok_bin (v := .bool false) rfl rfl rfl) rfl ?_
      clear hs a; intro a hs
      refine wpList_nil (n_then ?_)
      refine c_seq ?_
      refine c_false hs rfl rfl ?_
      refine wp_exit ?_
      refine ex_then (ex_then (ex_hit (?_)))
      refine n_then ?_
      refine c_reg ?_
      refine r_ok hs m (ok_assign rfl) rfl ?_
      clear hs a; intro a hs
      refine wpList_nil (n_then ?_)
      refine wp_ret ?_
      refine leave hs (vs := [.int .i64 0]) rfl ⟨rfl, trivial⟩ ?_
      exact ⟨_, rfl, v74, v72, v70, rfl, m.sub (.c r0 (.c r0 (.c r0 (.c r1 (.c r1 (.c r1 (.c r1 (.c r1 .n))))))))⟩
    clear hs a m w48; rintro _ w81 ⟨v74, v72, v70, rfl, m⟩ a hs
    refine r_ok hs m (ok_assign rfl) rfl ?_
    clear hs a; intro a hs
    refine wpList_nil (n_block (n_then ?_))
    refine c_seq ?_
    refine c_reg ?_
    refine r_ok hs m (ok_move rfl) rfl ?_
    clear hs a; intro a hs
    refine r_ok hs m (ok_bin (v := .bool false) rfl rfl rfl) rfl ?_
    clear hs a; intro a hs
    refine wpList_nil (n_then ?_)
    refine c_false hs rfl rfl ?_
    refine wp_skip ?_
    refine n_then ?_
    refine c_reg ?_
    refine r_ok hs m (ok_move rfl) rfl ?_
    clear hs a; intro a hs
    refine r_ok hs m (ok_move rfl) rfl ?_
    clear hs a; intro a hs
    refine r_ok hs m (ok_nilCheck rfl) rfl ?_
    clear hs a; intro a hs
    refine r_ok hs m (ok_fieldAddr (r := 10) rfl fd135_2 ty89 rfl) rfl ?_
    clear hs a; intro a hs
    refine r_ok hs m (ok_fieldAddr (r := 10) rfl fd89_0 ty3 rfl) rfl ?_
    clear hs a; intro a hs
    refine r_ok hs m (ok_load_sc rfl ty3 (bx_at r7) rfl) rfl ?_
    clear hs a; intro a hs
    refine r_ok hs m (ok_bin (v := .bool false) rfl rfl rfl) rfl ?_
    clear hs a; intro a hs
    refine r_ok hs m (ok_move rfl) rfl ?_
    clear hs a; intro a hs
    refine g_out hs rfl rfl rfl rfl ?_
    clear hs a; intro a hs
    refine g_out hs rfl rfl rfl rfl ?_
    clear hs a; intro a hs
    refine g_out hs rfl rfl rfl rfl ?_
    clear hs a; intro a hs
    refine r_ok hs m (ok_pick (r := .bool false) rfl rfl rfl rfl) rfl ?_
    clear hs a; intro a hs
    refine r_ok hs m (ok_nilCheck rfl) rfl ?_
    clear hs a; intro a hs
    refine r_ok hs m (ok_fieldAddr (r := 57) rfl fd135_13 ty4 rfl) rfl ?_
    clear hs a; intro a hs
    refine r_store (cs' := List.append (cSelf lit1) (List.append [v9.v] (List.append (cReq lit7) (List.append [.bool true, v70.v, v72.v, v74.v, nilH.v, .int .i64 0, .bool true, nilH.v, .bool false, .int .i64 0, .bool false] (List.append (cPrefix lit2) [.bool false, .bool false]))))) (vs := [.bool false]) hs m rfl rfl ty4 s7 (by kernel_rfl) (by kernel_rfl) (by kernel_rfl) (by kernel_rfl) (by kernel_rfl) ?_
    clear m w81; intro w83 m
    refine wpList_nil (n_then ?_)
    refine c_reg ?_
    refine r_ok hs m (ok_move rfl) rfl ?_
    clear hs a; intro a hs
    refine r_ok hs m (ok_move rfl) rfl ?_
    clear hs a; intro a hs
    refine r_ok hs m (ok_move rfl) rfl ?_
    clear hs a; intro a hs
    refine r_ok hs m (ok_build (cs := cReq lit6) st89 ze89 rfl (by kernel_rfl)) rfl ?_
    clear hs a; intro a hs
    refine r_ok hs m (ok_nilCheck rfl) rfl ?_
    clear hs a; intro a hs
    refine r_ok hs m (ok_fieldAddr (r := 58) rfl fd135_14 ty4 rfl) rfl ?_
    clear hs a; intro a hs
    refine r_store (cs' := List.append (cSelf lit1) (List.append [v9.v] (List.append (cReq lit7) (List.append [.bool true, v70.v, v72.v, v74.v, nilH.v, .int .i64 0, .bool true, nilH.v, .bool false, .int .i64 0, .bool false] (List.append (cPrefix lit2) [.bool false, .bool false]))))) (vs := [.bool false]) hs m rfl rfl ty4 s7 (by kernel_rfl) (by kernel_rfl) (by kernel_rfl) (by kernel_rfl) (by kernel_rfl) ?_
    clear m w83; intro w84 m
    refine r_ok hs m (ok_nilCheck rfl) rfl ?_
    clear hs a; intro a hs
    refine r_ok hs m (ok_fieldAddr (r := 10) rfl fd135_2 ty89 rfl) rfl ?_
    clear hs a; intro a hs
    refine r_store (cs' := List.append (cSelf lit1) (List.append [v9.v] (List.append (cReq lit6) (List.append [.bool true, v70.v, v72.v, v74.v, nilH.v, .int .i64 0, .bool true, nilH.v, .bool false, .int .i64 0, .bool false] (List.append (cPrefix lit2) [.bool false, .bool false]))))) (vs := cReq lit6) hs m rfl rfl ty89 s7 (by kernel_rfl) (by kernel_rfl) (by kernel_rfl) (by kernel_rfl) (by kernel_rfl) ?_
    clear m w84; intro w85 m
    refine wpList_nil (n_then ?_)
    refine c_reg ?_
    refine r_ok hs m (ok_assign rfl) rfl ?_
    clear hs a; intro a hs
    refine wpList_nil (n_then ?_)
    refine wp_ret ?_
    refine leave hs (vs := [.int .i64 0]) rfl ⟨rfl, trivial⟩ ?_
    exact ⟨_, rfl, v74, v72, v70, rfl, m.sub (.c r0 (.c r0 (.c r0 (.c r1 (.c r1 (.c r1 (.c r1 .n)))))))⟩
  clear hs a m w46; rintro _ w86 ⟨v74, v72, v70, rfl, m⟩ a hs
  refine r_okg hs rfl rfl rfl m (ok_bin (v := .bool false) rfl rfl rfl) rfl ?_
  clear hs a; intro a hs
  refine r_ok hs m (ok_pick (r := .bool false) rfl rfl rfl rfl) rfl ?_
  clear hs a; intro a hs
  refine wpList_nil (n_then ?_)
  refine c_false hs rfl rfl ?_
  refine wp_skip ?_
  refine n_then ?_
  refine c_reg ?_
  refine r_ok hs m (ok_move rfl) rfl ?_
  clear hs a; intro a hs
  refine r_call (us := [.pointer (some (padd p4 0)), .int .i64 0]) (Rc := fun v w' => v = (.agg ⟨cReq lit10⟩) ∧ Hp w0 (hh w0) [Sv 7 56 v74.v (([] : List TFdb).map cFdb), Sv 7 54 v72.v (([] : List TNeigh).map cNeigh), Sv 4 51 v70.v (([] : List TRoute).map cRoute), Bx p44 89 (cReq lit7), Sv 2 138 v9.v (([[.string (ByteArray.mk ⟨[100, 117, 109, 112]⟩), .func (.func 71) ⟨[]⟩ ⟨[.pointer (some (padd p6 0))]⟩], [.string (ByteArray.mk ⟨[115, 110, 97, 112, 115, 104, 111, 116]⟩), .func (.func 72) ⟨[]⟩ ⟨[.pointer (some (padd p6 0))]⟩], [.string (ByteArray.mk ⟨[107, 101, 114, 110, 101, 108]⟩), .func (.func 73) ⟨[.pointer (some (padd p4 0))]⟩ ⟨[]⟩], [.string (ByteArray.mk ⟨[97, 99, 113, 117, 105, 114, 101]⟩), .func (.func 74) ⟨[.pointer (some (padd p4 0))]⟩ ⟨[]⟩], [.string (ByteArray.mk ⟨[114, 101, 110, 101, 119]⟩), .func (.func 75) ⟨[.pointer (some (padd p4 0))]⟩ ⟨[]⟩], [.string (ByteArray.mk ⟨[119, 97, 116, 99, 104]⟩), .func (.func 76) ⟨[]⟩ ⟨[.pointer (some (padd p6 0))]⟩]] : List (List Value)).map id), Bx p6 63 [.pointer (some (padd p4 0))], Bx p4 135 (List.append (cSelf lit1) (List.append [v9.v] (List.append (cReq lit10) (List.append [.bool true, v70.v, v72.v, v74.v, nilH.v, .int .i64 0, .bool true, nilH.v, .bool false, .int .i64 0, .bool false] (List.append (cPrefix lit2) [.bool false, .bool false])))))] w') hs rfl rfl ca31 rfl (enter (n := 41) Tryz.func31 rfl rfl rfl fun a (hs : St 41 [(0, .pointer (some (padd p4 0))), (1, .int .i64 0)] a) => ?_) rfl ?_
  · refine c_reg ?_
    refine r_alloc hs m ze89 rfl ?_
    clear m hs a w86; intro p88 w89 m a hs
    refine wpList_nil (n_then ?_)
    refine c_seq ?_
    refine c_reg ?_
    refine r_ok hs m (ok_move rfl) rfl ?_
    clear hs a; intro a hs
    refine r_ok hs m (ok_nilCheck rfl) rfl ?_
    clear hs a; intro a hs
    refine r_ok hs m (ok_fieldAddr (r := 9) rfl fd135_1 ty133 rfl) rfl ?_
    clear hs a; intro a hs
    refine r_ok hs m (ok_load_sc rfl ty133 (bx_at r7) rfl) rfl ?_
    clear hs a; intro a hs
    refine r_ok hs m (ok_len (r := 6) m rfl sl133 (rc_own r5) rfl) rfl ?_
    clear hs a; intro a hs
    refine r_ok hs m (ok_move rfl) rfl ?_
    clear hs a; intro a hs
    refine wpList_nil (n_then ?_)
    refine wp_block ?_
    refine wp_loop_rounds 13 ?_
    refine rounds_s ?_
    refine c_reg ?_
    refine r_ok hs m (ok_bin (v := .bool true) rfl rfl rfl) rfl ?_
    clear hs a; intro a hs
    refine wpList_nil (n_then ?_)
    refine c_seq ?_
    refine c_true hs rfl rfl ?_
    refine wp_skip ?_
    refine n_then ?_
    refine c_seq ?_
    refine wp_block ?_
    refine c_reg ?_
    refine elO (c := id) (e := ([.string (ByteArray.mk ⟨[100, 117, 109, 112]⟩), .func (.func 71) ⟨[]⟩ ⟨[.pointer (some (padd p6 0))]⟩] : List Value)) hs m (x := (.tmp 12)) (ix := (.tmp 14)) rfl rfl sl133 ty138 r5 (by omega) rfl fun p91 hp92 ok93 => ?_
    refine r_ok hs m (ok93 _ _ _ _ _) rfl ?_
    clear hs a; intro a hs
    refine r_ok hs m (ok_load_ag (vs := [.string (ByteArray.mk ⟨[100, 117, 109, 112]⟩), .func (.func 71) ⟨[]⟩ ⟨[.pointer (some (padd p6 0))]⟩]) rfl ty138 (el_at hp92 r5 (get_map _ (rfl : ([[.string (ByteArray.mk ⟨[100, 117, 109, 112]⟩), .func (.func 71) ⟨[]⟩ ⟨[.pointer (some (padd p6 0))]⟩], [.string (ByteArray.mk ⟨[115, 110, 97, 112, 115, 104, 111, 116]⟩), .func (.func 72) ⟨[]⟩ ⟨[.pointer (some (padd p6 0))]⟩], [.string (ByteArray.mk ⟨[107, 101, 114, 110, 101, 108]⟩), .func (.func 73) ⟨[.pointer (some (padd p4 0))]⟩ ⟨[]⟩], [.string (ByteArray.mk ⟨[97, 99, 113, 117, 105, 114, 101]⟩), .func (.func 74) ⟨[.pointer (some (padd p4 0))]⟩ ⟨[]⟩], [.string (ByteArray.mk ⟨[114, 101, 110, 101, 119]⟩), .func (.func 75) ⟨[.pointer (some (padd p4 0))]⟩ ⟨[]⟩], [.string (ByteArray.mk ⟨[119, 97, 116, 99, 104]⟩), .func (.func 76) ⟨[]⟩ ⟨[.pointer (some (padd p6 0))]⟩]])[0]? = some ([.string (ByteArray.mk ⟨[100, 117, 109, 112]⟩), .func (.func 71) ⟨[]⟩ ⟨[.pointer (some (padd p6 0))]⟩] : List Value)))) (by kernel_rfl) (by kernel_rfl)) rfl ?_
    clear hs a; intro a hs
    refine r_alloc hs m ze138 rfl ?_
    clear m hs a w89; intro p94 w95 m a hs
    refine r_store (cs' := [.string (ByteArray.mk ⟨[100, 117, 109, 112]⟩), .func (.func 71) ⟨[]⟩ ⟨[.pointer (some (padd p6 0))]⟩]) (vs := [.string (ByteArray.mk ⟨[100, 117, 109, 112]⟩), .func (.func 71) ⟨[]⟩ ⟨[.pointer (some (padd p6 0))]⟩]) hs m rfl rfl ty138 s0 (by kernel_rfl) (by kernel_rfl) (by kernel_rfl) (by kernel_rfl) (by kernel_rfl) ?_
    clear m w95; intro w96 m
    refine wpList_nil (n_then ?_)
    refine c_seq ?_
    refine c_reg ?_
    refine r_ok hs m (ok_move rfl) rfl ?_
    clear hs a; intro a hs
    refine r_ok hs m (ok_nilCheck rfl) rfl ?_
    clear hs a; intro a hs
    refine r_ok hs m (ok_fieldAddr (r := 10) rfl fd135_2 ty89 rfl) rfl ?_
    clear hs a; intro a hs
    refine r_ok hs m (ok_fieldAddr (r := 10) rfl fd89_0 ty3 rfl) rfl ?_
    clear hs a; intro a hs
    refine r_ok hs m (ok_load_sc rfl ty3 (bx_at r8) rfl) rfl ?_
    clear hs a; intro a hs
    refine r_ok hs m (ok_bin (v := .bool false) rfl rfl rfl) rfl ?_
    clear hs a; intro a hs
    refine wpList_nil (n_then ?_)
    refine c_false hs rfl rfl ?_
    refine wp_skip ?_
    refine n_then ?_
    refine c_reg ?_
    refine r_ok hs m (ok_fieldAddr (r := 1) rfl fd138_1 ty136 rfl) rfl ?_
    clear hs a; intro a hs
    refine r_ok hs m (ok_load_sc rfl ty136 (bx_at r0) rfl) rfl ?_
    clear hs a; intro a hs
    refine r_ok hs m (ok_move rfl) rfl ?_
    clear hs a; intro a hs
    refine r_call (us := [.int .i64 0, .pointer (some (padd p6 0))]) (Rc := fun v w' => v = (.tuple ⟨[.agg ⟨cReq lit7⟩, .bool false]⟩) ∧ Hp w0 (hh w0) [Bx p94 138 [.string (ByteArray.mk ⟨[100, 117, 109, 112]⟩), .func (.func 71) ⟨[]⟩ ⟨[.pointer (some (padd p6 0))]⟩], Bx p88 89 (cReq lit6), Sv 7 56 v74.v (([] : List TFdb).map cFdb), Sv 7 54 v72.v (([] : List TNeigh).map cNeigh), Sv 4 51 v70.v (([] : List TRoute).map cRoute), Bx p44 89 (cReq lit7), Sv 2 138 v9.v (([[.string (ByteArray.mk ⟨[100, 117, 109, 112]⟩), .func (.func 71) ⟨[]⟩ ⟨[.pointer (some (padd p6 0))]⟩], [.string (ByteArray.mk ⟨[115, 110, 97, 112, 115, 104, 111, 116]⟩), .func (.func 72) ⟨[]⟩ ⟨[.pointer (some (padd p6 0))]⟩], [.string (ByteArray.mk ⟨[107, 101, 114, 110, 101, 108]⟩), .func (.func 73) ⟨[.pointer (some (padd p4 0))]⟩ ⟨[]⟩], [.string (ByteArray.mk ⟨[97, 99, 113, 117, 105, 114, 101]⟩), .func (.func 74) ⟨[.pointer (some (padd p4 0))]⟩ ⟨[]⟩], [.string (ByteArray.mk ⟨[114, 101, 110, 101, 119]⟩), .func (.func 75) ⟨[.pointer (some (padd p4 0))]⟩ ⟨[]⟩], [.string (ByteArray.mk ⟨[119, 97, 116, 99, 104]⟩), .func (.func 76) ⟨[]⟩ ⟨[.pointer (some (padd p6 0))]⟩]] : List (List Value)).map id), Bx p6 63 [.pointer (some (padd p4 0))], Bx p4 135 (List.append (cSelf lit1) (List.append [v9.v] (List.append (cReq lit6) (List.append [.bool true, v70.v, v72.v, v74.v, nilH.v, .int .i64 0, .bool true, nilH.v, .bool false, .int .i64 0, .bool false] (List.append (cPrefix lit2) [.bool false, .bool false])))))] w') hs rfl rfl ca71 rfl (enter (n := 11) Tryz.func71 rfl rfl rfl fun a (hs : St 11 [(0, .int .i64 0), (1, .pointer (some (padd p6 0)))] a) => ?_) rfl ?_
    · refine c_reg ?_
      refine r_alloc hs m ze89 rfl ?_
      clear m hs a w96; intro p98 w99 m a hs
      refine r_ok hs m (ok_assign rfl) rfl ?_
      clear hs a; intro a hs
      refine wpList_nil (n_then ?_)
      refine c_drawH (Hp w0 (hh w0) [Bx p94 138 [.string (ByteArray.mk ⟨[100, 117, 109, 112]⟩), .func (.func 71) ⟨[]⟩ ⟨[.pointer (some (padd p6 0))]⟩], Bx p88 89 (cReq lit6), Sv 7 56 v74.v (([] : List TFdb).map cFdb), Sv 7 54 v72.v (([] : List TNeigh).map cNeigh), Sv 4 51 v70.v (([] : List TRoute).map cRoute), Bx p44 89 (cReq lit7), Sv 2 138 v9.v (([[.string (ByteArray.mk ⟨[100, 117, 109, 112]⟩), .func (.func 71) ⟨[]⟩ ⟨[.pointer (some (padd p6 0))]⟩], [.string (ByteArray.mk ⟨[115, 110, 97, 112, 115, 104, 111, 116]⟩), .func (.func 72) ⟨[]⟩ ⟨[.pointer (some (padd p6 0))]⟩], [.string (ByteArray.mk ⟨[107, 101, 114, 110, 101, 108]⟩), .func (.func 73) ⟨[.pointer (some (padd p4 0))]⟩ ⟨[]⟩], [.string (ByteArray.mk ⟨[97, 99, 113, 117, 105, 114, 101]⟩), .func (.func 74) ⟨[.pointer (some (padd p4 0))]⟩ ⟨[]⟩], [.string (ByteArray.mk ⟨[114, 101, 110, 101, 119]⟩), .func (.func 75) ⟨[.pointer (some (padd p4 0))]⟩ ⟨[]⟩], [.string (ByteArray.mk ⟨[119, 97, 116, 99, 104]⟩), .func (.func 76) ⟨[]⟩ ⟨[.pointer (some (padd p6 0))]⟩]] : List (List Value)).map id), Bx p6 63 [.pointer (some (padd p4 0))], Bx p4 135 (List.append (cSelf lit1) (List.append [v9.v] (List.append (cReq lit6) (List.append [.bool true, v70.v, v72.v, v74.v, nilH.v, .int .i64 0, .bool true, nilH.v, .bool false, .int .i64 0, .bool false] (List.append (cPrefix lit2) [.bool false, .bool false])))))]) m mo ?_; clear m w99; intro w100 m
      refine h_ok (i := 0) rfl (by kernel_rfl) (by kernel_rfl) (by kernel_rfl) hs (m.sub (.c r1 (.c r1 (.c r1 (.c r1 (.c r1 (.c r1 (.c r1 (.c r1 (.c r1 .n)))))))))) (ok_build (cs := cReq lit7) st89 ze89 rfl (by kernel_rfl)) rfl ?_
      clear hs a; intro a hs
      refine h_ok (i := 1) rfl (by kernel_rfl) (by kernel_rfl) (by kernel_rfl) hs (m.sub (.c r1 (.c r1 (.c r1 (.c r1 (.c r1 (.c r1 (.c r1 (.c r1 (.c r1 .n)))))))))) (ok_load_sc rfl ty63 (bx_at r7) rfl) rfl ?_
      clear hs a; intro a hs
      refine h_ok (i := 2) rfl (by kernel_rfl) (by kernel_rfl) (by kernel_rfl) hs (m.sub (.c r1 (.c r1 (.c r1 (.c r1 (.c r1 (.c r1 (.c r1 (.c r1 (.c r1 .n)))))))))) (ok_nilCheck rfl) rfl ?_
      clear hs a; intro a hs
      refine h_ok (i := 3) rfl (by kernel_rfl) (by kernel_rfl) (by kernel_rfl) hs (m.sub (.c r1 (.c r1 (.c r1 (.c r1 (.c r1 (.c r1 (.c r1 (.c r1 (.c r1 .n)))))))))) (ok_fieldAddr (r := 44) rfl fd135_3 ty4 rfl) rfl ?_
      clear hs a; intro a hs
      refine h_ok (i := 4) rfl (by kernel_rfl) (by kernel_rfl) (by kernel_rfl) hs (m.sub (.c r1 (.c r1 (.c r1 (.c r1 (.c r1 (.c r1 (.c r1 (.c r1 (.c r1 .n)))))))))) (ok_load_sc rfl ty4 (bx_at r8) rfl) rfl ?_
      clear hs a; intro a hs
      refine h_ok (i := 5) rfl (by kernel_rfl) (by kernel_rfl) (by kernel_rfl) hs (m.sub (.c r1 (.c r1 (.c r1 (.c r1 (.c r1 (.c r1 (.c r1 (.c r1 (.c r1 .n)))))))))) (ok_not rfl) rfl ?_
      clear hs a; intro a hs
      refine h_eff (i := 6) (by kernel_rfl) rfl ?_
      refine r_store (cs' := cReq lit7) (vs := cReq lit7) hs m rfl rfl ty89 s0 (by kernel_rfl) (by kernel_rfl) (by kernel_rfl) (by kernel_rfl) (by kernel_rfl) ?_
      clear m w100; intro w101 m
      refine wpList_nil (n_then ⟨(m.sub (.c r1 (.c r1 (.c r1 (.c r1 (.c r1 (.c r1 (.c r1 (.c r1 (.c r1 .n)))))))))), ?_⟩)
      refine h_ok (i := 7) rfl (by kernel_rfl) (by kernel_rfl) (by kernel_rfl) hs (m.sub (.c r1 (.c r1 (.c r1 (.c r1 (.c r1 (.c r1 (.c r1 (.c r1 (.c r1 .n)))))))))) (ok_assign rfl) rfl ?_
      clear hs a; intro a hs
      refine h_done (by kernel_rfl) (n_then ?_)
      refine wp_ret ?_
      refine leave hs (vs := [.agg ⟨cReq lit7⟩, .bool false]) rfl ⟨resv_cell (cs := cReq lit7) m rfl ty89 r0 rfl, rfl, trivial⟩ ?_
      exact ⟨_, rfl, rfl, m.sub (.c r1 (.c r1 (.c r1 (.c r1 (.c r1 (.c r1 (.c r1 (.c r1 (.c r1 .n)))))))))⟩
    clear hs a m w96; rintro _ w102 ⟨rfl, m⟩ a hs
    refine r_ok hs m (ok_move rfl) rfl ?_
    clear hs a; intro a hs
    refine r_ok hs m (ok_extract rfl rfl) rfl ?_
    clear hs a; intro a hs
    refine r_ok hs m (ok_extract rfl rfl) rfl ?_
    clear hs a; intro a hs
    refine r_alloc hs m ze89 rfl ?_
    clear m hs a w102; intro p103 w104 m a hs
    refine r_store (cs' := cReq lit7) (vs := cReq lit7) hs m rfl rfl ty89 s0 (by kernel_rfl) (by kernel_rfl) (by kernel_rfl) (by kernel_rfl) (by kernel_rfl) ?_
    clear m w104; intro w105 m
    refine r_ok hs m (ok_assign rfl) rfl ?_
    clear hs a; intro a hs
    refine wpList_nil (n_then ?_)
    refine c_reg ?_
    refine r_ok hs m (ok_move rfl) rfl ?_
    clear hs a; intro a hs
    refine wpList_nil (n_then ?_)
    refine c_false hs rfl rfl ?_
    refine wp_skip ?_
    refine n_block (n_then ?_)
    refine c_last ?_
    refine r_ok hs m (ok_add (r := 1) rfl rfl rfl) rfl ?_
    clear hs a; intro a hs
    refine r_ok hs m (ok_move rfl) rfl ?_
    clear hs a; intro a hs
    refine wpList_nil (n_then ?_)
    refine rounds_s ?_
    refine c_reg ?_
    refine r_ok hs m (ok_bin (v := .bool true) rfl rfl rfl) rfl ?_
    clear hs a; intro a hs
    refine wpList_nil (n_then ?_)
    refine c_seq ?_
    refine c_true hs rfl rfl ?_
    refine wp_skip ?_
    refine n_then ?_
    refine c_seq ?_
    refine wp_block ?_
    refine c_reg ?_
    refine elO (c := id) (e := ([.string (ByteArray.mk ⟨[115, 110, 97, 112, 115, 104, 111, 116]⟩), .func (.func 72) ⟨[]⟩ ⟨[.pointer (some (padd p6 0))]⟩] : List Value)) hs m (x := (.tmp 12)) (ix := (.tmp 14)) rfl rfl sl133 ty138 r7 (by omega) rfl fun p108 hp109 ok110 => ?_
    refine r_ok hs m (ok110 _ _ _ _ _) rfl ?_
    clear hs a; intro a hs
    refine r_ok hs m (ok_load_ag (vs := [.string (ByteArray.mk ⟨[115, 110, 97, 112, 115, 104, 111, 116]⟩), .func (.func 72) ⟨[]⟩ ⟨[.pointer (some (padd p6 0))]⟩]) rfl ty138 (el_at hp109 r7 (get_map _ (rfl : ([[.string (ByteArray.mk ⟨[100, 117, 109, 112]⟩), .func (.func 71) ⟨[]⟩ ⟨[.pointer (some (padd p6 0))]⟩], [.string (ByteArray.mk ⟨[115, 110, 97, 112, 115, 104, 111, 116]⟩), .func (.func 72) ⟨[]⟩ ⟨[.pointer (some (padd p6 0))]⟩], [.string (ByteArray.mk ⟨[107, 101, 114, 110, 101, 108]⟩), .func (.func 73) ⟨[.pointer (some (padd p4 0))]⟩ ⟨[]⟩], [.string (ByteArray.mk ⟨[97, 99, 113, 117, 105, 114, 101]⟩), .func (.func 74) ⟨[.pointer (some (padd p4 0))]⟩ ⟨[]⟩], [.string (ByteArray.mk ⟨[114, 101, 110, 101, 119]⟩), .func (.func 75) ⟨[.pointer (some (padd p4 0))]⟩ ⟨[]⟩], [.string (ByteArray.mk ⟨[119, 97, 116, 99, 104]⟩), .func (.func 76) ⟨[]⟩ ⟨[.pointer (some (padd p6 0))]⟩]])[1]? = some ([.string (ByteArray.mk ⟨[115, 110, 97, 112, 115, 104, 111, 116]⟩), .func (.func 72) ⟨[]⟩ ⟨[.pointer (some (padd p6 0))]⟩] : List Value)))) (by kernel_rfl) (by kernel_rfl)) rfl ?_
    clear hs a; intro a hs
    refine r_alloc hs m ze138 rfl ?_
    clear m hs a w105; intro p111 w112 m a hs
    refine r_store (cs' := [.string (ByteArray.mk ⟨[115, 110, 97, 112, 115, 104, 111, 116]⟩), .func (.func 72) ⟨[]⟩ ⟨[.pointer (some (padd p6 0))]⟩]) (vs := [.string (ByteArray.mk ⟨[115, 110, 97, 112, 115, 104, 111, 116]⟩), .func (.func 72) ⟨[]⟩ ⟨[.pointer (some (padd p6 0))]⟩]) hs m rfl rfl ty138 s0 (by kernel_rfl) (by kernel_rfl) (by kernel_rfl) (by kernel_rfl) (by kernel_rfl) ?_
    clear m w112; intro w113 m
    refine wpList_nil (n_then ?_)
    refine c_seq ?_
    refine c_reg ?_
    refine r_ok hs m (ok_move rfl) rfl ?_
    clear hs a; intro a hs
    refine r_ok hs m (ok_nilCheck rfl) rfl ?_
    clear hs a; intro a hs
    refine r_ok hs m (ok_fieldAddr (r := 10) rfl fd135_2 ty89 rfl) rfl ?_
    clear hs a; intro a hs
    refine r_ok hs m (ok_fieldAddr (r := 10) rfl fd89_0 ty3 rfl) rfl ?_
    clear hs a; intro a hs
    refine r_ok hs m (ok_load_sc rfl ty3 (bx_at r10) rfl) rfl ?_
    clear hs a; intro a hs
    refine r_ok hs m (ok_bin (v := .bool false) rfl rfl rfl) rfl ?_
    clear hs a; intro a hs
    refine wpList_nil (n_then ?_)
    refine c_false hs rfl rfl ?_
    refine wp_skip ?_
    refine n_then ?_
    refine c_reg ?_
    refine r_ok hs m (ok_fieldAddr (r := 1) rfl fd138_1 ty136 rfl) rfl ?_
    clear hs a; intro a hs
    refine r_ok hs m (ok_load_sc rfl ty136 (bx_at r0) rfl) rfl ?_
    clear hs a; intro a hs
    refine r_ok hs m (ok_move rfl) rfl ?_
    clear hs a; intro a hs
    refine r_call (us := [.int .i64 0, .pointer (some (padd p6 0))]) (Rc := fun v w' => v = (.tuple ⟨[.agg ⟨cReq lit10⟩, .bool true]⟩) ∧ Hp w0 (hh w0) [Bx p111 138 [.string (ByteArray.mk ⟨[115, 110, 97, 112, 115, 104, 111, 116]⟩), .func (.func 72) ⟨[]⟩ ⟨[.pointer (some (padd p6 0))]⟩], Bx p103 89 (cReq lit7), Bx p94 138 [.string (ByteArray.mk ⟨[100, 117, 109, 112]⟩), .func (.func 71) ⟨[]⟩ ⟨[.pointer (some (padd p6 0))]⟩], Bx p88 89 (cReq lit6), Sv 7 56 v74.v (([] : List TFdb).map cFdb), Sv 7 54 v72.v (([] : List TNeigh).map cNeigh), Sv 4 51 v70.v (([] : List TRoute).map cRoute), Bx p44 89 (cReq lit7), Sv 2 138 v9.v (([[.string (ByteArray.mk ⟨[100, 117, 109, 112]⟩), .func (.func 71) ⟨[]⟩ ⟨[.pointer (some (padd p6 0))]⟩], [.string (ByteArray.mk ⟨[115, 110, 97, 112, 115, 104, 111, 116]⟩), .func (.func 72) ⟨[]⟩ ⟨[.pointer (some (padd p6 0))]⟩], [.string (ByteArray.mk ⟨[107, 101, 114, 110, 101, 108]⟩), .func (.func 73) ⟨[.pointer (some (padd p4 0))]⟩ ⟨[]⟩], [.string (ByteArray.mk ⟨[97, 99, 113, 117, 105, 114, 101]⟩), .func (.func 74) ⟨[.pointer (some (padd p4 0))]⟩ ⟨[]⟩], [.string (ByteArray.mk ⟨[114, 101, 110, 101, 119]⟩), .func (.func 75) ⟨[.pointer (some (padd p4 0))]⟩ ⟨[]⟩], [.string (ByteArray.mk ⟨[119, 97, 116, 99, 104]⟩), .func (.func 76) ⟨[]⟩ ⟨[.pointer (some (padd p6 0))]⟩]] : List (List Value)).map id), Bx p6 63 [.pointer (some (padd p4 0))], Bx p4 135 (List.append (cSelf lit1) (List.append [v9.v] (List.append (cReq lit6) (List.append [.bool true, v70.v, v72.v, v74.v, nilH.v, .int .i64 0, .bool true, nilH.v, .bool false, .int .i64 0, .bool false] (List.append (cPrefix lit2) [.bool false, .bool false])))))] w') hs rfl rfl ca72 rfl (enter (n := 10) Tryz.func72 rfl rfl rfl fun a (hs : St 10 [(0, .int .i64 0), (1, .pointer (some (padd p6 0)))] a) => ?_) rfl ?_
    · refine c_reg ?_
      refine r_alloc hs m ze89 rfl ?_
      clear m hs a w113; intro p115 w116 m a hs
      refine r_ok hs m (ok_assign rfl) rfl ?_
      clear hs a; intro a hs
      refine wpList_nil (n_then ?_)
      refine c_drawH (Hp w0 (hh w0) [Bx p111 138 [.string (ByteArray.mk ⟨[115, 110, 97, 112, 115, 104, 111, 116]⟩), .func (.func 72) ⟨[]⟩ ⟨[.pointer (some (padd p6 0))]⟩], Bx p103 89 (cReq lit7), Bx p94 138 [.string (ByteArray.mk ⟨[100, 117, 109, 112]⟩), .func (.func 71) ⟨[]⟩ ⟨[.pointer (some (padd p6 0))]⟩], Bx p88 89 (cReq lit6), Sv 7 56 v74.v (([] : List TFdb).map cFdb), Sv 7 54 v72.v (([] : List TNeigh).map cNeigh), Sv 4 51 v70.v (([] : List TRoute).map cRoute), Bx p44 89 (cReq lit7), Sv 2 138 v9.v (([[.string (ByteArray.mk ⟨[100, 117, 109, 112]⟩), .func (.func 71) ⟨[]⟩ ⟨[.pointer (some (padd p6 0))]⟩], [.string (ByteArray.mk ⟨[115, 110, 97, 112, 115, 104, 111, 116]⟩), .func (.func 72) ⟨[]⟩ ⟨[.pointer (some (padd p6 0))]⟩], [.string (ByteArray.mk ⟨[107, 101, 114, 110, 101, 108]⟩), .func (.func 73) ⟨[.pointer (some (padd p4 0))]⟩ ⟨[]⟩], [.string (ByteArray.mk ⟨[97, 99, 113, 117, 105, 114, 101]⟩), .func (.func 74) ⟨[.pointer (some (padd p4 0))]⟩ ⟨[]⟩], [.string (ByteArray.mk ⟨[114, 101, 110, 101, 119]⟩), .func (.func 75) ⟨[.pointer (some (padd p4 0))]⟩ ⟨[]⟩], [.string (ByteArray.mk ⟨[119, 97, 116, 99, 104]⟩), .func (.func 76) ⟨[]⟩ ⟨[.pointer (some (padd p6 0))]⟩]] : List (List Value)).map id), Bx p6 63 [.pointer (some (padd p4 0))], Bx p4 135 (List.append (cSelf lit1) (List.append [v9.v] (List.append (cReq lit6) (List.append [.bool true, v70.v, v72.v, v74.v, nilH.v, .int .i64 0, .bool true, nilH.v, .bool false, .int .i64 0, .bool false] (List.append (cPrefix lit2) [.bool false, .bool false])))))]) m mo ?_; clear m w116; intro w117 m
      refine h_ok (i := 0) rfl (by kernel_rfl) (by kernel_rfl) (by kernel_rfl) hs (m.sub (.c r1 (.c r1 (.c r1 (.c r1 (.c r1 (.c r1 (.c r1 (.c r1 (.c r1 (.c r1 (.c r1 .n)))))))))))) (ok_build (cs := cReq lit10) st89 ze89 rfl (by kernel_rfl)) rfl ?_
      clear hs a; intro a hs
      refine h_ok (i := 1) rfl (by kernel_rfl) (by kernel_rfl) (by kernel_rfl) hs (m.sub (.c r1 (.c r1 (.c r1 (.c r1 (.c r1 (.c r1 (.c r1 (.c r1 (.c r1 (.c r1 (.c r1 .n)))))))))))) (ok_load_sc rfl ty63 (bx_at r9) rfl) rfl ?_
      clear hs a; intro a hs
      refine h_ok (i := 2) rfl (by kernel_rfl) (by kernel_rfl) (by kernel_rfl) hs (m.sub (.c r1 (.c r1 (.c r1 (.c r1 (.c r1 (.c r1 (.c r1 (.c r1 (.c r1 (.c r1 (.c r1 .n)))))))))))) (ok_nilCheck rfl) rfl ?_
      clear hs a; intro a hs
      refine h_ok (i := 3) rfl (by kernel_rfl) (by kernel_rfl) (by kernel_rfl) hs (m.sub (.c r1 (.c r1 (.c r1 (.c r1 (.c r1 (.c r1 (.c r1 (.c r1 (.c r1 (.c r1 (.c r1 .n)))))))))))) (ok_fieldAddr (r := 50) rfl fd135_7 ty4 rfl) rfl ?_
      clear hs a; intro a hs
      refine h_ok (i := 4) rfl (by kernel_rfl) (by kernel_rfl) (by kernel_rfl) hs (m.sub (.c r1 (.c r1 (.c r1 (.c r1 (.c r1 (.c r1 (.c r1 (.c r1 (.c r1 (.c r1 (.c r1 .n)))))))))))) (ok_load_sc rfl ty4 (bx_at r10) rfl) rfl ?_
      clear hs a; intro a hs
      refine h_eff (i := 5) (by kernel_rfl) rfl ?_
      refine r_store (cs' := cReq lit10) (vs := cReq lit10) hs m rfl rfl ty89 s0 (by kernel_rfl) (by kernel_rfl) (by kernel_rfl) (by kernel_rfl) (by kernel_rfl) ?_
      clear m w117; intro w118 m
      refine wpList_nil (n_then ⟨(m.sub (.c r1 (.c r1 (.c r1 (.c r1 (.c r1 (.c r1 (.c r1 (.c r1 (.c r1 (.c r1 (.c r1 .n)))))))))))), ?_⟩)
      refine h_ok (i := 6) rfl (by kernel_rfl) (by kernel_rfl) (by kernel_rfl) hs (m.sub (.c r1 (.c r1 (.c r1 (.c r1 (.c r1 (.c r1 (.c r1 (.c r1 (.c r1 (.c r1 (.c r1 .n)))))))))))) (ok_assign rfl) rfl ?_
      clear hs a; intro a hs
      refine h_done (by kernel_rfl) (n_then ?_)
      refine wp_ret ?_
      refine leave hs (vs := [.agg ⟨cReq lit10⟩, .bool true]) rfl ⟨resv_cell (cs := cReq lit10) m rfl ty89 r0 rfl, rfl, trivial⟩ ?_
      exact ⟨_, rfl, rfl, m.sub (.c r1 (.c r1 (.c r1 (.c r1 (.c r1 (.c r1 (.c r1 (.c r1 (.c r1 (.c r1 (.c r1 .n)))))))))))⟩
    clear hs a m w113; rintro _ w119 ⟨rfl, m⟩ a hs
    refine r_ok hs m (ok_move rfl) rfl ?_
    clear hs a; intro a hs
    refine r_ok hs m (ok_extract rfl rfl) rfl ?_
    clear hs a; intro a hs
    refine r_ok hs m (ok_extract rfl rfl) rfl ?_
    clear hs a; intro a hs
    refine r_alloc hs m ze89 rfl ?_
    clear m hs a w119; intro p120 w121 m a hs
    refine r_store (cs' := cReq lit10) (vs := cReq lit10) hs m rfl rfl ty89 s0 (by kernel_rfl) (by kernel_rfl) (by kernel_rfl) (by kernel_rfl) (by kernel_rfl) ?_
    clear m w121; intro w122 m
    refine r_ok hs m (ok_assign rfl) rfl ?_
    clear hs a; intro a hs
    refine wpList_nil (n_then ?_)
    refine c_reg ?_
    refine r_ok hs m (ok_move rfl) rfl ?_
    clear hs a; intro a hs
    refine wpList_nil (n_then ?_)
    refine c_true hs rfl rfl ?_
    refine c_last ?_
    refine r_ok hs m (ok_move rfl) rfl ?_
    clear hs a; intro a hs
    refine r_ok hs m (ok_load_ag (vs := cReq lit10) rfl ty89 (bx_at r0) (by kernel_rfl) (by kernel_rfl)) rfl ?_
    clear hs a; intro a hs
    refine r_ok hs m (ok_nilCheck rfl) rfl ?_
    clear hs a; intro a hs
    refine r_ok hs m (ok_fieldAddr (r := 10) rfl fd135_2 ty89 rfl) rfl ?_
    clear hs a; intro a hs
    refine r_store (cs' := List.append (cSelf lit1) (List.append [v9.v] (List.append (cReq lit10) (List.append [.bool true, v70.v, v72.v, v74.v, nilH.v, .int .i64 0, .bool true, nilH.v, .bool false, .int .i64 0, .bool false] (List.append (cPrefix lit2) [.bool false, .bool false]))))) (vs := cReq lit10) hs m rfl rfl ty89 s11 (by kernel_rfl) (by kernel_rfl) (by kernel_rfl) (by kernel_rfl) (by kernel_rfl) ?_
    clear m w122; intro w124 m
    refine wpList_nil (n_block (n_then ?_))
    refine c_last ?_
    refine r_ok hs m (ok_add (r := 2) rfl rfl rfl) rfl ?_
    clear hs a; intro a hs
    refine r_ok hs m (ok_move rfl) rfl ?_
    clear hs a; intro a hs
    refine wpList_nil (n_then ?_)
    refine rounds_s ?_
    refine c_reg ?_
    refine r_ok hs m (ok_bin (v := .bool true) rfl rfl rfl) rfl ?_
    clear hs a; intro a hs
    refine wpList_nil (n_then ?_)
    refine c_seq ?_
    refine c_true hs rfl rfl ?_
    refine wp_skip ?_
    refine n_then ?_
    refine c_seq ?_
    refine wp_block ?_
    refine c_reg ?_
    refine elO (c := id) (e := ([.string (ByteArray.mk ⟨[107, 101, 114, 110, 101, 108]⟩), .func (.func 73) ⟨[.pointer (some (padd p4 0))]⟩ ⟨[]⟩] : List Value)) hs m (x := (.tmp 12)) (ix := (.tmp 14)) rfl rfl sl133 ty138 r9 (by omega) rfl fun p126 hp127 ok128 => ?_
    refine r_ok hs m (ok128 _ _ _ _ _) rfl ?_
    clear hs a; intro a hs
    refine r_ok hs m (ok_load_ag (vs := [.string (ByteArray.mk ⟨[107, 101, 114, 110, 101, 108]⟩), .func (.func 73) ⟨[.pointer (some (padd p4 0))]⟩ ⟨[]⟩]) rfl ty138 (el_at hp127 r9 (get_map _ (rfl : ([[.string (ByteArray.mk ⟨[100, 117, 109, 112]⟩), .func (.func 71) ⟨[]⟩ ⟨[.pointer (some (padd p6 0))]⟩], [.string (ByteArray.mk ⟨[115, 110, 97, 112, 115, 104, 111, 116]⟩), .func (.func 72) ⟨[]⟩ ⟨[.pointer (some (padd p6 0))]⟩], [.string (ByteArray.mk ⟨[107, 101, 114, 110, 101, 108]⟩), .func (.func 73) ⟨[.pointer (some (padd p4 0))]⟩ ⟨[]⟩], [.string (ByteArray.mk ⟨[97, 99, 113, 117, 105, 114, 101]⟩), .func (.func 74) ⟨[.pointer (some (padd p4 0))]⟩ ⟨[]⟩], [.string (ByteArray.mk ⟨[114, 101, 110, 101, 119]⟩), .func (.func 75) ⟨[.pointer (some (padd p4 0))]⟩ ⟨[]⟩], [.string (ByteArray.mk ⟨[119, 97, 116, 99, 104]⟩), .func (.func 76) ⟨[]⟩ ⟨[.pointer (some (padd p6 0))]⟩]])[2]? = some ([.string (ByteArray.mk ⟨[107, 101, 114, 110, 101, 108]⟩), .func (.func 73) ⟨[.pointer (some (padd p4 0))]⟩ ⟨[]⟩] : List Value)))) (by kernel_rfl) (by kernel_rfl)) rfl ?_
    clear hs a; intro a hs
    refine r_alloc hs m ze138 rfl ?_
    clear m hs a w124; intro p129 w130 m a hs
    refine r_store (cs' := [.string (ByteArray.mk ⟨[107, 101, 114, 110, 101, 108]⟩), .func (.func 73) ⟨[.pointer (some (padd p4 0))]⟩ ⟨[]⟩]) (vs := [.string (ByteArray.mk ⟨[107, 101, 114, 110, 101, 108]⟩), .func (.func 73) ⟨[.pointer (some (padd p4 0))]⟩ ⟨[]⟩]) hs m rfl rfl ty138 s0 (by kernel_rfl) (by kernel_rfl) (by kernel_rfl) (by kernel_rfl) (by kernel_rfl) ?_
    clear m w130; intro w131 m
    refine wpList_nil (n_then ?_)
    refine c_seq ?_
    refine c_reg ?_
    refine r_ok hs m (ok_move rfl) rfl ?_
    clear hs a; intro a hs
    refine r_ok hs m (ok_nilCheck rfl) rfl ?_
    clear hs a; intro a hs
    refine r_ok hs m (ok_fieldAddr (r := 10) rfl fd135_2 ty89 rfl) rfl ?_
    clear hs a; intro a hs
    refine r_ok hs m (ok_fieldAddr (r := 10) rfl fd89_0 ty3 rfl) rfl ?_
    clear hs a; intro a hs
    refine r_ok hs m (ok_load_sc rfl ty3 (bx_at r12) rfl) rfl ?_
    clear hs a; intro a hs
    refine r_ok hs m (ok_bin (v := .bool true) rfl rfl rfl) rfl ?_
    clear hs a; intro a hs
    refine wpList_nil (n_then ?_)
    refine c_true hs rfl rfl ?_
    refine wp_exit ?_
    refine ex_then (ex_miss rfl (ex_then (ex_then (ex_hit (?_)))))
    refine n_then ?_
    refine c_reg ?_
    refine r_ok hs m (ok_move rfl) rfl ?_
    clear hs a; intro a hs
    refine r_ok hs m (ok_nilCheck rfl) rfl ?_
    clear hs a; intro a hs
    refine r_ok hs m (ok_fieldAddr (r := 10) rfl fd135_2 ty89 rfl) rfl ?_
    clear hs a; intro a hs
    refine r_ok hs m (ok_load_ag (vs := cReq lit10) rfl ty89 (bx_at r12) (by kernel_rfl) (by kernel_rfl)) rfl ?_
    clear hs a; intro a hs
    refine r_store (cs' := cReq lit10) (vs := cReq lit10) hs m rfl rfl ty89 s5 (by kernel_rfl) (by kernel_rfl) (by kernel_rfl) (by kernel_rfl) (by kernel_rfl) ?_
    clear m w131; intro w133 m
    refine wpList_nil (n_then ?_)
    refine wp_ret ?_
    refine leave hs (vs := [.agg ⟨cReq lit10⟩]) rfl ⟨resv_cell (cs := cReq lit10) m rfl ty89 r5 rfl, trivial⟩ ?_
    exact ⟨_, rfl, rfl, m.sub (.c r6 (.c r6 (.c r6 (.c r6 (.c r6 (.c r6 (.c r6 .n)))))))⟩
  clear hs a m w86; rintro _ w134 ⟨rfl, m⟩ a hs
  refine r_store (cs' := cReq lit10) (vs := cReq lit10) hs m rfl rfl ty89 s3 (by kernel_rfl) (by kernel_rfl) (by kernel_rfl) (by kernel_rfl) (by kernel_rfl) ?_
  clear m w134; intro w135 m
  refine wpList_nil (n_then ?_)
  refine c_reg ?_
  refine r_ok hs m (ok_assign rfl) rfl ?_
  clear hs a; intro a hs
  refine wpList_nil (n_then ?_)
  refine c_reg ?_
  refine r_ok hs m (ok_move rfl) rfl ?_
  clear hs a; intro a hs
  refine r_ok hs m (ok_build (cs := cPrefix lit11) st44 ze44 rfl (by kernel_rfl)) rfl ?_
  clear hs a; intro a hs
  refine r_ok hs m (ok_buildArr (cs := cMAC lit12) ar46 ty5 ze46 rfl (by kernel_rfl)) rfl ?_
  clear hs a; intro a hs
  refine r_ok hs m (ok_build (cs := cLease lit13) st48 ze48 rfl (by kernel_rfl)) rfl ?_
  clear hs a; intro a hs
  refine r_buildM (c := cLease) (ys := [lit13]) hs m sl22 ty48 ze48 rfl rfl rfl rfl rfl (fun _ => rfl) rfl rfl rfl ?_
  clear m hs a w135; intro v136 w137 m a hs
  replace m := m.nilSvM cLease 12 48
  refine r_appendM (c := cLease) (xs := []) (ys := [lit13]) hs m rfl rfl sl22 ni22 ty48 ze48 rfl by48 rfl r0 (m.rdv r1) (fun _ => rfl) (by first | omega | (simp; done) | (simp; omega)) rfl ?_
  clear m hs a w137; intro v138 w140 m a hs
  refine r_ok hs m (ok_assign rfl) rfl ?_
  clear hs a; intro a hs
  refine wpList_nil (n_then ?_)
  refine c_seq ?_
  refine c_reg ?_
  refine r_ok hs m (ok_fieldAddr (r := 0) rfl fd89_0 ty3 rfl) rfl ?_
  clear hs a; intro a hs
  refine r_ok hs m (ok_load_sc rfl ty3 (bx_at r5) rfl) rfl ?_
  clear hs a; intro a hs
  refine r_ok hs m (ok_bin (v := .bool false) rfl rfl rfl) rfl ?_
  clear hs a; intro a hs
  refine r_ok hs m (ok_move rfl) rfl ?_
  clear hs a; intro a hs
  refine r_okg hs rfl rfl rfl m (ok_move rfl) rfl ?_
  clear hs a; intro a hs
  refine r_okg hs rfl rfl rfl m (ok_move rfl) rfl ?_
  clear hs a; intro a hs
  refine r_okg hs rfl rfl rfl m (ok_build (cs := [.int .i64 4, .int .i64 0, v138.v]) st74 ze74 rfl (by kernel_rfl)) rfl ?_
  clear hs a; intro a hs
  refine r_okg hs rfl rfl rfl m (ok_build (cs := List.append [.int .i64 0] (List.append (cAnswer lit9) [.int .i64 4, .int .i64 0, v138.v, nilH.v, nilH.v, nilH.v, nilH.v])) st77 ze77 rfl (by kernel_rfl)) rfl ?_
  clear hs a; intro a hs
  refine g_strip hs rfl rfl rfl ?_
  refine r_call (us := [.pointer (some (padd p4 0)), .agg ⟨List.append [.int .i64 0] (List.append (cAnswer lit9) [.int .i64 4, .int .i64 0, v138.v, nilH.v, nilH.v, nilH.v, nilH.v])⟩]) (Rc := fun v w' => ∃ v167 : SH, v = (.int .i64 0) ∧ Hp w0 (hh w0) [Sv 12 48 v167.v ([lit13].map cLease), Sv 12 48 v138.v ([lit13].map cLease), Sv 12 48 v136.v ([lit13].map cLease), Sv 7 56 v74.v (([] : List TFdb).map cFdb), Sv 7 54 v72.v (([] : List TNeigh).map cNeigh), Sv 4 51 v70.v (([] : List TRoute).map cRoute), Bx p44 89 (cReq lit10), Sv 2 138 v9.v (([[.string (ByteArray.mk ⟨[100, 117, 109, 112]⟩), .func (.func 71) ⟨[]⟩ ⟨[.pointer (some (padd p6 0))]⟩], [.string (ByteArray.mk ⟨[115, 110, 97, 112, 115, 104, 111, 116]⟩), .func (.func 72) ⟨[]⟩ ⟨[.pointer (some (padd p6 0))]⟩], [.string (ByteArray.mk ⟨[107, 101, 114, 110, 101, 108]⟩), .func (.func 73) ⟨[.pointer (some (padd p4 0))]⟩ ⟨[]⟩], [.string (ByteArray.mk ⟨[97, 99, 113, 117, 105, 114, 101]⟩), .func (.func 74) ⟨[.pointer (some (padd p4 0))]⟩ ⟨[]⟩], [.string (ByteArray.mk ⟨[114, 101, 110, 101, 119]⟩), .func (.func 75) ⟨[.pointer (some (padd p4 0))]⟩ ⟨[]⟩], [.string (ByteArray.mk ⟨[119, 97, 116, 99, 104]⟩), .func (.func 76) ⟨[]⟩ ⟨[.pointer (some (padd p6 0))]⟩]] : List (List Value)).map id), Bx p6 63 [.pointer (some (padd p4 0))], Bx p4 135 (List.append (cSelf lit1) (List.append [v9.v] (List.append (cReq lit6) (List.append [.bool true, v70.v, v72.v, v74.v, v167.v, .int .i64 4, .bool false, nilH.v, .bool false, .int .i64 0, .bool false] (List.append (cPrefix lit2) [.bool false, .bool false])))))] w') hs rfl rfl ca32 rfl (enter (n := 75) Tryz.func32 rfl rfl rfl fun a (hs : St 75 [(0, .pointer (some (padd p4 0))), (1, .agg ⟨List.append [.int .i64 0] (List.append (cAnswer lit9) [.int .i64 4, .int .i64 0, v138.v, nilH.v, nilH.v, nilH.v, nilH.v])⟩)] a) => ?_) rfl ?_
  · refine c_reg ?_
    refine r_box (cs := List.append [.int .i64 0] (List.append (cAnswer lit9) [.int .i64 4, .int .i64 0, v138.v, nilH.v, nilH.v, nilH.v, nilH.v])) hs m rfl (by kernel_rfl) rfl ?_
    clear m hs a w140; intro p141 w142 m a hs
    refine r_ok hs m (ok_assign rfl) rfl ?_
    clear hs a; intro a hs
    refine wpList_nil (n_then ?_)
    refine c_reg ?_
    refine r_ok hs m (ok_assign rfl) rfl ?_
    clear hs a; intro a hs
    refine wpList_nil (n_then ?_)
    refine c_reg ?_
    refine r_ok hs m (ok_assign rfl) rfl ?_
    clear hs a; intro a hs
    refine wpList_nil (n_then ?_)
    refine c_seq ?_
    refine c_reg ?_
    refine r_ok hs m (ok_move rfl) rfl ?_
    clear hs a; intro a hs
    refine r_ok hs m (ok_nilCheck rfl) rfl ?_
    clear hs a; intro a hs
    refine r_ok hs m (ok_fieldAddr (r := 10) rfl fd135_2 ty89 rfl) rfl ?_
    clear hs a; intro a hs
    refine r_ok hs m (ok_fieldAddr (r := 10) rfl fd89_0 ty3 rfl) rfl ?_
    clear hs a; intro a hs
    refine r_ok hs m (ok_load_sc rfl ty3 (bx_at r9) rfl) rfl ?_
    clear hs a; intro a hs
    refine wpList_nil (n_then ?_)
    refine wp_block ?_
    refine c_reg ?_
    refine r_ok hs m (ok_bin (v := .bool false) rfl rfl rfl) rfl ?_
    clear hs a; intro a hs
    refine r_ok hs m (ok_assign rfl) rfl ?_
    clear hs a; intro a hs
    refine wpList_nil (n_then ?_)
    refine c_false hs rfl rfl ?_
    refine c_reg ?_
    refine r_ok hs m (ok_bin (v := .bool false) rfl rfl rfl) rfl ?_
    clear hs a; intro a hs
    refine r_ok hs m (ok_assign rfl) rfl ?_
    clear hs a; intro a hs
    refine wpList_nil (n_then ?_)
    refine c_false hs rfl rfl ?_
    refine c_reg ?_
    refine r_ok hs m (ok_bin (v := .bool true) rfl rfl rfl) rfl ?_
    clear hs a; intro a hs
    refine r_ok hs m (ok_assign rfl) rfl ?_
    clear hs a; intro a hs
    refine wpList_nil (n_then ?_)
    refine c_true hs rfl rfl ?_
    refine c_last ?_
    refine r_ok hs m (ok_move rfl) rfl ?_
    clear hs a; intro a hs
    refine r_ok hs m (ok_load_ag (vs := List.append [.int .i64 0] (List.append (cAnswer lit9) [.int .i64 4, .int .i64 0, v138.v, nilH.v, nilH.v, nilH.v, nilH.v])) rfl ty77 (bx_at r0) (by kernel_rfl) (by kernel_rfl)) rfl ?_
    clear hs a; intro a hs
    refine r_call (us := [.pointer (some (padd p4 0)), .agg ⟨List.append [.int .i64 0] (List.append (cAnswer lit9) [.int .i64 4, .int .i64 0, v138.v, nilH.v, nilH.v, nilH.v, nilH.v])⟩]) (Rc := fun v w' => ∃ v167 : SH, v = (.int .i64 0) ∧ Hp w0 (hh w0) [Sv 12 48 v167.v ([lit13].map cLease), Bx p141 77 (List.append [.int .i64 0] (List.append (cAnswer lit9) [.int .i64 4, .int .i64 0, v138.v, nilH.v, nilH.v, nilH.v, nilH.v])), Sv 12 48 v138.v ([lit13].map cLease), Sv 12 48 v136.v ([lit13].map cLease), Sv 7 56 v74.v (([] : List TFdb).map cFdb), Sv 7 54 v72.v (([] : List TNeigh).map cNeigh), Sv 4 51 v70.v (([] : List TRoute).map cRoute), Bx p44 89 (cReq lit10), Sv 2 138 v9.v (([[.string (ByteArray.mk ⟨[100, 117, 109, 112]⟩), .func (.func 71) ⟨[]⟩ ⟨[.pointer (some (padd p6 0))]⟩], [.string (ByteArray.mk ⟨[115, 110, 97, 112, 115, 104, 111, 116]⟩), .func (.func 72) ⟨[]⟩ ⟨[.pointer (some (padd p6 0))]⟩], [.string (ByteArray.mk ⟨[107, 101, 114, 110, 101, 108]⟩), .func (.func 73) ⟨[.pointer (some (padd p4 0))]⟩ ⟨[]⟩], [.string (ByteArray.mk ⟨[97, 99, 113, 117, 105, 114, 101]⟩), .func (.func 74) ⟨[.pointer (some (padd p4 0))]⟩ ⟨[]⟩], [.string (ByteArray.mk ⟨[114, 101, 110, 101, 119]⟩), .func (.func 75) ⟨[.pointer (some (padd p4 0))]⟩ ⟨[]⟩], [.string (ByteArray.mk ⟨[119, 97, 116, 99, 104]⟩), .func (.func 76) ⟨[]⟩ ⟨[.pointer (some (padd p6 0))]⟩]] : List (List Value)).map id), Bx p6 63 [.pointer (some (padd p4 0))], Bx p4 135 (List.append (cSelf lit1) (List.append [v9.v] (List.append (cReq lit10) (List.append [.bool true, v70.v, v72.v, v74.v, v167.v, .int .i64 4, .bool false, nilH.v, .bool false, .int .i64 0, .bool false] (List.append (cPrefix lit2) [.bool false, .bool false])))))] w') hs rfl rfl ca87 rfl (enter (n := 75) Tryz.func87 rfl rfl rfl fun a (hs : St 75 [(0, .pointer (some (padd p4 0))), (1, .agg ⟨List.append [.int .i64 0] (List.append (cAnswer lit9) [.int .i64 4, .int .i64 0, v138.v, nilH.v, nilH.v, nilH.v, nilH.v])⟩)] a) => ?_) rfl ?_
    · refine c_reg ?_
      refine r_box (cs := List.append [.int .i64 0] (List.append (cAnswer lit9) [.int .i64 4, .int .i64 0, v138.v, nilH.v, nilH.v, nilH.v, nilH.v])) hs m rfl (by kernel_rfl) rfl ?_
      clear m hs a w142; intro p146 w147 m a hs
      refine r_ok hs m (ok_assign rfl) rfl ?_
      clear hs a; intro a hs
      refine wpList_nil (n_then ?_)
      refine c_seq ?_
      refine c_reg ?_
      refine r_ok hs m (ok_fieldAddr (r := 0) rfl fd77_0 ty36 rfl) rfl ?_
      clear hs a; intro a hs
      refine r_ok hs m (ok_load_sc rfl ty36 (bx_at r0) rfl) rfl ?_
      clear hs a; intro a hs
      refine r_ok hs m (ok_bin (v := .bool false) rfl rfl rfl) rfl ?_
      clear hs a; intro a hs
      refine wpList_nil (n_then ?_)
      refine c_false hs rfl rfl ?_
      refine wp_skip ?_
      refine n_then ?_
      refine c_seq ?_
      refine c_reg ?_
      refine r_ok hs m (ok_fieldAddr (r := 16) rfl fd77_2 ty74 rfl) rfl ?_
      clear hs a; intro a hs
      refine r_ok hs m (ok_fieldAddr (r := 16) rfl fd74_0 ty2 rfl) rfl ?_
      clear hs a; intro a hs
      refine r_ok hs m (ok_load_sc rfl ty2 (bx_at r0) rfl) rfl ?_
      clear hs a; intro a hs
      refine r_ok hs m (ok_bin (v := .bool false) rfl rfl rfl) rfl ?_
      clear hs a; intro a hs
      refine r_ok hs m (ok_move rfl) rfl ?_
      clear hs a; intro a hs
      refine r_okg hs rfl rfl rfl m (ok_fieldAddr (r := 16) rfl fd77_2 ty74 rfl) rfl ?_
      clear hs a; intro a hs
      refine r_okg hs rfl rfl rfl m (ok_fieldAddr (r := 18) rfl fd74_2 ty22 rfl) rfl ?_
      clear hs a; intro a hs
      refine r_okg hs rfl rfl rfl m (ok_load_sc rfl ty22 (bx_at r0) rfl) rfl ?_
      clear hs a; intro a hs
      refine g_strip hs rfl rfl rfl ?_
      refine r_call (us := [v138.v, .func (.func 133) ⟨[]⟩ ⟨[]⟩]) (Rc := fun v w' => v = (.bool true) ∧ Hp w0 (hh w0) [Bx p146 77 (List.append [.int .i64 0] (List.append (cAnswer lit9) [.int .i64 4, .int .i64 0, v138.v, nilH.v, nilH.v, nilH.v, nilH.v])), Bx p141 77 (List.append [.int .i64 0] (List.append (cAnswer lit9) [.int .i64 4, .int .i64 0, v138.v, nilH.v, nilH.v, nilH.v, nilH.v])), Sv 12 48 v138.v ([lit13].map cLease), Sv 12 48 v136.v ([lit13].map cLease), Sv 7 56 v74.v (([] : List TFdb).map cFdb), Sv 7 54 v72.v (([] : List TNeigh).map cNeigh), Sv 4 51 v70.v (([] : List TRoute).map cRoute), Bx p44 89 (cReq lit10), Sv 2 138 v9.v (([[.string (ByteArray.mk ⟨[100, 117, 109, 112]⟩), .func (.func 71) ⟨[]⟩ ⟨[.pointer (some (padd p6 0))]⟩], [.string (ByteArray.mk ⟨[115, 110, 97, 112, 115, 104, 111, 116]⟩), .func (.func 72) ⟨[]⟩ ⟨[.pointer (some (padd p6 0))]⟩], [.string (ByteArray.mk ⟨[107, 101, 114, 110, 101, 108]⟩), .func (.func 73) ⟨[.pointer (some (padd p4 0))]⟩ ⟨[]⟩], [.string (ByteArray.mk ⟨[97, 99, 113, 117, 105, 114, 101]⟩), .func (.func 74) ⟨[.pointer (some (padd p4 0))]⟩ ⟨[]⟩], [.string (ByteArray.mk ⟨[114, 101, 110, 101, 119]⟩), .func (.func 75) ⟨[.pointer (some (padd p4 0))]⟩ ⟨[]⟩], [.string (ByteArray.mk ⟨[119, 97, 116, 99, 104]⟩), .func (.func 76) ⟨[]⟩ ⟨[.pointer (some (padd p6 0))]⟩]] : List (List Value)).map id), Bx p6 63 [.pointer (some (padd p4 0))], Bx p4 135 (List.append (cSelf lit1) (List.append [v9.v] (List.append (cReq lit10) (List.append [.bool true, v70.v, v72.v, v74.v, nilH.v, .int .i64 0, .bool true, nilH.v, .bool false, .int .i64 0, .bool false] (List.append (cPrefix lit2) [.bool false, .bool false])))))] w') hs rfl rfl ca132 rfl (enter (n := 28) Tryz.func132 rfl rfl rfl fun a (hs : St 28 [(0, v138.v), (1, .func (.func 133) ⟨[]⟩ ⟨[]⟩)] a) => ?_) rfl ?_
      · refine c_reg ?_
        refine r_ok hs m (ok_assign rfl) rfl ?_
        clear hs a; intro a hs
        refine wpList_nil (n_then ?_)
        refine c_seq ?_
        refine c_reg ?_
        refine r_ok hs m (ok_move rfl) rfl ?_
        clear hs a; intro a hs
        refine r_ok hs m (ok_len (r := 1) m rfl sl22 (rc_own r2) rfl) rfl ?_
        clear hs a; intro a hs
        refine r_ok hs m (ok_move rfl) rfl ?_
        clear hs a; intro a hs
        refine wpList_nil (n_then ?_)
        refine wp_block ?_
        refine wp_loop_rounds 13 ?_
        refine rounds_s ?_
        refine c_reg ?_
        refine r_ok hs m (ok_bin (v := .bool true) rfl rfl rfl) rfl ?_
        clear hs a; intro a hs
        refine wpList_nil (n_then ?_)
        refine c_seq ?_
        refine c_true hs rfl rfl ?_
        refine wp_skip ?_
        refine n_then ?_
        refine c_seq ?_
        refine wp_block ?_
        refine c_reg ?_
        refine r_ok hs m (ok_move rfl) rfl ?_
        clear hs a; intro a hs
        refine r_ok hs m (ok_assign rfl) rfl ?_
        clear hs a; intro a hs
        refine wpList_nil (n_then ?_)
        refine c_draw m mo (by kernel_rfl) ?_
        refine q_ok hs (ok_move rfl) rfl ?_
        clear hs a; intro a hs
        refine q_ok hs (ok_bin (v := .bool false) rfl rfl rfl) rfl ?_
        clear hs a; intro a hs
        refine q_ok hs (ok_move rfl) rfl ?_
        clear hs a; intro a hs
        refine q_out hs rfl rfl rfl rfl ?_
        clear hs a; intro a hs
        refine q_out hs rfl rfl rfl rfl ?_
        clear hs a; intro a hs
        refine q_out hs rfl rfl rfl rfl ?_
        clear hs a; intro a hs
        refine q_out hs rfl rfl rfl rfl ?_
        clear hs a; intro a hs
        refine q_out hs rfl rfl rfl rfl ?_
        clear hs a; intro a hs
        refine q_out hs rfl rfl rfl rfl ?_
        clear hs a; intro a hs
        refine q_out hs rfl rfl rfl rfl ?_
        clear hs a; intro a hs
        refine q_out hs rfl rfl rfl rfl ?_
        clear hs a; intro a hs
        refine q_out hs rfl rfl rfl rfl ?_
        clear hs a; intro a hs
        refine q_out hs rfl rfl rfl rfl ?_
        clear hs a; intro a hs
        refine q_out hs rfl rfl rfl rfl ?_
        clear hs a; intro a hs
        refine q_out hs rfl rfl rfl rfl ?_
        clear hs a; intro a hs
        refine q_ok hs (ok_pick (r := .bool false) rfl rfl rfl rfl) rfl ?_
        clear hs a; intro a hs
        refine wpQuiet_nil ?_; clear m w147; intro w150 m
        refine c_false hs rfl rfl ?_
        refine wp_skip ?_
        refine n_block (n_then ?_)
        refine c_last ?_
        refine r_ok hs m (ok_add (r := 1) rfl rfl rfl) rfl ?_
        clear hs a; intro a hs
        refine r_ok hs m (ok_move rfl) rfl ?_
        clear hs a; intro a hs
        refine wpList_nil (n_then ?_)
        refine rounds_s ?_
        refine c_reg ?_
        refine r_ok hs m (ok_bin (v := .bool false) rfl rfl rfl) rfl ?_
        clear hs a; intro a hs
        refine wpList_nil (n_then ?_)
        refine c_seq ?_
        refine c_false hs rfl rfl ?_
        refine wp_exit ?_
        refine ex_then (ex_then (ex_hit (?_)))
        refine n_then ?_
        refine c_reg ?_
        refine r_ok hs m (ok_assign rfl) rfl ?_
        clear hs a; intro a hs
        refine wpList_nil (n_then ?_)
        refine wp_ret ?_
        refine leave hs (vs := [.bool true]) rfl ⟨rfl, trivial⟩ ?_
        exact ⟨_, rfl, rfl, m.sub (.c r0 (.c r0 (.c r0 (.c r0 (.c r0 (.c r0 (.c r0 (.c r0 (.c r0 (.c r0 (.c r0 .n)))))))))))⟩
      clear hs a m w147; rintro _ w153 ⟨rfl, m⟩ a hs
      refine r_okg hs rfl rfl rfl m (ok_not rfl) rfl ?_
      clear hs a; intro a hs
      refine r_ok hs m (ok_pick (r := .bool false) rfl rfl rfl rfl) rfl ?_
      clear hs a; intro a hs
      refine wpList_nil (n_then ?_)
      refine c_false hs rfl rfl ?_
      refine wp_skip ?_
      refine n_then ?_
      refine c_seq ?_
      refine c_reg ?_
      refine r_ok hs m (ok_fieldAddr (r := 16) rfl fd77_2 ty74 rfl) rfl ?_
      clear hs a; intro a hs
      refine r_ok hs m (ok_fieldAddr (r := 18) rfl fd74_2 ty22 rfl) rfl ?_
      clear hs a; intro a hs
      refine r_ok hs m (ok_load_sc rfl ty22 (bx_at r0) rfl) rfl ?_
      clear hs a; intro a hs
      refine r_ok hs m (ok_len (r := 1) m rfl sl22 (rc_own r2) rfl) rfl ?_
      clear hs a; intro a hs
      refine r_ok hs m (ok_move rfl) rfl ?_
      clear hs a; intro a hs
      refine wpList_nil (n_then ?_)
      refine wp_block ?_
      refine wp_loop_rounds 13 ?_
      refine rounds_s ?_
      refine c_reg ?_
      refine r_ok hs m (ok_bin (v := .bool true) rfl rfl rfl) rfl ?_
      clear hs a; intro a hs
      refine wpList_nil (n_then ?_)
      refine c_seq ?_
      refine c_true hs rfl rfl ?_
      refine wp_skip ?_
      refine n_then ?_
      refine c_seq ?_
      refine wp_block ?_
      refine c_reg ?_
      refine elO (c := cLease) (e := lit13) hs m (x := (.tmp 24)) (ix := (.tmp 26)) rfl rfl sl22 ty48 r2 (by omega) rfl fun p156 hp157 ok158 => ?_
      refine r_ok hs m (ok158 _ _ _ _ _) rfl ?_
      clear hs a; intro a hs
      refine r_ok hs m (ok_load_ag (vs := cLease lit13) rfl ty48 (el_at hp157 r2 (get_map _ (rfl : ([lit13])[0]? = some lit13))) (by kernel_rfl) (by kernel_rfl)) rfl ?_
      clear hs a; intro a hs
      refine r_alloc hs m ze48 rfl ?_
      clear m hs a w153; intro p159 w160 m a hs
      refine r_store (cs' := cLease lit13) (vs := cLease lit13) hs m rfl rfl ty48 s0 (by kernel_rfl) (by kernel_rfl) (by kernel_rfl) (by kernel_rfl) (by kernel_rfl) ?_
      clear m w160; intro w161 m
      refine wpList_nil (n_then ?_)
      refine c_reg ?_
      refine r_ok hs m (ok_fieldAddr (r := 1) rfl fd48_1 ty44 rfl) rfl ?_
      clear hs a; intro a hs
      refine r_ok hs m (ok_load_ag (vs := cPrefix lit11) rfl ty44 (bx_at r0) (by kernel_rfl) (by kernel_rfl)) rfl ?_
      clear hs a; intro a hs
      refine r_callP hs m rfl rfl ca43 rfl (valid_c lit11 _  ) rfl ?_
      clear m hs a w161; intro w162 m a hs
      have q163 : validM lit11 = (true : Bool) := by kernel_rfl
      rw [q163] at hs
      refine r_ok hs m (ok_not rfl) rfl ?_
      clear hs a; intro a hs
      refine wpList_nil (n_then ?_)
      refine c_false hs rfl rfl ?_
      refine wp_skip ?_
      refine n_block (n_then ?_)
      refine c_last ?_
      refine r_ok hs m (ok_add (r := 1) rfl rfl rfl) rfl ?_
      clear hs a; intro a hs
      refine r_ok hs m (ok_move rfl) rfl ?_
      clear hs a; intro a hs
      refine wpList_nil (n_then ?_)
      refine rounds_s ?_
      refine c_reg ?_
      refine r_ok hs m (ok_bin (v := .bool false) rfl rfl rfl) rfl ?_
      clear hs a; intro a hs
      refine wpList_nil (n_then ?_)
      refine c_seq ?_
      refine c_false hs rfl rfl ?_
      refine wp_exit ?_
      refine ex_then (ex_then (ex_hit (?_)))
      refine n_then ?_
      refine c_drawH (Hp w0 (hh w0) [Bx p159 48 (cLease lit13), Bx p146 77 (List.append [.int .i64 0] (List.append (cAnswer lit9) [.int .i64 4, .int .i64 0, v138.v, nilH.v, nilH.v, nilH.v, nilH.v])), Bx p141 77 (List.append [.int .i64 0] (List.append (cAnswer lit9) [.int .i64 4, .int .i64 0, v138.v, nilH.v, nilH.v, nilH.v, nilH.v])), Sv 12 48 v138.v ([lit13].map cLease), Sv 12 48 v136.v ([lit13].map cLease), Sv 7 56 v74.v (([] : List TFdb).map cFdb), Sv 7 54 v72.v (([] : List TNeigh).map cNeigh), Sv 4 51 v70.v (([] : List TRoute).map cRoute), Bx p44 89 (cReq lit10), Sv 2 138 v9.v (([[.string (ByteArray.mk ⟨[100, 117, 109, 112]⟩), .func (.func 71) ⟨[]⟩ ⟨[.pointer (some (padd p6 0))]⟩], [.string (ByteArray.mk ⟨[115, 110, 97, 112, 115, 104, 111, 116]⟩), .func (.func 72) ⟨[]⟩ ⟨[.pointer (some (padd p6 0))]⟩], [.string (ByteArray.mk ⟨[107, 101, 114, 110, 101, 108]⟩), .func (.func 73) ⟨[.pointer (some (padd p4 0))]⟩ ⟨[]⟩], [.string (ByteArray.mk ⟨[97, 99, 113, 117, 105, 114, 101]⟩), .func (.func 74) ⟨[.pointer (some (padd p4 0))]⟩ ⟨[]⟩], [.string (ByteArray.mk ⟨[114, 101, 110, 101, 119]⟩), .func (.func 75) ⟨[.pointer (some (padd p4 0))]⟩ ⟨[]⟩], [.string (ByteArray.mk ⟨[119, 97, 116, 99, 104]⟩), .func (.func 76) ⟨[]⟩ ⟨[.pointer (some (padd p6 0))]⟩]] : List (List Value)).map id), Bx p6 63 [.pointer (some (padd p4 0))]]) m mo ?_; clear m w162; intro w166 m
      refine h_ok (i := 0) rfl (by kernel_rfl) (by kernel_rfl) (by kernel_rfl) hs (m.sub (.c r0 (.c r0 (.c r0 (.c r0 (.c r0 (.c r0 (.c r0 (.c r0 (.c r0 (.c r0 (.c r0 .n)))))))))))) (ok_move rfl) rfl ?_
      clear hs a; intro a hs
      refine h_ok (i := 1) rfl (by kernel_rfl) (by kernel_rfl) (by kernel_rfl) hs (m.sub (.c r0 (.c r0 (.c r0 (.c r0 (.c r0 (.c r0 (.c r0 (.c r0 (.c r0 (.c r0 (.c r0 .n)))))))))))) (ok_move rfl) rfl ?_
      clear hs a; intro a hs
      refine h_ok (i := 2) rfl (by kernel_rfl) (by kernel_rfl) (by kernel_rfl) hs (m.sub (.c r0 (.c r0 (.c r0 (.c r0 (.c r0 (.c r0 (.c r0 (.c r0 (.c r0 (.c r0 (.c r0 .n)))))))))))) (ok_fieldAddr (r := 16) rfl fd77_2 ty74 rfl) rfl ?_
      clear hs a; intro a hs
      refine h_ok (i := 3) rfl (by kernel_rfl) (by kernel_rfl) (by kernel_rfl) hs (m.sub (.c r0 (.c r0 (.c r0 (.c r0 (.c r0 (.c r0 (.c r0 (.c r0 (.c r0 (.c r0 (.c r0 .n)))))))))))) (ok_fieldAddr (r := 18) rfl fd74_2 ty22 rfl) rfl ?_
      clear hs a; intro a hs
      refine h_ok (i := 4) rfl (by kernel_rfl) (by kernel_rfl) (by kernel_rfl) hs (m.sub (.c r0 (.c r0 (.c r0 (.c r0 (.c r0 (.c r0 (.c r0 (.c r0 (.c r0 (.c r0 (.c r0 .n)))))))))))) (ok_load_sc rfl ty22 (bx_at r1) rfl) rfl ?_
      clear hs a; intro a hs
      refine h_ok (i := 6) rfl (by kernel_rfl) (by kernel_rfl) (by kernel_rfl) hs (m.sub (.c r0 (.c r0 (.c r0 (.c r0 (.c r0 (.c r0 (.c r0 (.c r0 (.c r0 (.c r0 (.c r0 .n)))))))))))) (ok_fieldAddr (r := 16) rfl fd77_2 ty74 rfl) rfl ?_
      clear hs a; intro a hs
      refine h_ok (i := 7) rfl (by kernel_rfl) (by kernel_rfl) (by kernel_rfl) hs (m.sub (.c r0 (.c r0 (.c r0 (.c r0 (.c r0 (.c r0 (.c r0 (.c r0 (.c r0 (.c r0 (.c r0 .n)))))))))))) (ok_fieldAddr (r := 16) rfl fd74_0 ty2 rfl) rfl ?_
      clear hs a; intro a hs
      refine h_ok (i := 8) rfl (by kernel_rfl) (by kernel_rfl) (by kernel_rfl) hs (m.sub (.c r0 (.c r0 (.c r0 (.c r0 (.c r0 (.c r0 (.c r0 (.c r0 (.c r0 (.c r0 (.c r0 .n)))))))))))) (ok_load_sc rfl ty2 (bx_at r1) rfl) rfl ?_
      clear hs a; intro a hs
      refine h_eff (i := 5) (by kernel_rfl) rfl ?_
      refine r_call hs rfl rfl ca81 rfl (cloneLease_c v138 [lit13] _ (m.rdv r3) (by first | omega | rfl | exact bsI_le _ _ | assumption | decide)) rfl ?_
      clear hs a; rintro _ w168 ⟨v167, rfl, hm⟩ a hs
      replace m : Hp w0 (hh w0) [Sv 12 48 v167.v ([lit13].map cLease), Bx p159 48 (cLease lit13), Bx p146 77 (List.append [.int .i64 0] (List.append (cAnswer lit9) [.int .i64 4, .int .i64 0, v138.v, nilH.v, nilH.v, nilH.v, nilH.v])), Bx p141 77 (List.append [.int .i64 0] (List.append (cAnswer lit9) [.int .i64 4, .int .i64 0, v138.v, nilH.v, nilH.v, nilH.v, nilH.v])), Sv 12 48 v138.v ([lit13].map cLease), Sv 12 48 v136.v ([lit13].map cLease), Sv 7 56 v74.v (([] : List TFdb).map cFdb), Sv 7 54 v72.v (([] : List TNeigh).map cNeigh), Sv 4 51 v70.v (([] : List TRoute).map cRoute), Bx p44 89 (cReq lit10), Sv 2 138 v9.v (([[.string (ByteArray.mk ⟨[100, 117, 109, 112]⟩), .func (.func 71) ⟨[]⟩ ⟨[.pointer (some (padd p6 0))]⟩], [.string (ByteArray.mk ⟨[115, 110, 97, 112, 115, 104, 111, 116]⟩), .func (.func 72) ⟨[]⟩ ⟨[.pointer (some (padd p6 0))]⟩], [.string (ByteArray.mk ⟨[107, 101, 114, 110, 101, 108]⟩), .func (.func 73) ⟨[.pointer (some (padd p4 0))]⟩ ⟨[]⟩], [.string (ByteArray.mk ⟨[97, 99, 113, 117, 105, 114, 101]⟩), .func (.func 74) ⟨[.pointer (some (padd p4 0))]⟩ ⟨[]⟩], [.string (ByteArray.mk ⟨[114, 101, 110, 101, 119]⟩), .func (.func 75) ⟨[.pointer (some (padd p4 0))]⟩ ⟨[]⟩], [.string (ByteArray.mk ⟨[119, 97, 116, 99, 104]⟩), .func (.func 76) ⟨[]⟩ ⟨[.pointer (some (padd p6 0))]⟩]] : List (List Value)).map id), Bx p6 63 [.pointer (some (padd p4 0))], Bx p4 135 (List.append (cSelf lit1) (List.append [v9.v] (List.append (cReq lit10) (List.append [.bool true, v70.v, v72.v, v74.v, nilH.v, .int .i64 0, .bool true, nilH.v, .bool false, .int .i64 0, .bool false] (List.append (cPrefix lit2) [.bool false, .bool false])))))] w168 := m.after hm
      clear hm w166
      refine wpList_nil (n_then ⟨(m.sub (.c r1 (.c r1 (.c r1 (.c r1 (.c r1 (.c r1 (.c r1 (.c r1 (.c r1 (.c r1 (.c r1 .n)))))))))))), ?_⟩)
      refine h_ok (i := 9) rfl (by kernel_rfl) (by kernel_rfl) (by kernel_rfl) hs (m.sub (.c r1 (.c r1 (.c r1 (.c r1 (.c r1 (.c r1 (.c r1 (.c r1 (.c r1 (.c r1 (.c r1 .n)))))))))))) (ok_nilCheck rfl) rfl ?_
      clear hs a; intro a hs
      refine h_ok (i := 10) rfl (by kernel_rfl) (by kernel_rfl) (by kernel_rfl) hs (m.sub (.c r1 (.c r1 (.c r1 (.c r1 (.c r1 (.c r1 (.c r1 (.c r1 (.c r1 (.c r1 (.c r1 .n)))))))))))) (ok_fieldAddr (r := 48) rfl fd135_5 ty22 rfl) rfl ?_
      clear hs a; intro a hs
      refine h_eff (i := 11) (by kernel_rfl) rfl ?_
      refine r_store (cs' := List.append (cSelf lit1) (List.append [v9.v] (List.append (cReq lit10) (List.append [.bool true, v70.v, v72.v, v74.v, v167.v, .int .i64 0, .bool true, nilH.v, .bool false, .int .i64 0, .bool false] (List.append (cPrefix lit2) [.bool false, .bool false]))))) (vs := [v167.v]) hs m rfl rfl ty22 s12 (by kernel_rfl) (by kernel_rfl) (by kernel_rfl) (by kernel_rfl) (by kernel_rfl) ?_
      clear m w168; intro w169 m
      refine wpList_nil (n_then ⟨(m.sub (.c r1 (.c r1 (.c r1 (.c r1 (.c r1 (.c r1 (.c r1 (.c r1 (.c r1 (.c r1 (.c r1 .n)))))))))))), ?_⟩)
      refine h_ok (i := 12) rfl (by kernel_rfl) (by kernel_rfl) (by kernel_rfl) hs (m.sub (.c r1 (.c r1 (.c r1 (.c r1 (.c r1 (.c r1 (.c r1 (.c r1 (.c r1 (.c r1 (.c r1 .n)))))))))))) (ok_nilCheck rfl) rfl ?_
      clear hs a; intro a hs
      refine h_ok (i := 13) rfl (by kernel_rfl) (by kernel_rfl) (by kernel_rfl) hs (m.sub (.c r1 (.c r1 (.c r1 (.c r1 (.c r1 (.c r1 (.c r1 (.c r1 (.c r1 (.c r1 (.c r1 .n)))))))))))) (ok_fieldAddr (r := 49) rfl fd135_6 ty2 rfl) rfl ?_
      clear hs a; intro a hs
      refine h_eff (i := 14) (by kernel_rfl) rfl ?_
      refine r_store (cs' := List.append (cSelf lit1) (List.append [v9.v] (List.append (cReq lit10) (List.append [.bool true, v70.v, v72.v, v74.v, v167.v, .int .i64 4, .bool true, nilH.v, .bool false, .int .i64 0, .bool false] (List.append (cPrefix lit2) [.bool false, .bool false]))))) (vs := [.int .i64 4]) hs m rfl rfl ty2 s12 (by kernel_rfl) (by kernel_rfl) (by kernel_rfl) (by kernel_rfl) (by kernel_rfl) ?_
      clear m w169; intro w170 m
      refine wpList_nil (n_then ⟨(m.sub (.c r1 (.c r1 (.c r1 (.c r1 (.c r1 (.c r1 (.c r1 (.c r1 (.c r1 (.c r1 (.c r1 .n)))))))))))), ?_⟩)
      refine h_done (by kernel_rfl) (n_then ?_)
      refine c_reg ?_
      refine r_ok hs m (ok_move rfl) rfl ?_
      clear hs a; intro a hs
      refine r_ok hs m (ok_move rfl) rfl ?_
      clear hs a; intro a hs
      refine r_ok hs m (ok_move rfl) rfl ?_
      clear hs a; intro a hs
      refine r_ok hs m (ok_move rfl) rfl ?_
      clear hs a; intro a hs
      refine r_ok hs m (ok_nilCheck rfl) rfl ?_
      clear hs a; intro a hs
      refine r_ok hs m (ok_fieldAddr (r := 50) rfl fd135_7 ty4 rfl) rfl ?_
      clear hs a; intro a hs
      refine r_store (cs' := List.append (cSelf lit1) (List.append [v9.v] (List.append (cReq lit10) (List.append [.bool true, v70.v, v72.v, v74.v, v167.v, .int .i64 4, .bool false, nilH.v, .bool false, .int .i64 0, .bool false] (List.append (cPrefix lit2) [.bool false, .bool false]))))) (vs := [.bool false]) hs m rfl rfl ty4 s12 (by kernel_rfl) (by kernel_rfl) (by kernel_rfl) (by kernel_rfl) (by kernel_rfl) ?_
      clear m w170; intro w171 m
      refine r_ok hs m (ok_nilCheck rfl) rfl ?_
      clear hs a; intro a hs
      refine r_ok hs m (ok_fieldAddr (r := 54) rfl fd135_11 ty4 rfl) rfl ?_
      clear hs a; intro a hs
      refine r_store (cs' := List.append (cSelf lit1) (List.append [v9.v] (List.append (cReq lit10) (List.append [.bool true, v70.v, v72.v, v74.v, v167.v, .int .i64 4, .bool false, nilH.v, .bool false, .int .i64 0, .bool false] (List.append (cPrefix lit2) [.bool false, .bool false]))))) (vs := [.bool false]) hs m rfl rfl ty4 s12 (by kernel_rfl) (by kernel_rfl) (by kernel_rfl) (by kernel_rfl) (by kernel_rfl) ?_
      clear m w171; intro w172 m
      refine r_ok hs m (ok_nilCheck rfl) rfl ?_
      clear hs a; intro a hs
      refine r_ok hs m (ok_fieldAddr (r := 51) rfl fd135_8 ty82 rfl) rfl ?_
      clear hs a; intro a hs
      refine r_store (cs' := List.append (cSelf lit1) (List.append [v9.v] (List.append (cReq lit10) (List.append [.bool true, v70.v, v72.v, v74.v, v167.v, .int .i64 4, .bool false, nilH.v, .bool false, .int .i64 0, .bool false] (List.append (cPrefix lit2) [.bool false, .bool false]))))) (vs := [nilH.v]) hs m rfl rfl ty82 s12 (by kernel_rfl) (by kernel_rfl) (by kernel_rfl) (by kernel_rfl) (by kernel_rfl) ?_
      clear m w172; intro w173 m
      refine r_ok hs m (ok_nilCheck rfl) rfl ?_
      clear hs a; intro a hs
      refine r_ok hs m (ok_fieldAddr (r := 53) rfl fd135_10 ty2 rfl) rfl ?_
      clear hs a; intro a hs
      refine r_store (cs' := List.append (cSelf lit1) (List.append [v9.v] (List.append (cReq lit10) (List.append [.bool true, v70.v, v72.v, v74.v, v167.v, .int .i64 4, .bool false, nilH.v, .bool false, .int .i64 0, .bool false] (List.append (cPrefix lit2) [.bool false, .bool false]))))) (vs := [.int .i64 0]) hs m rfl rfl ty2 s12 (by kernel_rfl) (by kernel_rfl) (by kernel_rfl) (by kernel_rfl) (by kernel_rfl) ?_
      clear m w173; intro w174 m
      refine wpList_nil (n_then ?_)
      refine c_seq ?_
      refine c_reg ?_
      refine r_ok hs m (ok_move rfl) rfl ?_
      clear hs a; intro a hs
      refine r_call (us := [.pointer (some (padd p4 0))]) (Rc := fun v w' => v = (.int .i64 (-1)) ∧ Hp w0 (hh w0) [Sv 12 48 v167.v ([lit13].map cLease), Bx p159 48 (cLease lit13), Bx p146 77 (List.append [.int .i64 0] (List.append (cAnswer lit9) [.int .i64 4, .int .i64 0, v138.v, nilH.v, nilH.v, nilH.v, nilH.v])), Bx p141 77 (List.append [.int .i64 0] (List.append (cAnswer lit9) [.int .i64 4, .int .i64 0, v138.v, nilH.v, nilH.v, nilH.v, nilH.v])), Sv 12 48 v138.v ([lit13].map cLease), Sv 12 48 v136.v ([lit13].map cLease), Sv 7 56 v74.v (([] : List TFdb).map cFdb), Sv 7 54 v72.v (([] : List TNeigh).map cNeigh), Sv 4 51 v70.v (([] : List TRoute).map cRoute), Bx p44 89 (cReq lit10), Sv 2 138 v9.v (([[.string (ByteArray.mk ⟨[100, 117, 109, 112]⟩), .func (.func 71) ⟨[]⟩ ⟨[.pointer (some (padd p6 0))]⟩], [.string (ByteArray.mk ⟨[115, 110, 97, 112, 115, 104, 111, 116]⟩), .func (.func 72) ⟨[]⟩ ⟨[.pointer (some (padd p6 0))]⟩], [.string (ByteArray.mk ⟨[107, 101, 114, 110, 101, 108]⟩), .func (.func 73) ⟨[.pointer (some (padd p4 0))]⟩ ⟨[]⟩], [.string (ByteArray.mk ⟨[97, 99, 113, 117, 105, 114, 101]⟩), .func (.func 74) ⟨[.pointer (some (padd p4 0))]⟩ ⟨[]⟩], [.string (ByteArray.mk ⟨[114, 101, 110, 101, 119]⟩), .func (.func 75) ⟨[.pointer (some (padd p4 0))]⟩ ⟨[]⟩], [.string (ByteArray.mk ⟨[119, 97, 116, 99, 104]⟩), .func (.func 76) ⟨[]⟩ ⟨[.pointer (some (padd p6 0))]⟩]] : List (List Value)).map id), Bx p6 63 [.pointer (some (padd p4 0))], Bx p4 135 (List.append (cSelf lit1) (List.append [v9.v] (List.append (cReq lit10) (List.append [.bool true, v70.v, v72.v, v74.v, v167.v, .int .i64 4, .bool false, nilH.v, .bool false, .int .i64 0, .bool false] (List.append (cPrefix lit2) [.bool false, .bool false])))))] w') hs rfl rfl ca84 rfl (enter (n := 9) Tryz.func84 rfl rfl rfl fun a (hs : St 9 [(0, .pointer (some (padd p4 0)))] a) => ?_) rfl ?_
      · refine c_reg ?_
        refine r_box (cs := [.pointer (some (padd p4 0))]) hs m rfl (by kernel_rfl) rfl ?_
        clear m hs a w174; intro p175 w176 m a hs
        refine r_ok hs m (ok_assign rfl) rfl ?_
        clear hs a; intro a hs
        refine wpList_nil (n_then ?_)
        refine c_reg ?_
        refine r_ok hs m (ok_load_sc rfl ty63 (bx_at r0) rfl) rfl ?_
        clear hs a; intro a hs
        refine r_ok hs m (ok_nilCheck rfl) rfl ?_
        clear hs a; intro a hs
        refine r_ok hs m (ok_fieldAddr (r := 48) rfl fd135_5 ty22 rfl) rfl ?_
        clear hs a; intro a hs
        refine r_ok hs m (ok_load_sc rfl ty22 (bx_at r13) rfl) rfl ?_
        clear hs a; intro a hs
        refine r_ok hs m (ok_makeFunc (us := []) (vs := [.pointer (some (padd p175 0))]) rfl rfl) rfl ?_
        clear hs a; intro a hs
        refine r_call (us := [v167.v, .func (.func 130) ⟨[]⟩ ⟨[.pointer (some (padd p175 0))]⟩]) (Rc := fun v w' => v = (.int .i64 (-1)) ∧ Hp w0 (hh w0) [Bx p175 63 [.pointer (some (padd p4 0))], Sv 12 48 v167.v ([lit13].map cLease), Bx p159 48 (cLease lit13), Bx p146 77 (List.append [.int .i64 0] (List.append (cAnswer lit9) [.int .i64 4, .int .i64 0, v138.v, nilH.v, nilH.v, nilH.v, nilH.v])), Bx p141 77 (List.append [.int .i64 0] (List.append (cAnswer lit9) [.int .i64 4, .int .i64 0, v138.v, nilH.v, nilH.v, nilH.v, nilH.v])), Sv 12 48 v138.v ([lit13].map cLease), Sv 12 48 v136.v ([lit13].map cLease), Sv 7 56 v74.v (([] : List TFdb).map cFdb), Sv 7 54 v72.v (([] : List TNeigh).map cNeigh), Sv 4 51 v70.v (([] : List TRoute).map cRoute), Bx p44 89 (cReq lit10), Sv 2 138 v9.v (([[.string (ByteArray.mk ⟨[100, 117, 109, 112]⟩), .func (.func 71) ⟨[]⟩ ⟨[.pointer (some (padd p6 0))]⟩], [.string (ByteArray.mk ⟨[115, 110, 97, 112, 115, 104, 111, 116]⟩), .func (.func 72) ⟨[]⟩ ⟨[.pointer (some (padd p6 0))]⟩], [.string (ByteArray.mk ⟨[107, 101, 114, 110, 101, 108]⟩), .func (.func 73) ⟨[.pointer (some (padd p4 0))]⟩ ⟨[]⟩], [.string (ByteArray.mk ⟨[97, 99, 113, 117, 105, 114, 101]⟩), .func (.func 74) ⟨[.pointer (some (padd p4 0))]⟩ ⟨[]⟩], [.string (ByteArray.mk ⟨[114, 101, 110, 101, 119]⟩), .func (.func 75) ⟨[.pointer (some (padd p4 0))]⟩ ⟨[]⟩], [.string (ByteArray.mk ⟨[119, 97, 116, 99, 104]⟩), .func (.func 76) ⟨[]⟩ ⟨[.pointer (some (padd p6 0))]⟩]] : List (List Value)).map id), Bx p6 63 [.pointer (some (padd p4 0))], Bx p4 135 (List.append (cSelf lit1) (List.append [v9.v] (List.append (cReq lit10) (List.append [.bool true, v70.v, v72.v, v74.v, v167.v, .int .i64 4, .bool false, nilH.v, .bool false, .int .i64 0, .bool false] (List.append (cPrefix lit2) [.bool false, .bool false])))))] w') hs rfl rfl ca129 rfl (enter (n := 19) Tryz.func129 rfl rfl rfl fun a (hs : St 19 [(0, v167.v), (1, .func (.func 130) ⟨[]⟩ ⟨[.pointer (some (padd p175 0))]⟩)] a) => ?_) rfl ?_
        · refine c_reg ?_
          refine r_ok hs m (ok_assign rfl) rfl ?_
          clear hs a; intro a hs
          refine wpList_nil (n_then ?_)
          refine c_seq ?_
          refine c_reg ?_
          refine r_ok hs m (ok_move rfl) rfl ?_
          clear hs a; intro a hs
          refine r_ok hs m (ok_len (r := 1) m rfl sl22 (rc_own r1) rfl) rfl ?_
          clear hs a; intro a hs
          refine r_ok hs m (ok_move rfl) rfl ?_
          clear hs a; intro a hs
          refine wpList_nil (n_then ?_)
          refine wp_block ?_
          refine wp_loop_rounds 13 ?_
          refine rounds_s ?_
          refine c_reg ?_
          refine r_ok hs m (ok_bin (v := .bool true) rfl rfl rfl) rfl ?_
          clear hs a; intro a hs
          refine wpList_nil (n_then ?_)
          refine c_seq ?_
          refine c_true hs rfl rfl ?_
          refine wp_skip ?_
          refine n_then ?_
          refine c_seq ?_
          refine wp_block ?_
          refine c_reg ?_
          refine r_ok hs m (ok_move rfl) rfl ?_
          clear hs a; intro a hs
          refine r_ok hs m (ok_assign rfl) rfl ?_
          clear hs a; intro a hs
          refine wpList_nil (n_then ?_)
          refine c_reg ?_
          refine r_ok hs m (ok_move rfl) rfl ?_
          clear hs a; intro a hs
          refine r_ok hs m (ok_move rfl) rfl ?_
          clear hs a; intro a hs
          refine r_ok hs m (ok_move rfl) rfl ?_
          clear hs a; intro a hs
          refine elO (c := cLease) (e := lit13) hs m (x := (.tmp 12)) (ix := (.tmp 13)) rfl rfl sl22 ty48 r1 (by omega) rfl fun p178 hp179 ok180 => ?_
          refine r_ok hs m (ok180 _ _ _ _ _) rfl ?_
          clear hs a; intro a hs
          refine r_ok hs m (ok_load_ag (vs := cLease lit13) rfl ty48 (el_at hp179 r1 (get_map _ (rfl : ([lit13])[0]? = some lit13))) (by kernel_rfl) (by kernel_rfl)) rfl ?_
          clear hs a; intro a hs
          refine r_call (us := [.agg ⟨cLease lit13⟩, .pointer (some (padd p175 0))]) (Rc := fun v w' => v = (.bool false) ∧ Hp w0 (hh w0) [Bx p175 63 [.pointer (some (padd p4 0))], Sv 12 48 v167.v ([lit13].map cLease), Bx p159 48 (cLease lit13), Bx p146 77 (List.append [.int .i64 0] (List.append (cAnswer lit9) [.int .i64 4, .int .i64 0, v138.v, nilH.v, nilH.v, nilH.v, nilH.v])), Bx p141 77 (List.append [.int .i64 0] (List.append (cAnswer lit9) [.int .i64 4, .int .i64 0, v138.v, nilH.v, nilH.v, nilH.v, nilH.v])), Sv 12 48 v138.v ([lit13].map cLease), Sv 12 48 v136.v ([lit13].map cLease), Sv 7 56 v74.v (([] : List TFdb).map cFdb), Sv 7 54 v72.v (([] : List TNeigh).map cNeigh), Sv 4 51 v70.v (([] : List TRoute).map cRoute), Bx p44 89 (cReq lit10), Sv 2 138 v9.v (([[.string (ByteArray.mk ⟨[100, 117, 109, 112]⟩), .func (.func 71) ⟨[]⟩ ⟨[.pointer (some (padd p6 0))]⟩], [.string (ByteArray.mk ⟨[115, 110, 97, 112, 115, 104, 111, 116]⟩), .func (.func 72) ⟨[]⟩ ⟨[.pointer (some (padd p6 0))]⟩], [.string (ByteArray.mk ⟨[107, 101, 114, 110, 101, 108]⟩), .func (.func 73) ⟨[.pointer (some (padd p4 0))]⟩ ⟨[]⟩], [.string (ByteArray.mk ⟨[97, 99, 113, 117, 105, 114, 101]⟩), .func (.func 74) ⟨[.pointer (some (padd p4 0))]⟩ ⟨[]⟩], [.string (ByteArray.mk ⟨[114, 101, 110, 101, 119]⟩), .func (.func 75) ⟨[.pointer (some (padd p4 0))]⟩ ⟨[]⟩], [.string (ByteArray.mk ⟨[119, 97, 116, 99, 104]⟩), .func (.func 76) ⟨[]⟩ ⟨[.pointer (some (padd p6 0))]⟩]] : List (List Value)).map id), Bx p6 63 [.pointer (some (padd p4 0))], Bx p4 135 (List.append (cSelf lit1) (List.append [v9.v] (List.append (cReq lit10) (List.append [.bool true, v70.v, v72.v, v74.v, v167.v, .int .i64 4, .bool false, nilH.v, .bool false, .int .i64 0, .bool false] (List.append (cPrefix lit2) [.bool false, .bool false])))))] w') hs rfl rfl ca130 rfl (enter (n := 12) Tryz.func130 rfl rfl rfl fun a (hs : St 12 [(0, .agg ⟨cLease lit13⟩), (1, .pointer (some (padd p175 0)))] a) => ?_) rfl ?_
          · refine c_reg ?_
            refine r_box (cs := cLease lit13) hs m rfl (by kernel_rfl) rfl ?_
            clear m hs a w176; intro p181 w182 m a hs
            refine r_ok hs m (ok_assign rfl) rfl ?_
            clear hs a; intro a hs
            refine wpList_nil (n_then ?_)
            refine c_draw m mo (by kernel_rfl) ?_
            refine q_ok hs (ok_fieldAddr (r := 0) rfl fd48_0 ty3 rfl) rfl ?_
            clear hs a; intro a hs
            refine q_ok hs (ok_load_sc rfl ty3 (bx_at r0) rfl) rfl ?_
            clear hs a; intro a hs
            refine q_ok hs (ok_load_sc rfl ty63 (bx_at r1) rfl) rfl ?_
            clear hs a; intro a hs
            refine q_ok hs (ok_nilCheck rfl) rfl ?_
            clear hs a; intro a hs
            refine q_ok hs (ok_fieldAddr (r := 0) rfl fd135_0 ty61 rfl) rfl ?_
            clear hs a; intro a hs
            refine q_ok hs (ok_fieldAddr (r := 0) rfl fd61_0 ty3 rfl) rfl ?_
            clear hs a; intro a hs
            refine q_ok hs (ok_load_sc rfl ty3 (bx_at r14) rfl) rfl ?_
            clear hs a; intro a hs
            refine q_ok hs (ok_bin (v := .bool false) rfl rfl rfl) rfl ?_
            clear hs a; intro a hs
            refine q_ok hs (ok_assign rfl) rfl ?_
            clear hs a; intro a hs
            refine wpQuiet_nil ?_; clear m w182; intro w183 m
            refine wp_ret ?_
            refine leave hs (vs := [.bool false]) rfl ⟨rfl, trivial⟩ ?_
            exact ⟨_, rfl, rfl, m.sub (.c r1 (.c r1 (.c r1 (.c r1 (.c r1 (.c r1 (.c r1 (.c r1 (.c r1 (.c r1 (.c r1 (.c r1 (.c r1 (.c r1 .n))))))))))))))⟩
          clear hs a m w176; rintro _ w184 ⟨rfl, m⟩ a hs
          refine wpList_nil (n_then ?_)
          refine c_false hs rfl rfl ?_
          refine wp_skip ?_
          refine n_block (n_then ?_)
          refine c_last ?_
          refine r_ok hs m (ok_add (r := 1) rfl rfl rfl) rfl ?_
          clear hs a; intro a hs
          refine r_ok hs m (ok_move rfl) rfl ?_
          clear hs a; intro a hs
          refine wpList_nil (n_then ?_)
          refine rounds_s ?_
          refine c_reg ?_
          refine r_ok hs m (ok_bin (v := .bool false) rfl rfl rfl) rfl ?_
          clear hs a; intro a hs
          refine wpList_nil (n_then ?_)
          refine c_seq ?_
          refine c_false hs rfl rfl ?_
          refine wp_exit ?_
          refine ex_then (ex_then (ex_hit (?_)))
          refine n_then ?_
          refine c_reg ?_
          refine r_ok hs m (ok_assign rfl) rfl ?_
          clear hs a; intro a hs
          refine wpList_nil (n_then ?_)
          refine wp_ret ?_
          refine leave hs (vs := [.int .i64 (-1)]) rfl ⟨rfl, trivial⟩ ?_
          exact ⟨_, rfl, rfl, m.sub (.c r0 (.c r0 (.c r0 (.c r0 (.c r0 (.c r0 (.c r0 (.c r0 (.c r0 (.c r0 (.c r0 (.c r0 (.c r0 (.c r0 .n))))))))))))))⟩
        clear hs a m w176; rintro _ w187 ⟨rfl, m⟩ a hs
        refine r_ok hs m (ok_assign rfl) rfl ?_
        clear hs a; intro a hs
        refine wpList_nil (n_then ?_)
        refine wp_ret ?_
        refine leave hs (vs := [.int .i64 (-1)]) rfl ⟨rfl, trivial⟩ ?_
        exact ⟨_, rfl, rfl, m.sub (.c r1 (.c r1 (.c r1 (.c r1 (.c r1 (.c r1 (.c r1 (.c r1 (.c r1 (.c r1 (.c r1 (.c r1 (.c r1 .n)))))))))))))⟩
      clear hs a m w174; rintro _ w188 ⟨rfl, m⟩ a hs
      refine r_ok hs m (ok_assign rfl) rfl ?_
      clear hs a; intro a hs
      refine wpList_nil (n_then ?_)
      refine c_reg ?_
      refine r_ok hs m (ok_move rfl) rfl ?_
      clear hs a; intro a hs
      refine r_ok hs m (ok_bin (v := .bool false) rfl rfl rfl) rfl ?_
      clear hs a; intro a hs
      refine wpList_nil (n_then ?_)
      refine c_false hs rfl rfl ?_
      refine wp_skip ?_
      refine n_then ?_
      refine c_reg ?_
      refine r_ok hs m (ok_assign rfl) rfl ?_
      clear hs a; intro a hs
      refine wpList_nil (n_then ?_)
      refine wp_ret ?_
      refine leave hs (vs := [.int .i64 0]) rfl ⟨rfl, trivial⟩ ?_
      exact ⟨_, rfl, v167, rfl, m.sub (.c r0 (.c r2 (.c r2 (.c r2 (.c r2 (.c r2 (.c r2 (.c r2 (.c r2 (.c r2 (.c r2 .n)))))))))))⟩
    clear hs a m w142; rintro _ w190 ⟨v167, rfl, m⟩ a hs
    refine r_ok hs m (ok_assign rfl) rfl ?_
    clear hs a; intro a hs
    refine wpList_nil (n_block (n_then ?_))
    refine c_seq ?_
    refine c_reg ?_
    refine r_ok hs m (ok_move rfl) rfl ?_
    clear hs a; intro a hs
    refine r_ok hs m (ok_bin (v := .bool false) rfl rfl rfl) rfl ?_
    clear hs a; intro a hs
    refine wpList_nil (n_then ?_)
    refine c_false hs rfl rfl ?_
    refine wp_skip ?_
    refine n_then ?_
    refine c_reg ?_
    refine r_ok hs m (ok_move rfl) rfl ?_
    clear hs a; intro a hs
    refine r_ok hs m (ok_move rfl) rfl ?_
    clear hs a; intro a hs
    refine r_ok hs m (ok_nilCheck rfl) rfl ?_
    clear hs a; intro a hs
    refine r_ok hs m (ok_fieldAddr (r := 10) rfl fd135_2 ty89 rfl) rfl ?_
    clear hs a; intro a hs
    refine r_ok hs m (ok_fieldAddr (r := 10) rfl fd89_0 ty3 rfl) rfl ?_
    clear hs a; intro a hs
    refine r_ok hs m (ok_load_sc rfl ty3 (bx_at r10) rfl) rfl ?_
    clear hs a; intro a hs
    refine r_ok hs m (ok_bin (v := .bool false) rfl rfl rfl) rfl ?_
    clear hs a; intro a hs
    refine r_ok hs m (ok_move rfl) rfl ?_
    clear hs a; intro a hs
    refine g_out hs rfl rfl rfl rfl ?_
    clear hs a; intro a hs
    refine g_out hs rfl rfl rfl rfl ?_
    clear hs a; intro a hs
    refine g_out hs rfl rfl rfl rfl ?_
    clear hs a; intro a hs
    refine r_ok hs m (ok_pick (r := .bool false) rfl rfl rfl rfl) rfl ?_
    clear hs a; intro a hs
    refine r_ok hs m (ok_nilCheck rfl) rfl ?_
    clear hs a; intro a hs
    refine r_ok hs m (ok_fieldAddr (r := 57) rfl fd135_13 ty4 rfl) rfl ?_
    clear hs a; intro a hs
    refine r_store (cs' := List.append (cSelf lit1) (List.append [v9.v] (List.append (cReq lit10) (List.append [.bool true, v70.v, v72.v, v74.v, v167.v, .int .i64 4, .bool false, nilH.v, .bool false, .int .i64 0, .bool false] (List.append (cPrefix lit2) [.bool false, .bool false]))))) (vs := [.bool false]) hs m rfl rfl ty4 s10 (by kernel_rfl) (by kernel_rfl) (by kernel_rfl) (by kernel_rfl) (by kernel_rfl) ?_
    clear m w190; intro w192 m
    refine wpList_nil (n_then ?_)
    refine c_reg ?_
    refine r_ok hs m (ok_move rfl) rfl ?_
    clear hs a; intro a hs
    refine r_ok hs m (ok_move rfl) rfl ?_
    clear hs a; intro a hs
    refine r_ok hs m (ok_move rfl) rfl ?_
    clear hs a; intro a hs
    refine r_ok hs m (ok_build (cs := cReq lit6) st89 ze89 rfl (by kernel_rfl)) rfl ?_
    clear hs a; intro a hs
    refine r_ok hs m (ok_nilCheck rfl) rfl ?_
    clear hs a; intro a hs
    refine r_ok hs m (ok_fieldAddr (r := 58) rfl fd135_14 ty4 rfl) rfl ?_
    clear hs a; intro a hs
    refine r_store (cs' := List.append (cSelf lit1) (List.append [v9.v] (List.append (cReq lit10) (List.append [.bool true, v70.v, v72.v, v74.v, v167.v, .int .i64 4, .bool false, nilH.v, .bool false, .int .i64 0, .bool false] (List.append (cPrefix lit2) [.bool false, .bool false]))))) (vs := [.bool false]) hs m rfl rfl ty4 s10 (by kernel_rfl) (by kernel_rfl) (by kernel_rfl) (by kernel_rfl) (by kernel_rfl) ?_
    clear m w192; intro w193 m
    refine r_ok hs m (ok_nilCheck rfl) rfl ?_
    clear hs a; intro a hs
    refine r_ok hs m (ok_fieldAddr (r := 10) rfl fd135_2 ty89 rfl) rfl ?_
    clear hs a; intro a hs
    refine r_store (cs' := List.append (cSelf lit1) (List.append [v9.v] (List.append (cReq lit6) (List.append [.bool true, v70.v, v72.v, v74.v, v167.v, .int .i64 4, .bool false, nilH.v, .bool false, .int .i64 0, .bool false] (List.append (cPrefix lit2) [.bool false, .bool false]))))) (vs := cReq lit6) hs m rfl rfl ty89 s10 (by kernel_rfl) (by kernel_rfl) (by kernel_rfl) (by kernel_rfl) (by kernel_rfl) ?_
    clear m w193; intro w194 m
    refine wpList_nil (n_then ?_)
    refine c_reg ?_
    refine r_ok hs m (ok_assign rfl) rfl ?_
    clear hs a; intro a hs
    refine wpList_nil (n_then ?_)
    refine wp_ret ?_
    refine leave hs (vs := [.int .i64 0]) rfl ⟨rfl, trivial⟩ ?_
    exact ⟨_, rfl, v167, rfl, m.sub (.c r0 (.c r1 (.c r1 (.c r1 (.c r1 (.c r1 (.c r1 (.c r1 (.c r1 (.c r1 .n))))))))))⟩
  clear hs a m w140; rintro _ w195 ⟨v167, rfl, m⟩ a hs
  refine r_okg hs rfl rfl rfl m (ok_bin (v := .bool false) rfl rfl rfl) rfl ?_
  clear hs a; intro a hs
  refine r_ok hs m (ok_pick (r := .bool false) rfl rfl rfl rfl) rfl ?_
  clear hs a; intro a hs
  refine wpList_nil (n_then ?_)
  refine c_false hs rfl rfl ?_
  refine wp_skip ?_
  refine n_then ?_
  refine c_reg ?_
  refine r_ok hs m (ok_move rfl) rfl ?_
  clear hs a; intro a hs
  refine r_call (us := [.pointer (some (padd p4 0)), .int .i64 0]) (Rc := fun v w' => v = (.agg ⟨cReq lit17⟩) ∧ Hp w0 (hh w0) [Sv 12 48 v167.v ([lit13].map cLease), Sv 12 48 v138.v ([lit13].map cLease), Sv 12 48 v136.v ([lit13].map cLease), Sv 7 56 v74.v (([] : List TFdb).map cFdb), Sv 7 54 v72.v (([] : List TNeigh).map cNeigh), Sv 4 51 v70.v (([] : List TRoute).map cRoute), Bx p44 89 (cReq lit10), Sv 2 138 v9.v (([[.string (ByteArray.mk ⟨[100, 117, 109, 112]⟩), .func (.func 71) ⟨[]⟩ ⟨[.pointer (some (padd p6 0))]⟩], [.string (ByteArray.mk ⟨[115, 110, 97, 112, 115, 104, 111, 116]⟩), .func (.func 72) ⟨[]⟩ ⟨[.pointer (some (padd p6 0))]⟩], [.string (ByteArray.mk ⟨[107, 101, 114, 110, 101, 108]⟩), .func (.func 73) ⟨[.pointer (some (padd p4 0))]⟩ ⟨[]⟩], [.string (ByteArray.mk ⟨[97, 99, 113, 117, 105, 114, 101]⟩), .func (.func 74) ⟨[.pointer (some (padd p4 0))]⟩ ⟨[]⟩], [.string (ByteArray.mk ⟨[114, 101, 110, 101, 119]⟩), .func (.func 75) ⟨[.pointer (some (padd p4 0))]⟩ ⟨[]⟩], [.string (ByteArray.mk ⟨[119, 97, 116, 99, 104]⟩), .func (.func 76) ⟨[]⟩ ⟨[.pointer (some (padd p6 0))]⟩]] : List (List Value)).map id), Bx p6 63 [.pointer (some (padd p4 0))], Bx p4 135 (List.append (cSelf lit1) (List.append [v9.v] (List.append (cReq lit17) (List.append [.bool true, v70.v, v72.v, v74.v, v167.v, .int .i64 4, .bool false, nilH.v, .bool false, .int .i64 0, .bool false] (List.append (cPrefix lit2) [.bool false, .bool false])))))] w') hs rfl rfl ca31 rfl (enter (n := 41) Tryz.func31 rfl rfl rfl fun a (hs : St 41 [(0, .pointer (some (padd p4 0))), (1, .int .i64 0)] a) => ?_) rfl ?_
  · refine c_reg ?_
    refine r_alloc hs m ze89 rfl ?_
    clear m hs a w195; intro p197 w198 m a hs
    refine wpList_nil (n_then ?_)
    refine c_seq ?_
    refine c_reg ?_
    refine r_ok hs m (ok_move rfl) rfl ?_
    clear hs a; intro a hs
    refine r_ok hs m (ok_nilCheck rfl) rfl ?_
    clear hs a; intro a hs
    refine r_ok hs m (ok_fieldAddr (r := 9) rfl fd135_1 ty133 rfl) rfl ?_
    clear hs a; intro a hs
    refine r_ok hs m (ok_load_sc rfl ty133 (bx_at r10) rfl) rfl ?_
    clear hs a; intro a hs
    refine r_ok hs m (ok_len (r := 6) m rfl sl133 (rc_own r8) rfl) rfl ?_
    clear hs a; intro a hs
    refine r_ok hs m (ok_move rfl) rfl ?_
    clear hs a; intro a hs
    refine wpList_nil (n_then ?_)
    refine wp_block ?_
    refine wp_loop_rounds 13 ?_
    refine rounds_s ?_
    refine c_reg ?_
    refine r_ok hs m (ok_bin (v := .bool true) rfl rfl rfl) rfl ?_
    clear hs a; intro a hs
    refine wpList_nil (n_then ?_)
    refine c_seq ?_
    refine c_true hs rfl rfl ?_
    refine wp_skip ?_
    refine n_then ?_
    refine c_seq ?_
    refine wp_block ?_
    refine c_reg ?_
    refine elO (c := id) (e := ([.string (ByteArray.mk ⟨[100, 117, 109, 112]⟩), .func (.func 71) ⟨[]⟩ ⟨[.pointer (some (padd p6 0))]⟩] : List Value)) hs m (x := (.tmp 12)) (ix := (.tmp 14)) rfl rfl sl133 ty138 r8 (by omega) rfl fun p200 hp201 ok202 => ?_
    refine r_ok hs m (ok202 _ _ _ _ _) rfl ?_
    clear hs a; intro a hs
    refine r_ok hs m (ok_load_ag (vs := [.string (ByteArray.mk ⟨[100, 117, 109, 112]⟩), .func (.func 71) ⟨[]⟩ ⟨[.pointer (some (padd p6 0))]⟩]) rfl ty138 (el_at hp201 r8 (get_map _ (rfl : ([[.string (ByteArray.mk ⟨[100, 117, 109, 112]⟩), .func (.func 71) ⟨[]⟩ ⟨[.pointer (some (padd p6 0))]⟩], [.string (ByteArray.mk ⟨[115, 110, 97, 112, 115, 104, 111, 116]⟩), .func (.func 72) ⟨[]⟩ ⟨[.pointer (some (padd p6 0))]⟩], [.string (ByteArray.mk ⟨[107, 101, 114, 110, 101, 108]⟩), .func (.func 73) ⟨[.pointer (some (padd p4 0))]⟩ ⟨[]⟩], [.string (ByteArray.mk ⟨[97, 99, 113, 117, 105, 114, 101]⟩), .func (.func 74) ⟨[.pointer (some (padd p4 0))]⟩ ⟨[]⟩], [.string (ByteArray.mk ⟨[114, 101, 110, 101, 119]⟩), .func (.func 75) ⟨[.pointer (some (padd p4 0))]⟩ ⟨[]⟩], [.string (ByteArray.mk ⟨[119, 97, 116, 99, 104]⟩), .func (.func 76) ⟨[]⟩ ⟨[.pointer (some (padd p6 0))]⟩]])[0]? = some ([.string (ByteArray.mk ⟨[100, 117, 109, 112]⟩), .func (.func 71) ⟨[]⟩ ⟨[.pointer (some (padd p6 0))]⟩] : List Value)))) (by kernel_rfl) (by kernel_rfl)) rfl ?_
    clear hs a; intro a hs
    refine r_alloc hs m ze138 rfl ?_
    clear m hs a w198; intro p203 w204 m a hs
    refine r_store (cs' := [.string (ByteArray.mk ⟨[100, 117, 109, 112]⟩), .func (.func 71) ⟨[]⟩ ⟨[.pointer (some (padd p6 0))]⟩]) (vs := [.string (ByteArray.mk ⟨[100, 117, 109, 112]⟩), .func (.func 71) ⟨[]⟩ ⟨[.pointer (some (padd p6 0))]⟩]) hs m rfl rfl ty138 s0 (by kernel_rfl) (by kernel_rfl) (by kernel_rfl) (by kernel_rfl) (by kernel_rfl) ?_
    clear m w204; intro w205 m
    refine wpList_nil (n_then ?_)
    refine c_seq ?_
    refine c_reg ?_
    refine r_ok hs m (ok_move rfl) rfl ?_
    clear hs a; intro a hs
    refine r_ok hs m (ok_nilCheck rfl) rfl ?_
    clear hs a; intro a hs
    refine r_ok hs m (ok_fieldAddr (r := 10) rfl fd135_2 ty89 rfl) rfl ?_
    clear hs a; intro a hs
    refine r_ok hs m (ok_fieldAddr (r := 10) rfl fd89_0 ty3 rfl) rfl ?_
    clear hs a; intro a hs
    refine r_ok hs m (ok_load_sc rfl ty3 (bx_at r11) rfl) rfl ?_
    clear hs a; intro a hs
    refine r_ok hs m (ok_bin (v := .bool false) rfl rfl rfl) rfl ?_
    clear hs a; intro a hs
    refine wpList_nil (n_then ?_)
    refine c_false hs rfl rfl ?_
    refine wp_skip ?_
    refine n_then ?_
    refine c_reg ?_
    refine r_ok hs m (ok_fieldAddr (r := 1) rfl fd138_1 ty136 rfl) rfl ?_
    clear hs a; intro a hs
    refine r_ok hs m (ok_load_sc rfl ty136 (bx_at r0) rfl) rfl ?_
    clear hs a; intro a hs
    refine r_ok hs m (ok_move rfl) rfl ?_
    clear hs a; intro a hs
    refine r_call (us := [.int .i64 0, .pointer (some (padd p6 0))]) (Rc := fun v w' => v = (.tuple ⟨[.agg ⟨cReq lit7⟩, .bool false]⟩) ∧ Hp w0 (hh w0) [Bx p203 138 [.string (ByteArray.mk ⟨[100, 117, 109, 112]⟩), .func (.func 71) ⟨[]⟩ ⟨[.pointer (some (padd p6 0))]⟩], Bx p197 89 (cReq lit6), Sv 12 48 v167.v ([lit13].map cLease), Sv 12 48 v138.v ([lit13].map cLease), Sv 12 48 v136.v ([lit13].map cLease), Sv 7 56 v74.v (([] : List TFdb).map cFdb), Sv 7 54 v72.v (([] : List TNeigh).map cNeigh), Sv 4 51 v70.v (([] : List TRoute).map cRoute), Bx p44 89 (cReq lit10), Sv 2 138 v9.v (([[.string (ByteArray.mk ⟨[100, 117, 109, 112]⟩), .func (.func 71) ⟨[]⟩ ⟨[.pointer (some (padd p6 0))]⟩], [.string (ByteArray.mk ⟨[115, 110, 97, 112, 115, 104, 111, 116]⟩), .func (.func 72) ⟨[]⟩ ⟨[.pointer (some (padd p6 0))]⟩], [.string (ByteArray.mk ⟨[107, 101, 114, 110, 101, 108]⟩), .func (.func 73) ⟨[.pointer (some (padd p4 0))]⟩ ⟨[]⟩], [.string (ByteArray.mk ⟨[97, 99, 113, 117, 105, 114, 101]⟩), .func (.func 74) ⟨[.pointer (some (padd p4 0))]⟩ ⟨[]⟩], [.string (ByteArray.mk ⟨[114, 101, 110, 101, 119]⟩), .func (.func 75) ⟨[.pointer (some (padd p4 0))]⟩ ⟨[]⟩], [.string (ByteArray.mk ⟨[119, 97, 116, 99, 104]⟩), .func (.func 76) ⟨[]⟩ ⟨[.pointer (some (padd p6 0))]⟩]] : List (List Value)).map id), Bx p6 63 [.pointer (some (padd p4 0))], Bx p4 135 (List.append (cSelf lit1) (List.append [v9.v] (List.append (cReq lit6) (List.append [.bool true, v70.v, v72.v, v74.v, v167.v, .int .i64 4, .bool false, nilH.v, .bool false, .int .i64 0, .bool false] (List.append (cPrefix lit2) [.bool false, .bool false])))))] w') hs rfl rfl ca71 rfl (enter (n := 11) Tryz.func71 rfl rfl rfl fun a (hs : St 11 [(0, .int .i64 0), (1, .pointer (some (padd p6 0)))] a) => ?_) rfl ?_
    · refine c_reg ?_
      refine r_alloc hs m ze89 rfl ?_
      clear m hs a w205; intro p207 w208 m a hs
      refine r_ok hs m (ok_assign rfl) rfl ?_
      clear hs a; intro a hs
      refine wpList_nil (n_then ?_)
      refine c_drawH (Hp w0 (hh w0) [Bx p203 138 [.string (ByteArray.mk ⟨[100, 117, 109, 112]⟩), .func (.func 71) ⟨[]⟩ ⟨[.pointer (some (padd p6 0))]⟩], Bx p197 89 (cReq lit6), Sv 12 48 v167.v ([lit13].map cLease), Sv 12 48 v138.v ([lit13].map cLease), Sv 12 48 v136.v ([lit13].map cLease), Sv 7 56 v74.v (([] : List TFdb).map cFdb), Sv 7 54 v72.v (([] : List TNeigh).map cNeigh), Sv 4 51 v70.v (([] : List TRoute).map cRoute), Bx p44 89 (cReq lit10), Sv 2 138 v9.v (([[.string (ByteArray.mk ⟨[100, 117, 109, 112]⟩), .func (.func 71) ⟨[]⟩ ⟨[.pointer (some (padd p6 0))]⟩], [.string (ByteArray.mk ⟨[115, 110, 97, 112, 115, 104, 111, 116]⟩), .func (.func 72) ⟨[]⟩ ⟨[.pointer (some (padd p6 0))]⟩], [.string (ByteArray.mk ⟨[107, 101, 114, 110, 101, 108]⟩), .func (.func 73) ⟨[.pointer (some (padd p4 0))]⟩ ⟨[]⟩], [.string (ByteArray.mk ⟨[97, 99, 113, 117, 105, 114, 101]⟩), .func (.func 74) ⟨[.pointer (some (padd p4 0))]⟩ ⟨[]⟩], [.string (ByteArray.mk ⟨[114, 101, 110, 101, 119]⟩), .func (.func 75) ⟨[.pointer (some (padd p4 0))]⟩ ⟨[]⟩], [.string (ByteArray.mk ⟨[119, 97, 116, 99, 104]⟩), .func (.func 76) ⟨[]⟩ ⟨[.pointer (some (padd p6 0))]⟩]] : List (List Value)).map id), Bx p6 63 [.pointer (some (padd p4 0))], Bx p4 135 (List.append (cSelf lit1) (List.append [v9.v] (List.append (cReq lit6) (List.append [.bool true, v70.v, v72.v, v74.v, v167.v, .int .i64 4, .bool false, nilH.v, .bool false, .int .i64 0, .bool false] (List.append (cPrefix lit2) [.bool false, .bool false])))))]) m mo ?_; clear m w208; intro w209 m
      refine h_ok (i := 0) rfl (by kernel_rfl) (by kernel_rfl) (by kernel_rfl) hs (m.sub (.c r1 (.c r1 (.c r1 (.c r1 (.c r1 (.c r1 (.c r1 (.c r1 (.c r1 (.c r1 (.c r1 (.c r1 .n))))))))))))) (ok_build (cs := cReq lit7) st89 ze89 rfl (by kernel_rfl)) rfl ?_
      clear hs a; intro a hs
      refine h_ok (i := 1) rfl (by kernel_rfl) (by kernel_rfl) (by kernel_rfl) hs (m.sub (.c r1 (.c r1 (.c r1 (.c r1 (.c r1 (.c r1 (.c r1 (.c r1 (.c r1 (.c r1 (.c r1 (.c r1 .n))))))))))))) (ok_load_sc rfl ty63 (bx_at r10) rfl) rfl ?_
      clear hs a; intro a hs
      refine h_ok (i := 2) rfl (by kernel_rfl) (by kernel_rfl) (by kernel_rfl) hs (m.sub (.c r1 (.c r1 (.c r1 (.c r1 (.c r1 (.c r1 (.c r1 (.c r1 (.c r1 (.c r1 (.c r1 (.c r1 .n))))))))))))) (ok_nilCheck rfl) rfl ?_
      clear hs a; intro a hs
      refine h_ok (i := 3) rfl (by kernel_rfl) (by kernel_rfl) (by kernel_rfl) hs (m.sub (.c r1 (.c r1 (.c r1 (.c r1 (.c r1 (.c r1 (.c r1 (.c r1 (.c r1 (.c r1 (.c r1 (.c r1 .n))))))))))))) (ok_fieldAddr (r := 44) rfl fd135_3 ty4 rfl) rfl ?_
      clear hs a; intro a hs
      refine h_ok (i := 4) rfl (by kernel_rfl) (by kernel_rfl) (by kernel_rfl) hs (m.sub (.c r1 (.c r1 (.c r1 (.c r1 (.c r1 (.c r1 (.c r1 (.c r1 (.c r1 (.c r1 (.c r1 (.c r1 .n))))))))))))) (ok_load_sc rfl ty4 (bx_at r11) rfl) rfl ?_
      clear hs a; intro a hs
      refine h_ok (i := 5) rfl (by kernel_rfl) (by kernel_rfl) (by kernel_rfl) hs (m.sub (.c r1 (.c r1 (.c r1 (.c r1 (.c r1 (.c r1 (.c r1 (.c r1 (.c r1 (.c r1 (.c r1 (.c r1 .n))))))))))))) (ok_not rfl) rfl ?_
      clear hs a; intro a hs
      refine h_eff (i := 6) (by kernel_rfl) rfl ?_
      refine r_store (cs' := cReq lit7) (vs := cReq lit7) hs m rfl rfl ty89 s0 (by kernel_rfl) (by kernel_rfl) (by kernel_rfl) (by kernel_rfl) (by kernel_rfl) ?_
      clear m w209; intro w210 m
      refine wpList_nil (n_then ⟨(m.sub (.c r1 (.c r1 (.c r1 (.c r1 (.c r1 (.c r1 (.c r1 (.c r1 (.c r1 (.c r1 (.c r1 (.c r1 .n))))))))))))), ?_⟩)
      refine h_ok (i := 7) rfl (by kernel_rfl) (by kernel_rfl) (by kernel_rfl) hs (m.sub (.c r1 (.c r1 (.c r1 (.c r1 (.c r1 (.c r1 (.c r1 (.c r1 (.c r1 (.c r1 (.c r1 (.c r1 .n))))))))))))) (ok_assign rfl) rfl ?_
      clear hs a; intro a hs
      refine h_done (by kernel_rfl) (n_then ?_)
      refine wp_ret ?_
      refine leave hs (vs := [.agg ⟨cReq lit7⟩, .bool false]) rfl ⟨resv_cell (cs := cReq lit7) m rfl ty89 r0 rfl, rfl, trivial⟩ ?_
      exact ⟨_, rfl, rfl, m.sub (.c r1 (.c r1 (.c r1 (.c r1 (.c r1 (.c r1 (.c r1 (.c r1 (.c r1 (.c r1 (.c r1 (.c r1 .n))))))))))))⟩
    clear hs a m w205; rintro _ w211 ⟨rfl, m⟩ a hs
    refine r_ok hs m (ok_move rfl) rfl ?_
    clear hs a; intro a hs
    refine r_ok hs m (ok_extract rfl rfl) rfl ?_
    clear hs a; intro a hs
    refine r_ok hs m (ok_extract rfl rfl) rfl ?_
    clear hs a; intro a hs
    refine r_alloc hs m ze89 rfl ?_
    clear m hs a w211; intro p212 w213 m a hs
    refine r_store (cs' := cReq lit7) (vs := cReq lit7) hs m rfl rfl ty89 s0 (by kernel_rfl) (by kernel_rfl) (by kernel_rfl) (by kernel_rfl) (by kernel_rfl) ?_
    clear m w213; intro w214 m
    refine r_ok hs m (ok_assign rfl) rfl ?_
    clear hs a; intro a hs
    refine wpList_nil (n_then ?_)
    refine c_reg ?_
    refine r_ok hs m (ok_move rfl) rfl ?_
    clear hs a; intro a hs
    refine wpList_nil (n_then ?_)
    refine c_false hs rfl rfl ?_
    refine wp_skip ?_
    refine n_block (n_then ?_)
    refine c_last ?_
    refine r_ok hs m (ok_add (r := 1) rfl rfl rfl) rfl ?_
    clear hs a; intro a hs
    refine r_ok hs m (ok_move rfl) rfl ?_
    clear hs a; intro a hs
    refine wpList_nil (n_then ?_)
    refine rounds_s ?_
    refine c_reg ?_
    refine r_ok hs m (ok_bin (v := .bool true) rfl rfl rfl) rfl ?_
    clear hs a; intro a hs
    refine wpList_nil (n_then ?_)
    refine c_seq ?_
    refine c_true hs rfl rfl ?_
    refine wp_skip ?_
    refine n_then ?_
    refine c_seq ?_
    refine wp_block ?_
    refine c_reg ?_
    refine elO (c := id) (e := ([.string (ByteArray.mk ⟨[115, 110, 97, 112, 115, 104, 111, 116]⟩), .func (.func 72) ⟨[]⟩ ⟨[.pointer (some (padd p6 0))]⟩] : List Value)) hs m (x := (.tmp 12)) (ix := (.tmp 14)) rfl rfl sl133 ty138 r10 (by omega) rfl fun p217 hp218 ok219 => ?_
    refine r_ok hs m (ok219 _ _ _ _ _) rfl ?_
    clear hs a; intro a hs
    refine r_ok hs m (ok_load_ag (vs := [.string (ByteArray.mk ⟨[115, 110, 97, 112, 115, 104, 111, 116]⟩), .func (.func 72) ⟨[]⟩ ⟨[.pointer (some (padd p6 0))]⟩]) rfl ty138 (el_at hp218 r10 (get_map _ (rfl : ([[.string (ByteArray.mk ⟨[100, 117, 109, 112]⟩), .func (.func 71) ⟨[]⟩ ⟨[.pointer (some (padd p6 0))]⟩], [.string (ByteArray.mk ⟨[115, 110, 97, 112, 115, 104, 111, 116]⟩), .func (.func 72) ⟨[]⟩ ⟨[.pointer (some (padd p6 0))]⟩], [.string (ByteArray.mk ⟨[107, 101, 114, 110, 101, 108]⟩), .func (.func 73) ⟨[.pointer (some (padd p4 0))]⟩ ⟨[]⟩], [.string (ByteArray.mk ⟨[97, 99, 113, 117, 105, 114, 101]⟩), .func (.func 74) ⟨[.pointer (some (padd p4 0))]⟩ ⟨[]⟩], [.string (ByteArray.mk ⟨[114, 101, 110, 101, 119]⟩), .func (.func 75) ⟨[.pointer (some (padd p4 0))]⟩ ⟨[]⟩], [.string (ByteArray.mk ⟨[119, 97, 116, 99, 104]⟩), .func (.func 76) ⟨[]⟩ ⟨[.pointer (some (padd p6 0))]⟩]])[1]? = some ([.string (ByteArray.mk ⟨[115, 110, 97, 112, 115, 104, 111, 116]⟩), .func (.func 72) ⟨[]⟩ ⟨[.pointer (some (padd p6 0))]⟩] : List Value)))) (by kernel_rfl) (by kernel_rfl)) rfl ?_
    clear hs a; intro a hs
    refine r_alloc hs m ze138 rfl ?_
    clear m hs a w214; intro p220 w221 m a hs
    refine r_store (cs' := [.string (ByteArray.mk ⟨[115, 110, 97, 112, 115, 104, 111, 116]⟩), .func (.func 72) ⟨[]⟩ ⟨[.pointer (some (padd p6 0))]⟩]) (vs := [.string (ByteArray.mk ⟨[115, 110, 97, 112, 115, 104, 111, 116]⟩), .func (.func 72) ⟨[]⟩ ⟨[.pointer (some (padd p6 0))]⟩]) hs m rfl rfl ty138 s0 (by kernel_rfl) (by kernel_rfl) (by kernel_rfl) (by kernel_rfl) (by kernel_rfl) ?_
    clear m w221; intro w222 m
    refine wpList_nil (n_then ?_)
    refine c_seq ?_
    refine c_reg ?_
    refine r_ok hs m (ok_move rfl) rfl ?_
    clear hs a; intro a hs
    refine r_ok hs m (ok_nilCheck rfl) rfl ?_
    clear hs a; intro a hs
    refine r_ok hs m (ok_fieldAddr (r := 10) rfl fd135_2 ty89 rfl) rfl ?_
    clear hs a; intro a hs
    refine r_ok hs m (ok_fieldAddr (r := 10) rfl fd89_0 ty3 rfl) rfl ?_
    clear hs a; intro a hs
    refine r_ok hs m (ok_load_sc rfl ty3 (bx_at r13) rfl) rfl ?_
    clear hs a; intro a hs
    refine r_ok hs m (ok_bin (v := .bool false) rfl rfl rfl) rfl ?_
    clear hs a; intro a hs
    refine wpList_nil (n_then ?_)
    refine c_false hs rfl rfl ?_
    refine wp_skip ?_
    refine n_then ?_
    refine c_reg ?_
    refine r_ok hs m (ok_fieldAddr (r := 1) rfl fd138_1 ty136 rfl) rfl ?_
    clear hs a; intro a hs
    refine r_ok hs m (ok_load_sc rfl ty136 (bx_at r0) rfl) rfl ?_
    clear hs a; intro a hs
    refine r_ok hs m (ok_move rfl) rfl ?_
    clear hs a; intro a hs
    refine r_call (us := [.int .i64 0, .pointer (some (padd p6 0))]) (Rc := fun v w' => v = (.tuple ⟨[.agg ⟨cReq lit10⟩, .bool false]⟩) ∧ Hp w0 (hh w0) [Bx p220 138 [.string (ByteArray.mk ⟨[115, 110, 97, 112, 115, 104, 111, 116]⟩), .func (.func 72) ⟨[]⟩ ⟨[.pointer (some (padd p6 0))]⟩], Bx p212 89 (cReq lit7), Bx p203 138 [.string (ByteArray.mk ⟨[100, 117, 109, 112]⟩), .func (.func 71) ⟨[]⟩ ⟨[.pointer (some (padd p6 0))]⟩], Bx p197 89 (cReq lit6), Sv 12 48 v167.v ([lit13].map cLease), Sv 12 48 v138.v ([lit13].map cLease), Sv 12 48 v136.v ([lit13].map cLease), Sv 7 56 v74.v (([] : List TFdb).map cFdb), Sv 7 54 v72.v (([] : List TNeigh).map cNeigh), Sv 4 51 v70.v (([] : List TRoute).map cRoute), Bx p44 89 (cReq lit10), Sv 2 138 v9.v (([[.string (ByteArray.mk ⟨[100, 117, 109, 112]⟩), .func (.func 71) ⟨[]⟩ ⟨[.pointer (some (padd p6 0))]⟩], [.string (ByteArray.mk ⟨[115, 110, 97, 112, 115, 104, 111, 116]⟩), .func (.func 72) ⟨[]⟩ ⟨[.pointer (some (padd p6 0))]⟩], [.string (ByteArray.mk ⟨[107, 101, 114, 110, 101, 108]⟩), .func (.func 73) ⟨[.pointer (some (padd p4 0))]⟩ ⟨[]⟩], [.string (ByteArray.mk ⟨[97, 99, 113, 117, 105, 114, 101]⟩), .func (.func 74) ⟨[.pointer (some (padd p4 0))]⟩ ⟨[]⟩], [.string (ByteArray.mk ⟨[114, 101, 110, 101, 119]⟩), .func (.func 75) ⟨[.pointer (some (padd p4 0))]⟩ ⟨[]⟩], [.string (ByteArray.mk ⟨[119, 97, 116, 99, 104]⟩), .func (.func 76) ⟨[]⟩ ⟨[.pointer (some (padd p6 0))]⟩]] : List (List Value)).map id), Bx p6 63 [.pointer (some (padd p4 0))], Bx p4 135 (List.append (cSelf lit1) (List.append [v9.v] (List.append (cReq lit6) (List.append [.bool true, v70.v, v72.v, v74.v, v167.v, .int .i64 4, .bool false, nilH.v, .bool false, .int .i64 0, .bool false] (List.append (cPrefix lit2) [.bool false, .bool false])))))] w') hs rfl rfl ca72 rfl (enter (n := 10) Tryz.func72 rfl rfl rfl fun a (hs : St 10 [(0, .int .i64 0), (1, .pointer (some (padd p6 0)))] a) => ?_) rfl ?_
    · refine c_reg ?_
      refine r_alloc hs m ze89 rfl ?_
      clear m hs a w222; intro p224 w225 m a hs
      refine r_ok hs m (ok_assign rfl) rfl ?_
      clear hs a; intro a hs
      refine wpList_nil (n_then ?_)
      refine c_drawH (Hp w0 (hh w0) [Bx p220 138 [.string (ByteArray.mk ⟨[115, 110, 97, 112, 115, 104, 111, 116]⟩), .func (.func 72) ⟨[]⟩ ⟨[.pointer (some (padd p6 0))]⟩], Bx p212 89 (cReq lit7), Bx p203 138 [.string (ByteArray.mk ⟨[100, 117, 109, 112]⟩), .func (.func 71) ⟨[]⟩ ⟨[.pointer (some (padd p6 0))]⟩], Bx p197 89 (cReq lit6), Sv 12 48 v167.v ([lit13].map cLease), Sv 12 48 v138.v ([lit13].map cLease), Sv 12 48 v136.v ([lit13].map cLease), Sv 7 56 v74.v (([] : List TFdb).map cFdb), Sv 7 54 v72.v (([] : List TNeigh).map cNeigh), Sv 4 51 v70.v (([] : List TRoute).map cRoute), Bx p44 89 (cReq lit10), Sv 2 138 v9.v (([[.string (ByteArray.mk ⟨[100, 117, 109, 112]⟩), .func (.func 71) ⟨[]⟩ ⟨[.pointer (some (padd p6 0))]⟩], [.string (ByteArray.mk ⟨[115, 110, 97, 112, 115, 104, 111, 116]⟩), .func (.func 72) ⟨[]⟩ ⟨[.pointer (some (padd p6 0))]⟩], [.string (ByteArray.mk ⟨[107, 101, 114, 110, 101, 108]⟩), .func (.func 73) ⟨[.pointer (some (padd p4 0))]⟩ ⟨[]⟩], [.string (ByteArray.mk ⟨[97, 99, 113, 117, 105, 114, 101]⟩), .func (.func 74) ⟨[.pointer (some (padd p4 0))]⟩ ⟨[]⟩], [.string (ByteArray.mk ⟨[114, 101, 110, 101, 119]⟩), .func (.func 75) ⟨[.pointer (some (padd p4 0))]⟩ ⟨[]⟩], [.string (ByteArray.mk ⟨[119, 97, 116, 99, 104]⟩), .func (.func 76) ⟨[]⟩ ⟨[.pointer (some (padd p6 0))]⟩]] : List (List Value)).map id), Bx p6 63 [.pointer (some (padd p4 0))], Bx p4 135 (List.append (cSelf lit1) (List.append [v9.v] (List.append (cReq lit6) (List.append [.bool true, v70.v, v72.v, v74.v, v167.v, .int .i64 4, .bool false, nilH.v, .bool false, .int .i64 0, .bool false] (List.append (cPrefix lit2) [.bool false, .bool false])))))]) m mo ?_; clear m w225; intro w226 m
      refine h_ok (i := 0) rfl (by kernel_rfl) (by kernel_rfl) (by kernel_rfl) hs (m.sub (.c r1 (.c r1 (.c r1 (.c r1 (.c r1 (.c r1 (.c r1 (.c r1 (.c r1 (.c r1 (.c r1 (.c r1 (.c r1 (.c r1 .n))))))))))))))) (ok_build (cs := cReq lit10) st89 ze89 rfl (by kernel_rfl)) rfl ?_
      clear hs a; intro a hs
      refine h_ok (i := 1) rfl (by kernel_rfl) (by kernel_rfl) (by kernel_rfl) hs (m.sub (.c r1 (.c r1 (.c r1 (.c r1 (.c r1 (.c r1 (.c r1 (.c r1 (.c r1 (.c r1 (.c r1 (.c r1 (.c r1 (.c r1 .n))))))))))))))) (ok_load_sc rfl ty63 (bx_at r12) rfl) rfl ?_
      clear hs a; intro a hs
      refine h_ok (i := 2) rfl (by kernel_rfl) (by kernel_rfl) (by kernel_rfl) hs (m.sub (.c r1 (.c r1 (.c r1 (.c r1 (.c r1 (.c r1 (.c r1 (.c r1 (.c r1 (.c r1 (.c r1 (.c r1 (.c r1 (.c r1 .n))))))))))))))) (ok_nilCheck rfl) rfl ?_
      clear hs a; intro a hs
      refine h_ok (i := 3) rfl (by kernel_rfl) (by kernel_rfl) (by kernel_rfl) hs (m.sub (.c r1 (.c r1 (.c r1 (.c r1 (.c r1 (.c r1 (.c r1 (.c r1 (.c r1 (.c r1 (.c r1 (.c r1 (.c r1 (.c r1 .n))))))))))))))) (ok_fieldAddr (r := 50) rfl fd135_7 ty4 rfl) rfl ?_
      clear hs a; intro a hs
      refine h_ok (i := 4) rfl (by kernel_rfl) (by kernel_rfl) (by kernel_rfl) hs (m.sub (.c r1 (.c r1 (.c r1 (.c r1 (.c r1 (.c r1 (.c r1 (.c r1 (.c r1 (.c r1 (.c r1 (.c r1 (.c r1 (.c r1 .n))))))))))))))) (ok_load_sc rfl ty4 (bx_at r13) rfl) rfl ?_
      clear hs a; intro a hs
      refine h_eff (i := 5) (by kernel_rfl) rfl ?_
      refine r_store (cs' := cReq lit10) (vs := cReq lit10) hs m rfl rfl ty89 s0 (by kernel_rfl) (by kernel_rfl) (by kernel_rfl) (by kernel_rfl) (by kernel_rfl) ?_
      clear m w226; intro w227 m
      refine wpList_nil (n_then ⟨(m.sub (.c r1 (.c r1 (.c r1 (.c r1 (.c r1 (.c r1 (.c r1 (.c r1 (.c r1 (.c r1 (.c r1 (.c r1 (.c r1 (.c r1 .n))))))))))))))), ?_⟩)
      refine h_ok (i := 6) rfl (by kernel_rfl) (by kernel_rfl) (by kernel_rfl) hs (m.sub (.c r1 (.c r1 (.c r1 (.c r1 (.c r1 (.c r1 (.c r1 (.c r1 (.c r1 (.c r1 (.c r1 (.c r1 (.c r1 (.c r1 .n))))))))))))))) (ok_assign rfl) rfl ?_
      clear hs a; intro a hs
      refine h_done (by kernel_rfl) (n_then ?_)
      refine wp_ret ?_
      refine leave hs (vs := [.agg ⟨cReq lit10⟩, .bool false]) rfl ⟨resv_cell (cs := cReq lit10) m rfl ty89 r0 rfl, rfl, trivial⟩ ?_
      exact ⟨_, rfl, rfl, m.sub (.c r1 (.c r1 (.c r1 (.c r1 (.c r1 (.c r1 (.c r1 (.c r1 (.c r1 (.c r1 (.c r1 (.c r1 (.c r1 (.c r1 .n))))))))))))))⟩
    clear hs a m w222; rintro _ w228 ⟨rfl, m⟩ a hs
    refine r_ok hs m (ok_move rfl) rfl ?_
    clear hs a; intro a hs
    refine r_ok hs m (ok_extract rfl rfl) rfl ?_
    clear hs a; intro a hs
    refine r_ok hs m (ok_extract rfl rfl) rfl ?_
    clear hs a; intro a hs
    refine r_alloc hs m ze89 rfl ?_
    clear m hs a w228; intro p229 w230 m a hs
    refine r_store (cs' := cReq lit10) (vs := cReq lit10) hs m rfl rfl ty89 s0 (by kernel_rfl) (by kernel_rfl) (by kernel_rfl) (by kernel_rfl) (by kernel_rfl) ?_
    clear m w230; intro w231 m
    refine r_ok hs m (ok_assign rfl) rfl ?_
    clear hs a; intro a hs
    refine wpList_nil (n_then ?_)
    refine c_reg ?_
    refine r_ok hs m (ok_move rfl) rfl ?_
    clear hs a; intro a hs
    refine wpList_nil (n_then ?_)
    refine c_false hs rfl rfl ?_
    refine wp_skip ?_
    refine n_block (n_then ?_)
    refine c_last ?_
    refine r_ok hs m (ok_add (r := 2) rfl rfl rfl) rfl ?_
    clear hs a; intro a hs
    refine r_ok hs m (ok_move rfl) rfl ?_
    clear hs a; intro a hs
    refine wpList_nil (n_then ?_)
    refine rounds_s ?_
    refine c_reg ?_
    refine r_ok hs m (ok_bin (v := .bool true) rfl rfl rfl) rfl ?_
    clear hs a; intro a hs
    refine wpList_nil (n_then ?_)
    refine c_seq ?_
    refine c_true hs rfl rfl ?_
    refine wp_skip ?_
    refine n_then ?_
    refine c_seq ?_
    refine wp_block ?_
    refine c_reg ?_
    refine elO (c := id) (e := ([.string (ByteArray.mk ⟨[107, 101, 114, 110, 101, 108]⟩), .func (.func 73) ⟨[.pointer (some (padd p4 0))]⟩ ⟨[]⟩] : List Value)) hs m (x := (.tmp 12)) (ix := (.tmp 14)) rfl rfl sl133 ty138 r12 (by omega) rfl fun p234 hp235 ok236 => ?_
    refine r_ok hs m (ok236 _ _ _ _ _) rfl ?_
    clear hs a; intro a hs
    refine r_ok hs m (ok_load_ag (vs := [.string (ByteArray.mk ⟨[107, 101, 114, 110, 101, 108]⟩), .func (.func 73) ⟨[.pointer (some (padd p4 0))]⟩ ⟨[]⟩]) rfl ty138 (el_at hp235 r12 (get_map _ (rfl : ([[.string (ByteArray.mk ⟨[100, 117, 109, 112]⟩), .func (.func 71) ⟨[]⟩ ⟨[.pointer (some (padd p6 0))]⟩], [.string (ByteArray.mk ⟨[115, 110, 97, 112, 115, 104, 111, 116]⟩), .func (.func 72) ⟨[]⟩ ⟨[.pointer (some (padd p6 0))]⟩], [.string (ByteArray.mk ⟨[107, 101, 114, 110, 101, 108]⟩), .func (.func 73) ⟨[.pointer (some (padd p4 0))]⟩ ⟨[]⟩], [.string (ByteArray.mk ⟨[97, 99, 113, 117, 105, 114, 101]⟩), .func (.func 74) ⟨[.pointer (some (padd p4 0))]⟩ ⟨[]⟩], [.string (ByteArray.mk ⟨[114, 101, 110, 101, 119]⟩), .func (.func 75) ⟨[.pointer (some (padd p4 0))]⟩ ⟨[]⟩], [.string (ByteArray.mk ⟨[119, 97, 116, 99, 104]⟩), .func (.func 76) ⟨[]⟩ ⟨[.pointer (some (padd p6 0))]⟩]])[2]? = some ([.string (ByteArray.mk ⟨[107, 101, 114, 110, 101, 108]⟩), .func (.func 73) ⟨[.pointer (some (padd p4 0))]⟩ ⟨[]⟩] : List Value)))) (by kernel_rfl) (by kernel_rfl)) rfl ?_
    clear hs a; intro a hs
    refine r_alloc hs m ze138 rfl ?_
    clear m hs a w231; intro p237 w238 m a hs
    refine r_store (cs' := [.string (ByteArray.mk ⟨[107, 101, 114, 110, 101, 108]⟩), .func (.func 73) ⟨[.pointer (some (padd p4 0))]⟩ ⟨[]⟩]) (vs := [.string (ByteArray.mk ⟨[107, 101, 114, 110, 101, 108]⟩), .func (.func 73) ⟨[.pointer (some (padd p4 0))]⟩ ⟨[]⟩]) hs m rfl rfl ty138 s0 (by kernel_rfl) (by kernel_rfl) (by kernel_rfl) (by kernel_rfl) (by kernel_rfl) ?_
    clear m w238; intro w239 m
    refine wpList_nil (n_then ?_)
    refine c_seq ?_
    refine c_reg ?_
    refine r_ok hs m (ok_move rfl) rfl ?_
    clear hs a; intro a hs
    refine r_ok hs m (ok_nilCheck rfl) rfl ?_
    clear hs a; intro a hs
    refine r_ok hs m (ok_fieldAddr (r := 10) rfl fd135_2 ty89 rfl) rfl ?_
    clear hs a; intro a hs
    refine r_ok hs m (ok_fieldAddr (r := 10) rfl fd89_0 ty3 rfl) rfl ?_
    clear hs a; intro a hs
    refine r_ok hs m (ok_load_sc rfl ty3 (bx_at r15) rfl) rfl ?_
    clear hs a; intro a hs
    refine r_ok hs m (ok_bin (v := .bool false) rfl rfl rfl) rfl ?_
    clear hs a; intro a hs
    refine wpList_nil (n_then ?_)
    refine c_false hs rfl rfl ?_
    refine wp_skip ?_
    refine n_then ?_
    refine c_reg ?_
    refine r_ok hs m (ok_fieldAddr (r := 1) rfl fd138_1 ty136 rfl) rfl ?_
    clear hs a; intro a hs
    refine r_ok hs m (ok_load_sc rfl ty136 (bx_at r0) rfl) rfl ?_
    clear hs a; intro a hs
    refine r_ok hs m (ok_move rfl) rfl ?_
    clear hs a; intro a hs
    refine r_call (us := [.pointer (some (padd p4 0)), .int .i64 0]) (Rc := fun v w' => v = (.tuple ⟨[.agg ⟨cReq lit17⟩, .bool true]⟩) ∧ Hp w0 (hh w0) [Bx p237 138 [.string (ByteArray.mk ⟨[107, 101, 114, 110, 101, 108]⟩), .func (.func 73) ⟨[.pointer (some (padd p4 0))]⟩ ⟨[]⟩], Bx p229 89 (cReq lit10), Bx p220 138 [.string (ByteArray.mk ⟨[115, 110, 97, 112, 115, 104, 111, 116]⟩), .func (.func 72) ⟨[]⟩ ⟨[.pointer (some (padd p6 0))]⟩], Bx p212 89 (cReq lit7), Bx p203 138 [.string (ByteArray.mk ⟨[100, 117, 109, 112]⟩), .func (.func 71) ⟨[]⟩ ⟨[.pointer (some (padd p6 0))]⟩], Bx p197 89 (cReq lit6), Sv 12 48 v167.v ([lit13].map cLease), Sv 12 48 v138.v ([lit13].map cLease), Sv 12 48 v136.v ([lit13].map cLease), Sv 7 56 v74.v (([] : List TFdb).map cFdb), Sv 7 54 v72.v (([] : List TNeigh).map cNeigh), Sv 4 51 v70.v (([] : List TRoute).map cRoute), Bx p44 89 (cReq lit10), Sv 2 138 v9.v (([[.string (ByteArray.mk ⟨[100, 117, 109, 112]⟩), .func (.func 71) ⟨[]⟩ ⟨[.pointer (some (padd p6 0))]⟩], [.string (ByteArray.mk ⟨[115, 110, 97, 112, 115, 104, 111, 116]⟩), .func (.func 72) ⟨[]⟩ ⟨[.pointer (some (padd p6 0))]⟩], [.string (ByteArray.mk ⟨[107, 101, 114, 110, 101, 108]⟩), .func (.func 73) ⟨[.pointer (some (padd p4 0))]⟩ ⟨[]⟩], [.string (ByteArray.mk ⟨[97, 99, 113, 117, 105, 114, 101]⟩), .func (.func 74) ⟨[.pointer (some (padd p4 0))]⟩ ⟨[]⟩], [.string (ByteArray.mk ⟨[114, 101, 110, 101, 119]⟩), .func (.func 75) ⟨[.pointer (some (padd p4 0))]⟩ ⟨[]⟩], [.string (ByteArray.mk ⟨[119, 97, 116, 99, 104]⟩), .func (.func 76) ⟨[]⟩ ⟨[.pointer (some (padd p6 0))]⟩]] : List (List Value)).map id), Bx p6 63 [.pointer (some (padd p4 0))], Bx p4 135 (List.append (cSelf lit1) (List.append [v9.v] (List.append (cReq lit6) (List.append [.bool true, v70.v, v72.v, v74.v, v167.v, .int .i64 4, .bool false, nilH.v, .bool false, .int .i64 0, .bool false] (List.append (cPrefix lit2) [.bool false, .bool false])))))] w') hs rfl rfl ca73 rfl (enter (n := 17) Tryz.func73 rfl rfl rfl fun a (hs : St 17 [(0, .pointer (some (padd p4 0))), (1, .int .i64 0)] a) => ?_) rfl ?_
    · refine c_reg ?_
      refine r_alloc hs m ze89 rfl ?_
      clear m hs a w239; intro p241 w242 m a hs
      refine r_ok hs m (ok_assign rfl) rfl ?_
      clear hs a; intro a hs
      refine wpList_nil (n_then ?_)
      refine c_reg ?_
      refine r_ok hs m (ok_move rfl) rfl ?_
      clear hs a; intro a hs
      refine r_call (us := [.pointer (some (padd p4 0))]) (Rc := fun v w' => ∃ v362 : SH, v = (v362.v) ∧ Hp w0 (hh w0) [Sv 19 58 v362.v ([lit14, lit15, lit16].map cOp), Bx p241 89 (cReq lit6), Bx p237 138 [.string (ByteArray.mk ⟨[107, 101, 114, 110, 101, 108]⟩), .func (.func 73) ⟨[.pointer (some (padd p4 0))]⟩ ⟨[]⟩], Bx p229 89 (cReq lit10), Bx p220 138 [.string (ByteArray.mk ⟨[115, 110, 97, 112, 115, 104, 111, 116]⟩), .func (.func 72) ⟨[]⟩ ⟨[.pointer (some (padd p6 0))]⟩], Bx p212 89 (cReq lit7), Bx p203 138 [.string (ByteArray.mk ⟨[100, 117, 109, 112]⟩), .func (.func 71) ⟨[]⟩ ⟨[.pointer (some (padd p6 0))]⟩], Bx p197 89 (cReq lit6), Sv 12 48 v167.v ([lit13].map cLease), Sv 12 48 v138.v ([lit13].map cLease), Sv 12 48 v136.v ([lit13].map cLease), Sv 7 56 v74.v (([] : List TFdb).map cFdb), Sv 7 54 v72.v (([] : List TNeigh).map cNeigh), Sv 4 51 v70.v (([] : List TRoute).map cRoute), Bx p44 89 (cReq lit10), Sv 2 138 v9.v (([[.string (ByteArray.mk ⟨[100, 117, 109, 112]⟩), .func (.func 71) ⟨[]⟩ ⟨[.pointer (some (padd p6 0))]⟩], [.string (ByteArray.mk ⟨[115, 110, 97, 112, 115, 104, 111, 116]⟩), .func (.func 72) ⟨[]⟩ ⟨[.pointer (some (padd p6 0))]⟩], [.string (ByteArray.mk ⟨[107, 101, 114, 110, 101, 108]⟩), .func (.func 73) ⟨[.pointer (some (padd p4 0))]⟩ ⟨[]⟩], [.string (ByteArray.mk ⟨[97, 99, 113, 117, 105, 114, 101]⟩), .func (.func 74) ⟨[.pointer (some (padd p4 0))]⟩ ⟨[]⟩], [.string (ByteArray.mk ⟨[114, 101, 110, 101, 119]⟩), .func (.func 75) ⟨[.pointer (some (padd p4 0))]⟩ ⟨[]⟩], [.string (ByteArray.mk ⟨[119, 97, 116, 99, 104]⟩), .func (.func 76) ⟨[]⟩ ⟨[.pointer (some (padd p6 0))]⟩]] : List (List Value)).map id), Bx p6 63 [.pointer (some (padd p4 0))], Bx p4 135 (List.append (cSelf lit1) (List.append [v9.v] (List.append (cReq lit6) (List.append [.bool true, v70.v, v72.v, v74.v, v167.v, .int .i64 4, .bool false, nilH.v, .bool false, .int .i64 0, .bool false] (List.append (cPrefix lit2) [.bool false, .bool false])))))] w') hs rfl rfl ca85 rfl (enter (n := 52) Tryz.func85 rfl rfl rfl fun a (hs : St 52 [(0, .pointer (some (padd p4 0)))] a) => ?_) rfl ?_
      · refine c_reg ?_
        refine r_ok hs m (ok_assign rfl) rfl ?_
        clear hs a; intro a hs
        refine wpList_nil (n_then ?_)
        refine c_reg ?_
        refine r_ok hs m (ok_assign rfl) rfl ?_
        clear hs a; intro a hs
        refine wpList_nil (n_then ?_)
        refine c_seq ?_
        refine c_reg ?_
        refine r_ok hs m (ok_move rfl) rfl ?_
        clear hs a; intro a hs
        refine r_ok hs m (ok_nilCheck rfl) rfl ?_
        clear hs a; intro a hs
        refine r_ok hs m (ok_fieldAddr (r := 48) rfl fd135_5 ty22 rfl) rfl ?_
        clear hs a; intro a hs
        refine r_ok hs m (ok_load_sc rfl ty22 (bx_at r16) rfl) rfl ?_
        clear hs a; intro a hs
        refine r_ok hs m (ok_len (r := 1) m rfl sl22 (rc_own r7) rfl) rfl ?_
        clear hs a; intro a hs
        refine r_ok hs m (ok_move rfl) rfl ?_
        clear hs a; intro a hs
        refine wpList_nil (n_then ?_)
        refine wp_block ?_
        refine wp_loop_rounds 13 ?_
        refine rounds_s ?_
        refine c_reg ?_
        refine r_ok hs m (ok_bin (v := .bool true) rfl rfl rfl) rfl ?_
        clear hs a; intro a hs
        refine wpList_nil (n_then ?_)
        refine c_seq ?_
        refine c_true hs rfl rfl ?_
        refine wp_skip ?_
        refine n_then ?_
        refine c_seq ?_
        refine wp_block ?_
        refine c_reg ?_
        refine elO (c := cLease) (e := lit13) hs m (x := (.tmp 13)) (ix := (.tmp 15)) rfl rfl sl22 ty48 r7 (by omega) rfl fun p244 hp245 ok246 => ?_
        refine r_ok hs m (ok246 _ _ _ _ _) rfl ?_
        clear hs a; intro a hs
        refine r_ok hs m (ok_load_ag (vs := cLease lit13) rfl ty48 (el_at hp245 r7 (get_map _ (rfl : ([lit13])[0]? = some lit13))) (by kernel_rfl) (by kernel_rfl)) rfl ?_
        clear hs a; intro a hs
        refine r_alloc hs m ze48 rfl ?_
        clear m hs a w242; intro p247 w248 m a hs
        refine r_store (cs' := cLease lit13) (vs := cLease lit13) hs m rfl rfl ty48 s0 (by kernel_rfl) (by kernel_rfl) (by kernel_rfl) (by kernel_rfl) (by kernel_rfl) ?_
        clear m w248; intro w249 m
        refine wpList_nil (n_then ?_)
        refine c_draw m mo (by kernel_rfl) ?_
        refine q_ok hs (ok_move rfl) rfl ?_
        clear hs a; intro a hs
        refine q_ok hs (ok_nilCheck rfl) rfl ?_
        clear hs a; intro a hs
        refine q_ok hs (ok_fieldAddr (r := 51) rfl fd135_8 ty82 rfl) rfl ?_
        clear hs a; intro a hs
        refine q_ok hs (ok_load_sc rfl ty82 (bx_at r17) rfl) rfl ?_
        clear hs a; intro a hs
        refine q_ok hs (ok_fieldAddr (r := 1) rfl fd48_1 ty44 rfl) rfl ?_
        clear hs a; intro a hs
        refine q_ok hs (ok_load_ag (vs := cPrefix lit11) rfl ty44 (bx_at r0) (by kernel_rfl) (by kernel_rfl)) rfl ?_
        clear hs a; intro a hs
        refine q_callP hs rfl rfl ca131 rfl (fun w m => bsPrefix_c nilH ([] : List TPrefix) lit11 w (RdS.nil _ _) ) rfl ?_
        clear hs a; intro a hs
        have q250 : (bsI (fun e => (cmpPrefix e lit11).v) [] : Int) = (0 : Int) := by kernel_rfl
        rw [q250] at hs
        have q251 : bsHit cmpPrefix [] lit11 = (false : Bool) := by kernel_rfl
        rw [q251] at hs
        refine q_ok hs (ok_move rfl) rfl ?_
        clear hs a; intro a hs
        refine q_ok hs (ok_extract rfl rfl) rfl ?_
        clear hs a; intro a hs
        refine q_ok hs (ok_extract rfl rfl) rfl ?_
        clear hs a; intro a hs
        refine q_ok hs (ok_assign rfl) rfl ?_
        clear hs a; intro a hs
        refine q_ok hs (ok_assign rfl) rfl ?_
        clear hs a; intro a hs
        refine wpQuiet_nil ?_; clear m w249; intro w252 m
        refine c_reg ?_
        refine r_ok hs m (ok_move rfl) rfl ?_
        clear hs a; intro a hs
        refine r_ok hs m (ok_not rfl) rfl ?_
        clear hs a; intro a hs
        refine wpList_nil (n_then ?_)
        refine c_true hs rfl rfl ?_
        refine c_last ?_
        refine r_ok hs m (ok_move rfl) rfl ?_
        clear hs a; intro a hs
        refine r_ok hs m (ok_load_ag (vs := cLease lit13) rfl ty48 (bx_at r0) (by kernel_rfl) (by kernel_rfl)) rfl ?_
        clear hs a; intro a hs
        refine r_buildM (c := cLease) (ys := [lit13]) hs m sl22 ty48 ze48 rfl rfl rfl rfl rfl (fun _ => rfl) rfl rfl rfl ?_
        clear m hs a w252; intro v254 w255 m a hs
        replace m := m.nilSvM cLease 12 48
        refine r_appendM (c := cLease) (xs := []) (ys := [lit13]) hs m rfl rfl sl22 ni22 ty48 ze48 rfl by48 rfl r0 (m.rdv r1) (fun _ => rfl) (by decide) rfl ?_
        clear m hs a w255; intro v256 w258 m a hs
        refine r_ok hs m (ok_assign rfl) rfl ?_
        clear hs a; intro a hs
        refine wpList_nil (n_block (n_then ?_))
        refine c_last ?_
        refine r_ok hs m (ok_add (r := 1) rfl rfl rfl) rfl ?_
        clear hs a; intro a hs
        refine r_ok hs m (ok_move rfl) rfl ?_
        clear hs a; intro a hs
        refine wpList_nil (n_then ?_)
        refine rounds_s ?_
        refine c_reg ?_
        refine r_ok hs m (ok_bin (v := .bool false) rfl rfl rfl) rfl ?_
        clear hs a; intro a hs
        refine wpList_nil (n_then ?_)
        refine c_seq ?_
        refine c_false hs rfl rfl ?_
        refine wp_exit ?_
        refine ex_then (ex_then (ex_hit (?_)))
        refine n_then ?_
        refine c_drawH (Hp w0 (hh w0) [Sv 12 48 v256.v ([lit13].map cLease), Sv 12 48 v254.v ([lit13].map cLease), Bx p247 48 (cLease lit13), Bx p241 89 (cReq lit6), Bx p237 138 [.string (ByteArray.mk ⟨[107, 101, 114, 110, 101, 108]⟩), .func (.func 73) ⟨[.pointer (some (padd p4 0))]⟩ ⟨[]⟩], Bx p229 89 (cReq lit10), Bx p220 138 [.string (ByteArray.mk ⟨[115, 110, 97, 112, 115, 104, 111, 116]⟩), .func (.func 72) ⟨[]⟩ ⟨[.pointer (some (padd p6 0))]⟩], Bx p212 89 (cReq lit7), Bx p203 138 [.string (ByteArray.mk ⟨[100, 117, 109, 112]⟩), .func (.func 71) ⟨[]⟩ ⟨[.pointer (some (padd p6 0))]⟩], Bx p197 89 (cReq lit6), Sv 12 48 v167.v ([lit13].map cLease), Sv 12 48 v138.v ([lit13].map cLease), Sv 12 48 v136.v ([lit13].map cLease), Sv 7 56 v74.v (([] : List TFdb).map cFdb), Sv 7 54 v72.v (([] : List TNeigh).map cNeigh), Sv 4 51 v70.v (([] : List TRoute).map cRoute), Bx p44 89 (cReq lit10), Sv 2 138 v9.v (([[.string (ByteArray.mk ⟨[100, 117, 109, 112]⟩), .func (.func 71) ⟨[]⟩ ⟨[.pointer (some (padd p6 0))]⟩], [.string (ByteArray.mk ⟨[115, 110, 97, 112, 115, 104, 111, 116]⟩), .func (.func 72) ⟨[]⟩ ⟨[.pointer (some (padd p6 0))]⟩], [.string (ByteArray.mk ⟨[107, 101, 114, 110, 101, 108]⟩), .func (.func 73) ⟨[.pointer (some (padd p4 0))]⟩ ⟨[]⟩], [.string (ByteArray.mk ⟨[97, 99, 113, 117, 105, 114, 101]⟩), .func (.func 74) ⟨[.pointer (some (padd p4 0))]⟩ ⟨[]⟩], [.string (ByteArray.mk ⟨[114, 101, 110, 101, 119]⟩), .func (.func 75) ⟨[.pointer (some (padd p4 0))]⟩ ⟨[]⟩], [.string (ByteArray.mk ⟨[119, 97, 116, 99, 104]⟩), .func (.func 76) ⟨[]⟩ ⟨[.pointer (some (padd p6 0))]⟩]] : List (List Value)).map id), Bx p6 63 [.pointer (some (padd p4 0))], Bx p4 135 (List.append (cSelf lit1) (List.append [v9.v] (List.append (cReq lit6) (List.append [.bool true, v70.v, v72.v, v74.v, v167.v, .int .i64 4, .bool false, nilH.v, .bool false, .int .i64 0, .bool false] (List.append (cPrefix lit2) [.bool false, .bool false])))))]) m mo ?_; clear m w258; intro w260 m
        refine h_ok (i := 0) rfl (by kernel_rfl) (by kernel_rfl) (by kernel_rfl) hs (m.sub (.c r0 (.c r0 (.c r0 (.c r0 (.c r0 (.c r0 (.c r0 (.c r0 (.c r0 (.c r0 (.c r0 (.c r0 (.c r0 (.c r0 (.c r0 (.c r0 (.c r0 (.c r0 (.c r0 (.c r0 .n))))))))))))))))))))) (ok_move rfl) rfl ?_
        clear hs a; intro a hs
        refine h_ok (i := 1) rfl (by kernel_rfl) (by kernel_rfl) (by kernel_rfl) hs (m.sub (.c r0 (.c r0 (.c r0 (.c r0 (.c r0 (.c r0 (.c r0 (.c r0 (.c r0 (.c r0 (.c r0 (.c r0 (.c r0 (.c r0 (.c r0 (.c r0 (.c r0 (.c r0 (.c r0 (.c r0 .n))))))))))))))))))))) (ok_nilCheck rfl) rfl ?_
        clear hs a; intro a hs
        refine h_ok (i := 2) rfl (by kernel_rfl) (by kernel_rfl) (by kernel_rfl) hs (m.sub (.c r0 (.c r0 (.c r0 (.c r0 (.c r0 (.c r0 (.c r0 (.c r0 (.c r0 (.c r0 (.c r0 (.c r0 (.c r0 (.c r0 (.c r0 (.c r0 (.c r0 (.c r0 (.c r0 (.c r0 .n))))))))))))))))))))) (ok_fieldAddr (r := 45) rfl fd135_4 ty29 rfl) rfl ?_
        clear hs a; intro a hs
        refine h_ok (i := 3) rfl (by kernel_rfl) (by kernel_rfl) (by kernel_rfl) hs (m.sub (.c r0 (.c r0 (.c r0 (.c r0 (.c r0 (.c r0 (.c r0 (.c r0 (.c r0 (.c r0 (.c r0 (.c r0 (.c r0 (.c r0 (.c r0 (.c r0 (.c r0 (.c r0 (.c r0 (.c r0 .n))))))))))))))))))))) (ok_load_ag (vs := [v70.v, v72.v, v74.v]) rfl ty29 (bx_at r19) (by kernel_rfl) (by kernel_rfl)) rfl ?_
        clear hs a; intro a hs
        refine h_ok (i := 4) rfl (by kernel_rfl) (by kernel_rfl) (by kernel_rfl) hs (m.sub (.c r0 (.c r0 (.c r0 (.c r0 (.c r0 (.c r0 (.c r0 (.c r0 (.c r0 (.c r0 (.c r0 (.c r0 (.c r0 (.c r0 (.c r0 (.c r0 (.c r0 (.c r0 (.c r0 (.c r0 .n))))))))))))))))))))) (ok_move rfl) rfl ?_
        clear hs a; intro a hs
        refine h_ok (i := 5) rfl (by kernel_rfl) (by kernel_rfl) (by kernel_rfl) hs (m.sub (.c r0 (.c r0 (.c r0 (.c r0 (.c r0 (.c r0 (.c r0 (.c r0 (.c r0 (.c r0 (.c r0 (.c r0 (.c r0 (.c r0 (.c r0 (.c r0 (.c r0 (.c r0 (.c r0 (.c r0 .n))))))))))))))))))))) (ok_move rfl) rfl ?_
        clear hs a; intro a hs
        refine h_ok (i := 6) rfl (by kernel_rfl) (by kernel_rfl) (by kernel_rfl) hs (m.sub (.c r0 (.c r0 (.c r0 (.c r0 (.c r0 (.c r0 (.c r0 (.c r0 (.c r0 (.c r0 (.c r0 (.c r0 (.c r0 (.c r0 (.c r0 (.c r0 (.c r0 (.c r0 (.c r0 (.c r0 .n))))))))))))))))))))) (ok_nilCheck rfl) rfl ?_
        clear hs a; intro a hs
        refine h_ok (i := 7) rfl (by kernel_rfl) (by kernel_rfl) (by kernel_rfl) hs (m.sub (.c r0 (.c r0 (.c r0 (.c r0 (.c r0 (.c r0 (.c r0 (.c r0 (.c r0 (.c r0 (.c r0 (.c r0 (.c r0 (.c r0 (.c r0 (.c r0 (.c r0 (.c r0 (.c r0 (.c r0 .n))))))))))))))))))))) (ok_fieldAddr (r := 0) rfl fd135_0 ty61 rfl) rfl ?_
        clear hs a; intro a hs
        refine h_ok (i := 8) rfl (by kernel_rfl) (by kernel_rfl) (by kernel_rfl) hs (m.sub (.c r0 (.c r0 (.c r0 (.c r0 (.c r0 (.c r0 (.c r0 (.c r0 (.c r0 (.c r0 (.c r0 (.c r0 (.c r0 (.c r0 (.c r0 (.c r0 (.c r0 (.c r0 (.c r0 (.c r0 .n))))))))))))))))))))) (ok_fieldAddr (r := 0) rfl fd61_0 ty3 rfl) rfl ?_
        clear hs a; intro a hs
        refine h_ok (i := 9) rfl (by kernel_rfl) (by kernel_rfl) (by kernel_rfl) hs (m.sub (.c r0 (.c r0 (.c r0 (.c r0 (.c r0 (.c r0 (.c r0 (.c r0 (.c r0 (.c r0 (.c r0 (.c r0 (.c r0 (.c r0 (.c r0 (.c r0 (.c r0 (.c r0 (.c r0 (.c r0 .n))))))))))))))))))))) (ok_load_sc rfl ty3 (bx_at r19) rfl) rfl ?_
        clear hs a; intro a hs
        refine h_eff (i := 10) (by kernel_rfl) rfl ?_
        refine r_call hs rfl rfl ca12 rfl (plan_c v256 [lit13] 2 _ (m.rdv r0) (by first | omega | rfl | exact bsI_le _ _ | assumption | decide)) rfl ?_
        clear hs a; rintro _ w264 ⟨v261, v262, v263, rfl, hm⟩ a hs
        replace m : Hp w0 (hh w0) [Sv 4 51 v261.v (((planM [lit13] 2).R).map cRoute), Sv 7 54 v262.v (((planM [lit13] 2).N).map cNeigh), Sv 7 56 v263.v (((planM [lit13] 2).F).map cFdb), Sv 12 48 v256.v ([lit13].map cLease), Sv 12 48 v254.v ([lit13].map cLease), Bx p247 48 (cLease lit13), Bx p241 89 (cReq lit6), Bx p237 138 [.string (ByteArray.mk ⟨[107, 101, 114, 110, 101, 108]⟩), .func (.func 73) ⟨[.pointer (some (padd p4 0))]⟩ ⟨[]⟩], Bx p229 89 (cReq lit10), Bx p220 138 [.string (ByteArray.mk ⟨[115, 110, 97, 112, 115, 104, 111, 116]⟩), .func (.func 72) ⟨[]⟩ ⟨[.pointer (some (padd p6 0))]⟩], Bx p212 89 (cReq lit7), Bx p203 138 [.string (ByteArray.mk ⟨[100, 117, 109, 112]⟩), .func (.func 71) ⟨[]⟩ ⟨[.pointer (some (padd p6 0))]⟩], Bx p197 89 (cReq lit6), Sv 12 48 v167.v ([lit13].map cLease), Sv 12 48 v138.v ([lit13].map cLease), Sv 12 48 v136.v ([lit13].map cLease), Sv 7 56 v74.v (([] : List TFdb).map cFdb), Sv 7 54 v72.v (([] : List TNeigh).map cNeigh), Sv 4 51 v70.v (([] : List TRoute).map cRoute), Bx p44 89 (cReq lit10), Sv 2 138 v9.v (([[.string (ByteArray.mk ⟨[100, 117, 109, 112]⟩), .func (.func 71) ⟨[]⟩ ⟨[.pointer (some (padd p6 0))]⟩], [.string (ByteArray.mk ⟨[115, 110, 97, 112, 115, 104, 111, 116]⟩), .func (.func 72) ⟨[]⟩ ⟨[.pointer (some (padd p6 0))]⟩], [.string (ByteArray.mk ⟨[107, 101, 114, 110, 101, 108]⟩), .func (.func 73) ⟨[.pointer (some (padd p4 0))]⟩ ⟨[]⟩], [.string (ByteArray.mk ⟨[97, 99, 113, 117, 105, 114, 101]⟩), .func (.func 74) ⟨[.pointer (some (padd p4 0))]⟩ ⟨[]⟩], [.string (ByteArray.mk ⟨[114, 101, 110, 101, 119]⟩), .func (.func 75) ⟨[.pointer (some (padd p4 0))]⟩ ⟨[]⟩], [.string (ByteArray.mk ⟨[119, 97, 116, 99, 104]⟩), .func (.func 76) ⟨[]⟩ ⟨[.pointer (some (padd p6 0))]⟩]] : List (List Value)).map id), Bx p6 63 [.pointer (some (padd p4 0))], Bx p4 135 (List.append (cSelf lit1) (List.append [v9.v] (List.append (cReq lit6) (List.append [.bool true, v70.v, v72.v, v74.v, v167.v, .int .i64 4, .bool false, nilH.v, .bool false, .int .i64 0, .bool false] (List.append (cPrefix lit2) [.bool false, .bool false])))))] w264 := m.after hm
        clear hm w260
        have q265 : (planM [lit13] 2).R = [(⟨⟨⟨167772416, rfl⟩, ⟨24, rfl⟩⟩, ⟨167772416, rfl⟩, false⟩ : TRoute)] := by kernel_rfl
        rw [q265] at m
        have q266 : (planM [lit13] 2).N = [(⟨⟨167772416, rfl⟩, ⟨⟨2, rfl⟩, ⟨0, rfl⟩, ⟨0, rfl⟩, ⟨0, rfl⟩, ⟨0, rfl⟩, ⟨1, rfl⟩⟩⟩ : TNeigh)] := by kernel_rfl
        rw [q266] at m
        have q267 : (planM [lit13] 2).F = [(⟨⟨⟨2, rfl⟩, ⟨0, rfl⟩, ⟨0, rfl⟩, ⟨0, rfl⟩, ⟨0, rfl⟩, ⟨1, rfl⟩⟩, ⟨8, rfl⟩⟩ : TFdb)] := by kernel_rfl
        rw [q267] at m
        refine wpList_nil (n_then ⟨(m.sub (.c r3 (.c r3 (.c r3 (.c r3 (.c r3 (.c r3 (.c r3 (.c r3 (.c r3 (.c r3 (.c r3 (.c r3 (.c r3 (.c r3 (.c r3 (.c r3 (.c r3 (.c r3 (.c r3 (.c r3 .n))))))))))))))))))))), ?_⟩)
        refine h_eff (i := 11) (by kernel_rfl) rfl ?_
        refine r_call (us := [.agg ⟨[v70.v, v72.v, v74.v]⟩, .agg ⟨[v261.v, v262.v, v263.v]⟩]) (Rc := fun v w' => ∃ v362 : SH, v = (.tuple ⟨[v362.v, .int .i64 0]⟩) ∧ Hp w0 (hh w0) [Sv 19 58 v362.v ([lit14, lit15, lit16].map cOp), Sv 4 51 v261.v ([(⟨⟨⟨167772416, rfl⟩, ⟨24, rfl⟩⟩, ⟨167772416, rfl⟩, false⟩ : TRoute)].map cRoute), Sv 7 54 v262.v ([(⟨⟨167772416, rfl⟩, ⟨⟨2, rfl⟩, ⟨0, rfl⟩, ⟨0, rfl⟩, ⟨0, rfl⟩, ⟨0, rfl⟩, ⟨1, rfl⟩⟩⟩ : TNeigh)].map cNeigh), Sv 7 56 v263.v ([(⟨⟨⟨2, rfl⟩, ⟨0, rfl⟩, ⟨0, rfl⟩, ⟨0, rfl⟩, ⟨0, rfl⟩, ⟨1, rfl⟩⟩, ⟨8, rfl⟩⟩ : TFdb)].map cFdb), Sv 12 48 v256.v ([lit13].map cLease), Sv 12 48 v254.v ([lit13].map cLease), Bx p247 48 (cLease lit13), Bx p241 89 (cReq lit6), Bx p237 138 [.string (ByteArray.mk ⟨[107, 101, 114, 110, 101, 108]⟩), .func (.func 73) ⟨[.pointer (some (padd p4 0))]⟩ ⟨[]⟩], Bx p229 89 (cReq lit10), Bx p220 138 [.string (ByteArray.mk ⟨[115, 110, 97, 112, 115, 104, 111, 116]⟩), .func (.func 72) ⟨[]⟩ ⟨[.pointer (some (padd p6 0))]⟩], Bx p212 89 (cReq lit7), Bx p203 138 [.string (ByteArray.mk ⟨[100, 117, 109, 112]⟩), .func (.func 71) ⟨[]⟩ ⟨[.pointer (some (padd p6 0))]⟩], Bx p197 89 (cReq lit6), Sv 12 48 v167.v ([lit13].map cLease), Sv 12 48 v138.v ([lit13].map cLease), Sv 12 48 v136.v ([lit13].map cLease), Sv 7 56 v74.v (([] : List TFdb).map cFdb), Sv 7 54 v72.v (([] : List TNeigh).map cNeigh), Sv 4 51 v70.v (([] : List TRoute).map cRoute), Bx p44 89 (cReq lit10), Sv 2 138 v9.v (([[.string (ByteArray.mk ⟨[100, 117, 109, 112]⟩), .func (.func 71) ⟨[]⟩ ⟨[.pointer (some (padd p6 0))]⟩], [.string (ByteArray.mk ⟨[115, 110, 97, 112, 115, 104, 111, 116]⟩), .func (.func 72) ⟨[]⟩ ⟨[.pointer (some (padd p6 0))]⟩], [.string (ByteArray.mk ⟨[107, 101, 114, 110, 101, 108]⟩), .func (.func 73) ⟨[.pointer (some (padd p4 0))]⟩ ⟨[]⟩], [.string (ByteArray.mk ⟨[97, 99, 113, 117, 105, 114, 101]⟩), .func (.func 74) ⟨[.pointer (some (padd p4 0))]⟩ ⟨[]⟩], [.string (ByteArray.mk ⟨[114, 101, 110, 101, 119]⟩), .func (.func 75) ⟨[.pointer (some (padd p4 0))]⟩ ⟨[]⟩], [.string (ByteArray.mk ⟨[119, 97, 116, 99, 104]⟩), .func (.func 76) ⟨[]⟩ ⟨[.pointer (some (padd p6 0))]⟩]] : List (List Value)).map id), Bx p6 63 [.pointer (some (padd p4 0))], Bx p4 135 (List.append (cSelf lit1) (List.append [v9.v] (List.append (cReq lit6) (List.append [.bool true, v70.v, v72.v, v74.v, v167.v, .int .i64 4, .bool false, nilH.v, .bool false, .int .i64 0, .bool false] (List.append (cPrefix lit2) [.bool false, .bool false])))))] w') hs rfl rfl ca17 rfl (enter (n := 151) Tryz.func17 rfl rfl rfl fun a (hs : St 151 [(0, .agg ⟨[v70.v, v72.v, v74.v]⟩), (1, .agg ⟨[v261.v, v262.v, v263.v]⟩)] a) => ?_) rfl ?_
        · refine c_reg ?_
          refine r_box (cs := [v70.v, v72.v, v74.v]) hs m rfl (by kernel_rfl) rfl ?_
          clear m hs a w264; intro p268 w269 m a hs
          refine r_box (cs := [v261.v, v262.v, v263.v]) hs m rfl (by kernel_rfl) rfl ?_
          clear m hs a w269; intro p270 w271 m a hs
          refine r_ok hs m (ok_assign rfl) rfl ?_
          clear hs a; intro a hs
          refine r_ok hs m (ok_assign rfl) rfl ?_
          clear hs a; intro a hs
          refine wpList_nil (n_then ?_)
          refine c_seq ?_
          refine c_reg ?_
          refine r_ok hs m (ok_load_ag (vs := [v70.v, v72.v, v74.v]) rfl ty29 (bx_at r1) (by kernel_rfl) (by kernel_rfl)) rfl ?_
          clear hs a; intro a hs
          refine r_call (us := [.agg ⟨[v70.v, v72.v, v74.v]⟩]) (Rc := fun v w' => v = (.bool true) ∧ Hp w0 (hh w0) [Bx p270 29 [v261.v, v262.v, v263.v], Bx p268 29 [v70.v, v72.v, v74.v], Sv 4 51 v261.v ([(⟨⟨⟨167772416, rfl⟩, ⟨24, rfl⟩⟩, ⟨167772416, rfl⟩, false⟩ : TRoute)].map cRoute), Sv 7 54 v262.v ([(⟨⟨167772416, rfl⟩, ⟨⟨2, rfl⟩, ⟨0, rfl⟩, ⟨0, rfl⟩, ⟨0, rfl⟩, ⟨0, rfl⟩, ⟨1, rfl⟩⟩⟩ : TNeigh)].map cNeigh), Sv 7 56 v263.v ([(⟨⟨⟨2, rfl⟩, ⟨0, rfl⟩, ⟨0, rfl⟩, ⟨0, rfl⟩, ⟨0, rfl⟩, ⟨1, rfl⟩⟩, ⟨8, rfl⟩⟩ : TFdb)].map cFdb), Sv 12 48 v256.v ([lit13].map cLease), Sv 12 48 v254.v ([lit13].map cLease), Bx p247 48 (cLease lit13), Bx p241 89 (cReq lit6), Bx p237 138 [.string (ByteArray.mk ⟨[107, 101, 114, 110, 101, 108]⟩), .func (.func 73) ⟨[.pointer (some (padd p4 0))]⟩ ⟨[]⟩], Bx p229 89 (cReq lit10), Bx p220 138 [.string (ByteArray.mk ⟨[115, 110, 97, 112, 115, 104, 111, 116]⟩), .func (.func 72) ⟨[]⟩ ⟨[.pointer (some (padd p6 0))]⟩], Bx p212 89 (cReq lit7), Bx p203 138 [.string (ByteArray.mk ⟨[100, 117, 109, 112]⟩), .func (.func 71) ⟨[]⟩ ⟨[.pointer (some (padd p6 0))]⟩], Bx p197 89 (cReq lit6), Sv 12 48 v167.v ([lit13].map cLease), Sv 12 48 v138.v ([lit13].map cLease), Sv 12 48 v136.v ([lit13].map cLease), Sv 7 56 v74.v (([] : List TFdb).map cFdb), Sv 7 54 v72.v (([] : List TNeigh).map cNeigh), Sv 4 51 v70.v (([] : List TRoute).map cRoute), Bx p44 89 (cReq lit10), Sv 2 138 v9.v (([[.string (ByteArray.mk ⟨[100, 117, 109, 112]⟩), .func (.func 71) ⟨[]⟩ ⟨[.pointer (some (padd p6 0))]⟩], [.string (ByteArray.mk ⟨[115, 110, 97, 112, 115, 104, 111, 116]⟩), .func (.func 72) ⟨[]⟩ ⟨[.pointer (some (padd p6 0))]⟩], [.string (ByteArray.mk ⟨[107, 101, 114, 110, 101, 108]⟩), .func (.func 73) ⟨[.pointer (some (padd p4 0))]⟩ ⟨[]⟩], [.string (ByteArray.mk ⟨[97, 99, 113, 117, 105, 114, 101]⟩), .func (.func 74) ⟨[.pointer (some (padd p4 0))]⟩ ⟨[]⟩], [.string (ByteArray.mk ⟨[114, 101, 110, 101, 119]⟩), .func (.func 75) ⟨[.pointer (some (padd p4 0))]⟩ ⟨[]⟩], [.string (ByteArray.mk ⟨[119, 97, 116, 99, 104]⟩), .func (.func 76) ⟨[]⟩ ⟨[.pointer (some (padd p6 0))]⟩]] : List (List Value)).map id), Bx p6 63 [.pointer (some (padd p4 0))], Bx p4 135 (List.append (cSelf lit1) (List.append [v9.v] (List.append (cReq lit6) (List.append [.bool true, v70.v, v72.v, v74.v, v167.v, .int .i64 4, .bool false, nilH.v, .bool false, .int .i64 0, .bool false] (List.append (cPrefix lit2) [.bool false, .bool false])))))] w') hs rfl rfl ca56 rfl (enter (n := 30) Tryz.func56 rfl rfl rfl fun a (hs : St 30 [(0, .agg ⟨[v70.v, v72.v, v74.v]⟩)] a) => ?_) rfl ?_
          · refine c_reg ?_
            refine r_box (cs := [v70.v, v72.v, v74.v]) hs m rfl (by kernel_rfl) rfl ?_
            clear m hs a w271; intro p272 w273 m a hs
            refine r_ok hs m (ok_assign rfl) rfl ?_
            clear hs a; intro a hs
            refine wpList_nil (n_then ?_)
            refine c_seq ?_
            refine c_reg ?_
            refine r_ok hs m (ok_fieldAddr (r := 0) rfl fd29_0 ty25 rfl) rfl ?_
            clear hs a; intro a hs
            refine r_ok hs m (ok_load_sc rfl ty25 (bx_at r0) rfl) rfl ?_
            clear hs a; intro a hs
            refine r_ok hs m (ok_len (r := 0) m rfl sl25 (rc_own r21) rfl) rfl ?_
            clear hs a; intro a hs
            refine r_ok hs m (ok_move rfl) rfl ?_
            clear hs a; intro a hs
            refine wpList_nil (n_then ?_)
            refine wp_block ?_
            refine wp_loop_rounds 13 ?_
            refine rounds_s ?_
            refine c_reg ?_
            refine r_ok hs m (ok_bin (v := .bool false) rfl rfl rfl) rfl ?_
            clear hs a; intro a hs
            refine wpList_nil (n_then ?_)
            refine c_seq ?_
            refine c_false hs rfl rfl ?_
            refine wp_exit ?_
            refine ex_then (ex_then (ex_hit (?_)))
            refine n_then ?_
            refine c_reg ?_
            refine r_ok hs m (ok_fieldAddr (r := 0) rfl fd29_0 ty25 rfl) rfl ?_
            clear hs a; intro a hs
            refine r_ok hs m (ok_load_sc rfl ty25 (bx_at r0) rfl) rfl ?_
            clear hs a; intro a hs
            refine r_call (us := [v70.v, .func (.func 45) ⟨[]⟩ ⟨[]⟩]) (Rc := fun v w' => v = (.bool true) ∧ Hp w0 (hh w0) [Bx p272 29 [v70.v, v72.v, v74.v], Bx p270 29 [v261.v, v262.v, v263.v], Bx p268 29 [v70.v, v72.v, v74.v], Sv 4 51 v261.v ([(⟨⟨⟨167772416, rfl⟩, ⟨24, rfl⟩⟩, ⟨167772416, rfl⟩, false⟩ : TRoute)].map cRoute), Sv 7 54 v262.v ([(⟨⟨167772416, rfl⟩, ⟨⟨2, rfl⟩, ⟨0, rfl⟩, ⟨0, rfl⟩, ⟨0, rfl⟩, ⟨0, rfl⟩, ⟨1, rfl⟩⟩⟩ : TNeigh)].map cNeigh), Sv 7 56 v263.v ([(⟨⟨⟨2, rfl⟩, ⟨0, rfl⟩, ⟨0, rfl⟩, ⟨0, rfl⟩, ⟨0, rfl⟩, ⟨1, rfl⟩⟩, ⟨8, rfl⟩⟩ : TFdb)].map cFdb), Sv 12 48 v256.v ([lit13].map cLease), Sv 12 48 v254.v ([lit13].map cLease), Bx p247 48 (cLease lit13), Bx p241 89 (cReq lit6), Bx p237 138 [.string (ByteArray.mk ⟨[107, 101, 114, 110, 101, 108]⟩), .func (.func 73) ⟨[.pointer (some (padd p4 0))]⟩ ⟨[]⟩], Bx p229 89 (cReq lit10), Bx p220 138 [.string (ByteArray.mk ⟨[115, 110, 97, 112, 115, 104, 111, 116]⟩), .func (.func 72) ⟨[]⟩ ⟨[.pointer (some (padd p6 0))]⟩], Bx p212 89 (cReq lit7), Bx p203 138 [.string (ByteArray.mk ⟨[100, 117, 109, 112]⟩), .func (.func 71) ⟨[]⟩ ⟨[.pointer (some (padd p6 0))]⟩], Bx p197 89 (cReq lit6), Sv 12 48 v167.v ([lit13].map cLease), Sv 12 48 v138.v ([lit13].map cLease), Sv 12 48 v136.v ([lit13].map cLease), Sv 7 56 v74.v (([] : List TFdb).map cFdb), Sv 7 54 v72.v (([] : List TNeigh).map cNeigh), Sv 4 51 v70.v (([] : List TRoute).map cRoute), Bx p44 89 (cReq lit10), Sv 2 138 v9.v (([[.string (ByteArray.mk ⟨[100, 117, 109, 112]⟩), .func (.func 71) ⟨[]⟩ ⟨[.pointer (some (padd p6 0))]⟩], [.string (ByteArray.mk ⟨[115, 110, 97, 112, 115, 104, 111, 116]⟩), .func (.func 72) ⟨[]⟩ ⟨[.pointer (some (padd p6 0))]⟩], [.string (ByteArray.mk ⟨[107, 101, 114, 110, 101, 108]⟩), .func (.func 73) ⟨[.pointer (some (padd p4 0))]⟩ ⟨[]⟩], [.string (ByteArray.mk ⟨[97, 99, 113, 117, 105, 114, 101]⟩), .func (.func 74) ⟨[.pointer (some (padd p4 0))]⟩ ⟨[]⟩], [.string (ByteArray.mk ⟨[114, 101, 110, 101, 119]⟩), .func (.func 75) ⟨[.pointer (some (padd p4 0))]⟩ ⟨[]⟩], [.string (ByteArray.mk ⟨[119, 97, 116, 99, 104]⟩), .func (.func 76) ⟨[]⟩ ⟨[.pointer (some (padd p6 0))]⟩]] : List (List Value)).map id), Bx p6 63 [.pointer (some (padd p4 0))], Bx p4 135 (List.append (cSelf lit1) (List.append [v9.v] (List.append (cReq lit6) (List.append [.bool true, v70.v, v72.v, v74.v, v167.v, .int .i64 4, .bool false, nilH.v, .bool false, .int .i64 0, .bool false] (List.append (cPrefix lit2) [.bool false, .bool false])))))] w') hs rfl rfl ca109 rfl (enter (n := 28) Tryz.func109 rfl rfl rfl fun a (hs : St 28 [(0, v70.v), (1, .func (.func 45) ⟨[]⟩ ⟨[]⟩)] a) => ?_) rfl ?_
            · refine c_reg ?_
              refine r_ok hs m (ok_assign rfl) rfl ?_
              clear hs a; intro a hs
              refine wpList_nil (n_then ?_)
              refine c_seq ?_
              refine c_reg ?_
              refine r_ok hs m (ok_move rfl) rfl ?_
              clear hs a; intro a hs
              refine r_ok hs m (ok_len (r := 0) m rfl sl25 (rc_own r21) rfl) rfl ?_
              clear hs a; intro a hs
              refine r_ok hs m (ok_move rfl) rfl ?_
              clear hs a; intro a hs
              refine wpList_nil (n_then ?_)
              refine wp_block ?_
              refine wp_loop_rounds 13 ?_
              refine rounds_s ?_
              refine c_reg ?_
              refine r_ok hs m (ok_bin (v := .bool false) rfl rfl rfl) rfl ?_
              clear hs a; intro a hs
              refine wpList_nil (n_then ?_)
              refine c_seq ?_
              refine c_false hs rfl rfl ?_
              refine wp_exit ?_
              refine ex_then (ex_then (ex_hit (?_)))
              refine n_then ?_
              refine c_reg ?_
              refine r_ok hs m (ok_assign rfl) rfl ?_
              clear hs a; intro a hs
              refine wpList_nil (n_then ?_)
              refine wp_ret ?_
              refine leave hs (vs := [.bool true]) rfl ⟨rfl, trivial⟩ ?_
              exact ⟨_, rfl, rfl, m.sub (.c r0 (.c r0 (.c r0 (.c r0 (.c r0 (.c r0 (.c r0 (.c r0 (.c r0 (.c r0 (.c r0 (.c r0 (.c r0 (.c r0 (.c r0 (.c r0 (.c r0 (.c r0 (.c r0 (.c r0 (.c r0 (.c r0 (.c r0 (.c r0 (.c r0 (.c r0 .n))))))))))))))))))))))))))⟩
            clear hs a m w273; rintro _ w276 ⟨rfl, m⟩ a hs
            refine r_ok hs m (ok_move rfl) rfl ?_
            clear hs a; intro a hs
            refine r_okg hs rfl rfl rfl m (ok_fieldAddr (r := 1) rfl fd29_1 ty26 rfl) rfl ?_
            clear hs a; intro a hs
            refine r_okg hs rfl rfl rfl m (ok_load_sc rfl ty26 (bx_at r0) rfl) rfl ?_
            clear hs a; intro a hs
            refine g_strip hs rfl rfl rfl ?_
            refine r_call (us := [v72.v, .func (.func 47) ⟨[]⟩ ⟨[]⟩]) (Rc := fun v w' => v = (.bool true) ∧ Hp w0 (hh w0) [Bx p272 29 [v70.v, v72.v, v74.v], Bx p270 29 [v261.v, v262.v, v263.v], Bx p268 29 [v70.v, v72.v, v74.v], Sv 4 51 v261.v ([(⟨⟨⟨167772416, rfl⟩, ⟨24, rfl⟩⟩, ⟨167772416, rfl⟩, false⟩ : TRoute)].map cRoute), Sv 7 54 v262.v ([(⟨⟨167772416, rfl⟩, ⟨⟨2, rfl⟩, ⟨0, rfl⟩, ⟨0, rfl⟩, ⟨0, rfl⟩, ⟨0, rfl⟩, ⟨1, rfl⟩⟩⟩ : TNeigh)].map cNeigh), Sv 7 56 v263.v ([(⟨⟨⟨2, rfl⟩, ⟨0, rfl⟩, ⟨0, rfl⟩, ⟨0, rfl⟩, ⟨0, rfl⟩, ⟨1, rfl⟩⟩, ⟨8, rfl⟩⟩ : TFdb)].map cFdb), Sv 12 48 v256.v ([lit13].map cLease), Sv 12 48 v254.v ([lit13].map cLease), Bx p247 48 (cLease lit13), Bx p241 89 (cReq lit6), Bx p237 138 [.string (ByteArray.mk ⟨[107, 101, 114, 110, 101, 108]⟩), .func (.func 73) ⟨[.pointer (some (padd p4 0))]⟩ ⟨[]⟩], Bx p229 89 (cReq lit10), Bx p220 138 [.string (ByteArray.mk ⟨[115, 110, 97, 112, 115, 104, 111, 116]⟩), .func (.func 72) ⟨[]⟩ ⟨[.pointer (some (padd p6 0))]⟩], Bx p212 89 (cReq lit7), Bx p203 138 [.string (ByteArray.mk ⟨[100, 117, 109, 112]⟩), .func (.func 71) ⟨[]⟩ ⟨[.pointer (some (padd p6 0))]⟩], Bx p197 89 (cReq lit6), Sv 12 48 v167.v ([lit13].map cLease), Sv 12 48 v138.v ([lit13].map cLease), Sv 12 48 v136.v ([lit13].map cLease), Sv 7 56 v74.v (([] : List TFdb).map cFdb), Sv 7 54 v72.v (([] : List TNeigh).map cNeigh), Sv 4 51 v70.v (([] : List TRoute).map cRoute), Bx p44 89 (cReq lit10), Sv 2 138 v9.v (([[.string (ByteArray.mk ⟨[100, 117, 109, 112]⟩), .func (.func 71) ⟨[]⟩ ⟨[.pointer (some (padd p6 0))]⟩], [.string (ByteArray.mk ⟨[115, 110, 97, 112, 115, 104, 111, 116]⟩), .func (.func 72) ⟨[]⟩ ⟨[.pointer (some (padd p6 0))]⟩], [.string (ByteArray.mk ⟨[107, 101, 114, 110, 101, 108]⟩), .func (.func 73) ⟨[.pointer (some (padd p4 0))]⟩ ⟨[]⟩], [.string (ByteArray.mk ⟨[97, 99, 113, 117, 105, 114, 101]⟩), .func (.func 74) ⟨[.pointer (some (padd p4 0))]⟩ ⟨[]⟩], [.string (ByteArray.mk ⟨[114, 101, 110, 101, 119]⟩), .func (.func 75) ⟨[.pointer (some (padd p4 0))]⟩ ⟨[]⟩], [.string (ByteArray.mk ⟨[119, 97, 116, 99, 104]⟩), .func (.func 76) ⟨[]⟩ ⟨[.pointer (some (padd p6 0))]⟩]] : List (List Value)).map id), Bx p6 63 [.pointer (some (padd p4 0))], Bx p4 135 (List.append (cSelf lit1) (List.append [v9.v] (List.append (cReq lit6) (List.append [.bool true, v70.v, v72.v, v74.v, v167.v, .int .i64 4, .bool false, nilH.v, .bool false, .int .i64 0, .bool false] (List.append (cPrefix lit2) [.bool false, .bool false])))))] w') hs rfl rfl ca110 rfl (enter (n := 28) Tryz.func110 rfl rfl rfl fun a (hs : St 28 [(0, v72.v), (1, .func (.func 47) ⟨[]⟩ ⟨[]⟩)] a) => ?_) rfl ?_
            · refine c_reg ?_
              refine r_ok hs m (ok_assign rfl) rfl ?_
              clear hs a; intro a hs
              refine wpList_nil (n_then ?_)
              refine c_seq ?_
              refine c_reg ?_
              refine r_ok hs m (ok_move rfl) rfl ?_
              clear hs a; intro a hs
              refine r_ok hs m (ok_len (r := 0) m rfl sl26 (rc_own r20) rfl) rfl ?_
              clear hs a; intro a hs
              refine r_ok hs m (ok_move rfl) rfl ?_
              clear hs a; intro a hs
              refine wpList_nil (n_then ?_)
              refine wp_block ?_
              refine wp_loop_rounds 13 ?_
              refine rounds_s ?_
              refine c_reg ?_
              refine r_ok hs m (ok_bin (v := .bool false) rfl rfl rfl) rfl ?_
              clear hs a; intro a hs
              refine wpList_nil (n_then ?_)
              refine c_seq ?_
              refine c_false hs rfl rfl ?_
              refine wp_exit ?_
              refine ex_then (ex_then (ex_hit (?_)))
              refine n_then ?_
              refine c_reg ?_
              refine r_ok hs m (ok_assign rfl) rfl ?_
              clear hs a; intro a hs
              refine wpList_nil (n_then ?_)
              refine wp_ret ?_
              refine leave hs (vs := [.bool true]) rfl ⟨rfl, trivial⟩ ?_
              exact ⟨_, rfl, rfl, m.sub (.c r0 (.c r0 (.c r0 (.c r0 (.c r0 (.c r0 (.c r0 (.c r0 (.c r0 (.c r0 (.c r0 (.c r0 (.c r0 (.c r0 (.c r0 (.c r0 (.c r0 (.c r0 (.c r0 (.c r0 (.c r0 (.c r0 (.c r0 (.c r0 (.c r0 (.c r0 .n))))))))))))))))))))))))))⟩
            clear hs a m w276; rintro _ w278 ⟨rfl, m⟩ a hs
            refine r_ok hs m (ok_pick (r := .bool true) rfl rfl rfl rfl) rfl ?_
            clear hs a; intro a hs
            refine r_ok hs m (ok_move rfl) rfl ?_
            clear hs a; intro a hs
            refine r_okg hs rfl rfl rfl m (ok_fieldAddr (r := 2) rfl fd29_2 ty27 rfl) rfl ?_
            clear hs a; intro a hs
            refine r_okg hs rfl rfl rfl m (ok_load_sc rfl ty27 (bx_at r0) rfl) rfl ?_
            clear hs a; intro a hs
            refine g_strip hs rfl rfl rfl ?_
            refine r_call (us := [v74.v, .func (.func 49) ⟨[]⟩ ⟨[]⟩]) (Rc := fun v w' => v = (.bool true) ∧ Hp w0 (hh w0) [Bx p272 29 [v70.v, v72.v, v74.v], Bx p270 29 [v261.v, v262.v, v263.v], Bx p268 29 [v70.v, v72.v, v74.v], Sv 4 51 v261.v ([(⟨⟨⟨167772416, rfl⟩, ⟨24, rfl⟩⟩, ⟨167772416, rfl⟩, false⟩ : TRoute)].map cRoute), Sv 7 54 v262.v ([(⟨⟨167772416, rfl⟩, ⟨⟨2, rfl⟩, ⟨0, rfl⟩, ⟨0, rfl⟩, ⟨0, rfl⟩, ⟨0, rfl⟩, ⟨1, rfl⟩⟩⟩ : TNeigh)].map cNeigh), Sv 7 56 v263.v ([(⟨⟨⟨2, rfl⟩, ⟨0, rfl⟩, ⟨0, rfl⟩, ⟨0, rfl⟩, ⟨0, rfl⟩, ⟨1, rfl⟩⟩, ⟨8, rfl⟩⟩ : TFdb)].map cFdb), Sv 12 48 v256.v ([lit13].map cLease), Sv 12 48 v254.v ([lit13].map cLease), Bx p247 48 (cLease lit13), Bx p241 89 (cReq lit6), Bx p237 138 [.string (ByteArray.mk ⟨[107, 101, 114, 110, 101, 108]⟩), .func (.func 73) ⟨[.pointer (some (padd p4 0))]⟩ ⟨[]⟩], Bx p229 89 (cReq lit10), Bx p220 138 [.string (ByteArray.mk ⟨[115, 110, 97, 112, 115, 104, 111, 116]⟩), .func (.func 72) ⟨[]⟩ ⟨[.pointer (some (padd p6 0))]⟩], Bx p212 89 (cReq lit7), Bx p203 138 [.string (ByteArray.mk ⟨[100, 117, 109, 112]⟩), .func (.func 71) ⟨[]⟩ ⟨[.pointer (some (padd p6 0))]⟩], Bx p197 89 (cReq lit6), Sv 12 48 v167.v ([lit13].map cLease), Sv 12 48 v138.v ([lit13].map cLease), Sv 12 48 v136.v ([lit13].map cLease), Sv 7 56 v74.v (([] : List TFdb).map cFdb), Sv 7 54 v72.v (([] : List TNeigh).map cNeigh), Sv 4 51 v70.v (([] : List TRoute).map cRoute), Bx p44 89 (cReq lit10), Sv 2 138 v9.v (([[.string (ByteArray.mk ⟨[100, 117, 109, 112]⟩), .func (.func 71) ⟨[]⟩ ⟨[.pointer (some (padd p6 0))]⟩], [.string (ByteArray.mk ⟨[115, 110, 97, 112, 115, 104, 111, 116]⟩), .func (.func 72) ⟨[]⟩ ⟨[.pointer (some (padd p6 0))]⟩], [.string (ByteArray.mk ⟨[107, 101, 114, 110, 101, 108]⟩), .func (.func 73) ⟨[.pointer (some (padd p4 0))]⟩ ⟨[]⟩], [.string (ByteArray.mk ⟨[97, 99, 113, 117, 105, 114, 101]⟩), .func (.func 74) ⟨[.pointer (some (padd p4 0))]⟩ ⟨[]⟩], [.string (ByteArray.mk ⟨[114, 101, 110, 101, 119]⟩), .func (.func 75) ⟨[.pointer (some (padd p4 0))]⟩ ⟨[]⟩], [.string (ByteArray.mk ⟨[119, 97, 116, 99, 104]⟩), .func (.func 76) ⟨[]⟩ ⟨[.pointer (some (padd p6 0))]⟩]] : List (List Value)).map id), Bx p6 63 [.pointer (some (padd p4 0))], Bx p4 135 (List.append (cSelf lit1) (List.append [v9.v] (List.append (cReq lit6) (List.append [.bool true, v70.v, v72.v, v74.v, v167.v, .int .i64 4, .bool false, nilH.v, .bool false, .int .i64 0, .bool false] (List.append (cPrefix lit2) [.bool false, .bool false])))))] w') hs rfl rfl ca111 rfl (enter (n := 28) Tryz.func111 rfl rfl rfl fun a (hs : St 28 [(0, v74.v), (1, .func (.func 49) ⟨[]⟩ ⟨[]⟩)] a) => ?_) rfl ?_
            · refine c_reg ?_
              refine r_ok hs m (ok_assign rfl) rfl ?_
              clear hs a; intro a hs
              refine wpList_nil (n_then ?_)
              refine c_seq ?_
              refine c_reg ?_
              refine r_ok hs m (ok_move rfl) rfl ?_
              clear hs a; intro a hs
              refine r_ok hs m (ok_len (r := 0) m rfl sl27 (rc_own r19) rfl) rfl ?_
              clear hs a; intro a hs
              refine r_ok hs m (ok_move rfl) rfl ?_
              clear hs a; intro a hs
              refine wpList_nil (n_then ?_)
              refine wp_block ?_
              refine wp_loop_rounds 13 ?_
              refine rounds_s ?_
              refine c_reg ?_
              refine r_ok hs m (ok_bin (v := .bool false) rfl rfl rfl) rfl ?_
              clear hs a; intro a hs
              refine wpList_nil (n_then ?_)
              refine c_seq ?_
              refine c_false hs rfl rfl ?_
              refine wp_exit ?_
              refine ex_then (ex_then (ex_hit (?_)))
              refine n_then ?_
              refine c_reg ?_
              refine r_ok hs m (ok_assign rfl) rfl ?_
              clear hs a; intro a hs
              refine wpList_nil (n_then ?_)
              refine wp_ret ?_
              refine leave hs (vs := [.bool true]) rfl ⟨rfl, trivial⟩ ?_
              exact ⟨_, rfl, rfl, m.sub (.c r0 (.c r0 (.c r0 (.c r0 (.c r0 (.c r0 (.c r0 (.c r0 (.c r0 (.c r0 (.c r0 (.c r0 (.c r0 (.c r0 (.c r0 (.c r0 (.c r0 (.c r0 (.c r0 (.c r0 (.c r0 (.c r0 (.c r0 (.c r0 (.c r0 (.c r0 .n))))))))))))))))))))))))))⟩
            clear hs a m w278; rintro _ w280 ⟨rfl, m⟩ a hs
            refine r_ok hs m (ok_pick (r := .bool true) rfl rfl rfl rfl) rfl ?_
            clear hs a; intro a hs
            refine r_ok hs m (ok_assign rfl) rfl ?_
            clear hs a; intro a hs
            refine wpList_nil (n_then ?_)
            refine wp_ret ?_
            refine leave hs (vs := [.bool true]) rfl ⟨rfl, trivial⟩ ?_
            exact ⟨_, rfl, rfl, m.sub (.c r1 (.c r1 (.c r1 (.c r1 (.c r1 (.c r1 (.c r1 (.c r1 (.c r1 (.c r1 (.c r1 (.c r1 (.c r1 (.c r1 (.c r1 (.c r1 (.c r1 (.c r1 (.c r1 (.c r1 (.c r1 (.c r1 (.c r1 (.c r1 (.c r1 .n)))))))))))))))))))))))))⟩
          clear hs a m w271; rintro _ w281 ⟨rfl, m⟩ a hs
          refine r_ok hs m (ok_not rfl) rfl ?_
          clear hs a; intro a hs
          refine r_ok hs m (ok_move rfl) rfl ?_
          clear hs a; intro a hs
          refine r_okg hs rfl rfl rfl m (ok_load_ag (vs := [v261.v, v262.v, v263.v]) rfl ty29 (bx_at r0) (by kernel_rfl) (by kernel_rfl)) rfl ?_
          clear hs a; intro a hs
          refine g_strip hs rfl rfl rfl ?_
          refine r_call (us := [.agg ⟨[v261.v, v262.v, v263.v]⟩]) (Rc := fun v w' => v = (.bool true) ∧ Hp w0 (hh w0) [Bx p270 29 [v261.v, v262.v, v263.v], Bx p268 29 [v70.v, v72.v, v74.v], Sv 4 51 v261.v ([(⟨⟨⟨167772416, rfl⟩, ⟨24, rfl⟩⟩, ⟨167772416, rfl⟩, false⟩ : TRoute)].map cRoute), Sv 7 54 v262.v ([(⟨⟨167772416, rfl⟩, ⟨⟨2, rfl⟩, ⟨0, rfl⟩, ⟨0, rfl⟩, ⟨0, rfl⟩, ⟨0, rfl⟩, ⟨1, rfl⟩⟩⟩ : TNeigh)].map cNeigh), Sv 7 56 v263.v ([(⟨⟨⟨2, rfl⟩, ⟨0, rfl⟩, ⟨0, rfl⟩, ⟨0, rfl⟩, ⟨0, rfl⟩, ⟨1, rfl⟩⟩, ⟨8, rfl⟩⟩ : TFdb)].map cFdb), Sv 12 48 v256.v ([lit13].map cLease), Sv 12 48 v254.v ([lit13].map cLease), Bx p247 48 (cLease lit13), Bx p241 89 (cReq lit6), Bx p237 138 [.string (ByteArray.mk ⟨[107, 101, 114, 110, 101, 108]⟩), .func (.func 73) ⟨[.pointer (some (padd p4 0))]⟩ ⟨[]⟩], Bx p229 89 (cReq lit10), Bx p220 138 [.string (ByteArray.mk ⟨[115, 110, 97, 112, 115, 104, 111, 116]⟩), .func (.func 72) ⟨[]⟩ ⟨[.pointer (some (padd p6 0))]⟩], Bx p212 89 (cReq lit7), Bx p203 138 [.string (ByteArray.mk ⟨[100, 117, 109, 112]⟩), .func (.func 71) ⟨[]⟩ ⟨[.pointer (some (padd p6 0))]⟩], Bx p197 89 (cReq lit6), Sv 12 48 v167.v ([lit13].map cLease), Sv 12 48 v138.v ([lit13].map cLease), Sv 12 48 v136.v ([lit13].map cLease), Sv 7 56 v74.v (([] : List TFdb).map cFdb), Sv 7 54 v72.v (([] : List TNeigh).map cNeigh), Sv 4 51 v70.v (([] : List TRoute).map cRoute), Bx p44 89 (cReq lit10), Sv 2 138 v9.v (([[.string (ByteArray.mk ⟨[100, 117, 109, 112]⟩), .func (.func 71) ⟨[]⟩ ⟨[.pointer (some (padd p6 0))]⟩], [.string (ByteArray.mk ⟨[115, 110, 97, 112, 115, 104, 111, 116]⟩), .func (.func 72) ⟨[]⟩ ⟨[.pointer (some (padd p6 0))]⟩], [.string (ByteArray.mk ⟨[107, 101, 114, 110, 101, 108]⟩), .func (.func 73) ⟨[.pointer (some (padd p4 0))]⟩ ⟨[]⟩], [.string (ByteArray.mk ⟨[97, 99, 113, 117, 105, 114, 101]⟩), .func (.func 74) ⟨[.pointer (some (padd p4 0))]⟩ ⟨[]⟩], [.string (ByteArray.mk ⟨[114, 101, 110, 101, 119]⟩), .func (.func 75) ⟨[.pointer (some (padd p4 0))]⟩ ⟨[]⟩], [.string (ByteArray.mk ⟨[119, 97, 116, 99, 104]⟩), .func (.func 76) ⟨[]⟩ ⟨[.pointer (some (padd p6 0))]⟩]] : List (List Value)).map id), Bx p6 63 [.pointer (some (padd p4 0))], Bx p4 135 (List.append (cSelf lit1) (List.append [v9.v] (List.append (cReq lit6) (List.append [.bool true, v70.v, v72.v, v74.v, v167.v, .int .i64 4, .bool false, nilH.v, .bool false, .int .i64 0, .bool false] (List.append (cPrefix lit2) [.bool false, .bool false])))))] w') hs rfl rfl ca56 rfl (enter (n := 30) Tryz.func56 rfl rfl rfl fun a (hs : St 30 [(0, .agg ⟨[v261.v, v262.v, v263.v]⟩)] a) => ?_) rfl ?_
          · refine c_reg ?_
            refine r_box (cs := [v261.v, v262.v, v263.v]) hs m rfl (by kernel_rfl) rfl ?_
            clear m hs a w281; intro p282 w283 m a hs
            refine r_ok hs m (ok_assign rfl) rfl ?_
            clear hs a; intro a hs
            refine wpList_nil (n_then ?_)
            refine c_seq ?_
            refine c_reg ?_
            refine r_ok hs m (ok_fieldAddr (r := 0) rfl fd29_0 ty25 rfl) rfl ?_
            clear hs a; intro a hs
            refine r_ok hs m (ok_load_sc rfl ty25 (bx_at r0) rfl) rfl ?_
            clear hs a; intro a hs
            refine r_ok hs m (ok_len (r := 1) m rfl sl25 (rc_own r3) rfl) rfl ?_
            clear hs a; intro a hs
            refine r_ok hs m (ok_move rfl) rfl ?_
            clear hs a; intro a hs
            refine wpList_nil (n_then ?_)
            refine wp_block ?_
            refine wp_loop_rounds 13 ?_
            refine rounds_s ?_
            refine c_reg ?_
            refine r_ok hs m (ok_bin (v := .bool true) rfl rfl rfl) rfl ?_
            clear hs a; intro a hs
            refine wpList_nil (n_then ?_)
            refine c_seq ?_
            refine c_true hs rfl rfl ?_
            refine wp_skip ?_
            refine n_then ?_
            refine c_seq ?_
            refine wp_block ?_
            refine c_reg ?_
            refine elO (c := cRoute) (e := (⟨⟨⟨167772416, rfl⟩, ⟨24, rfl⟩⟩, ⟨167772416, rfl⟩, false⟩ : TRoute)) hs m (x := (.tmp 6)) (ix := (.tmp 8)) rfl rfl sl25 ty51 r3 (by omega) rfl fun p285 hp286 ok287 => ?_
            refine r_ok hs m (ok287 _ _ _ _ _) rfl ?_
            clear hs a; intro a hs
            refine r_ok hs m (ok_load_ag (vs := cRoute (⟨⟨⟨167772416, rfl⟩, ⟨24, rfl⟩⟩, ⟨167772416, rfl⟩, false⟩ : TRoute)) rfl ty51 (el_at hp286 r3 (get_map _ (rfl : ([(⟨⟨⟨167772416, rfl⟩, ⟨24, rfl⟩⟩, ⟨167772416, rfl⟩, false⟩ : TRoute)])[0]? = some (⟨⟨⟨167772416, rfl⟩, ⟨24, rfl⟩⟩, ⟨167772416, rfl⟩, false⟩ : TRoute)))) (by kernel_rfl) (by kernel_rfl)) rfl ?_
            clear hs a; intro a hs
            refine r_alloc hs m ze51 rfl ?_
            clear m hs a w283; intro p288 w289 m a hs
            refine r_store (cs' := cRoute (⟨⟨⟨167772416, rfl⟩, ⟨24, rfl⟩⟩, ⟨167772416, rfl⟩, false⟩ : TRoute)) (vs := cRoute (⟨⟨⟨167772416, rfl⟩, ⟨24, rfl⟩⟩, ⟨167772416, rfl⟩, false⟩ : TRoute)) hs m rfl rfl ty51 s0 (by kernel_rfl) (by kernel_rfl) (by kernel_rfl) (by kernel_rfl) (by kernel_rfl) ?_
            clear m w289; intro w290 m
            refine wpList_nil (n_then ?_)
            refine c_reg ?_
            refine r_ok hs m (ok_fieldAddr (r := 0) rfl fd51_0 ty44 rfl) rfl ?_
            clear hs a; intro a hs
            refine r_ok hs m (ok_load_ag (vs := cPrefix ⟨⟨167772416, rfl⟩, ⟨24, rfl⟩⟩) rfl ty44 (bx_at r0) (by kernel_rfl) (by kernel_rfl)) rfl ?_
            clear hs a; intro a hs
            refine r_callP hs m rfl rfl ca43 rfl (valid_c ⟨⟨167772416, rfl⟩, ⟨24, rfl⟩⟩ _  ) rfl ?_
            clear m hs a w290; intro w291 m a hs
            have q292 : validM ⟨⟨167772416, rfl⟩, ⟨24, rfl⟩⟩ = (true : Bool) := by kernel_rfl
            rw [q292] at hs
            refine r_ok hs m (ok_not rfl) rfl ?_
            clear hs a; intro a hs
            refine wpList_nil (n_then ?_)
            refine c_false hs rfl rfl ?_
            refine wp_skip ?_
            refine n_block (n_then ?_)
            refine c_last ?_
            refine r_ok hs m (ok_add (r := 1) rfl rfl rfl) rfl ?_
            clear hs a; intro a hs
            refine r_ok hs m (ok_move rfl) rfl ?_
            clear hs a; intro a hs
            refine wpList_nil (n_then ?_)
            refine rounds_s ?_
            refine c_reg ?_
            refine r_ok hs m (ok_bin (v := .bool false) rfl rfl rfl) rfl ?_
            clear hs a; intro a hs
            refine wpList_nil (n_then ?_)
            refine c_seq ?_
            refine c_false hs rfl rfl ?_
            refine wp_exit ?_
            refine ex_then (ex_then (ex_hit (?_)))
            refine n_then ?_
            refine c_reg ?_
            refine r_ok hs m (ok_fieldAddr (r := 0) rfl fd29_0 ty25 rfl) rfl ?_
            clear hs a; intro a hs
            refine r_ok hs m (ok_load_sc rfl ty25 (bx_at r1) rfl) rfl ?_
            clear hs a; intro a hs
            refine r_call (us := [v261.v, .func (.func 45) ⟨[]⟩ ⟨[]⟩]) (Rc := fun v w' => v = (.bool true) ∧ Hp w0 (hh w0) [Bx p288 51 (cRoute (⟨⟨⟨167772416, rfl⟩, ⟨24, rfl⟩⟩, ⟨167772416, rfl⟩, false⟩ : TRoute)), Bx p282 29 [v261.v, v262.v, v263.v], Bx p270 29 [v261.v, v262.v, v263.v], Bx p268 29 [v70.v, v72.v, v74.v], Sv 4 51 v261.v ([(⟨⟨⟨167772416, rfl⟩, ⟨24, rfl⟩⟩, ⟨167772416, rfl⟩, false⟩ : TRoute)].map cRoute), Sv 7 54 v262.v ([(⟨⟨167772416, rfl⟩, ⟨⟨2, rfl⟩, ⟨0, rfl⟩, ⟨0, rfl⟩, ⟨0, rfl⟩, ⟨0, rfl⟩, ⟨1, rfl⟩⟩⟩ : TNeigh)].map cNeigh), Sv 7 56 v263.v ([(⟨⟨⟨2, rfl⟩, ⟨0, rfl⟩, ⟨0, rfl⟩, ⟨0, rfl⟩, ⟨0, rfl⟩, ⟨1, rfl⟩⟩, ⟨8, rfl⟩⟩ : TFdb)].map cFdb), Sv 12 48 v256.v ([lit13].map cLease), Sv 12 48 v254.v ([lit13].map cLease), Bx p247 48 (cLease lit13), Bx p241 89 (cReq lit6), Bx p237 138 [.string (ByteArray.mk ⟨[107, 101, 114, 110, 101, 108]⟩), .func (.func 73) ⟨[.pointer (some (padd p4 0))]⟩ ⟨[]⟩], Bx p229 89 (cReq lit10), Bx p220 138 [.string (ByteArray.mk ⟨[115, 110, 97, 112, 115, 104, 111, 116]⟩), .func (.func 72) ⟨[]⟩ ⟨[.pointer (some (padd p6 0))]⟩], Bx p212 89 (cReq lit7), Bx p203 138 [.string (ByteArray.mk ⟨[100, 117, 109, 112]⟩), .func (.func 71) ⟨[]⟩ ⟨[.pointer (some (padd p6 0))]⟩], Bx p197 89 (cReq lit6), Sv 12 48 v167.v ([lit13].map cLease), Sv 12 48 v138.v ([lit13].map cLease), Sv 12 48 v136.v ([lit13].map cLease), Sv 7 56 v74.v (([] : List TFdb).map cFdb), Sv 7 54 v72.v (([] : List TNeigh).map cNeigh), Sv 4 51 v70.v (([] : List TRoute).map cRoute), Bx p44 89 (cReq lit10), Sv 2 138 v9.v (([[.string (ByteArray.mk ⟨[100, 117, 109, 112]⟩), .func (.func 71) ⟨[]⟩ ⟨[.pointer (some (padd p6 0))]⟩], [.string (ByteArray.mk ⟨[115, 110, 97, 112, 115, 104, 111, 116]⟩), .func (.func 72) ⟨[]⟩ ⟨[.pointer (some (padd p6 0))]⟩], [.string (ByteArray.mk ⟨[107, 101, 114, 110, 101, 108]⟩), .func (.func 73) ⟨[.pointer (some (padd p4 0))]⟩ ⟨[]⟩], [.string (ByteArray.mk ⟨[97, 99, 113, 117, 105, 114, 101]⟩), .func (.func 74) ⟨[.pointer (some (padd p4 0))]⟩ ⟨[]⟩], [.string (ByteArray.mk ⟨[114, 101, 110, 101, 119]⟩), .func (.func 75) ⟨[.pointer (some (padd p4 0))]⟩ ⟨[]⟩], [.string (ByteArray.mk ⟨[119, 97, 116, 99, 104]⟩), .func (.func 76) ⟨[]⟩ ⟨[.pointer (some (padd p6 0))]⟩]] : List (List Value)).map id), Bx p6 63 [.pointer (some (padd p4 0))], Bx p4 135 (List.append (cSelf lit1) (List.append [v9.v] (List.append (cReq lit6) (List.append [.bool true, v70.v, v72.v, v74.v, v167.v, .int .i64 4, .bool false, nilH.v, .bool false, .int .i64 0, .bool false] (List.append (cPrefix lit2) [.bool false, .bool false])))))] w') hs rfl rfl ca109 rfl (enter (n := 28) Tryz.func109 rfl rfl rfl fun a (hs : St 28 [(0, v261.v), (1, .func (.func 45) ⟨[]⟩ ⟨[]⟩)] a) => ?_) rfl ?_
            · refine c_reg ?_
              refine r_ok hs m (ok_assign rfl) rfl ?_
              clear hs a; intro a hs
              refine wpList_nil (n_then ?_)
              refine c_seq ?_
              refine c_reg ?_
              refine r_ok hs m (ok_move rfl) rfl ?_
              clear hs a; intro a hs
              refine r_ok hs m (ok_len (r := 1) m rfl sl25 (rc_own r4) rfl) rfl ?_
              clear hs a; intro a hs
              refine r_ok hs m (ok_move rfl) rfl ?_
              clear hs a; intro a hs
              refine wpList_nil (n_then ?_)
              refine wp_block ?_
              refine wp_loop_rounds 13 ?_
              refine rounds_s ?_
              refine c_reg ?_
              refine r_ok hs m (ok_bin (v := .bool true) rfl rfl rfl) rfl ?_
              clear hs a; intro a hs
              refine wpList_nil (n_then ?_)
              refine c_seq ?_
              refine c_true hs rfl rfl ?_
              refine wp_skip ?_
              refine n_then ?_
              refine c_seq ?_
              refine wp_block ?_
              refine c_reg ?_
              refine r_ok hs m (ok_move rfl) rfl ?_
              clear hs a; intro a hs
              refine r_ok hs m (ok_assign rfl) rfl ?_
              clear hs a; intro a hs
              refine wpList_nil (n_then ?_)
              refine c_draw m mo (by kernel_rfl) ?_
              refine q_ok hs (ok_move rfl) rfl ?_
              clear hs a; intro a hs
              refine q_ok hs (ok_bin (v := .bool false) rfl rfl rfl) rfl ?_
              clear hs a; intro a hs
              refine q_ok hs (ok_move rfl) rfl ?_
              clear hs a; intro a hs
              refine q_out hs rfl rfl rfl rfl ?_
              clear hs a; intro a hs
              refine q_out hs rfl rfl rfl rfl ?_
              clear hs a; intro a hs
              refine q_out hs rfl rfl rfl rfl ?_
              clear hs a; intro a hs
              refine q_out hs rfl rfl rfl rfl ?_
              clear hs a; intro a hs
              refine q_out hs rfl rfl rfl rfl ?_
              clear hs a; intro a hs
              refine q_out hs rfl rfl rfl rfl ?_
              clear hs a; intro a hs
              refine q_out hs rfl rfl rfl rfl ?_
              clear hs a; intro a hs
              refine q_out hs rfl rfl rfl rfl ?_
              clear hs a; intro a hs
              refine q_out hs rfl rfl rfl rfl ?_
              clear hs a; intro a hs
              refine q_out hs rfl rfl rfl rfl ?_
              clear hs a; intro a hs
              refine q_out hs rfl rfl rfl rfl ?_
              clear hs a; intro a hs
              refine q_out hs rfl rfl rfl rfl ?_
              clear hs a; intro a hs
              refine q_ok hs (ok_pick (r := .bool false) rfl rfl rfl rfl) rfl ?_
              clear hs a; intro a hs
              refine wpQuiet_nil ?_; clear m w291; intro w296 m
              refine c_false hs rfl rfl ?_
              refine wp_skip ?_
              refine n_block (n_then ?_)
              refine c_last ?_
              refine r_ok hs m (ok_add (r := 1) rfl rfl rfl) rfl ?_
              clear hs a; intro a hs
              refine r_ok hs m (ok_move rfl) rfl ?_
              clear hs a; intro a hs
              refine wpList_nil (n_then ?_)
              refine rounds_s ?_
              refine c_reg ?_
              refine r_ok hs m (ok_bin (v := .bool false) rfl rfl rfl) rfl ?_
              clear hs a; intro a hs
              refine wpList_nil (n_then ?_)
              refine c_seq ?_
              refine c_false hs rfl rfl ?_
              refine wp_exit ?_
              refine ex_then (ex_then (ex_hit (?_)))
              refine n_then ?_
              refine c_reg ?_
              refine r_ok hs m (ok_assign rfl) rfl ?_
              clear hs a; intro a hs
              refine wpList_nil (n_then ?_)
              refine wp_ret ?_
              refine leave hs (vs := [.bool true]) rfl ⟨rfl, trivial⟩ ?_
              exact ⟨_, rfl, rfl, m.sub (.c r0 (.c r0 (.c r0 (.c r0 (.c r0 (.c r0 (.c r0 (.c r0 (.c r0 (.c r0 (.c r0 (.c r0 (.c r0 (.c r0 (.c r0 (.c r0 (.c r0 (.c r0 (.c r0 (.c r0 (.c r0 (.c r0 (.c r0 (.c r0 (.c r0 (.c r0 (.c r0 .n)))))))))))))))))))))))))))⟩
            clear hs a m w291; rintro _ w299 ⟨rfl, m⟩ a hs
            refine r_ok hs m (ok_move rfl) rfl ?_
            clear hs a; intro a hs
            refine r_okg hs rfl rfl rfl m (ok_fieldAddr (r := 1) rfl fd29_1 ty26 rfl) rfl ?_
            clear hs a; intro a hs
            refine r_okg hs rfl rfl rfl m (ok_load_sc rfl ty26 (bx_at r1) rfl) rfl ?_
            clear hs a; intro a hs
            refine g_strip hs rfl rfl rfl ?_
            refine r_call (us := [v262.v, .func (.func 47) ⟨[]⟩ ⟨[]⟩]) (Rc := fun v w' => v = (.bool true) ∧ Hp w0 (hh w0) [Bx p288 51 (cRoute (⟨⟨⟨167772416, rfl⟩, ⟨24, rfl⟩⟩, ⟨167772416, rfl⟩, false⟩ : TRoute)), Bx p282 29 [v261.v, v262.v, v263.v], Bx p270 29 [v261.v, v262.v, v263.v], Bx p268 29 [v70.v, v72.v, v74.v], Sv 4 51 v261.v ([(⟨⟨⟨167772416, rfl⟩, ⟨24, rfl⟩⟩, ⟨167772416, rfl⟩, false⟩ : TRoute)].map cRoute), Sv 7 54 v262.v ([(⟨⟨167772416, rfl⟩, ⟨⟨2, rfl⟩, ⟨0, rfl⟩, ⟨0, rfl⟩, ⟨0, rfl⟩, ⟨0, rfl⟩, ⟨1, rfl⟩⟩⟩ : TNeigh)].map cNeigh), Sv 7 56 v263.v ([(⟨⟨⟨2, rfl⟩, ⟨0, rfl⟩, ⟨0, rfl⟩, ⟨0, rfl⟩, ⟨0, rfl⟩, ⟨1, rfl⟩⟩, ⟨8, rfl⟩⟩ : TFdb)].map cFdb), Sv 12 48 v256.v ([lit13].map cLease), Sv 12 48 v254.v ([lit13].map cLease), Bx p247 48 (cLease lit13), Bx p241 89 (cReq lit6), Bx p237 138 [.string (ByteArray.mk ⟨[107, 101, 114, 110, 101, 108]⟩), .func (.func 73) ⟨[.pointer (some (padd p4 0))]⟩ ⟨[]⟩], Bx p229 89 (cReq lit10), Bx p220 138 [.string (ByteArray.mk ⟨[115, 110, 97, 112, 115, 104, 111, 116]⟩), .func (.func 72) ⟨[]⟩ ⟨[.pointer (some (padd p6 0))]⟩], Bx p212 89 (cReq lit7), Bx p203 138 [.string (ByteArray.mk ⟨[100, 117, 109, 112]⟩), .func (.func 71) ⟨[]⟩ ⟨[.pointer (some (padd p6 0))]⟩], Bx p197 89 (cReq lit6), Sv 12 48 v167.v ([lit13].map cLease), Sv 12 48 v138.v ([lit13].map cLease), Sv 12 48 v136.v ([lit13].map cLease), Sv 7 56 v74.v (([] : List TFdb).map cFdb), Sv 7 54 v72.v (([] : List TNeigh).map cNeigh), Sv 4 51 v70.v (([] : List TRoute).map cRoute), Bx p44 89 (cReq lit10), Sv 2 138 v9.v (([[.string (ByteArray.mk ⟨[100, 117, 109, 112]⟩), .func (.func 71) ⟨[]⟩ ⟨[.pointer (some (padd p6 0))]⟩], [.string (ByteArray.mk ⟨[115, 110, 97, 112, 115, 104, 111, 116]⟩), .func (.func 72) ⟨[]⟩ ⟨[.pointer (some (padd p6 0))]⟩], [.string (ByteArray.mk ⟨[107, 101, 114, 110, 101, 108]⟩), .func (.func 73) ⟨[.pointer (some (padd p4 0))]⟩ ⟨[]⟩], [.string (ByteArray.mk ⟨[97, 99, 113, 117, 105, 114, 101]⟩), .func (.func 74) ⟨[.pointer (some (padd p4 0))]⟩ ⟨[]⟩], [.string (ByteArray.mk ⟨[114, 101, 110, 101, 119]⟩), .func (.func 75) ⟨[.pointer (some (padd p4 0))]⟩ ⟨[]⟩], [.string (ByteArray.mk ⟨[119, 97, 116, 99, 104]⟩), .func (.func 76) ⟨[]⟩ ⟨[.pointer (some (padd p6 0))]⟩]] : List (List Value)).map id), Bx p6 63 [.pointer (some (padd p4 0))], Bx p4 135 (List.append (cSelf lit1) (List.append [v9.v] (List.append (cReq lit6) (List.append [.bool true, v70.v, v72.v, v74.v, v167.v, .int .i64 4, .bool false, nilH.v, .bool false, .int .i64 0, .bool false] (List.append (cPrefix lit2) [.bool false, .bool false])))))] w') hs rfl rfl ca110 rfl (enter (n := 28) Tryz.func110 rfl rfl rfl fun a (hs : St 28 [(0, v262.v), (1, .func (.func 47) ⟨[]⟩ ⟨[]⟩)] a) => ?_) rfl ?_
            · refine c_reg ?_
              refine r_ok hs m (ok_assign rfl) rfl ?_
              clear hs a; intro a hs
              refine wpList_nil (n_then ?_)
              refine c_seq ?_
              refine c_reg ?_
              refine r_ok hs m (ok_move rfl) rfl ?_
              clear hs a; intro a hs
              refine r_ok hs m (ok_len (r := 1) m rfl sl26 (rc_own r5) rfl) rfl ?_
              clear hs a; intro a hs
              refine r_ok hs m (ok_move rfl) rfl ?_
              clear hs a; intro a hs
              refine wpList_nil (n_then ?_)
              refine wp_block ?_
              refine wp_loop_rounds 13 ?_
              refine rounds_s ?_
              refine c_reg ?_
              refine r_ok hs m (ok_bin (v := .bool true) rfl rfl rfl) rfl ?_
              clear hs a; intro a hs
              refine wpList_nil (n_then ?_)
              refine c_seq ?_
              refine c_true hs rfl rfl ?_
              refine wp_skip ?_
              refine n_then ?_
              refine c_seq ?_
              refine wp_block ?_
              refine c_reg ?_
              refine r_ok hs m (ok_move rfl) rfl ?_
              clear hs a; intro a hs
              refine r_ok hs m (ok_assign rfl) rfl ?_
              clear hs a; intro a hs
              refine wpList_nil (n_then ?_)
              refine c_draw m mo (by kernel_rfl) ?_
              refine q_ok hs (ok_move rfl) rfl ?_
              clear hs a; intro a hs
              refine q_ok hs (ok_bin (v := .bool false) rfl rfl rfl) rfl ?_
              clear hs a; intro a hs
              refine q_ok hs (ok_move rfl) rfl ?_
              clear hs a; intro a hs
              refine q_out hs rfl rfl rfl rfl ?_
              clear hs a; intro a hs
              refine q_out hs rfl rfl rfl rfl ?_
              clear hs a; intro a hs
              refine q_out hs rfl rfl rfl rfl ?_
              clear hs a; intro a hs
              refine q_out hs rfl rfl rfl rfl ?_
              clear hs a; intro a hs
              refine q_out hs rfl rfl rfl rfl ?_
              clear hs a; intro a hs
              refine q_out hs rfl rfl rfl rfl ?_
              clear hs a; intro a hs
              refine q_out hs rfl rfl rfl rfl ?_
              clear hs a; intro a hs
              refine q_out hs rfl rfl rfl rfl ?_
              clear hs a; intro a hs
              refine q_out hs rfl rfl rfl rfl ?_
              clear hs a; intro a hs
              refine q_out hs rfl rfl rfl rfl ?_
              clear hs a; intro a hs
              refine q_out hs rfl rfl rfl rfl ?_
              clear hs a; intro a hs
              refine q_out hs rfl rfl rfl rfl ?_
              clear hs a; intro a hs
              refine q_ok hs (ok_pick (r := .bool false) rfl rfl rfl rfl) rfl ?_
              clear hs a; intro a hs
              refine wpQuiet_nil ?_; clear m w299; intro w301 m
              refine c_false hs rfl rfl ?_
              refine wp_skip ?_
              refine n_block (n_then ?_)
              refine c_last ?_
              refine r_ok hs m (ok_add (r := 1) rfl rfl rfl) rfl ?_
              clear hs a; intro a hs
              refine r_ok hs m (ok_move rfl) rfl ?_
              clear hs a; intro a hs
              refine wpList_nil (n_then ?_)
              refine rounds_s ?_
              refine c_reg ?_
              refine r_ok hs m (ok_bin (v := .bool false) rfl rfl rfl) rfl ?_
              clear hs a; intro a hs
              refine wpList_nil (n_then ?_)
              refine c_seq ?_
              refine c_false hs rfl rfl ?_
              refine wp_exit ?_
              refine ex_then (ex_then (ex_hit (?_)))
              refine n_then ?_
              refine c_reg ?_
              refine r_ok hs m (ok_assign rfl) rfl ?_
              clear hs a; intro a hs
              refine wpList_nil (n_then ?_)
              refine wp_ret ?_
              refine leave hs (vs := [.bool true]) rfl ⟨rfl, trivial⟩ ?_
              exact ⟨_, rfl, rfl, m.sub (.c r0 (.c r0 (.c r0 (.c r0 (.c r0 (.c r0 (.c r0 (.c r0 (.c r0 (.c r0 (.c r0 (.c r0 (.c r0 (.c r0 (.c r0 (.c r0 (.c r0 (.c r0 (.c r0 (.c r0 (.c r0 (.c r0 (.c r0 (.c r0 (.c r0 (.c r0 (.c r0 .n)))))))))))))))))))))))))))⟩
            clear hs a m w299; rintro _ w304 ⟨rfl, m⟩ a hs
            refine r_ok hs m (ok_pick (r := .bool true) rfl rfl rfl rfl) rfl ?_
            clear hs a; intro a hs
            refine r_ok hs m (ok_move rfl) rfl ?_
            clear hs a; intro a hs
            refine r_okg hs rfl rfl rfl m (ok_fieldAddr (r := 2) rfl fd29_2 ty27 rfl) rfl ?_
            clear hs a; intro a hs
            refine r_okg hs rfl rfl rfl m (ok_load_sc rfl ty27 (bx_at r1) rfl) rfl ?_
            clear hs a; intro a hs
            refine g_strip hs rfl rfl rfl ?_
            refine r_call (us := [v263.v, .func (.func 49) ⟨[]⟩ ⟨[]⟩]) (Rc := fun v w' => v = (.bool true) ∧ Hp w0 (hh w0) [Bx p288 51 (cRoute (⟨⟨⟨167772416, rfl⟩, ⟨24, rfl⟩⟩, ⟨167772416, rfl⟩, false⟩ : TRoute)), Bx p282 29 [v261.v, v262.v, v263.v], Bx p270 29 [v261.v, v262.v, v263.v], Bx p268 29 [v70.v, v72.v, v74.v], Sv 4 51 v261.v ([(⟨⟨⟨167772416, rfl⟩, ⟨24, rfl⟩⟩, ⟨167772416, rfl⟩, false⟩ : TRoute)].map cRoute), Sv 7 54 v262.v ([(⟨⟨167772416, rfl⟩, ⟨⟨2, rfl⟩, ⟨0, rfl⟩, ⟨0, rfl⟩, ⟨0, rfl⟩, ⟨0, rfl⟩, ⟨1, rfl⟩⟩⟩ : TNeigh)].map cNeigh), Sv 7 56 v263.v ([(⟨⟨⟨2, rfl⟩, ⟨0, rfl⟩, ⟨0, rfl⟩, ⟨0, rfl⟩, ⟨0, rfl⟩, ⟨1, rfl⟩⟩, ⟨8, rfl⟩⟩ : TFdb)].map cFdb), Sv 12 48 v256.v ([lit13].map cLease), Sv 12 48 v254.v ([lit13].map cLease), Bx p247 48 (cLease lit13), Bx p241 89 (cReq lit6), Bx p237 138 [.string (ByteArray.mk ⟨[107, 101, 114, 110, 101, 108]⟩), .func (.func 73) ⟨[.pointer (some (padd p4 0))]⟩ ⟨[]⟩], Bx p229 89 (cReq lit10), Bx p220 138 [.string (ByteArray.mk ⟨[115, 110, 97, 112, 115, 104, 111, 116]⟩), .func (.func 72) ⟨[]⟩ ⟨[.pointer (some (padd p6 0))]⟩], Bx p212 89 (cReq lit7), Bx p203 138 [.string (ByteArray.mk ⟨[100, 117, 109, 112]⟩), .func (.func 71) ⟨[]⟩ ⟨[.pointer (some (padd p6 0))]⟩], Bx p197 89 (cReq lit6), Sv 12 48 v167.v ([lit13].map cLease), Sv 12 48 v138.v ([lit13].map cLease), Sv 12 48 v136.v ([lit13].map cLease), Sv 7 56 v74.v (([] : List TFdb).map cFdb), Sv 7 54 v72.v (([] : List TNeigh).map cNeigh), Sv 4 51 v70.v (([] : List TRoute).map cRoute), Bx p44 89 (cReq lit10), Sv 2 138 v9.v (([[.string (ByteArray.mk ⟨[100, 117, 109, 112]⟩), .func (.func 71) ⟨[]⟩ ⟨[.pointer (some (padd p6 0))]⟩], [.string (ByteArray.mk ⟨[115, 110, 97, 112, 115, 104, 111, 116]⟩), .func (.func 72) ⟨[]⟩ ⟨[.pointer (some (padd p6 0))]⟩], [.string (ByteArray.mk ⟨[107, 101, 114, 110, 101, 108]⟩), .func (.func 73) ⟨[.pointer (some (padd p4 0))]⟩ ⟨[]⟩], [.string (ByteArray.mk ⟨[97, 99, 113, 117, 105, 114, 101]⟩), .func (.func 74) ⟨[.pointer (some (padd p4 0))]⟩ ⟨[]⟩], [.string (ByteArray.mk ⟨[114, 101, 110, 101, 119]⟩), .func (.func 75) ⟨[.pointer (some (padd p4 0))]⟩ ⟨[]⟩], [.string (ByteArray.mk ⟨[119, 97, 116, 99, 104]⟩), .func (.func 76) ⟨[]⟩ ⟨[.pointer (some (padd p6 0))]⟩]] : List (List Value)).map id), Bx p6 63 [.pointer (some (padd p4 0))], Bx p4 135 (List.append (cSelf lit1) (List.append [v9.v] (List.append (cReq lit6) (List.append [.bool true, v70.v, v72.v, v74.v, v167.v, .int .i64 4, .bool false, nilH.v, .bool false, .int .i64 0, .bool false] (List.append (cPrefix lit2) [.bool false, .bool false])))))] w') hs rfl rfl ca111 rfl (enter (n := 28) Tryz.func111 rfl rfl rfl fun a (hs : St 28 [(0, v263.v), (1, .func (.func 49) ⟨[]⟩ ⟨[]⟩)] a) => ?_) rfl ?_
            · refine c_reg ?_
              refine r_ok hs m (ok_assign rfl) rfl ?_
              clear hs a; intro a hs
              refine wpList_nil (n_then ?_)
              refine c_seq ?_
              refine c_reg ?_
              refine r_ok hs m (ok_move rfl) rfl ?_
              clear hs a; intro a hs
              refine r_ok hs m (ok_len (r := 1) m rfl sl27 (rc_own r6) rfl) rfl ?_
              clear hs a; intro a hs
              refine r_ok hs m (ok_move rfl) rfl ?_
              clear hs a; intro a hs
              refine wpList_nil (n_then ?_)
              refine wp_block ?_
              refine wp_loop_rounds 13 ?_
              refine rounds_s ?_
              refine c_reg ?_
              refine r_ok hs m (ok_bin (v := .bool true) rfl rfl rfl) rfl ?_
              clear hs a; intro a hs
              refine wpList_nil (n_then ?_)
              refine c_seq ?_
              refine c_true hs rfl rfl ?_
              refine wp_skip ?_
              refine n_then ?_
              refine c_seq ?_
              refine wp_block ?_
              refine c_reg ?_
              refine r_ok hs m (ok_move rfl) rfl ?_
              clear hs a; intro a hs
              refine r_ok hs m (ok_assign rfl) rfl ?_
              clear hs a; intro a hs
              refine wpList_nil (n_then ?_)
              refine c_draw m mo (by kernel_rfl) ?_
              refine q_ok hs (ok_move rfl) rfl ?_
              clear hs a; intro a hs
              refine q_ok hs (ok_bin (v := .bool false) rfl rfl rfl) rfl ?_
              clear hs a; intro a hs
              refine q_ok hs (ok_move rfl) rfl ?_
              clear hs a; intro a hs
              refine q_out hs rfl rfl rfl rfl ?_
              clear hs a; intro a hs
              refine q_out hs rfl rfl rfl rfl ?_
              clear hs a; intro a hs
              refine q_out hs rfl rfl rfl rfl ?_
              clear hs a; intro a hs
              refine q_out hs rfl rfl rfl rfl ?_
              clear hs a; intro a hs
              refine q_out hs rfl rfl rfl rfl ?_
              clear hs a; intro a hs
              refine q_out hs rfl rfl rfl rfl ?_
              clear hs a; intro a hs
              refine q_out hs rfl rfl rfl rfl ?_
              clear hs a; intro a hs
              refine q_out hs rfl rfl rfl rfl ?_
              clear hs a; intro a hs
              refine q_out hs rfl rfl rfl rfl ?_
              clear hs a; intro a hs
              refine q_out hs rfl rfl rfl rfl ?_
              clear hs a; intro a hs
              refine q_out hs rfl rfl rfl rfl ?_
              clear hs a; intro a hs
              refine q_out hs rfl rfl rfl rfl ?_
              clear hs a; intro a hs
              refine q_ok hs (ok_pick (r := .bool false) rfl rfl rfl rfl) rfl ?_
              clear hs a; intro a hs
              refine wpQuiet_nil ?_; clear m w304; intro w306 m
              refine c_false hs rfl rfl ?_
              refine wp_skip ?_
              refine n_block (n_then ?_)
              refine c_last ?_
              refine r_ok hs m (ok_add (r := 1) rfl rfl rfl) rfl ?_
              clear hs a; intro a hs
              refine r_ok hs m (ok_move rfl) rfl ?_
              clear hs a; intro a hs
              refine wpList_nil (n_then ?_)
              refine rounds_s ?_
              refine c_reg ?_
              refine r_ok hs m (ok_bin (v := .bool false) rfl rfl rfl) rfl ?_
              clear hs a; intro a hs
              refine wpList_nil (n_then ?_)
              refine c_seq ?_
              refine c_false hs rfl rfl ?_
              refine wp_exit ?_
              refine ex_then (ex_then (ex_hit (?_)))
              refine n_then ?_
              refine c_reg ?_
              refine r_ok hs m (ok_assign rfl) rfl ?_
              clear hs a; intro a hs
              refine wpList_nil (n_then ?_)
              refine wp_ret ?_
              refine leave hs (vs := [.bool true]) rfl ⟨rfl, trivial⟩ ?_
              exact ⟨_, rfl, rfl, m.sub (.c r0 (.c r0 (.c r0 (.c r0 (.c r0 (.c r0 (.c r0 (.c r0 (.c r0 (.c r0 (.c r0 (.c r0 (.c r0 (.c r0 (.c r0 (.c r0 (.c r0 (.c r0 (.c r0 (.c r0 (.c r0 (.c r0 (.c r0 (.c r0 (.c r0 (.c r0 (.c r0 .n)))))))))))))))))))))))))))⟩
            clear hs a m w304; rintro _ w309 ⟨rfl, m⟩ a hs
            refine r_ok hs m (ok_pick (r := .bool true) rfl rfl rfl rfl) rfl ?_
            clear hs a; intro a hs
            refine r_ok hs m (ok_assign rfl) rfl ?_
            clear hs a; intro a hs
            refine wpList_nil (n_then ?_)
            refine wp_ret ?_
            refine leave hs (vs := [.bool true]) rfl ⟨rfl, trivial⟩ ?_
            exact ⟨_, rfl, rfl, m.sub (.c r2 (.c r2 (.c r2 (.c r2 (.c r2 (.c r2 (.c r2 (.c r2 (.c r2 (.c r2 (.c r2 (.c r2 (.c r2 (.c r2 (.c r2 (.c r2 (.c r2 (.c r2 (.c r2 (.c r2 (.c r2 (.c r2 (.c r2 (.c r2 (.c r2 .n)))))))))))))))))))))))))⟩
          clear hs a m w281; rintro _ w310 ⟨rfl, m⟩ a hs
          refine r_okg hs rfl rfl rfl m (ok_not rfl) rfl ?_
          clear hs a; intro a hs
          refine r_ok hs m (ok_pick (r := .bool false) rfl rfl rfl rfl) rfl ?_
          clear hs a; intro a hs
          refine wpList_nil (n_then ?_)
          refine c_false hs rfl rfl ?_
          refine wp_skip ?_
          refine n_then ?_
          refine c_reg ?_
          refine r_ok hs m (ok_assign rfl) rfl ?_
          clear hs a; intro a hs
          refine wpList_nil (n_then ?_)
          refine c_seq ?_
          refine c_reg ?_
          refine r_ok hs m (ok_buildArr (cs := [.bool true, .bool false]) ar120 ty4 ze120 rfl (by kernel_rfl)) rfl ?_
          clear hs a; intro a hs
          refine r_ok hs m (ok_move rfl) rfl ?_
          clear hs a; intro a hs
          refine wpList_nil (n_then ?_)
          refine wp_block ?_
          refine wp_loop_rounds 13 ?_
          refine rounds_s ?_
          refine c_reg ?_
          refine r_ok hs m (ok_bin (v := .bool true) rfl rfl rfl) rfl ?_
          clear hs a; intro a hs
          refine wpList_nil (n_then ?_)
          refine c_seq ?_
          refine c_true hs rfl rfl ?_
          refine wp_skip ?_
          refine n_then ?_
          refine c_seq ?_
          refine wp_block ?_
          refine c_reg ?_
          refine r_ok hs m (ok_index_sc (v := .bool true) rfl rfl ar120 ty4 (by omega) (by omega) rfl) rfl ?_
          clear hs a; intro a hs
          refine r_ok hs m (ok_assign rfl) rfl ?_
          clear hs a; intro a hs
          refine wpList_nil (n_then ?_)
          refine c_reg ?_
          refine r_ok hs m (ok_fieldAddr (r := 0) rfl fd29_0 ty25 rfl) rfl ?_
          clear hs a; intro a hs
          refine r_ok hs m (ok_load_sc rfl ty25 (bx_at r1) rfl) rfl ?_
          clear hs a; intro a hs
          refine r_ok hs m (ok_len (r := 0) m rfl sl25 (rc_own r20) rfl) rfl ?_
          clear hs a; intro a hs
          refine r_ok hs m (ok_move rfl) rfl ?_
          clear hs a; intro a hs
          refine wpList_nil (n_then ?_)
          refine wp_block ?_
          refine wp_loop_rounds 13 ?_
          refine rounds_s ?_
          refine c_reg ?_
          refine r_ok hs m (ok_bin (v := .bool false) rfl rfl rfl) rfl ?_
          clear hs a; intro a hs
          refine wpList_nil (n_then ?_)
          refine c_seq ?_
          refine c_false hs rfl rfl ?_
          refine wp_exit ?_
          refine ex_then (ex_then (ex_hit (?_)))
          refine n_block (n_then ?_)
          refine c_last ?_
          refine r_ok hs m (ok_add (r := 1) rfl rfl rfl) rfl ?_
          clear hs a; intro a hs
          refine r_ok hs m (ok_move rfl) rfl ?_
          clear hs a; intro a hs
          refine wpList_nil (n_then ?_)
          refine rounds_s ?_
          refine c_reg ?_
          refine r_ok hs m (ok_bin (v := .bool true) rfl rfl rfl) rfl ?_
          clear hs a; intro a hs
          refine wpList_nil (n_then ?_)
          refine c_seq ?_
          refine c_true hs rfl rfl ?_
          refine wp_skip ?_
          refine n_then ?_
          refine c_seq ?_
          refine wp_block ?_
          refine c_reg ?_
          refine r_ok hs m (ok_index_sc (v := .bool false) rfl rfl ar120 ty4 (by omega) (by omega) rfl) rfl ?_
          clear hs a; intro a hs
          refine r_ok hs m (ok_assign rfl) rfl ?_
          clear hs a; intro a hs
          refine wpList_nil (n_then ?_)
          refine c_reg ?_
          refine r_ok hs m (ok_fieldAddr (r := 0) rfl fd29_0 ty25 rfl) rfl ?_
          clear hs a; intro a hs
          refine r_ok hs m (ok_load_sc rfl ty25 (bx_at r1) rfl) rfl ?_
          clear hs a; intro a hs
          refine r_ok hs m (ok_len (r := 0) m rfl sl25 (rc_own r20) rfl) rfl ?_
          clear hs a; intro a hs
          refine r_ok hs m (ok_move rfl) rfl ?_
          clear hs a; intro a hs
          refine wpList_nil (n_then ?_)
          refine wp_block ?_
          refine wp_loop_rounds 13 ?_
          refine rounds_s ?_
          refine c_reg ?_
          refine r_ok hs m (ok_bin (v := .bool false) rfl rfl rfl) rfl ?_
          clear hs a; intro a hs
          refine wpList_nil (n_then ?_)
          refine c_seq ?_
          refine c_false hs rfl rfl ?_
          refine wp_exit ?_
          refine ex_then (ex_then (ex_hit (?_)))
          refine n_block (n_then ?_)
          refine c_last ?_
          refine r_ok hs m (ok_add (r := 2) rfl rfl rfl) rfl ?_
          clear hs a; intro a hs
          refine r_ok hs m (ok_move rfl) rfl ?_
          clear hs a; intro a hs
          refine wpList_nil (n_then ?_)
          refine rounds_s ?_
          refine c_reg ?_
          refine r_ok hs m (ok_bin (v := .bool false) rfl rfl rfl) rfl ?_
          clear hs a; intro a hs
          refine wpList_nil (n_then ?_)
          refine c_seq ?_
          refine c_false hs rfl rfl ?_
          refine wp_exit ?_
          refine ex_then (ex_then (ex_hit (?_)))
          refine n_then ?_
          refine c_seq ?_
          refine c_reg ?_
          refine r_ok hs m (ok_fieldAddr (r := 1) rfl fd29_1 ty26 rfl) rfl ?_
          clear hs a; intro a hs
          refine r_ok hs m (ok_load_sc rfl ty26 (bx_at r1) rfl) rfl ?_
          clear hs a; intro a hs
          refine r_ok hs m (ok_len (r := 0) m rfl sl26 (rc_own r19) rfl) rfl ?_
          clear hs a; intro a hs
          refine r_ok hs m (ok_move rfl) rfl ?_
          clear hs a; intro a hs
          refine wpList_nil (n_then ?_)
          refine wp_block ?_
          refine wp_loop_rounds 13 ?_
          refine rounds_s ?_
          refine c_reg ?_
          refine r_ok hs m (ok_bin (v := .bool false) rfl rfl rfl) rfl ?_
          clear hs a; intro a hs
          refine wpList_nil (n_then ?_)
          refine c_seq ?_
          refine c_false hs rfl rfl ?_
          refine wp_exit ?_
          refine ex_then (ex_then (ex_hit (?_)))
          refine n_then ?_
          refine c_seq ?_
          refine c_reg ?_
          refine r_ok hs m (ok_fieldAddr (r := 2) rfl fd29_2 ty27 rfl) rfl ?_
          clear hs a; intro a hs
          refine r_ok hs m (ok_load_sc rfl ty27 (bx_at r1) rfl) rfl ?_
          clear hs a; intro a hs
          refine r_ok hs m (ok_len (r := 0) m rfl sl27 (rc_own r18) rfl) rfl ?_
          clear hs a; intro a hs
          refine r_ok hs m (ok_move rfl) rfl ?_
          clear hs a; intro a hs
          refine wpList_nil (n_then ?_)
          refine wp_block ?_
          refine wp_loop_rounds 13 ?_
          refine rounds_s ?_
          refine c_reg ?_
          refine r_ok hs m (ok_bin (v := .bool false) rfl rfl rfl) rfl ?_
          clear hs a; intro a hs
          refine wpList_nil (n_then ?_)
          refine c_seq ?_
          refine c_false hs rfl rfl ?_
          refine wp_exit ?_
          refine ex_then (ex_then (ex_hit (?_)))
          refine n_then ?_
          refine c_seq ?_
          refine c_reg ?_
          refine r_ok hs m (ok_fieldAddr (r := 2) rfl fd29_2 ty27 rfl) rfl ?_
          clear hs a; intro a hs
          refine r_ok hs m (ok_load_sc rfl ty27 (bx_at r0) rfl) rfl ?_
          clear hs a; intro a hs
          refine r_ok hs m (ok_len (r := 1) m rfl sl27 (rc_own r4) rfl) rfl ?_
          clear hs a; intro a hs
          refine r_ok hs m (ok_move rfl) rfl ?_
          clear hs a; intro a hs
          refine wpList_nil (n_then ?_)
          refine wp_block ?_
          refine wp_loop_rounds 13 ?_
          refine rounds_s ?_
          refine c_reg ?_
          refine r_ok hs m (ok_bin (v := .bool true) rfl rfl rfl) rfl ?_
          clear hs a; intro a hs
          refine wpList_nil (n_then ?_)
          refine c_seq ?_
          refine c_true hs rfl rfl ?_
          refine wp_skip ?_
          refine n_then ?_
          refine c_seq ?_
          refine wp_block ?_
          refine c_reg ?_
          refine elO (c := cFdb) (e := (⟨⟨⟨2, rfl⟩, ⟨0, rfl⟩, ⟨0, rfl⟩, ⟨0, rfl⟩, ⟨0, rfl⟩, ⟨1, rfl⟩⟩, ⟨8, rfl⟩⟩ : TFdb)) hs m (x := (.tmp 93)) (ix := (.tmp 95)) rfl rfl sl27 ty56 r4 (by omega) rfl fun p320 hp321 ok322 => ?_
          refine r_ok hs m (ok322 _ _ _ _ _) rfl ?_
          clear hs a; intro a hs
          refine r_ok hs m (ok_load_ag (vs := cFdb (⟨⟨⟨2, rfl⟩, ⟨0, rfl⟩, ⟨0, rfl⟩, ⟨0, rfl⟩, ⟨0, rfl⟩, ⟨1, rfl⟩⟩, ⟨8, rfl⟩⟩ : TFdb)) rfl ty56 (el_at hp321 r4 (get_map _ (rfl : ([(⟨⟨⟨2, rfl⟩, ⟨0, rfl⟩, ⟨0, rfl⟩, ⟨0, rfl⟩, ⟨0, rfl⟩, ⟨1, rfl⟩⟩, ⟨8, rfl⟩⟩ : TFdb)])[0]? = some (⟨⟨⟨2, rfl⟩, ⟨0, rfl⟩, ⟨0, rfl⟩, ⟨0, rfl⟩, ⟨0, rfl⟩, ⟨1, rfl⟩⟩, ⟨8, rfl⟩⟩ : TFdb)))) (by kernel_rfl) (by kernel_rfl)) rfl ?_
          clear hs a; intro a hs
          refine r_alloc hs m ze56 rfl ?_
          clear m hs a w310; intro p323 w324 m a hs
          refine r_store (cs' := cFdb (⟨⟨⟨2, rfl⟩, ⟨0, rfl⟩, ⟨0, rfl⟩, ⟨0, rfl⟩, ⟨0, rfl⟩, ⟨1, rfl⟩⟩, ⟨8, rfl⟩⟩ : TFdb)) (vs := cFdb (⟨⟨⟨2, rfl⟩, ⟨0, rfl⟩, ⟨0, rfl⟩, ⟨0, rfl⟩, ⟨0, rfl⟩, ⟨1, rfl⟩⟩, ⟨8, rfl⟩⟩ : TFdb)) hs m rfl rfl ty56 s0 (by kernel_rfl) (by kernel_rfl) (by kernel_rfl) (by kernel_rfl) (by kernel_rfl) ?_
          clear m w324; intro w325 m
          refine wpList_nil (n_then ?_)
          refine c_reg ?_
          refine r_ok hs m (ok_fieldAddr (r := 2) rfl fd29_2 ty27 rfl) rfl ?_
          clear hs a; intro a hs
          refine r_ok hs m (ok_load_sc rfl ty27 (bx_at r2) rfl) rfl ?_
          clear hs a; intro a hs
          refine r_ok hs m (ok_load_ag (vs := cFdb (⟨⟨⟨2, rfl⟩, ⟨0, rfl⟩, ⟨0, rfl⟩, ⟨0, rfl⟩, ⟨0, rfl⟩, ⟨1, rfl⟩⟩, ⟨8, rfl⟩⟩ : TFdb)) rfl ty56 (bx_at r0) (by kernel_rfl) (by kernel_rfl)) rfl ?_
          clear hs a; intro a hs
          refine r_callP hs m rfl rfl ca59 rfl (lacksFdb_c v74 ([] : List TFdb) (⟨⟨⟨2, rfl⟩, ⟨0, rfl⟩, ⟨0, rfl⟩, ⟨0, rfl⟩, ⟨0, rfl⟩, ⟨1, rfl⟩⟩, ⟨8, rfl⟩⟩ : TFdb) _ (m.rdv r19) ) rfl ?_
          clear m hs a w325; intro w326 m a hs
          have q327 : lacksM cmpFdb zFdb [] (⟨⟨⟨2, rfl⟩, ⟨0, rfl⟩, ⟨0, rfl⟩, ⟨0, rfl⟩, ⟨0, rfl⟩, ⟨1, rfl⟩⟩, ⟨8, rfl⟩⟩ : TFdb) = (true : Bool) := by kernel_rfl
          rw [q327] at hs
          refine wpList_nil (n_then ?_)
          refine c_true hs rfl rfl ?_
          refine c_last ?_
          refine r_ok hs m (ok_move rfl) rfl ?_
          clear hs a; intro a hs
          refine r_ok hs m (ok_load_ag (vs := cFdb (⟨⟨⟨2, rfl⟩, ⟨0, rfl⟩, ⟨0, rfl⟩, ⟨0, rfl⟩, ⟨0, rfl⟩, ⟨1, rfl⟩⟩, ⟨8, rfl⟩⟩ : TFdb)) rfl ty56 (bx_at r0) (by kernel_rfl) (by kernel_rfl)) rfl ?_
          clear hs a; intro a hs
          refine r_ok hs m (ok_build (cs := cOp lit14) st58 ze58 rfl (by kernel_rfl)) rfl ?_
          clear hs a; intro a hs
          refine r_buildM (c := cOp) (ys := [lit14]) hs m sl35 ty58 ze58 rfl rfl rfl rfl rfl (fun _ => rfl) rfl rfl rfl ?_
          clear m hs a w326; intro v329 w330 m a hs
          replace m := m.nilSvM cOp 19 58
          refine r_appendM (c := cOp) (xs := []) (ys := [lit14]) hs m rfl rfl sl35 ni35 ty58 ze58 rfl by58 rfl r0 (m.rdv r1) (fun _ => rfl) (by decide) rfl ?_
          clear m hs a w330; intro v331 w333 m a hs
          refine r_ok hs m (ok_assign rfl) rfl ?_
          clear hs a; intro a hs
          refine wpList_nil (n_block (n_then ?_))
          refine c_last ?_
          refine r_ok hs m (ok_add (r := 1) rfl rfl rfl) rfl ?_
          clear hs a; intro a hs
          refine r_ok hs m (ok_move rfl) rfl ?_
          clear hs a; intro a hs
          refine wpList_nil (n_then ?_)
          refine rounds_s ?_
          refine c_reg ?_
          refine r_ok hs m (ok_bin (v := .bool false) rfl rfl rfl) rfl ?_
          clear hs a; intro a hs
          refine wpList_nil (n_then ?_)
          refine c_seq ?_
          refine c_false hs rfl rfl ?_
          refine wp_exit ?_
          refine ex_then (ex_then (ex_hit (?_)))
          refine n_then ?_
          refine c_seq ?_
          refine c_reg ?_
          refine r_ok hs m (ok_fieldAddr (r := 1) rfl fd29_1 ty26 rfl) rfl ?_
          clear hs a; intro a hs
          refine r_ok hs m (ok_load_sc rfl ty26 (bx_at r3) rfl) rfl ?_
          clear hs a; intro a hs
          refine r_ok hs m (ok_len (r := 1) m rfl sl26 (rc_own r6) rfl) rfl ?_
          clear hs a; intro a hs
          refine r_ok hs m (ok_move rfl) rfl ?_
          clear hs a; intro a hs
          refine wpList_nil (n_then ?_)
          refine wp_block ?_
          refine wp_loop_rounds 13 ?_
          refine rounds_s ?_
          refine c_reg ?_
          refine r_ok hs m (ok_bin (v := .bool true) rfl rfl rfl) rfl ?_
          clear hs a; intro a hs
          refine wpList_nil (n_then ?_)
          refine c_seq ?_
          refine c_true hs rfl rfl ?_
          refine wp_skip ?_
          refine n_then ?_
          refine c_seq ?_
          refine wp_block ?_
          refine c_reg ?_
          refine elO (c := cNeigh) (e := (⟨⟨167772416, rfl⟩, ⟨⟨2, rfl⟩, ⟨0, rfl⟩, ⟨0, rfl⟩, ⟨0, rfl⟩, ⟨0, rfl⟩, ⟨1, rfl⟩⟩⟩ : TNeigh)) hs m (x := (.tmp 110)) (ix := (.tmp 112)) rfl rfl sl26 ty54 r6 (by omega) rfl fun p336 hp337 ok338 => ?_
          refine r_ok hs m (ok338 _ _ _ _ _) rfl ?_
          clear hs a; intro a hs
          refine r_ok hs m (ok_load_ag (vs := cNeigh (⟨⟨167772416, rfl⟩, ⟨⟨2, rfl⟩, ⟨0, rfl⟩, ⟨0, rfl⟩, ⟨0, rfl⟩, ⟨0, rfl⟩, ⟨1, rfl⟩⟩⟩ : TNeigh)) rfl ty54 (el_at hp337 r6 (get_map _ (rfl : ([(⟨⟨167772416, rfl⟩, ⟨⟨2, rfl⟩, ⟨0, rfl⟩, ⟨0, rfl⟩, ⟨0, rfl⟩, ⟨0, rfl⟩, ⟨1, rfl⟩⟩⟩ : TNeigh)])[0]? = some (⟨⟨167772416, rfl⟩, ⟨⟨2, rfl⟩, ⟨0, rfl⟩, ⟨0, rfl⟩, ⟨0, rfl⟩, ⟨0, rfl⟩, ⟨1, rfl⟩⟩⟩ : TNeigh)))) (by kernel_rfl) (by kernel_rfl)) rfl ?_
          clear hs a; intro a hs
          refine r_alloc hs m ze54 rfl ?_
          clear m hs a w333; intro p339 w340 m a hs
          refine r_store (cs' := cNeigh (⟨⟨167772416, rfl⟩, ⟨⟨2, rfl⟩, ⟨0, rfl⟩, ⟨0, rfl⟩, ⟨0, rfl⟩, ⟨0, rfl⟩, ⟨1, rfl⟩⟩⟩ : TNeigh)) (vs := cNeigh (⟨⟨167772416, rfl⟩, ⟨⟨2, rfl⟩, ⟨0, rfl⟩, ⟨0, rfl⟩, ⟨0, rfl⟩, ⟨0, rfl⟩, ⟨1, rfl⟩⟩⟩ : TNeigh)) hs m rfl rfl ty54 s0 (by kernel_rfl) (by kernel_rfl) (by kernel_rfl) (by kernel_rfl) (by kernel_rfl) ?_
          clear m w340; intro w341 m
          refine wpList_nil (n_then ?_)
          refine c_reg ?_
          refine r_ok hs m (ok_fieldAddr (r := 1) rfl fd29_1 ty26 rfl) rfl ?_
          clear hs a; intro a hs
          refine r_ok hs m (ok_load_sc rfl ty26 (bx_at r5) rfl) rfl ?_
          clear hs a; intro a hs
          refine r_ok hs m (ok_load_ag (vs := cNeigh (⟨⟨167772416, rfl⟩, ⟨⟨2, rfl⟩, ⟨0, rfl⟩, ⟨0, rfl⟩, ⟨0, rfl⟩, ⟨0, rfl⟩, ⟨1, rfl⟩⟩⟩ : TNeigh)) rfl ty54 (bx_at r0) (by kernel_rfl) (by kernel_rfl)) rfl ?_
          clear hs a; intro a hs
          refine r_callP hs m rfl rfl ca58 rfl (lacksNeigh_c v72 ([] : List TNeigh) (⟨⟨167772416, rfl⟩, ⟨⟨2, rfl⟩, ⟨0, rfl⟩, ⟨0, rfl⟩, ⟨0, rfl⟩, ⟨0, rfl⟩, ⟨1, rfl⟩⟩⟩ : TNeigh) _ (m.rdv r23) ) rfl ?_
          clear m hs a w341; intro w342 m a hs
          have q343 : lacksM cmpNeigh zNeigh [] (⟨⟨167772416, rfl⟩, ⟨⟨2, rfl⟩, ⟨0, rfl⟩, ⟨0, rfl⟩, ⟨0, rfl⟩, ⟨0, rfl⟩, ⟨1, rfl⟩⟩⟩ : TNeigh) = (true : Bool) := by kernel_rfl
          rw [q343] at hs
          refine wpList_nil (n_then ?_)
          refine c_true hs rfl rfl ?_
          refine c_last ?_
          refine r_ok hs m (ok_move rfl) rfl ?_
          clear hs a; intro a hs
          refine r_ok hs m (ok_load_ag (vs := cNeigh (⟨⟨167772416, rfl⟩, ⟨⟨2, rfl⟩, ⟨0, rfl⟩, ⟨0, rfl⟩, ⟨0, rfl⟩, ⟨0, rfl⟩, ⟨1, rfl⟩⟩⟩ : TNeigh)) rfl ty54 (bx_at r0) (by kernel_rfl) (by kernel_rfl)) rfl ?_
          clear hs a; intro a hs
          refine r_ok hs m (ok_build (cs := cOp lit15) st58 ze58 rfl (by kernel_rfl)) rfl ?_
          clear hs a; intro a hs
          refine r_buildM (c := cOp) (ys := [lit15]) hs m sl35 ty58 ze58 rfl rfl rfl rfl rfl (fun _ => rfl) rfl rfl rfl ?_
          clear m hs a w342; intro v345 w346 m a hs
          refine r_appendM (c := cOp) (xs := [lit14]) (ys := [lit15]) hs m rfl rfl sl35 ni35 ty58 ze58 rfl by58 rfl r2 (m.rdv r0) (fun _ => rfl) (by decide) rfl ?_
          clear m hs a w346; intro v347 w348 m a hs
          replace m : Hp w0 (hh w0) [Sv 19 58 v347.v ([lit14, lit15].map cOp), Sv 19 58 v345.v ([lit15].map cOp), Bx p339 54 (cNeigh (⟨⟨167772416, rfl⟩, ⟨⟨2, rfl⟩, ⟨0, rfl⟩, ⟨0, rfl⟩, ⟨0, rfl⟩, ⟨0, rfl⟩, ⟨1, rfl⟩⟩⟩ : TNeigh)), Sv 19 58 v329.v ([lit14].map cOp), Bx p323 56 (cFdb (⟨⟨⟨2, rfl⟩, ⟨0, rfl⟩, ⟨0, rfl⟩, ⟨0, rfl⟩, ⟨0, rfl⟩, ⟨1, rfl⟩⟩, ⟨8, rfl⟩⟩ : TFdb)), Bx p270 29 [v261.v, v262.v, v263.v], Bx p268 29 [v70.v, v72.v, v74.v], Sv 4 51 v261.v ([(⟨⟨⟨167772416, rfl⟩, ⟨24, rfl⟩⟩, ⟨167772416, rfl⟩, false⟩ : TRoute)].map cRoute), Sv 7 54 v262.v ([(⟨⟨167772416, rfl⟩, ⟨⟨2, rfl⟩, ⟨0, rfl⟩, ⟨0, rfl⟩, ⟨0, rfl⟩, ⟨0, rfl⟩, ⟨1, rfl⟩⟩⟩ : TNeigh)].map cNeigh), Sv 7 56 v263.v ([(⟨⟨⟨2, rfl⟩, ⟨0, rfl⟩, ⟨0, rfl⟩, ⟨0, rfl⟩, ⟨0, rfl⟩, ⟨1, rfl⟩⟩, ⟨8, rfl⟩⟩ : TFdb)].map cFdb), Sv 12 48 v256.v ([lit13].map cLease), Sv 12 48 v254.v ([lit13].map cLease), Bx p247 48 (cLease lit13), Bx p241 89 (cReq lit6), Bx p237 138 [.string (ByteArray.mk ⟨[107, 101, 114, 110, 101, 108]⟩), .func (.func 73) ⟨[.pointer (some (padd p4 0))]⟩ ⟨[]⟩], Bx p229 89 (cReq lit10), Bx p220 138 [.string (ByteArray.mk ⟨[115, 110, 97, 112, 115, 104, 111, 116]⟩), .func (.func 72) ⟨[]⟩ ⟨[.pointer (some (padd p6 0))]⟩], Bx p212 89 (cReq lit7), Bx p203 138 [.string (ByteArray.mk ⟨[100, 117, 109, 112]⟩), .func (.func 71) ⟨[]⟩ ⟨[.pointer (some (padd p6 0))]⟩], Bx p197 89 (cReq lit6), Sv 12 48 v167.v ([lit13].map cLease), Sv 12 48 v138.v ([lit13].map cLease), Sv 12 48 v136.v ([lit13].map cLease), Sv 7 56 v74.v (([] : List TFdb).map cFdb), Sv 7 54 v72.v (([] : List TNeigh).map cNeigh), Sv 4 51 v70.v (([] : List TRoute).map cRoute), Bx p44 89 (cReq lit10), Sv 2 138 v9.v (([[.string (ByteArray.mk ⟨[100, 117, 109, 112]⟩), .func (.func 71) ⟨[]⟩ ⟨[.pointer (some (padd p6 0))]⟩], [.string (ByteArray.mk ⟨[115, 110, 97, 112, 115, 104, 111, 116]⟩), .func (.func 72) ⟨[]⟩ ⟨[.pointer (some (padd p6 0))]⟩], [.string (ByteArray.mk ⟨[107, 101, 114, 110, 101, 108]⟩), .func (.func 73) ⟨[.pointer (some (padd p4 0))]⟩ ⟨[]⟩], [.string (ByteArray.mk ⟨[97, 99, 113, 117, 105, 114, 101]⟩), .func (.func 74) ⟨[.pointer (some (padd p4 0))]⟩ ⟨[]⟩], [.string (ByteArray.mk ⟨[114, 101, 110, 101, 119]⟩), .func (.func 75) ⟨[.pointer (some (padd p4 0))]⟩ ⟨[]⟩], [.string (ByteArray.mk ⟨[119, 97, 116, 99, 104]⟩), .func (.func 76) ⟨[]⟩ ⟨[.pointer (some (padd p6 0))]⟩]] : List (List Value)).map id), Bx p6 63 [.pointer (some (padd p4 0))], Bx p4 135 (List.append (cSelf lit1) (List.append [v9.v] (List.append (cReq lit6) (List.append [.bool true, v70.v, v72.v, v74.v, v167.v, .int .i64 4, .bool false, nilH.v, .bool false, .int .i64 0, .bool false] (List.append (cPrefix lit2) [.bool false, .bool false])))))] w348 := m
          refine r_ok hs m (ok_assign rfl) rfl ?_
          clear hs a; intro a hs
          refine wpList_nil (n_block (n_then ?_))
          refine c_last ?_
          refine r_ok hs m (ok_add (r := 1) rfl rfl rfl) rfl ?_
          clear hs a; intro a hs
          refine r_ok hs m (ok_move rfl) rfl ?_
          clear hs a; intro a hs
          refine wpList_nil (n_then ?_)
          refine rounds_s ?_
          refine c_reg ?_
          refine r_ok hs m (ok_bin (v := .bool false) rfl rfl rfl) rfl ?_
          clear hs a; intro a hs
          refine wpList_nil (n_then ?_)
          refine c_seq ?_
          refine c_false hs rfl rfl ?_
          refine wp_exit ?_
          refine ex_then (ex_then (ex_hit (?_)))
          refine n_then ?_
          refine c_seq ?_
          refine c_reg ?_
          refine r_ok hs m (ok_fieldAddr (r := 0) rfl fd29_0 ty25 rfl) rfl ?_
          clear hs a; intro a hs
          refine r_ok hs m (ok_load_sc rfl ty25 (bx_at r5) rfl) rfl ?_
          clear hs a; intro a hs
          refine r_ok hs m (ok_len (r := 1) m rfl sl25 (rc_own r7) rfl) rfl ?_
          clear hs a; intro a hs
          refine r_ok hs m (ok_move rfl) rfl ?_
          clear hs a; intro a hs
          refine wpList_nil (n_then ?_)
          refine wp_block ?_
          refine wp_loop_rounds 13 ?_
          refine rounds_s ?_
          refine c_reg ?_
          refine r_ok hs m (ok_bin (v := .bool true) rfl rfl rfl) rfl ?_
          clear hs a; intro a hs
          refine wpList_nil (n_then ?_)
          refine c_seq ?_
          refine c_true hs rfl rfl ?_
          refine wp_skip ?_
          refine n_then ?_
          refine c_seq ?_
          refine wp_block ?_
          refine c_reg ?_
          refine elO (c := cRoute) (e := (⟨⟨⟨167772416, rfl⟩, ⟨24, rfl⟩⟩, ⟨167772416, rfl⟩, false⟩ : TRoute)) hs m (x := (.tmp 127)) (ix := (.tmp 129)) rfl rfl sl25 ty51 r7 (by omega) rfl fun p351 hp352 ok353 => ?_
          refine r_ok hs m (ok353 _ _ _ _ _) rfl ?_
          clear hs a; intro a hs
          refine r_ok hs m (ok_load_ag (vs := cRoute (⟨⟨⟨167772416, rfl⟩, ⟨24, rfl⟩⟩, ⟨167772416, rfl⟩, false⟩ : TRoute)) rfl ty51 (el_at hp352 r7 (get_map _ (rfl : ([(⟨⟨⟨167772416, rfl⟩, ⟨24, rfl⟩⟩, ⟨167772416, rfl⟩, false⟩ : TRoute)])[0]? = some (⟨⟨⟨167772416, rfl⟩, ⟨24, rfl⟩⟩, ⟨167772416, rfl⟩, false⟩ : TRoute)))) (by kernel_rfl) (by kernel_rfl)) rfl ?_
          clear hs a; intro a hs
          refine r_alloc hs m ze51 rfl ?_
          clear m hs a w348; intro p354 w355 m a hs
          refine r_store (cs' := cRoute (⟨⟨⟨167772416, rfl⟩, ⟨24, rfl⟩⟩, ⟨167772416, rfl⟩, false⟩ : TRoute)) (vs := cRoute (⟨⟨⟨167772416, rfl⟩, ⟨24, rfl⟩⟩, ⟨167772416, rfl⟩, false⟩ : TRoute)) hs m rfl rfl ty51 s0 (by kernel_rfl) (by kernel_rfl) (by kernel_rfl) (by kernel_rfl) (by kernel_rfl) ?_
          clear m w355; intro w356 m
          refine wpList_nil (n_then ?_)
          refine c_reg ?_
          refine r_ok hs m (ok_fieldAddr (r := 0) rfl fd29_0 ty25 rfl) rfl ?_
          clear hs a; intro a hs
          refine r_ok hs m (ok_load_sc rfl ty25 (bx_at r7) rfl) rfl ?_
          clear hs a; intro a hs
          refine r_ok hs m (ok_load_ag (vs := cRoute (⟨⟨⟨167772416, rfl⟩, ⟨24, rfl⟩⟩, ⟨167772416, rfl⟩, false⟩ : TRoute)) rfl ty51 (bx_at r0) (by kernel_rfl) (by kernel_rfl)) rfl ?_
          clear hs a; intro a hs
          refine r_callP hs m rfl rfl ca60 rfl (lacksRoute_c v70 ([] : List TRoute) (⟨⟨⟨167772416, rfl⟩, ⟨24, rfl⟩⟩, ⟨167772416, rfl⟩, false⟩ : TRoute) _ (m.rdv r26) ) rfl ?_
          clear m hs a w356; intro w357 m a hs
          have q358 : lacksM cmpRoute zRoute [] (⟨⟨⟨167772416, rfl⟩, ⟨24, rfl⟩⟩, ⟨167772416, rfl⟩, false⟩ : TRoute) = (true : Bool) := by kernel_rfl
          rw [q358] at hs
          refine r_ok hs m (ok_move rfl) rfl ?_
          clear hs a; intro a hs
          refine g_out hs rfl rfl rfl rfl ?_
          clear hs a; intro a hs
          refine g_out hs rfl rfl rfl rfl ?_
          clear hs a; intro a hs
          refine g_out hs rfl rfl rfl rfl ?_
          clear hs a; intro a hs
          refine g_out hs rfl rfl rfl rfl ?_
          clear hs a; intro a hs
          refine g_out hs rfl rfl rfl rfl ?_
          clear hs a; intro a hs
          refine r_ok hs m (ok_pick (r := .bool true) rfl rfl rfl rfl) rfl ?_
          clear hs a; intro a hs
          refine wpList_nil (n_then ?_)
          refine c_true hs rfl rfl ?_
          refine c_last ?_
          refine r_ok hs m (ok_move rfl) rfl ?_
          clear hs a; intro a hs
          refine r_ok hs m (ok_load_ag (vs := cRoute (⟨⟨⟨167772416, rfl⟩, ⟨24, rfl⟩⟩, ⟨167772416, rfl⟩, false⟩ : TRoute)) rfl ty51 (bx_at r0) (by kernel_rfl) (by kernel_rfl)) rfl ?_
          clear hs a; intro a hs
          refine r_ok hs m (ok_build (cs := cOp lit16) st58 ze58 rfl (by kernel_rfl)) rfl ?_
          clear hs a; intro a hs
          refine r_buildM (c := cOp) (ys := [lit16]) hs m sl35 ty58 ze58 rfl rfl rfl rfl rfl (fun _ => rfl) rfl rfl rfl ?_
          clear m hs a w357; intro v360 w361 m a hs
          refine r_appendM (c := cOp) (xs := [lit14, lit15]) (ys := [lit16]) hs m rfl rfl sl35 ni35 ty58 ze58 rfl by58 rfl r2 (m.rdv r0) (fun _ => rfl) (by decide) rfl ?_
          clear m hs a w361; intro v362 w363 m a hs
          replace m : Hp w0 (hh w0) [Sv 19 58 v362.v ([lit14, lit15, lit16].map cOp), Sv 19 58 v360.v ([lit16].map cOp), Bx p354 51 (cRoute (⟨⟨⟨167772416, rfl⟩, ⟨24, rfl⟩⟩, ⟨167772416, rfl⟩, false⟩ : TRoute)), Sv 19 58 v345.v ([lit15].map cOp), Bx p339 54 (cNeigh (⟨⟨167772416, rfl⟩, ⟨⟨2, rfl⟩, ⟨0, rfl⟩, ⟨0, rfl⟩, ⟨0, rfl⟩, ⟨0, rfl⟩, ⟨1, rfl⟩⟩⟩ : TNeigh)), Sv 19 58 v329.v ([lit14].map cOp), Bx p323 56 (cFdb (⟨⟨⟨2, rfl⟩, ⟨0, rfl⟩, ⟨0, rfl⟩, ⟨0, rfl⟩, ⟨0, rfl⟩, ⟨1, rfl⟩⟩, ⟨8, rfl⟩⟩ : TFdb)), Bx p270 29 [v261.v, v262.v, v263.v], Bx p268 29 [v70.v, v72.v, v74.v], Sv 4 51 v261.v ([(⟨⟨⟨167772416, rfl⟩, ⟨24, rfl⟩⟩, ⟨167772416, rfl⟩, false⟩ : TRoute)].map cRoute), Sv 7 54 v262.v ([(⟨⟨167772416, rfl⟩, ⟨⟨2, rfl⟩, ⟨0, rfl⟩, ⟨0, rfl⟩, ⟨0, rfl⟩, ⟨0, rfl⟩, ⟨1, rfl⟩⟩⟩ : TNeigh)].map cNeigh), Sv 7 56 v263.v ([(⟨⟨⟨2, rfl⟩, ⟨0, rfl⟩, ⟨0, rfl⟩, ⟨0, rfl⟩, ⟨0, rfl⟩, ⟨1, rfl⟩⟩, ⟨8, rfl⟩⟩ : TFdb)].map cFdb), Sv 12 48 v256.v ([lit13].map cLease), Sv 12 48 v254.v ([lit13].map cLease), Bx p247 48 (cLease lit13), Bx p241 89 (cReq lit6), Bx p237 138 [.string (ByteArray.mk ⟨[107, 101, 114, 110, 101, 108]⟩), .func (.func 73) ⟨[.pointer (some (padd p4 0))]⟩ ⟨[]⟩], Bx p229 89 (cReq lit10), Bx p220 138 [.string (ByteArray.mk ⟨[115, 110, 97, 112, 115, 104, 111, 116]⟩), .func (.func 72) ⟨[]⟩ ⟨[.pointer (some (padd p6 0))]⟩], Bx p212 89 (cReq lit7), Bx p203 138 [.string (ByteArray.mk ⟨[100, 117, 109, 112]⟩), .func (.func 71) ⟨[]⟩ ⟨[.pointer (some (padd p6 0))]⟩], Bx p197 89 (cReq lit6), Sv 12 48 v167.v ([lit13].map cLease), Sv 12 48 v138.v ([lit13].map cLease), Sv 12 48 v136.v ([lit13].map cLease), Sv 7 56 v74.v (([] : List TFdb).map cFdb), Sv 7 54 v72.v (([] : List TNeigh).map cNeigh), Sv 4 51 v70.v (([] : List TRoute).map cRoute), Bx p44 89 (cReq lit10), Sv 2 138 v9.v (([[.string (ByteArray.mk ⟨[100, 117, 109, 112]⟩), .func (.func 71) ⟨[]⟩ ⟨[.pointer (some (padd p6 0))]⟩], [.string (ByteArray.mk ⟨[115, 110, 97, 112, 115, 104, 111, 116]⟩), .func (.func 72) ⟨[]⟩ ⟨[.pointer (some (padd p6 0))]⟩], [.string (ByteArray.mk ⟨[107, 101, 114, 110, 101, 108]⟩), .func (.func 73) ⟨[.pointer (some (padd p4 0))]⟩ ⟨[]⟩], [.string (ByteArray.mk ⟨[97, 99, 113, 117, 105, 114, 101]⟩), .func (.func 74) ⟨[.pointer (some (padd p4 0))]⟩ ⟨[]⟩], [.string (ByteArray.mk ⟨[114, 101, 110, 101, 119]⟩), .func (.func 75) ⟨[.pointer (some (padd p4 0))]⟩ ⟨[]⟩], [.string (ByteArray.mk ⟨[119, 97, 116, 99, 104]⟩), .func (.func 76) ⟨[]⟩ ⟨[.pointer (some (padd p6 0))]⟩]] : List (List Value)).map id), Bx p6 63 [.pointer (some (padd p4 0))], Bx p4 135 (List.append (cSelf lit1) (List.append [v9.v] (List.append (cReq lit6) (List.append [.bool true, v70.v, v72.v, v74.v, v167.v, .int .i64 4, .bool false, nilH.v, .bool false, .int .i64 0, .bool false] (List.append (cPrefix lit2) [.bool false, .bool false])))))] w363 := m
          refine r_ok hs m (ok_assign rfl) rfl ?_
          clear hs a; intro a hs
          refine wpList_nil (n_block (n_then ?_))
          refine c_last ?_
          refine r_ok hs m (ok_add (r := 1) rfl rfl rfl) rfl ?_
          clear hs a; intro a hs
          refine r_ok hs m (ok_move rfl) rfl ?_
          clear hs a; intro a hs
          refine wpList_nil (n_then ?_)
          refine rounds_s ?_
          refine c_reg ?_
          refine r_ok hs m (ok_bin (v := .bool false) rfl rfl rfl) rfl ?_
          clear hs a; intro a hs
          refine wpList_nil (n_then ?_)
          refine c_seq ?_
          refine c_false hs rfl rfl ?_
          refine wp_exit ?_
          refine ex_then (ex_then (ex_hit (?_)))
          refine n_then ?_
          refine c_reg ?_
          refine r_ok hs m (ok_move rfl) rfl ?_
          clear hs a; intro a hs
          refine r_ok hs m (ok_assign rfl) rfl ?_
          clear hs a; intro a hs
          refine r_ok hs m (ok_assign rfl) rfl ?_
          clear hs a; intro a hs
          refine wpList_nil (n_then ?_)
          refine wp_ret ?_
          refine leave hs (vs := [v362.v, .int .i64 0]) rfl ⟨rfl, rfl, trivial⟩ ?_
          exact ⟨_, rfl, v362, rfl, m.sub (.c r0 (.c r8 (.c r8 (.c r8 (.c r8 (.c r8 (.c r8 (.c r8 (.c r8 (.c r8 (.c r8 (.c r8 (.c r8 (.c r8 (.c r8 (.c r8 (.c r8 (.c r8 (.c r8 (.c r8 (.c r8 (.c r8 (.c r8 (.c r8 .n))))))))))))))))))))))))⟩
        clear hs a m w264; rintro _ w365 ⟨v362, rfl, m⟩ a hs
        refine wpList_nil (n_then ⟨(m.sub (.c r4 (.c r4 (.c r4 (.c r4 (.c r4 (.c r4 (.c r4 (.c r4 (.c r4 (.c r4 (.c r4 (.c r4 (.c r4 (.c r4 (.c r4 (.c r4 (.c r4 (.c r4 (.c r4 (.c r4 .n))))))))))))))))))))), ?_⟩)
        refine h_ok (i := 12) rfl (by kernel_rfl) (by kernel_rfl) (by kernel_rfl) hs (m.sub (.c r4 (.c r4 (.c r4 (.c r4 (.c r4 (.c r4 (.c r4 (.c r4 (.c r4 (.c r4 (.c r4 (.c r4 (.c r4 (.c r4 (.c r4 (.c r4 (.c r4 (.c r4 (.c r4 (.c r4 .n))))))))))))))))))))) (ok_move rfl) rfl ?_
        clear hs a; intro a hs
        refine h_ok (i := 13) rfl (by kernel_rfl) (by kernel_rfl) (by kernel_rfl) hs (m.sub (.c r4 (.c r4 (.c r4 (.c r4 (.c r4 (.c r4 (.c r4 (.c r4 (.c r4 (.c r4 (.c r4 (.c r4 (.c r4 (.c r4 (.c r4 (.c r4 (.c r4 (.c r4 (.c r4 (.c r4 .n))))))))))))))))))))) (ok_extract rfl rfl) rfl ?_
        clear hs a; intro a hs
        refine h_ok (i := 14) rfl (by kernel_rfl) (by kernel_rfl) (by kernel_rfl) hs (m.sub (.c r4 (.c r4 (.c r4 (.c r4 (.c r4 (.c r4 (.c r4 (.c r4 (.c r4 (.c r4 (.c r4 (.c r4 (.c r4 (.c r4 (.c r4 (.c r4 (.c r4 (.c r4 (.c r4 (.c r4 .n))))))))))))))))))))) (ok_extract rfl rfl) rfl ?_
        clear hs a; intro a hs
        refine h_ok (i := 15) rfl (by kernel_rfl) (by kernel_rfl) (by kernel_rfl) hs (m.sub (.c r4 (.c r4 (.c r4 (.c r4 (.c r4 (.c r4 (.c r4 (.c r4 (.c r4 (.c r4 (.c r4 (.c r4 (.c r4 (.c r4 (.c r4 (.c r4 (.c r4 (.c r4 (.c r4 (.c r4 .n))))))))))))))))))))) (ok_assign rfl) rfl ?_
        clear hs a; intro a hs
        refine h_ok (i := 16) rfl (by kernel_rfl) (by kernel_rfl) (by kernel_rfl) hs (m.sub (.c r4 (.c r4 (.c r4 (.c r4 (.c r4 (.c r4 (.c r4 (.c r4 (.c r4 (.c r4 (.c r4 (.c r4 (.c r4 (.c r4 (.c r4 (.c r4 (.c r4 (.c r4 (.c r4 (.c r4 .n))))))))))))))))))))) (ok_assign rfl) rfl ?_
        clear hs a; intro a hs
        refine h_done (by kernel_rfl) (n_then ?_)
        refine c_reg ?_
        refine r_ok hs m (ok_move rfl) rfl ?_
        clear hs a; intro a hs
        refine r_ok hs m (ok_assign rfl) rfl ?_
        clear hs a; intro a hs
        refine wpList_nil (n_then ?_)
        refine wp_ret ?_
        refine leave hs (vs := [v362.v]) rfl ⟨rfl, trivial⟩ ?_
        exact ⟨_, rfl, v362, rfl, m.sub (.c r0 (.c r6 (.c r6 (.c r6 (.c r6 (.c r6 (.c r6 (.c r6 (.c r6 (.c r6 (.c r6 (.c r6 (.c r6 (.c r6 (.c r6 (.c r6 (.c r6 (.c r6 .n))))))))))))))))))⟩
      clear hs a m w242; rintro _ w366 ⟨v362, rfl, m⟩ a hs
      refine r_ok hs m (ok_assign rfl) rfl ?_
      clear hs a; intro a hs
      refine wpList_nil (n_then ?_)
      refine c_seq ?_
      refine c_reg ?_
      refine r_ok hs m (ok_move rfl) rfl ?_
      clear hs a; intro a hs
      refine r_ok hs m (ok_len (r := 3) m rfl sl35 (rc_own r0) rfl) rfl ?_
      clear hs a; intro a hs
      refine r_ok hs m (ok_bin (v := .bool false) rfl rfl rfl) rfl ?_
      clear hs a; intro a hs
      refine wpList_nil (n_then ?_)
      refine c_false hs rfl rfl ?_
      refine wp_skip ?_
      refine n_then ?_
      refine c_reg ?_
      refine r_ok hs m (ok_move rfl) rfl ?_
      clear hs a; intro a hs
      refine elO (c := cOp) (e := lit14) hs m (x := (.tmp 13)) (ix := (.const (.int .i64 0))) rfl rfl sl35 ty58 r0 (by omega) rfl fun p368 hp369 ok370 => ?_
      refine r_ok hs m (ok370 _ _ _ _ _) rfl ?_
      clear hs a; intro a hs
      refine r_ok hs m (ok_load_ag (vs := cOp lit14) rfl ty58 (el_at hp369 r0 (get_map _ (rfl : ([lit14, lit15, lit16])[0]? = some lit14))) (by kernel_rfl) (by kernel_rfl)) rfl ?_
      clear hs a; intro a hs
      refine r_ok hs m (ok_build (cs := cReq lit17) st89 ze89 rfl (by kernel_rfl)) rfl ?_
      clear hs a; intro a hs
      refine r_store (cs' := cReq lit17) (vs := cReq lit17) hs m rfl rfl ty89 s1 (by kernel_rfl) (by kernel_rfl) (by kernel_rfl) (by kernel_rfl) (by kernel_rfl) ?_
      clear m w366; intro w371 m
      refine r_ok hs m (ok_assign rfl) rfl ?_
      clear hs a; intro a hs
      refine wpList_nil (n_then ?_)
      refine wp_ret ?_
      refine leave hs (vs := [.agg ⟨cReq lit17⟩, .bool true]) rfl ⟨resv_cell (cs := cReq lit17) m rfl ty89 r1 rfl, rfl, trivial⟩ ?_
      exact ⟨_, rfl, rfl, m.sub (.c r2 (.c r2 (.c r2 (.c r2 (.c r2 (.c r2 (.c r2 (.c r2 (.c r2 (.c r2 (.c r2 (.c r2 (.c r2 (.c r2 (.c r2 (.c r2 .n))))))))))))))))⟩
    clear hs a m w239; rintro _ w372 ⟨rfl, m⟩ a hs
    refine r_ok hs m (ok_move rfl) rfl ?_
    clear hs a; intro a hs
    refine r_ok hs m (ok_extract rfl rfl) rfl ?_
    clear hs a; intro a hs
    refine r_ok hs m (ok_extract rfl rfl) rfl ?_
    clear hs a; intro a hs
    refine r_alloc hs m ze89 rfl ?_
    clear m hs a w372; intro p373 w374 m a hs
    refine r_store (cs' := cReq lit17) (vs := cReq lit17) hs m rfl rfl ty89 s0 (by kernel_rfl) (by kernel_rfl) (by kernel_rfl) (by kernel_rfl) (by kernel_rfl) ?_
    clear m w374; intro w375 m
    refine r_ok hs m (ok_assign rfl) rfl ?_
    clear hs a; intro a hs
    refine wpList_nil (n_then ?_)
    refine c_reg ?_
    refine r_ok hs m (ok_move rfl) rfl ?_
    clear hs a; intro a hs
    refine wpList_nil (n_then ?_)
    refine c_true hs rfl rfl ?_
    refine c_last ?_
    refine r_ok hs m (ok_move rfl) rfl ?_
    clear hs a; intro a hs
    refine r_ok hs m (ok_load_ag (vs := cReq lit17) rfl ty89 (bx_at r0) (by kernel_rfl) (by kernel_rfl)) rfl ?_
    clear hs a; intro a hs
    refine r_ok hs m (ok_nilCheck rfl) rfl ?_
    clear hs a; intro a hs
    refine r_ok hs m (ok_fieldAddr (r := 10) rfl fd135_2 ty89 rfl) rfl ?_
    clear hs a; intro a hs
    refine r_store (cs' := List.append (cSelf lit1) (List.append [v9.v] (List.append (cReq lit17) (List.append [.bool true, v70.v, v72.v, v74.v, v167.v, .int .i64 4, .bool false, nilH.v, .bool false, .int .i64 0, .bool false] (List.append (cPrefix lit2) [.bool false, .bool false]))))) (vs := cReq lit17) hs m rfl rfl ty89 s16 (by kernel_rfl) (by kernel_rfl) (by kernel_rfl) (by kernel_rfl) (by kernel_rfl) ?_
    clear m w375; intro w377 m
    refine wpList_nil (n_block (n_then ?_))
    refine c_last ?_
    refine r_ok hs m (ok_add (r := 3) rfl rfl rfl) rfl ?_
    clear hs a; intro a hs
    refine r_ok hs m (ok_move rfl) rfl ?_
    clear hs a; intro a hs
    refine wpList_nil (n_then ?_)
    refine rounds_s ?_
    refine c_reg ?_
    refine r_ok hs m (ok_bin (v := .bool true) rfl rfl rfl) rfl ?_
    clear hs a; intro a hs
    refine wpList_nil (n_then ?_)
    refine c_seq ?_
    refine c_true hs rfl rfl ?_
    refine wp_skip ?_
    refine n_then ?_
    refine c_seq ?_
    refine wp_block ?_
    refine c_reg ?_
    refine elO (c := id) (e := ([.string (ByteArray.mk ⟨[97, 99, 113, 117, 105, 114, 101]⟩), .func (.func 74) ⟨[.pointer (some (padd p4 0))]⟩ ⟨[]⟩] : List Value)) hs m (x := (.tmp 12)) (ix := (.tmp 14)) rfl rfl sl133 ty138 r14 (by omega) rfl fun p379 hp380 ok381 => ?_
    refine r_ok hs m (ok381 _ _ _ _ _) rfl ?_
    clear hs a; intro a hs
    refine r_ok hs m (ok_load_ag (vs := [.string (ByteArray.mk ⟨[97, 99, 113, 117, 105, 114, 101]⟩), .func (.func 74) ⟨[.pointer (some (padd p4 0))]⟩ ⟨[]⟩]) rfl ty138 (el_at hp380 r14 (get_map _ (rfl : ([[.string (ByteArray.mk ⟨[100, 117, 109, 112]⟩), .func (.func 71) ⟨[]⟩ ⟨[.pointer (some (padd p6 0))]⟩], [.string (ByteArray.mk ⟨[115, 110, 97, 112, 115, 104, 111, 116]⟩), .func (.func 72) ⟨[]⟩ ⟨[.pointer (some (padd p6 0))]⟩], [.string (ByteArray.mk ⟨[107, 101, 114, 110, 101, 108]⟩), .func (.func 73) ⟨[.pointer (some (padd p4 0))]⟩ ⟨[]⟩], [.string (ByteArray.mk ⟨[97, 99, 113, 117, 105, 114, 101]⟩), .func (.func 74) ⟨[.pointer (some (padd p4 0))]⟩ ⟨[]⟩], [.string (ByteArray.mk ⟨[114, 101, 110, 101, 119]⟩), .func (.func 75) ⟨[.pointer (some (padd p4 0))]⟩ ⟨[]⟩], [.string (ByteArray.mk ⟨[119, 97, 116, 99, 104]⟩), .func (.func 76) ⟨[]⟩ ⟨[.pointer (some (padd p6 0))]⟩]])[3]? = some ([.string (ByteArray.mk ⟨[97, 99, 113, 117, 105, 114, 101]⟩), .func (.func 74) ⟨[.pointer (some (padd p4 0))]⟩ ⟨[]⟩] : List Value)))) (by kernel_rfl) (by kernel_rfl)) rfl ?_
    clear hs a; intro a hs
    refine r_alloc hs m ze138 rfl ?_
    clear m hs a w377; intro p382 w383 m a hs
    refine r_store (cs' := [.string (ByteArray.mk ⟨[97, 99, 113, 117, 105, 114, 101]⟩), .func (.func 74) ⟨[.pointer (some (padd p4 0))]⟩ ⟨[]⟩]) (vs := [.string (ByteArray.mk ⟨[97, 99, 113, 117, 105, 114, 101]⟩), .func (.func 74) ⟨[.pointer (some (padd p4 0))]⟩ ⟨[]⟩]) hs m rfl rfl ty138 s0 (by kernel_rfl) (by kernel_rfl) (by kernel_rfl) (by kernel_rfl) (by kernel_rfl) ?_
    clear m w383; intro w384 m
    refine wpList_nil (n_then ?_)
    refine c_seq ?_
    refine c_reg ?_
    refine r_ok hs m (ok_move rfl) rfl ?_
    clear hs a; intro a hs
    refine r_ok hs m (ok_nilCheck rfl) rfl ?_
    clear hs a; intro a hs
    refine r_ok hs m (ok_fieldAddr (r := 10) rfl fd135_2 ty89 rfl) rfl ?_
    clear hs a; intro a hs
    refine r_ok hs m (ok_fieldAddr (r := 10) rfl fd89_0 ty3 rfl) rfl ?_
    clear hs a; intro a hs
    refine r_ok hs m (ok_load_sc rfl ty3 (bx_at r17) rfl) rfl ?_
    clear hs a; intro a hs
    refine r_ok hs m (ok_bin (v := .bool true) rfl rfl rfl) rfl ?_
    clear hs a; intro a hs
    refine wpList_nil (n_then ?_)
    refine c_true hs rfl rfl ?_
    refine wp_exit ?_
    refine ex_then (ex_miss rfl (ex_then (ex_then (ex_hit (?_)))))
    refine n_then ?_
    refine c_reg ?_
    refine r_ok hs m (ok_move rfl) rfl ?_
    clear hs a; intro a hs
    refine r_ok hs m (ok_nilCheck rfl) rfl ?_
    clear hs a; intro a hs
    refine r_ok hs m (ok_fieldAddr (r := 10) rfl fd135_2 ty89 rfl) rfl ?_
    clear hs a; intro a hs
    refine r_ok hs m (ok_load_ag (vs := cReq lit17) rfl ty89 (bx_at r17) (by kernel_rfl) (by kernel_rfl)) rfl ?_
    clear hs a; intro a hs
    refine r_store (cs' := cReq lit17) (vs := cReq lit17) hs m rfl rfl ty89 s7 (by kernel_rfl) (by kernel_rfl) (by kernel_rfl) (by kernel_rfl) (by kernel_rfl) ?_
    clear m w384; intro w386 m
    refine wpList_nil (n_then ?_)
    refine wp_ret ?_
    refine leave hs (vs := [.agg ⟨cReq lit17⟩]) rfl ⟨resv_cell (cs := cReq lit17) m rfl ty89 r7 rfl, trivial⟩ ?_
    exact ⟨_, rfl, rfl, m.sub (.c r8 (.c r8 (.c r8 (.c r8 (.c r8 (.c r8 (.c r8 (.c r8 (.c r8 (.c r8 .n))))))))))⟩
  clear hs a m w195; rintro _ w387 ⟨rfl, m⟩ a hs
  refine r_store (cs' := cReq lit17) (vs := cReq lit17) hs m rfl rfl ty89 s6 (by kernel_rfl) (by kernel_rfl) (by kernel_rfl) (by kernel_rfl) (by kernel_rfl) ?_
  clear m w387; intro w388 m
  refine wpList_nil (n_then ?_)
  refine c_reg ?_
  refine r_ok hs m (ok_fieldAddr (r := 0) rfl fd89_0 ty3 rfl) rfl ?_
  clear hs a; intro a hs
  refine r_ok hs m (ok_load_sc rfl ty3 (bx_at r6) rfl) rfl ?_
  clear hs a; intro a hs
  refine r_ok hs m (ok_bin (v := .bool true) rfl rfl rfl) rfl ?_
  clear hs a; intro a hs
  refine r_ok hs m (ok_move rfl) rfl ?_
  clear hs a; intro a hs
  refine r_okg hs rfl rfl rfl m (ok_fieldAddr (r := 13) rfl fd89_2 ty58 rfl) rfl ?_
  clear hs a; intro a hs
  refine r_okg hs rfl rfl rfl m (ok_fieldAddr (r := 13) rfl fd58_0 ty3 rfl) rfl ?_
  clear hs a; intro a hs
  refine r_okg hs rfl rfl rfl m (ok_load_sc rfl ty3 (bx_at r6) rfl) rfl ?_
  clear hs a; intro a hs
  refine r_okg hs rfl rfl rfl m (ok_bin (v := .bool true) rfl rfl rfl) rfl ?_
  clear hs a; intro a hs
  refine r_ok hs m (ok_pick (r := .bool true) rfl rfl rfl rfl) rfl ?_
  clear hs a; intro a hs
  refine r_ok hs m (ok_move rfl) rfl ?_
  clear hs a; intro a hs
  refine r_okg hs rfl rfl rfl m (ok_fieldAddr (r := 13) rfl fd89_2 ty58 rfl) rfl ?_
  clear hs a; intro a hs
  refine r_okg hs rfl rfl rfl m (ok_fieldAddr (r := 25) rfl fd58_3 ty56 rfl) rfl ?_
  clear hs a; intro a hs
  refine r_okg hs rfl rfl rfl m (ok_load_ag (vs := cFdb (⟨⟨⟨2, rfl⟩, ⟨0, rfl⟩, ⟨0, rfl⟩, ⟨0, rfl⟩, ⟨0, rfl⟩, ⟨1, rfl⟩⟩, ⟨8, rfl⟩⟩ : TFdb)) rfl ty56 (bx_at r6) (by kernel_rfl) (by kernel_rfl)) rfl ?_
  clear hs a; intro a hs
  refine r_okg hs rfl rfl rfl m (ok_buildArr (cs := cMAC lit12) ar46 ty5 ze46 rfl (by kernel_rfl)) rfl ?_
  clear hs a; intro a hs
  refine r_okg hs rfl rfl rfl m (ok_build (cs := cFdb (⟨lit12, ⟨8, rfl⟩⟩ : TFdb)) st56 ze56 rfl (by kernel_rfl)) rfl ?_
  clear hs a; intro a hs
  refine r_okg hs rfl rfl rfl m (ok_eqv (b := decide ((⟨⟨⟨2, rfl⟩, ⟨0, rfl⟩, ⟨0, rfl⟩, ⟨0, rfl⟩, ⟨0, rfl⟩, ⟨1, rfl⟩⟩, ⟨8, rfl⟩⟩ : TFdb) = (⟨lit12, ⟨8, rfl⟩⟩ : TFdb))) rfl rfl eqT56 (fFdb _) (fFdb _) (iFdb (⟨⟨⟨2, rfl⟩, ⟨0, rfl⟩, ⟨0, rfl⟩, ⟨0, rfl⟩, ⟨0, rfl⟩, ⟨1, rfl⟩⟩, ⟨8, rfl⟩⟩ : TFdb) (⟨lit12, ⟨8, rfl⟩⟩ : TFdb))) rfl ?_
  clear hs a; intro a hs
  refine r_ok hs m (ok_pick (r := .bool (decide ((⟨⟨⟨2, rfl⟩, ⟨0, rfl⟩, ⟨0, rfl⟩, ⟨0, rfl⟩, ⟨0, rfl⟩, ⟨1, rfl⟩⟩, ⟨8, rfl⟩⟩ : TFdb) = (⟨lit12, ⟨8, rfl⟩⟩ : TFdb)))) rfl rfl rfl rfl) rfl ?_
  clear hs a; intro a hs
  refine r_ok hs m (ok_assign rfl) rfl ?_
  clear hs a; intro a hs
  refine wpList_nil (n_then ?_)
  refine wp_ret ?_
  refine leave hs (vs := [.bool (decide ((⟨⟨⟨2, rfl⟩, ⟨0, rfl⟩, ⟨0, rfl⟩, ⟨0, rfl⟩, ⟨0, rfl⟩, ⟨1, rfl⟩⟩, ⟨8, rfl⟩⟩ : TFdb) = (⟨lit12, ⟨8, rfl⟩⟩ : TFdb)))]) rfl ⟨rfl, trivial⟩ ?_
  refine ⟨?_, m.sub .n⟩
  have q389 : (decide ((⟨⟨⟨2, rfl⟩, ⟨0, rfl⟩, ⟨0, rfl⟩, ⟨0, rfl⟩, ⟨0, rfl⟩, ⟨1, rfl⟩⟩, ⟨8, rfl⟩⟩ : TFdb) = (⟨lit12, ⟨8, rfl⟩⟩ : TFdb)) : Bool) = true := by clear hs m; kernel_rfl
  first | (rw [q389]; done) | (rw [q389]; rfl) | (rw [q389]; rfl) | (simp only [q389, pack]; done)
end Go.Proofs.YtnbpodjbemfpbaaGreat.Fw
