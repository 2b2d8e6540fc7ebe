/-
  What the tables of the translation say: written by wip/tool/mkseat.py.
-/
import Derived.Test.YtnbpodjbemfpbaaGreatMd
import Derived.Test.YtnbpodjbemfpbaaGreatProg
import Derived.KernelRfl
set_option linter.all false
namespace Go.Proofs.YtnbpodjbemfpbaaGreat.Fw
open Go
theorem ty2 : tyI Tryz.prog 2 = some (false, 1) := by kernel_rfl
theorem ty3 : tyI Tryz.prog 3 = some (false, 1) := by kernel_rfl
theorem in3 : inI Tryz.prog 3 = some .i64 := by kernel_rfl
theorem ze3 : zeI Tryz.prog 3 = some [.int .i64 0] := by kernel_rfl
theorem ty4 : tyI Tryz.prog 4 = some (false, 1) := by kernel_rfl
theorem ub4 : Tryz.prog.underlying 4 = some .bool := by kernel_rfl
theorem ty5 : tyI Tryz.prog 5 = some (false, 1) := by kernel_rfl
theorem in5 : inI Tryz.prog 5 = some .u8 := by kernel_rfl
theorem ty22 : tyI Tryz.prog 22 = some (false, 1) := by kernel_rfl
theorem sl22 : slI Tryz.prog 22 = some 48 := by kernel_rfl
theorem ni22 : notInt Tryz.prog 22 = true := by kernel_rfl
theorem ty25 : tyI Tryz.prog 25 = some (false, 1) := by kernel_rfl
theorem sl25 : slI Tryz.prog 25 = some 51 := by kernel_rfl
theorem ni25 : notInt Tryz.prog 25 = true := by kernel_rfl
theorem ty26 : tyI Tryz.prog 26 = some (false, 1) := by kernel_rfl
theorem sl26 : slI Tryz.prog 26 = some 54 := by kernel_rfl
theorem ni26 : notInt Tryz.prog 26 = true := by kernel_rfl
theorem ty27 : tyI Tryz.prog 27 = some (false, 1) := by kernel_rfl
theorem sl27 : slI Tryz.prog 27 = some 56 := by kernel_rfl
theorem ni27 : notInt Tryz.prog 27 = true := by kernel_rfl
theorem ty29 : tyI Tryz.prog 29 = some (true, 3) := by kernel_rfl
theorem fd29_0 : fdI Tryz.prog 29 0 = some (0, 25) := by kernel_rfl
theorem fd29_1 : fdI Tryz.prog 29 1 = some (1, 26) := by kernel_rfl
theorem fd29_2 : fdI Tryz.prog 29 2 = some (2, 27) := by kernel_rfl
theorem st29 : stI Tryz.prog 29 = some [(0, 1), (1, 1), (2, 1)] := by kernel_rfl
theorem ze29 : zeI Tryz.prog 29 = some [.slice none 0 0, .slice none 0 0, .slice none 0 0] := by kernel_rfl
theorem sl35 : slI Tryz.prog 35 = some 58 := by kernel_rfl
theorem ni35 : notInt Tryz.prog 35 = true := by kernel_rfl
theorem ty36 : tyI Tryz.prog 36 = some (false, 1) := by kernel_rfl
theorem ty42 : tyI Tryz.prog 42 = some (false, 1) := by kernel_rfl
theorem in42 : inI Tryz.prog 42 = some .u32 := by kernel_rfl
theorem ty44 : tyI Tryz.prog 44 = some (true, 2) := by kernel_rfl
theorem fd44_0 : fdI Tryz.prog 44 0 = some (0, 42) := by kernel_rfl
theorem fd44_1 : fdI Tryz.prog 44 1 = some (1, 3) := by kernel_rfl
theorem st44 : stI Tryz.prog 44 = some [(0, 1), (1, 1)] := by kernel_rfl
theorem eqT44 : EqT Tryz.prog 44 kPrefix := ⟨by kernel_rfl, by kernel_rfl, by kernel_rfl⟩
theorem ze44 : zeI Tryz.prog 44 = some [.int .u32 0, .int .i64 0] := by kernel_rfl
theorem ty46 : tyI Tryz.prog 46 = some (true, 6) := by kernel_rfl
theorem eqT46 : EqT Tryz.prog 46 kMAC := ⟨by kernel_rfl, by kernel_rfl, by kernel_rfl⟩
theorem ar46 : arI Tryz.prog 46 = some (6, 5) := by kernel_rfl
theorem ze46 : zeI Tryz.prog 46 = some [.int .u8 0, .int .u8 0, .int .u8 0, .int .u8 0, .int .u8 0, .int .u8 0] := by kernel_rfl
theorem ty48 : tyI Tryz.prog 48 = some (true, 12) := by kernel_rfl
theorem fd48_0 : fdI Tryz.prog 48 0 = some (0, 3) := by kernel_rfl
theorem fd48_1 : fdI Tryz.prog 48 1 = some (1, 44) := by kernel_rfl
theorem fd48_2 : fdI Tryz.prog 48 2 = some (3, 42) := by kernel_rfl
theorem fd48_3 : fdI Tryz.prog 48 3 = some (4, 46) := by kernel_rfl
theorem st48 : stI Tryz.prog 48 = some [(0, 1), (1, 2), (3, 1), (4, 6), (10, 1), (11, 1)] := by kernel_rfl
theorem ze48 : zeI Tryz.prog 48 = some [.int .i64 0, .int .u32 0, .int .i64 0, .int .u32 0, .int .u8 0, .int .u8 0, .int .u8 0, .int .u8 0, .int .u8 0, .int .u8 0, .int .i64 0, .int .i64 0] := by kernel_rfl
theorem by48 : byI Tryz.prog 48 = some 56 := by kernel_rfl
theorem ty51 : tyI Tryz.prog 51 = some (true, 4) := by kernel_rfl
theorem fd51_0 : fdI Tryz.prog 51 0 = some (0, 44) := by kernel_rfl
theorem fd51_1 : fdI Tryz.prog 51 1 = some (2, 42) := by kernel_rfl
theorem fd51_2 : fdI Tryz.prog 51 2 = some (3, 4) := by kernel_rfl
theorem st51 : stI Tryz.prog 51 = some [(0, 2), (2, 1), (3, 1)] := by kernel_rfl
theorem eqT51 : EqT Tryz.prog 51 kRoute := ⟨by kernel_rfl, by kernel_rfl, by kernel_rfl⟩
theorem ze51 : zeI Tryz.prog 51 = some [.int .u32 0, .int .i64 0, .int .u32 0, .bool false] := by kernel_rfl
theorem by51 : byI Tryz.prog 51 = some 24 := by kernel_rfl
theorem ty54 : tyI Tryz.prog 54 = some (true, 7) := by kernel_rfl
theorem fd54_0 : fdI Tryz.prog 54 0 = some (0, 42) := by kernel_rfl
theorem fd54_1 : fdI Tryz.prog 54 1 = some (1, 46) := by kernel_rfl
theorem st54 : stI Tryz.prog 54 = some [(0, 1), (1, 6)] := by kernel_rfl
theorem eqT54 : EqT Tryz.prog 54 kNeigh := ⟨by kernel_rfl, by kernel_rfl, by kernel_rfl⟩
theorem ze54 : zeI Tryz.prog 54 = some [.int .u32 0, .int .u8 0, .int .u8 0, .int .u8 0, .int .u8 0, .int .u8 0, .int .u8 0] := by kernel_rfl
theorem by54 : byI Tryz.prog 54 = some 12 := by kernel_rfl
theorem ty56 : tyI Tryz.prog 56 = some (true, 7) := by kernel_rfl
theorem fd56_0 : fdI Tryz.prog 56 0 = some (0, 46) := by kernel_rfl
theorem fd56_1 : fdI Tryz.prog 56 1 = some (6, 42) := by kernel_rfl
theorem st56 : stI Tryz.prog 56 = some [(0, 6), (6, 1)] := by kernel_rfl
theorem eqT56 : EqT Tryz.prog 56 kFdb := ⟨by kernel_rfl, by kernel_rfl, by kernel_rfl⟩
theorem ze56 : zeI Tryz.prog 56 = some [.int .u8 0, .int .u8 0, .int .u8 0, .int .u8 0, .int .u8 0, .int .u8 0, .int .u32 0] := by kernel_rfl
theorem by56 : byI Tryz.prog 56 = some 12 := by kernel_rfl
theorem ty58 : tyI Tryz.prog 58 = some (true, 19) := by kernel_rfl
theorem fd58_0 : fdI Tryz.prog 58 0 = some (0, 3) := by kernel_rfl
theorem fd58_1 : fdI Tryz.prog 58 1 = some (1, 51) := by kernel_rfl
theorem fd58_2 : fdI Tryz.prog 58 2 = some (5, 54) := by kernel_rfl
theorem fd58_3 : fdI Tryz.prog 58 3 = some (12, 56) := by kernel_rfl
theorem st58 : stI Tryz.prog 58 = some [(0, 1), (1, 4), (5, 7), (12, 7)] := by kernel_rfl
theorem eqT58 : EqT Tryz.prog 58 kOp := ⟨by kernel_rfl, by kernel_rfl, by kernel_rfl⟩
theorem ze58 : zeI Tryz.prog 58 = some [.int .i64 0, .int .u32 0, .int .i64 0, .int .u32 0, .bool false, .int .u32 0, .int .u8 0, .int .u8 0, .int .u8 0, .int .u8 0, .int .u8 0, .int .u8 0, .int .u8 0, .int .u8 0, .int .u8 0, .int .u8 0, .int .u8 0, .int .u8 0, .int .u32 0] := by kernel_rfl
theorem by58 : byI Tryz.prog 58 = some 56 := by kernel_rfl
theorem ty61 : tyI Tryz.prog 61 = some (true, 9) := by kernel_rfl
theorem fd61_0 : fdI Tryz.prog 61 0 = some (0, 3) := by kernel_rfl
theorem fd61_3 : fdI Tryz.prog 61 3 = some (8, 2) := by kernel_rfl
theorem st61 : stI Tryz.prog 61 = some [(0, 1), (1, 1), (2, 6), (8, 1)] := by kernel_rfl
theorem ze61 : zeI Tryz.prog 61 = some [.int .i64 0, .int .u32 0, .int .u8 0, .int .u8 0, .int .u8 0, .int .u8 0, .int .u8 0, .int .u8 0, .int .i64 0] := by kernel_rfl
theorem ty63 : tyI Tryz.prog 63 = some (false, 1) := by kernel_rfl
theorem pt63 : ptI Tryz.prog 63 = some 135 := by kernel_rfl
theorem ze63 : zeI Tryz.prog 63 = some [.pointer none] := by kernel_rfl
theorem ty74 : tyI Tryz.prog 74 = some (true, 3) := by kernel_rfl
theorem fd74_0 : fdI Tryz.prog 74 0 = some (0, 2) := by kernel_rfl
theorem fd74_2 : fdI Tryz.prog 74 2 = some (2, 22) := by kernel_rfl
theorem st74 : stI Tryz.prog 74 = some [(0, 1), (1, 1), (2, 1)] := by kernel_rfl
theorem ze74 : zeI Tryz.prog 74 = some [.int .i64 0, .int .i64 0, .slice none 0 0] := by kernel_rfl
theorem ty77 : tyI Tryz.prog 77 = some (true, 23) := by kernel_rfl
theorem fd77_0 : fdI Tryz.prog 77 0 = some (0, 36) := by kernel_rfl
theorem fd77_2 : fdI Tryz.prog 77 2 = some (16, 74) := by kernel_rfl
theorem fd77_4 : fdI Tryz.prog 77 4 = some (20, 29) := by kernel_rfl
theorem st77 : stI Tryz.prog 77 = some [(0, 1), (1, 15), (16, 3), (19, 1), (20, 3)] := by kernel_rfl
theorem ze77 : zeI Tryz.prog 77 = some [.int .i64 0, .int .i64 0, .int .i64 0, .int .u32 0, .int .i64 0, .int .u32 0, .int .u8 0, .int .u8 0, .int .u8 0, .int .u8 0, .int .u8 0, .int .u8 0, .int .i64 0, .int .i64 0, .int .i64 0, .int .i64 0, .int .i64 0, .int .i64 0, .slice none 0 0, .slice none 0 0, .slice none 0 0, .slice none 0 0, .slice none 0 0] := by kernel_rfl
theorem ty82 : tyI Tryz.prog 82 = some (false, 1) := by kernel_rfl
theorem sl82 : slI Tryz.prog 82 = some 44 := by kernel_rfl
theorem ty89 : tyI Tryz.prog 89 = some (true, 34) := by kernel_rfl
theorem fd89_0 : fdI Tryz.prog 89 0 = some (0, 3) := by kernel_rfl
theorem fd89_2 : fdI Tryz.prog 89 2 = some (13, 58) := by kernel_rfl
theorem st89 : stI Tryz.prog 89 = some [(0, 1), (1, 12), (13, 19), (32, 1), (33, 1)] := by kernel_rfl
theorem ze89 : zeI Tryz.prog 89 = some [.int .i64 0, .int .i64 0, .int .i64 0, .int .u32 0, .int .i64 0, .int .u32 0, .int .u8 0, .int .u8 0, .int .u8 0, .int .u8 0, .int .u8 0, .int .u8 0, .int .i64 0, .int .i64 0, .int .u32 0, .int .i64 0, .int .u32 0, .bool false, .int .u32 0, .int .u8 0, .int .u8 0, .int .u8 0, .int .u8 0, .int .u8 0, .int .u8 0, .int .u8 0, .int .u8 0, .int .u8 0, .int .u8 0, .int .u8 0, .int .u8 0, .int .u32 0, .int .i64 0, .int .i64 0] := by kernel_rfl
theorem ar120 : arI Tryz.prog 120 = some (2, 4) := by kernel_rfl
theorem ze120 : zeI Tryz.prog 120 = some [.bool false, .bool false] := by kernel_rfl
theorem ty133 : tyI Tryz.prog 133 = some (false, 1) := by kernel_rfl
theorem sl133 : slI Tryz.prog 133 = some 138 := by kernel_rfl
theorem fd135_0 : fdI Tryz.prog 135 0 = some (0, 61) := by kernel_rfl
theorem fd135_1 : fdI Tryz.prog 135 1 = some (9, 133) := by kernel_rfl
theorem fd135_2 : fdI Tryz.prog 135 2 = some (10, 89) := by kernel_rfl
theorem fd135_3 : fdI Tryz.prog 135 3 = some (44, 4) := by kernel_rfl
theorem fd135_4 : fdI Tryz.prog 135 4 = some (45, 29) := by kernel_rfl
theorem fd135_5 : fdI Tryz.prog 135 5 = some (48, 22) := by kernel_rfl
theorem fd135_6 : fdI Tryz.prog 135 6 = some (49, 2) := by kernel_rfl
theorem fd135_7 : fdI Tryz.prog 135 7 = some (50, 4) := by kernel_rfl
theorem fd135_8 : fdI Tryz.prog 135 8 = some (51, 82) := by kernel_rfl
theorem fd135_10 : fdI Tryz.prog 135 10 = some (53, 2) := by kernel_rfl
theorem fd135_11 : fdI Tryz.prog 135 11 = some (54, 4) := by kernel_rfl
theorem fd135_13 : fdI Tryz.prog 135 13 = some (57, 4) := by kernel_rfl
theorem fd135_14 : fdI Tryz.prog 135 14 = some (58, 4) := by kernel_rfl
theorem st135 : stI Tryz.prog 135 = some [(0, 9), (9, 1), (10, 34), (44, 1), (45, 3), (48, 1), (49, 1), (50, 1), (51, 1), (52, 1), (53, 1), (54, 1), (55, 2), (57, 1), (58, 1)] := by kernel_rfl
theorem ze135 : zeI Tryz.prog 135 = some [.int .i64 0, .int .u32 0, .int .u8 0, .int .u8 0, .int .u8 0, .int .u8 0, .int .u8 0, .int .u8 0, .int .i64 0, .slice none 0 0, .int .i64 0, .int .i64 0, .int .i64 0, .int .u32 0, .int .i64 0, .int .u32 0, .int .u8 0, .int .u8 0, .int .u8 0, .int .u8 0, .int .u8 0, .int .u8 0, .int .i64 0, .int .i64 0, .int .u32 0, .int .i64 0, .int .u32 0, .bool false, .int .u32 0, .int .u8 0, .int .u8 0, .int .u8 0, .int .u8 0, .int .u8 0, .int .u8 0, .int .u8 0, .int .u8 0, .int .u8 0, .int .u8 0, .int .u8 0, .int .u8 0, .int .u32 0, .int .i64 0, .int .i64 0, .bool false, .slice none 0 0, .slice none 0 0, .slice none 0 0, .slice none 0 0, .int .i64 0, .bool false, .slice none 0 0, .bool false, .int .i64 0, .bool false, .int .u32 0, .int .i64 0, .bool false, .bool false] := by kernel_rfl
theorem ty136 : tyI Tryz.prog 136 = some (false, 1) := by kernel_rfl
theorem ty138 : tyI Tryz.prog 138 = some (true, 2) := by kernel_rfl
theorem fd138_1 : fdI Tryz.prog 138 1 = some (1, 136) := by kernel_rfl
theorem st138 : stI Tryz.prog 138 = some [(0, 1), (1, 1)] := by kernel_rfl
theorem ze138 : zeI Tryz.prog 138 = some [.string .empty, .nilFunc] := by kernel_rfl
theorem ty180 : tyI Tryz.prog 180 = some (true, 9) := by kernel_rfl
theorem st180 : stI Tryz.prog 180 = some [(0, 1), (1, 1), (2, 6), (8, 1)] := by kernel_rfl
theorem eqT180 : EqT Tryz.prog 180 kagent_way := ⟨by kernel_rfl, by kernel_rfl, by kernel_rfl⟩
theorem ze180 : zeI Tryz.prog 180 = some [.bool false, .bool false, .int .u8 0, .int .u8 0, .int .u8 0, .int .u8 0, .int .u8 0, .int .u8 0, .int .u32 0] := by kernel_rfl
theorem in208 : inI Tryz.prog 208 = some .u64 := by kernel_rfl
theorem sl232 : slI Tryz.prog 232 = some 3 := by kernel_rfl
theorem ca10 : callable Tryz.prog 10 = true := by kernel_rfl
theorem ca12 : callable Tryz.prog 12 = true := by kernel_rfl
theorem ca14 : callable Tryz.prog 14 = true := by kernel_rfl
theorem ca17 : callable Tryz.prog 17 = true := by kernel_rfl
theorem ca20 : callable Tryz.prog 20 = true := by kernel_rfl
theorem ca21 : callable Tryz.prog 21 = true := by kernel_rfl
theorem ca22 : callable Tryz.prog 22 = true := by kernel_rfl
theorem ca23 : callable Tryz.prog 23 = true := by kernel_rfl
theorem ca25 : callable Tryz.prog 25 = true := by kernel_rfl
theorem ca26 : callable Tryz.prog 26 = true := by kernel_rfl
theorem ca31 : callable Tryz.prog 31 = true := by kernel_rfl
theorem ca32 : callable Tryz.prog 32 = true := by kernel_rfl
theorem ca43 : callable Tryz.prog 43 = true := by kernel_rfl
theorem ca44 : callable Tryz.prog 44 = true := by kernel_rfl
theorem ca45 : callable Tryz.prog 45 = true := by kernel_rfl
theorem ca46 : callable Tryz.prog 46 = true := by kernel_rfl
theorem ca47 : callable Tryz.prog 47 = true := by kernel_rfl
theorem ca48 : callable Tryz.prog 48 = true := by kernel_rfl
theorem ca49 : callable Tryz.prog 49 = true := by kernel_rfl
theorem ca54 : callable Tryz.prog 54 = true := by kernel_rfl
theorem ca56 : callable Tryz.prog 56 = true := by kernel_rfl
theorem ca57 : callable Tryz.prog 57 = true := by kernel_rfl
theorem ca58 : callable Tryz.prog 58 = true := by kernel_rfl
theorem ca59 : callable Tryz.prog 59 = true := by kernel_rfl
theorem ca60 : callable Tryz.prog 60 = true := by kernel_rfl
theorem ca66 : callable Tryz.prog 66 = true := by kernel_rfl
theorem ca67 : callable Tryz.prog 67 = true := by kernel_rfl
theorem ca68 : callable Tryz.prog 68 = true := by kernel_rfl
theorem ca69 : callable Tryz.prog 69 = true := by kernel_rfl
theorem ca70 : callable Tryz.prog 70 = true := by kernel_rfl
theorem ca71 : callable Tryz.prog 71 = true := by kernel_rfl
theorem ca72 : callable Tryz.prog 72 = true := by kernel_rfl
theorem ca73 : callable Tryz.prog 73 = true := by kernel_rfl
theorem ca81 : callable Tryz.prog 81 = true := by kernel_rfl
theorem ca83 : callable Tryz.prog 83 = true := by kernel_rfl
theorem ca84 : callable Tryz.prog 84 = true := by kernel_rfl
theorem ca85 : callable Tryz.prog 85 = true := by kernel_rfl
theorem ca86 : callable Tryz.prog 86 = true := by kernel_rfl
theorem ca87 : callable Tryz.prog 87 = true := by kernel_rfl
theorem ca96 : callable Tryz.prog 96 = true := by kernel_rfl
theorem ca97 : callable Tryz.prog 97 = true := by kernel_rfl
theorem ca98 : callable Tryz.prog 98 = true := by kernel_rfl
theorem ca99 : callable Tryz.prog 99 = true := by kernel_rfl
theorem ca100 : callable Tryz.prog 100 = true := by kernel_rfl
theorem ca101 : callable Tryz.prog 101 = true := by kernel_rfl
theorem ca102 : callable Tryz.prog 102 = true := by kernel_rfl
theorem ca103 : callable Tryz.prog 103 = true := by kernel_rfl
theorem ca104 : callable Tryz.prog 104 = true := by kernel_rfl
theorem ca105 : callable Tryz.prog 105 = true := by kernel_rfl
theorem ca109 : callable Tryz.prog 109 = true := by kernel_rfl
theorem ca110 : callable Tryz.prog 110 = true := by kernel_rfl
theorem ca111 : callable Tryz.prog 111 = true := by kernel_rfl
theorem ca112 : callable Tryz.prog 112 = true := by kernel_rfl
theorem ca113 : callable Tryz.prog 113 = true := by kernel_rfl
theorem ca114 : callable Tryz.prog 114 = true := by kernel_rfl
theorem ca115 : callable Tryz.prog 115 = true := by kernel_rfl
theorem ca126 : callable Tryz.prog 126 = true := by kernel_rfl
theorem ca127 : callable Tryz.prog 127 = true := by kernel_rfl
theorem ca128 : callable Tryz.prog 128 = true := by kernel_rfl
theorem ca129 : callable Tryz.prog 129 = true := by kernel_rfl
theorem ca130 : callable Tryz.prog 130 = true := by kernel_rfl
theorem ca131 : callable Tryz.prog 131 = true := by kernel_rfl
theorem ca132 : callable Tryz.prog 132 = true := by kernel_rfl
theorem ca144 : callable Tryz.prog 144 = true := by kernel_rfl
theorem ca147 : callable Tryz.prog 147 = true := by kernel_rfl
theorem ca148 : callable Tryz.prog 148 = true := by kernel_rfl
theorem ca151 : callable Tryz.prog 151 = true := by kernel_rfl
theorem ca174 : callable Tryz.prog 174 = true := by kernel_rfl
theorem mo : Tryz.prog.follows .mixedOrders = true := by kernel_rfl
end Go.Proofs.YtnbpodjbemfpbaaGreat.Fw
