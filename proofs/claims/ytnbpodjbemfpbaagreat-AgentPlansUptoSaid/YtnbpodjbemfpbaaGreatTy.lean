/-
  What the tables of the translation say: written by wip/tool/mkseat.py.
-/
import Derived.Test.YtnbpodjbemfpbaaGreatMd
import Derived.Test.YtnbpodjbemfpbaaGreatProg
import Derived.KernelRfl
set_option linter.all false
namespace Go.Proofs.YtnbpodjbemfpbaaGreat.Fw
open Go

theorem ty2 : tyI Tryz.prog 2 = some (false, 1) := by kernel_rfl
theorem in2 : inI Tryz.prog 2 = some .i64 := by kernel_rfl
theorem ze2 : zeI Tryz.prog 2 = some [.int .i64 0] := by kernel_rfl
theorem by2 : byI Tryz.prog 2 = some 8 := by kernel_rfl
theorem ty3 : tyI Tryz.prog 3 = some (false, 1) := by kernel_rfl
theorem in3 : inI Tryz.prog 3 = some .i64 := by kernel_rfl
theorem ze3 : zeI Tryz.prog 3 = some [.int .i64 0] := by kernel_rfl
theorem by3 : byI Tryz.prog 3 = some 8 := by kernel_rfl
theorem ty4 : tyI Tryz.prog 4 = some (false, 1) := by kernel_rfl
theorem ub4 : Tryz.prog.underlying 4 = some .bool := by kernel_rfl
theorem ni4 : notInt Tryz.prog 4 = true := by kernel_rfl
theorem ze4 : zeI Tryz.prog 4 = some [.bool false] := by kernel_rfl
theorem by4 : byI Tryz.prog 4 = some 1 := by kernel_rfl
theorem ty5 : tyI Tryz.prog 5 = some (false, 1) := by kernel_rfl
theorem in5 : inI Tryz.prog 5 = some .u8 := by kernel_rfl
theorem ze5 : zeI Tryz.prog 5 = some [.int .u8 0] := by kernel_rfl
theorem by5 : byI Tryz.prog 5 = some 1 := by kernel_rfl
theorem ty9 : tyI Tryz.prog 9 = some (false, 1) := by kernel_rfl
theorem ni9 : notInt Tryz.prog 9 = true := by kernel_rfl
theorem ze9 : zeI Tryz.prog 9 = some [.string .empty] := by kernel_rfl
theorem by9 : byI Tryz.prog 9 = some 16 := by kernel_rfl
theorem ty22 : tyI Tryz.prog 22 = some (false, 1) := by kernel_rfl
theorem sl22 : slI Tryz.prog 22 = some 48 := by kernel_rfl
theorem ni22 : notInt Tryz.prog 22 = true := by kernel_rfl
theorem ze22 : zeI Tryz.prog 22 = some [.slice none 0 0] := by kernel_rfl
theorem by22 : byI Tryz.prog 22 = some 24 := by kernel_rfl
theorem ty25 : tyI Tryz.prog 25 = some (false, 1) := by kernel_rfl
theorem sl25 : slI Tryz.prog 25 = some 51 := by kernel_rfl
theorem ni25 : notInt Tryz.prog 25 = true := by kernel_rfl
theorem ze25 : zeI Tryz.prog 25 = some [.slice none 0 0] := by kernel_rfl
theorem by25 : byI Tryz.prog 25 = some 24 := by kernel_rfl
theorem ty26 : tyI Tryz.prog 26 = some (false, 1) := by kernel_rfl
theorem sl26 : slI Tryz.prog 26 = some 54 := by kernel_rfl
theorem ni26 : notInt Tryz.prog 26 = true := by kernel_rfl
theorem ze26 : zeI Tryz.prog 26 = some [.slice none 0 0] := by kernel_rfl
theorem by26 : byI Tryz.prog 26 = some 24 := by kernel_rfl
theorem ty27 : tyI Tryz.prog 27 = some (false, 1) := by kernel_rfl
theorem sl27 : slI Tryz.prog 27 = some 56 := by kernel_rfl
theorem ni27 : notInt Tryz.prog 27 = true := by kernel_rfl
theorem ze27 : zeI Tryz.prog 27 = some [.slice none 0 0] := by kernel_rfl
theorem by27 : byI Tryz.prog 27 = some 24 := by kernel_rfl
theorem ty29 : tyI Tryz.prog 29 = some (true, 3) := by kernel_rfl
theorem fd29_0 : fdI Tryz.prog 29 0 = some (0, 25) := by kernel_rfl
theorem fd29_1 : fdI Tryz.prog 29 1 = some (1, 26) := by kernel_rfl
theorem fd29_2 : fdI Tryz.prog 29 2 = some (2, 27) := by kernel_rfl
theorem st29 : stI Tryz.prog 29 = some [(0, 1), (1, 1), (2, 1)] := by kernel_rfl
theorem ni29 : notInt Tryz.prog 29 = true := by kernel_rfl
theorem ze29 : zeI Tryz.prog 29 = some [.slice none 0 0, .slice none 0 0, .slice none 0 0] := by kernel_rfl
theorem by29 : byI Tryz.prog 29 = some 72 := by kernel_rfl
theorem ty35 : tyI Tryz.prog 35 = some (false, 1) := by kernel_rfl
theorem sl35 : slI Tryz.prog 35 = some 58 := by kernel_rfl
theorem ni35 : notInt Tryz.prog 35 = true := by kernel_rfl
theorem ze35 : zeI Tryz.prog 35 = some [.slice none 0 0] := by kernel_rfl
theorem by35 : byI Tryz.prog 35 = some 24 := by kernel_rfl
theorem ty36 : tyI Tryz.prog 36 = some (false, 1) := by kernel_rfl
theorem in36 : inI Tryz.prog 36 = some .i64 := by kernel_rfl
theorem ze36 : zeI Tryz.prog 36 = some [.int .i64 0] := by kernel_rfl
theorem by36 : byI Tryz.prog 36 = some 8 := by kernel_rfl
theorem ty42 : tyI Tryz.prog 42 = some (false, 1) := by kernel_rfl
theorem in42 : inI Tryz.prog 42 = some .u32 := by kernel_rfl
theorem ze42 : zeI Tryz.prog 42 = some [.int .u32 0] := by kernel_rfl
theorem by42 : byI Tryz.prog 42 = some 4 := by kernel_rfl
theorem ty44 : tyI Tryz.prog 44 = some (true, 2) := by kernel_rfl
theorem fd44_0 : fdI Tryz.prog 44 0 = some (0, 42) := by kernel_rfl
theorem fd44_1 : fdI Tryz.prog 44 1 = some (1, 3) := by kernel_rfl
theorem st44 : stI Tryz.prog 44 = some [(0, 1), (1, 1)] := by kernel_rfl
theorem eqT44 : EqT Tryz.prog 44 kPrefix := ⟨by kernel_rfl, by kernel_rfl, by kernel_rfl⟩
theorem ni44 : notInt Tryz.prog 44 = true := by kernel_rfl
theorem ze44 : zeI Tryz.prog 44 = some [.int .u32 0, .int .i64 0] := by kernel_rfl
theorem by44 : byI Tryz.prog 44 = some 16 := by kernel_rfl
theorem ty46 : tyI Tryz.prog 46 = some (true, 6) := by kernel_rfl
theorem eqT46 : EqT Tryz.prog 46 kMAC := ⟨by kernel_rfl, by kernel_rfl, by kernel_rfl⟩
theorem ar46 : arI Tryz.prog 46 = some (6, 5) := by kernel_rfl
theorem ni46 : notInt Tryz.prog 46 = true := by kernel_rfl
theorem ze46 : zeI Tryz.prog 46 = some [.int .u8 0, .int .u8 0, .int .u8 0, .int .u8 0, .int .u8 0, .int .u8 0] := by kernel_rfl
theorem by46 : byI Tryz.prog 46 = some 6 := by kernel_rfl
theorem ty48 : tyI Tryz.prog 48 = some (true, 12) := by kernel_rfl
theorem fd48_0 : fdI Tryz.prog 48 0 = some (0, 3) := by kernel_rfl
theorem fd48_1 : fdI Tryz.prog 48 1 = some (1, 44) := by kernel_rfl
theorem fd48_2 : fdI Tryz.prog 48 2 = some (3, 42) := by kernel_rfl
theorem fd48_3 : fdI Tryz.prog 48 3 = some (4, 46) := by kernel_rfl
theorem fd48_4 : fdI Tryz.prog 48 4 = some (10, 2) := by kernel_rfl
theorem fd48_5 : fdI Tryz.prog 48 5 = some (11, 2) := by kernel_rfl
theorem st48 : stI Tryz.prog 48 = some [(0, 1), (1, 2), (3, 1), (4, 6), (10, 1), (11, 1)] := by kernel_rfl
theorem eqT48 : EqT Tryz.prog 48 kLease := ⟨by kernel_rfl, by kernel_rfl, by kernel_rfl⟩
theorem ni48 : notInt Tryz.prog 48 = true := by kernel_rfl
theorem ze48 : zeI Tryz.prog 48 = some [.int .i64 0, .int .u32 0, .int .i64 0, .int .u32 0, .int .u8 0, .int .u8 0, .int .u8 0, .int .u8 0, .int .u8 0, .int .u8 0, .int .i64 0, .int .i64 0] := by kernel_rfl
theorem by48 : byI Tryz.prog 48 = some 56 := by kernel_rfl
theorem ty51 : tyI Tryz.prog 51 = some (true, 4) := by kernel_rfl
theorem fd51_0 : fdI Tryz.prog 51 0 = some (0, 44) := by kernel_rfl
theorem fd51_1 : fdI Tryz.prog 51 1 = some (2, 42) := by kernel_rfl
theorem fd51_2 : fdI Tryz.prog 51 2 = some (3, 4) := by kernel_rfl
theorem st51 : stI Tryz.prog 51 = some [(0, 2), (2, 1), (3, 1)] := by kernel_rfl
theorem eqT51 : EqT Tryz.prog 51 kRoute := ⟨by kernel_rfl, by kernel_rfl, by kernel_rfl⟩
theorem ni51 : notInt Tryz.prog 51 = true := by kernel_rfl
theorem ze51 : zeI Tryz.prog 51 = some [.int .u32 0, .int .i64 0, .int .u32 0, .bool false] := by kernel_rfl
theorem by51 : byI Tryz.prog 51 = some 24 := by kernel_rfl
theorem ty54 : tyI Tryz.prog 54 = some (true, 7) := by kernel_rfl
theorem fd54_0 : fdI Tryz.prog 54 0 = some (0, 42) := by kernel_rfl
theorem fd54_1 : fdI Tryz.prog 54 1 = some (1, 46) := by kernel_rfl
theorem st54 : stI Tryz.prog 54 = some [(0, 1), (1, 6)] := by kernel_rfl
theorem eqT54 : EqT Tryz.prog 54 kNeigh := ⟨by kernel_rfl, by kernel_rfl, by kernel_rfl⟩
theorem ni54 : notInt Tryz.prog 54 = true := by kernel_rfl
theorem ze54 : zeI Tryz.prog 54 = some [.int .u32 0, .int .u8 0, .int .u8 0, .int .u8 0, .int .u8 0, .int .u8 0, .int .u8 0] := by kernel_rfl
theorem by54 : byI Tryz.prog 54 = some 12 := by kernel_rfl
theorem ty56 : tyI Tryz.prog 56 = some (true, 7) := by kernel_rfl
theorem fd56_0 : fdI Tryz.prog 56 0 = some (0, 46) := by kernel_rfl
theorem fd56_1 : fdI Tryz.prog 56 1 = some (6, 42) := by kernel_rfl
theorem st56 : stI Tryz.prog 56 = some [(0, 6), (6, 1)] := by kernel_rfl
theorem eqT56 : EqT Tryz.prog 56 kFdb := ⟨by kernel_rfl, by kernel_rfl, by kernel_rfl⟩
theorem ni56 : notInt Tryz.prog 56 = true := by kernel_rfl
theorem ze56 : zeI Tryz.prog 56 = some [.int .u8 0, .int .u8 0, .int .u8 0, .int .u8 0, .int .u8 0, .int .u8 0, .int .u32 0] := by kernel_rfl
theorem by56 : byI Tryz.prog 56 = some 12 := by kernel_rfl
theorem ty58 : tyI Tryz.prog 58 = some (true, 19) := by kernel_rfl
theorem fd58_0 : fdI Tryz.prog 58 0 = some (0, 3) := by kernel_rfl
theorem fd58_1 : fdI Tryz.prog 58 1 = some (1, 51) := by kernel_rfl
theorem fd58_2 : fdI Tryz.prog 58 2 = some (5, 54) := by kernel_rfl
theorem fd58_3 : fdI Tryz.prog 58 3 = some (12, 56) := by kernel_rfl
theorem st58 : stI Tryz.prog 58 = some [(0, 1), (1, 4), (5, 7), (12, 7)] := by kernel_rfl
theorem eqT58 : EqT Tryz.prog 58 kOp := ⟨by kernel_rfl, by kernel_rfl, by kernel_rfl⟩
theorem ni58 : notInt Tryz.prog 58 = true := by kernel_rfl
theorem ze58 : zeI Tryz.prog 58 = some [.int .i64 0, .int .u32 0, .int .i64 0, .int .u32 0, .bool false, .int .u32 0, .int .u8 0, .int .u8 0, .int .u8 0, .int .u8 0, .int .u8 0, .int .u8 0, .int .u8 0, .int .u8 0, .int .u8 0, .int .u8 0, .int .u8 0, .int .u8 0, .int .u32 0] := by kernel_rfl
theorem by58 : byI Tryz.prog 58 = some 56 := by kernel_rfl
theorem ty61 : tyI Tryz.prog 61 = some (true, 9) := by kernel_rfl
theorem fd61_0 : fdI Tryz.prog 61 0 = some (0, 3) := by kernel_rfl
theorem fd61_1 : fdI Tryz.prog 61 1 = some (1, 42) := by kernel_rfl
theorem fd61_2 : fdI Tryz.prog 61 2 = some (2, 46) := by kernel_rfl
theorem fd61_3 : fdI Tryz.prog 61 3 = some (8, 2) := by kernel_rfl
theorem st61 : stI Tryz.prog 61 = some [(0, 1), (1, 1), (2, 6), (8, 1)] := by kernel_rfl
theorem eqT61 : EqT Tryz.prog 61 kSelf := ⟨by kernel_rfl, by kernel_rfl, by kernel_rfl⟩
theorem ni61 : notInt Tryz.prog 61 = true := by kernel_rfl
theorem ze61 : zeI Tryz.prog 61 = some [.int .i64 0, .int .u32 0, .int .u8 0, .int .u8 0, .int .u8 0, .int .u8 0, .int .u8 0, .int .u8 0, .int .i64 0] := by kernel_rfl
theorem by61 : byI Tryz.prog 61 = some 32 := by kernel_rfl
theorem ty62 : tyI Tryz.prog 62 = some (false, 1) := by kernel_rfl
theorem sl62 : slI Tryz.prog 62 = some 79 := by kernel_rfl
theorem ni62 : notInt Tryz.prog 62 = true := by kernel_rfl
theorem ze62 : zeI Tryz.prog 62 = some [.slice none 0 0] := by kernel_rfl
theorem by62 : byI Tryz.prog 62 = some 24 := by kernel_rfl
theorem ty63 : tyI Tryz.prog 63 = some (false, 1) := by kernel_rfl
theorem pt63 : ptI Tryz.prog 63 = some 135 := by kernel_rfl
theorem ni63 : notInt Tryz.prog 63 = true := by kernel_rfl
theorem ze63 : zeI Tryz.prog 63 = some [.pointer none] := by kernel_rfl
theorem by63 : byI Tryz.prog 63 = some 8 := by kernel_rfl
theorem ty66 : tyI Tryz.prog 66 = some (false, 1) := by kernel_rfl
theorem pt66 : ptI Tryz.prog 66 = some 140 := by kernel_rfl
theorem ni66 : notInt Tryz.prog 66 = true := by kernel_rfl
theorem ze66 : zeI Tryz.prog 66 = some [.pointer none] := by kernel_rfl
theorem by66 : byI Tryz.prog 66 = some 8 := by kernel_rfl
theorem ty69 : tyI Tryz.prog 69 = some (false, 1) := by kernel_rfl
theorem pt69 : ptI Tryz.prog 69 = some 142 := by kernel_rfl
theorem ni69 : notInt Tryz.prog 69 = true := by kernel_rfl
theorem ze69 : zeI Tryz.prog 69 = some [.pointer none] := by kernel_rfl
theorem by69 : byI Tryz.prog 69 = some 8 := by kernel_rfl
theorem ty72 : tyI Tryz.prog 72 = some (true, 15) := by kernel_rfl
theorem fd72_0 : fdI Tryz.prog 72 0 = some (0, 36) := by kernel_rfl
theorem fd72_1 : fdI Tryz.prog 72 1 = some (1, 48) := by kernel_rfl
theorem fd72_2 : fdI Tryz.prog 72 2 = some (13, 2) := by kernel_rfl
theorem fd72_3 : fdI Tryz.prog 72 3 = some (14, 2) := by kernel_rfl
theorem st72 : stI Tryz.prog 72 = some [(0, 1), (1, 12), (13, 1), (14, 1)] := by kernel_rfl
theorem eqT72 : EqT Tryz.prog 72 kAnswer := ⟨by kernel_rfl, by kernel_rfl, by kernel_rfl⟩
theorem ni72 : notInt Tryz.prog 72 = true := by kernel_rfl
theorem ze72 : zeI Tryz.prog 72 = some [.int .i64 0, .int .i64 0, .int .u32 0, .int .i64 0, .int .u32 0, .int .u8 0, .int .u8 0, .int .u8 0, .int .u8 0, .int .u8 0, .int .u8 0, .int .i64 0, .int .i64 0, .int .i64 0, .int .i64 0] := by kernel_rfl
theorem by72 : byI Tryz.prog 72 = some 80 := by kernel_rfl
theorem ty74 : tyI Tryz.prog 74 = some (true, 3) := by kernel_rfl
theorem fd74_0 : fdI Tryz.prog 74 0 = some (0, 2) := by kernel_rfl
theorem fd74_1 : fdI Tryz.prog 74 1 = some (1, 2) := by kernel_rfl
theorem fd74_2 : fdI Tryz.prog 74 2 = some (2, 22) := by kernel_rfl
theorem st74 : stI Tryz.prog 74 = some [(0, 1), (1, 1), (2, 1)] := by kernel_rfl
theorem ni74 : notInt Tryz.prog 74 = true := by kernel_rfl
theorem ze74 : zeI Tryz.prog 74 = some [.int .i64 0, .int .i64 0, .slice none 0 0] := by kernel_rfl
theorem by74 : byI Tryz.prog 74 = some 40 := by kernel_rfl
theorem ty75 : tyI Tryz.prog 75 = some (false, 1) := by kernel_rfl
theorem sl75 : slI Tryz.prog 75 = some 161 := by kernel_rfl
theorem ni75 : notInt Tryz.prog 75 = true := by kernel_rfl
theorem ze75 : zeI Tryz.prog 75 = some [.slice none 0 0] := by kernel_rfl
theorem by75 : byI Tryz.prog 75 = some 24 := by kernel_rfl
theorem ty77 : tyI Tryz.prog 77 = some (true, 23) := by kernel_rfl
theorem fd77_0 : fdI Tryz.prog 77 0 = some (0, 36) := by kernel_rfl
theorem fd77_1 : fdI Tryz.prog 77 1 = some (1, 72) := by kernel_rfl
theorem fd77_2 : fdI Tryz.prog 77 2 = some (16, 74) := by kernel_rfl
theorem fd77_3 : fdI Tryz.prog 77 3 = some (19, 75) := by kernel_rfl
theorem fd77_4 : fdI Tryz.prog 77 4 = some (20, 29) := by kernel_rfl
theorem st77 : stI Tryz.prog 77 = some [(0, 1), (1, 15), (16, 3), (19, 1), (20, 3)] := by kernel_rfl
theorem ni77 : notInt Tryz.prog 77 = true := by kernel_rfl
theorem ze77 : zeI Tryz.prog 77 = some [.int .i64 0, .int .i64 0, .int .i64 0, .int .u32 0, .int .i64 0, .int .u32 0, .int .u8 0, .int .u8 0, .int .u8 0, .int .u8 0, .int .u8 0, .int .u8 0, .int .i64 0, .int .i64 0, .int .i64 0, .int .i64 0, .int .i64 0, .int .i64 0, .slice none 0 0, .slice none 0 0, .slice none 0 0, .slice none 0 0, .slice none 0 0] := by kernel_rfl
theorem by77 : byI Tryz.prog 77 = some 224 := by kernel_rfl
theorem ty79 : tyI Tryz.prog 79 = some (true, 26) := by kernel_rfl
theorem fd79_0 : fdI Tryz.prog 79 0 = some (0, 3) := by kernel_rfl
theorem fd79_1 : fdI Tryz.prog 79 1 = some (1, 3) := by kernel_rfl
theorem fd79_2 : fdI Tryz.prog 79 2 = some (2, 2) := by kernel_rfl
theorem fd79_3 : fdI Tryz.prog 79 3 = some (3, 77) := by kernel_rfl
theorem st79 : stI Tryz.prog 79 = some [(0, 1), (1, 1), (2, 1), (3, 23)] := by kernel_rfl
theorem ni79 : notInt Tryz.prog 79 = true := by kernel_rfl
theorem ze79 : zeI Tryz.prog 79 = some [.int .i64 0, .int .i64 0, .int .i64 0, .int .i64 0, .int .i64 0, .int .i64 0, .int .u32 0, .int .i64 0, .int .u32 0, .int .u8 0, .int .u8 0, .int .u8 0, .int .u8 0, .int .u8 0, .int .u8 0, .int .i64 0, .int .i64 0, .int .i64 0, .int .i64 0, .int .i64 0, .int .i64 0, .slice none 0 0, .slice none 0 0, .slice none 0 0, .slice none 0 0, .slice none 0 0] := by kernel_rfl
theorem by79 : byI Tryz.prog 79 = some 248 := by kernel_rfl
theorem ty82 : tyI Tryz.prog 82 = some (false, 1) := by kernel_rfl
theorem sl82 : slI Tryz.prog 82 = some 44 := by kernel_rfl
theorem ni82 : notInt Tryz.prog 82 = true := by kernel_rfl
theorem ze82 : zeI Tryz.prog 82 = some [.slice none 0 0] := by kernel_rfl
theorem by82 : byI Tryz.prog 82 = some 24 := by kernel_rfl
theorem ty84 : tyI Tryz.prog 84 = some (true, 21) := by kernel_rfl
theorem fd84_0 : fdI Tryz.prog 84 0 = some (0, 4) := by kernel_rfl
theorem fd84_1 : fdI Tryz.prog 84 1 = some (1, 48) := by kernel_rfl
theorem fd84_2 : fdI Tryz.prog 84 2 = some (13, 2) := by kernel_rfl
theorem fd84_3 : fdI Tryz.prog 84 3 = some (14, 4) := by kernel_rfl
theorem fd84_4 : fdI Tryz.prog 84 4 = some (15, 4) := by kernel_rfl
theorem fd84_5 : fdI Tryz.prog 84 5 = some (16, 22) := by kernel_rfl
theorem fd84_6 : fdI Tryz.prog 84 6 = some (17, 82) := by kernel_rfl
theorem fd84_7 : fdI Tryz.prog 84 7 = some (18, 29) := by kernel_rfl
theorem st84 : stI Tryz.prog 84 = some [(0, 1), (1, 12), (13, 1), (14, 1), (15, 1), (16, 1), (17, 1), (18, 3)] := by kernel_rfl
theorem ni84 : notInt Tryz.prog 84 = true := by kernel_rfl
theorem ze84 : zeI Tryz.prog 84 = some [.bool false, .int .i64 0, .int .u32 0, .int .i64 0, .int .u32 0, .int .u8 0, .int .u8 0, .int .u8 0, .int .u8 0, .int .u8 0, .int .u8 0, .int .i64 0, .int .i64 0, .int .i64 0, .bool false, .bool false, .slice none 0 0, .slice none 0 0, .slice none 0 0, .slice none 0 0, .slice none 0 0] := by kernel_rfl
theorem by84 : byI Tryz.prog 84 = some 200 := by kernel_rfl
theorem ty87 : tyI Tryz.prog 87 = some (true, 12) := by kernel_rfl
theorem fd87_0 : fdI Tryz.prog 87 0 = some (0, 3) := by kernel_rfl
theorem fd87_1 : fdI Tryz.prog 87 1 = some (1, 3) := by kernel_rfl
theorem fd87_2 : fdI Tryz.prog 87 2 = some (2, 44) := by kernel_rfl
theorem fd87_3 : fdI Tryz.prog 87 3 = some (4, 42) := by kernel_rfl
theorem fd87_4 : fdI Tryz.prog 87 4 = some (5, 46) := by kernel_rfl
theorem fd87_5 : fdI Tryz.prog 87 5 = some (11, 2) := by kernel_rfl
theorem st87 : stI Tryz.prog 87 = some [(0, 1), (1, 1), (2, 2), (4, 1), (5, 6), (11, 1)] := by kernel_rfl
theorem eqT87 : EqT Tryz.prog 87 kCmd := ⟨by kernel_rfl, by kernel_rfl, by kernel_rfl⟩
theorem ni87 : notInt Tryz.prog 87 = true := by kernel_rfl
theorem ze87 : zeI Tryz.prog 87 = some [.int .i64 0, .int .i64 0, .int .u32 0, .int .i64 0, .int .u32 0, .int .u8 0, .int .u8 0, .int .u8 0, .int .u8 0, .int .u8 0, .int .u8 0, .int .i64 0] := by kernel_rfl
theorem by87 : byI Tryz.prog 87 = some 56 := by kernel_rfl
theorem ty89 : tyI Tryz.prog 89 = some (true, 34) := by kernel_rfl
theorem fd89_0 : fdI Tryz.prog 89 0 = some (0, 3) := by kernel_rfl
theorem fd89_1 : fdI Tryz.prog 89 1 = some (1, 87) := by kernel_rfl
theorem fd89_2 : fdI Tryz.prog 89 2 = some (13, 58) := by kernel_rfl
theorem fd89_3 : fdI Tryz.prog 89 3 = some (32, 2) := by kernel_rfl
theorem fd89_4 : fdI Tryz.prog 89 4 = some (33, 3) := by kernel_rfl
theorem st89 : stI Tryz.prog 89 = some [(0, 1), (1, 12), (13, 19), (32, 1), (33, 1)] := by kernel_rfl
theorem eqT89 : EqT Tryz.prog 89 kReq := ⟨by kernel_rfl, by kernel_rfl, by kernel_rfl⟩
theorem ni89 : notInt Tryz.prog 89 = true := by kernel_rfl
theorem ze89 : zeI Tryz.prog 89 = some [.int .i64 0, .int .i64 0, .int .i64 0, .int .u32 0, .int .i64 0, .int .u32 0, .int .u8 0, .int .u8 0, .int .u8 0, .int .u8 0, .int .u8 0, .int .u8 0, .int .i64 0, .int .i64 0, .int .u32 0, .int .i64 0, .int .u32 0, .bool false, .int .u32 0, .int .u8 0, .int .u8 0, .int .u8 0, .int .u8 0, .int .u8 0, .int .u8 0, .int .u8 0, .int .u8 0, .int .u8 0, .int .u8 0, .int .u8 0, .int .u8 0, .int .u32 0, .int .i64 0, .int .i64 0] := by kernel_rfl
theorem by89 : byI Tryz.prog 89 = some 136 := by kernel_rfl
theorem ty94 : tyI Tryz.prog 94 = some (false, 1) := by kernel_rfl
theorem sl94 : slI Tryz.prog 94 = some 156 := by kernel_rfl
theorem ni94 : notInt Tryz.prog 94 = true := by kernel_rfl
theorem ze94 : zeI Tryz.prog 94 = some [.slice none 0 0] := by kernel_rfl
theorem by94 : byI Tryz.prog 94 = some 24 := by kernel_rfl
theorem ty97 : tyI Tryz.prog 97 = some (false, 1) := by kernel_rfl
theorem sl97 : slI Tryz.prog 97 = some 84 := by kernel_rfl
theorem ni97 : notInt Tryz.prog 97 = true := by kernel_rfl
theorem ze97 : zeI Tryz.prog 97 = some [.slice none 0 0] := by kernel_rfl
theorem by97 : byI Tryz.prog 97 = some 24 := by kernel_rfl
theorem ty98 : tyI Tryz.prog 98 = some (false, 1) := by kernel_rfl
theorem sl98 : slI Tryz.prog 98 = some 35 := by kernel_rfl
theorem ni98 : notInt Tryz.prog 98 = true := by kernel_rfl
theorem ze98 : zeI Tryz.prog 98 = some [.slice none 0 0] := by kernel_rfl
theorem by98 : byI Tryz.prog 98 = some 24 := by kernel_rfl
theorem ty100 : tyI Tryz.prog 100 = some (true, 1) := by kernel_rfl
theorem fd100_0 : fdI Tryz.prog 100 0 = some (0, 98) := by kernel_rfl
theorem st100 : stI Tryz.prog 100 = some [(0, 1)] := by kernel_rfl
theorem ni100 : notInt Tryz.prog 100 = true := by kernel_rfl
theorem ze100 : zeI Tryz.prog 100 = some [.slice none 0 0] := by kernel_rfl
theorem by100 : byI Tryz.prog 100 = some 24 := by kernel_rfl
theorem ty120 : tyI Tryz.prog 120 = some (true, 2) := by kernel_rfl
theorem ar120 : arI Tryz.prog 120 = some (2, 4) := by kernel_rfl
theorem ni120 : notInt Tryz.prog 120 = true := by kernel_rfl
theorem ze120 : zeI Tryz.prog 120 = some [.bool false, .bool false] := by kernel_rfl
theorem by120 : byI Tryz.prog 120 = some 2 := by kernel_rfl
theorem ty133 : tyI Tryz.prog 133 = some (false, 1) := by kernel_rfl
theorem sl133 : slI Tryz.prog 133 = some 138 := by kernel_rfl
theorem ni133 : notInt Tryz.prog 133 = true := by kernel_rfl
theorem ze133 : zeI Tryz.prog 133 = some [.slice none 0 0] := by kernel_rfl
theorem by133 : byI Tryz.prog 133 = some 24 := by kernel_rfl
theorem ty135 : tyI Tryz.prog 135 = some (true, 59) := by kernel_rfl
theorem fd135_0 : fdI Tryz.prog 135 0 = some (0, 61) := by kernel_rfl
theorem fd135_1 : fdI Tryz.prog 135 1 = some (9, 133) := by kernel_rfl
theorem fd135_2 : fdI Tryz.prog 135 2 = some (10, 89) := by kernel_rfl
theorem fd135_3 : fdI Tryz.prog 135 3 = some (44, 4) := by kernel_rfl
theorem fd135_4 : fdI Tryz.prog 135 4 = some (45, 29) := by kernel_rfl
theorem fd135_5 : fdI Tryz.prog 135 5 = some (48, 22) := by kernel_rfl
theorem fd135_6 : fdI Tryz.prog 135 6 = some (49, 2) := by kernel_rfl
theorem fd135_7 : fdI Tryz.prog 135 7 = some (50, 4) := by kernel_rfl
theorem fd135_8 : fdI Tryz.prog 135 8 = some (51, 82) := by kernel_rfl
theorem fd135_9 : fdI Tryz.prog 135 9 = some (52, 4) := by kernel_rfl
theorem fd135_10 : fdI Tryz.prog 135 10 = some (53, 2) := by kernel_rfl
theorem fd135_11 : fdI Tryz.prog 135 11 = some (54, 4) := by kernel_rfl
theorem fd135_12 : fdI Tryz.prog 135 12 = some (55, 44) := by kernel_rfl
theorem fd135_13 : fdI Tryz.prog 135 13 = some (57, 4) := by kernel_rfl
theorem fd135_14 : fdI Tryz.prog 135 14 = some (58, 4) := by kernel_rfl
theorem st135 : stI Tryz.prog 135 = some [(0, 9), (9, 1), (10, 34), (44, 1), (45, 3), (48, 1), (49, 1), (50, 1), (51, 1), (52, 1), (53, 1), (54, 1), (55, 2), (57, 1), (58, 1)] := by kernel_rfl
theorem ni135 : notInt Tryz.prog 135 = true := by kernel_rfl
theorem ze135 : zeI Tryz.prog 135 = some [.int .i64 0, .int .u32 0, .int .u8 0, .int .u8 0, .int .u8 0, .int .u8 0, .int .u8 0, .int .u8 0, .int .i64 0, .slice none 0 0, .int .i64 0, .int .i64 0, .int .i64 0, .int .u32 0, .int .i64 0, .int .u32 0, .int .u8 0, .int .u8 0, .int .u8 0, .int .u8 0, .int .u8 0, .int .u8 0, .int .i64 0, .int .i64 0, .int .u32 0, .int .i64 0, .int .u32 0, .bool false, .int .u32 0, .int .u8 0, .int .u8 0, .int .u8 0, .int .u8 0, .int .u8 0, .int .u8 0, .int .u8 0, .int .u8 0, .int .u8 0, .int .u8 0, .int .u8 0, .int .u8 0, .int .u32 0, .int .i64 0, .int .i64 0, .bool false, .slice none 0 0, .slice none 0 0, .slice none 0 0, .slice none 0 0, .int .i64 0, .bool false, .slice none 0 0, .bool false, .int .i64 0, .bool false, .int .u32 0, .int .i64 0, .bool false, .bool false] := by kernel_rfl
theorem by135 : byI Tryz.prog 135 = some 384 := by kernel_rfl
theorem ty136 : tyI Tryz.prog 136 = some (false, 1) := by kernel_rfl
theorem ni136 : notInt Tryz.prog 136 = true := by kernel_rfl
theorem ze136 : zeI Tryz.prog 136 = some [.nilFunc] := by kernel_rfl
theorem by136 : byI Tryz.prog 136 = some 8 := by kernel_rfl
theorem ty138 : tyI Tryz.prog 138 = some (true, 2) := by kernel_rfl
theorem fd138_0 : fdI Tryz.prog 138 0 = some (0, 9) := by kernel_rfl
theorem fd138_1 : fdI Tryz.prog 138 1 = some (1, 136) := by kernel_rfl
theorem st138 : stI Tryz.prog 138 = some [(0, 1), (1, 1)] := by kernel_rfl
theorem ni138 : notInt Tryz.prog 138 = true := by kernel_rfl
theorem ze138 : zeI Tryz.prog 138 = some [.string .empty, .nilFunc] := by kernel_rfl
theorem by138 : byI Tryz.prog 138 = some 24 := by kernel_rfl
theorem ty140 : tyI Tryz.prog 140 = some (true, 59) := by kernel_rfl
theorem fd140_0 : fdI Tryz.prog 140 0 = some (0, 61) := by kernel_rfl
theorem fd140_1 : fdI Tryz.prog 140 1 = some (9, 4) := by kernel_rfl
theorem fd140_2 : fdI Tryz.prog 140 2 = some (10, 89) := by kernel_rfl
theorem fd140_3 : fdI Tryz.prog 140 3 = some (44, 4) := by kernel_rfl
theorem fd140_4 : fdI Tryz.prog 140 4 = some (45, 29) := by kernel_rfl
theorem fd140_5 : fdI Tryz.prog 140 5 = some (48, 22) := by kernel_rfl
theorem fd140_6 : fdI Tryz.prog 140 6 = some (49, 2) := by kernel_rfl
theorem fd140_7 : fdI Tryz.prog 140 7 = some (50, 4) := by kernel_rfl
theorem fd140_8 : fdI Tryz.prog 140 8 = some (51, 82) := by kernel_rfl
theorem fd140_9 : fdI Tryz.prog 140 9 = some (52, 4) := by kernel_rfl
theorem fd140_10 : fdI Tryz.prog 140 10 = some (53, 2) := by kernel_rfl
theorem fd140_11 : fdI Tryz.prog 140 11 = some (54, 4) := by kernel_rfl
theorem fd140_12 : fdI Tryz.prog 140 12 = some (55, 44) := by kernel_rfl
theorem fd140_13 : fdI Tryz.prog 140 13 = some (57, 4) := by kernel_rfl
theorem fd140_14 : fdI Tryz.prog 140 14 = some (58, 4) := by kernel_rfl
theorem st140 : stI Tryz.prog 140 = some [(0, 9), (9, 1), (10, 34), (44, 1), (45, 3), (48, 1), (49, 1), (50, 1), (51, 1), (52, 1), (53, 1), (54, 1), (55, 2), (57, 1), (58, 1)] := by kernel_rfl
theorem ni140 : notInt Tryz.prog 140 = true := by kernel_rfl
theorem ze140 : zeI Tryz.prog 140 = some [.int .i64 0, .int .u32 0, .int .u8 0, .int .u8 0, .int .u8 0, .int .u8 0, .int .u8 0, .int .u8 0, .int .i64 0, .bool false, .int .i64 0, .int .i64 0, .int .i64 0, .int .u32 0, .int .i64 0, .int .u32 0, .int .u8 0, .int .u8 0, .int .u8 0, .int .u8 0, .int .u8 0, .int .u8 0, .int .i64 0, .int .i64 0, .int .u32 0, .int .i64 0, .int .u32 0, .bool false, .int .u32 0, .int .u8 0, .int .u8 0, .int .u8 0, .int .u8 0, .int .u8 0, .int .u8 0, .int .u8 0, .int .u8 0, .int .u8 0, .int .u8 0, .int .u8 0, .int .u8 0, .int .u32 0, .int .i64 0, .int .i64 0, .bool false, .slice none 0 0, .slice none 0 0, .slice none 0 0, .slice none 0 0, .int .i64 0, .bool false, .slice none 0 0, .bool false, .int .i64 0, .bool false, .int .u32 0, .int .i64 0, .bool false, .bool false] := by kernel_rfl
theorem by140 : byI Tryz.prog 140 = some 368 := by kernel_rfl
theorem ty142 : tyI Tryz.prog 142 = some (true, 5) := by kernel_rfl
theorem fd142_0 : fdI Tryz.prog 142 0 = some (0, 22) := by kernel_rfl
theorem fd142_1 : fdI Tryz.prog 142 1 = some (1, 75) := by kernel_rfl
theorem fd142_2 : fdI Tryz.prog 142 2 = some (2, 29) := by kernel_rfl
theorem st142 : stI Tryz.prog 142 = some [(0, 1), (1, 1), (2, 3)] := by kernel_rfl
theorem ni142 : notInt Tryz.prog 142 = true := by kernel_rfl
theorem ze142 : zeI Tryz.prog 142 = some [.slice none 0 0, .slice none 0 0, .slice none 0 0, .slice none 0 0, .slice none 0 0] := by kernel_rfl
theorem by142 : byI Tryz.prog 142 = some 120 := by kernel_rfl
theorem ty151 : tyI Tryz.prog 151 = some (false, 1) := by kernel_rfl
theorem sl151 : slI Tryz.prog 151 = some 29 := by kernel_rfl
theorem ni151 : notInt Tryz.prog 151 = true := by kernel_rfl
theorem ze151 : zeI Tryz.prog 151 = some [.slice none 0 0] := by kernel_rfl
theorem by151 : byI Tryz.prog 151 = some 24 := by kernel_rfl
theorem ty153 : tyI Tryz.prog 153 = some (true, 12) := by kernel_rfl
theorem fd153_0 : fdI Tryz.prog 153 0 = some (0, 22) := by kernel_rfl
theorem fd153_1 : fdI Tryz.prog 153 1 = some (1, 69) := by kernel_rfl
theorem fd153_2 : fdI Tryz.prog 153 2 = some (2, 69) := by kernel_rfl
theorem fd153_3 : fdI Tryz.prog 153 3 = some (3, 3) := by kernel_rfl
theorem fd153_4 : fdI Tryz.prog 153 4 = some (4, 29) := by kernel_rfl
theorem fd153_5 : fdI Tryz.prog 153 5 = some (7, 151) := by kernel_rfl
theorem fd153_6 : fdI Tryz.prog 153 6 = some (8, 151) := by kernel_rfl
theorem fd153_7 : fdI Tryz.prog 153 7 = some (9, 98) := by kernel_rfl
theorem fd153_8 : fdI Tryz.prog 153 8 = some (10, 98) := by kernel_rfl
theorem fd153_9 : fdI Tryz.prog 153 9 = some (11, 3) := by kernel_rfl
theorem st153 : stI Tryz.prog 153 = some [(0, 1), (1, 1), (2, 1), (3, 1), (4, 3), (7, 1), (8, 1), (9, 1), (10, 1), (11, 1)] := by kernel_rfl
theorem ni153 : notInt Tryz.prog 153 = true := by kernel_rfl
theorem ze153 : zeI Tryz.prog 153 = some [.slice none 0 0, .pointer none, .pointer none, .int .i64 0, .slice none 0 0, .slice none 0 0, .slice none 0 0, .slice none 0 0, .slice none 0 0, .slice none 0 0, .slice none 0 0, .int .i64 0] := by kernel_rfl
theorem by153 : byI Tryz.prog 153 = some 224 := by kernel_rfl
theorem ty156 : tyI Tryz.prog 156 = some (true, 11) := by kernel_rfl
theorem fd156_0 : fdI Tryz.prog 156 0 = some (0, 3) := by kernel_rfl
theorem fd156_1 : fdI Tryz.prog 156 1 = some (1, 22) := by kernel_rfl
theorem fd156_2 : fdI Tryz.prog 156 2 = some (2, 3) := by kernel_rfl
theorem fd156_3 : fdI Tryz.prog 156 3 = some (3, 29) := by kernel_rfl
theorem fd156_4 : fdI Tryz.prog 156 4 = some (6, 29) := by kernel_rfl
theorem fd156_5 : fdI Tryz.prog 156 5 = some (9, 3) := by kernel_rfl
theorem fd156_6 : fdI Tryz.prog 156 6 = some (10, 2) := by kernel_rfl
theorem st156 : stI Tryz.prog 156 = some [(0, 1), (1, 1), (2, 1), (3, 3), (6, 3), (9, 1), (10, 1)] := by kernel_rfl
theorem ni156 : notInt Tryz.prog 156 = true := by kernel_rfl
theorem ze156 : zeI Tryz.prog 156 = some [.int .i64 0, .slice none 0 0, .int .i64 0, .slice none 0 0, .slice none 0 0, .slice none 0 0, .slice none 0 0, .slice none 0 0, .slice none 0 0, .int .i64 0, .int .i64 0] := by kernel_rfl
theorem by156 : byI Tryz.prog 156 = some 200 := by kernel_rfl
theorem ty161 : tyI Tryz.prog 161 = some (true, 14) := by kernel_rfl
theorem fd161_0 : fdI Tryz.prog 161 0 = some (0, 2) := by kernel_rfl
theorem fd161_1 : fdI Tryz.prog 161 1 = some (1, 3) := by kernel_rfl
theorem fd161_2 : fdI Tryz.prog 161 2 = some (2, 48) := by kernel_rfl
theorem st161 : stI Tryz.prog 161 = some [(0, 1), (1, 1), (2, 12)] := by kernel_rfl
theorem eqT161 : EqT Tryz.prog 161 kEvent := ⟨by kernel_rfl, by kernel_rfl, by kernel_rfl⟩
theorem ni161 : notInt Tryz.prog 161 = true := by kernel_rfl
theorem ze161 : zeI Tryz.prog 161 = some [.int .i64 0, .int .i64 0, .int .i64 0, .int .u32 0, .int .i64 0, .int .u32 0, .int .u8 0, .int .u8 0, .int .u8 0, .int .u8 0, .int .u8 0, .int .u8 0, .int .i64 0, .int .i64 0] := by kernel_rfl
theorem by161 : byI Tryz.prog 161 = some 72 := by kernel_rfl
theorem ty180 : tyI Tryz.prog 180 = some (true, 9) := by kernel_rfl
theorem fd180_0 : fdI Tryz.prog 180 0 = some (0, 4) := by kernel_rfl
theorem fd180_1 : fdI Tryz.prog 180 1 = some (1, 4) := by kernel_rfl
theorem fd180_2 : fdI Tryz.prog 180 2 = some (2, 46) := by kernel_rfl
theorem fd180_3 : fdI Tryz.prog 180 3 = some (8, 42) := by kernel_rfl
theorem st180 : stI Tryz.prog 180 = some [(0, 1), (1, 1), (2, 6), (8, 1)] := by kernel_rfl
theorem eqT180 : EqT Tryz.prog 180 kagent_way := ⟨by kernel_rfl, by kernel_rfl, by kernel_rfl⟩
theorem ni180 : notInt Tryz.prog 180 = true := by kernel_rfl
theorem ze180 : zeI Tryz.prog 180 = some [.bool false, .bool false, .int .u8 0, .int .u8 0, .int .u8 0, .int .u8 0, .int .u8 0, .int .u8 0, .int .u32 0] := by kernel_rfl
theorem by180 : byI Tryz.prog 180 = some 12 := by kernel_rfl
theorem ty187 : tyI Tryz.prog 187 = some (true, 15) := by kernel_rfl
theorem fd187_0 : fdI Tryz.prog 187 0 = some (0, 54) := by kernel_rfl
theorem fd187_1 : fdI Tryz.prog 187 1 = some (7, 56) := by kernel_rfl
theorem fd187_2 : fdI Tryz.prog 187 2 = some (14, 3) := by kernel_rfl
theorem st187 : stI Tryz.prog 187 = some [(0, 7), (7, 7), (14, 1)] := by kernel_rfl
theorem eqT187 : EqT Tryz.prog 187 kweftref16_Way := ⟨by kernel_rfl, by kernel_rfl, by kernel_rfl⟩
theorem ni187 : notInt Tryz.prog 187 = true := by kernel_rfl
theorem ze187 : zeI Tryz.prog 187 = some [.int .u32 0, .int .u8 0, .int .u8 0, .int .u8 0, .int .u8 0, .int .u8 0, .int .u8 0, .int .u8 0, .int .u8 0, .int .u8 0, .int .u8 0, .int .u8 0, .int .u8 0, .int .u32 0, .int .i64 0] := by kernel_rfl
theorem by187 : byI Tryz.prog 187 = some 32 := by kernel_rfl
theorem ty208 : tyI Tryz.prog 208 = some (false, 1) := by kernel_rfl
theorem in208 : inI Tryz.prog 208 = some .u64 := by kernel_rfl
theorem ze208 : zeI Tryz.prog 208 = some [.int .u64 0] := by kernel_rfl
theorem by208 : byI Tryz.prog 208 = some 8 := by kernel_rfl
theorem ty232 : tyI Tryz.prog 232 = some (false, 1) := by kernel_rfl
theorem sl232 : slI Tryz.prog 232 = some 3 := by kernel_rfl
theorem ni232 : notInt Tryz.prog 232 = true := by kernel_rfl
theorem ze232 : zeI Tryz.prog 232 = some [.slice none 0 0] := by kernel_rfl
theorem by232 : byI Tryz.prog 232 = some 24 := by kernel_rfl
theorem ca3 : callable Tryz.prog 3 = true := by kernel_rfl
theorem ca4 : callable Tryz.prog 4 = true := by kernel_rfl
theorem ca5 : callable Tryz.prog 5 = true := by kernel_rfl
theorem ca6 : callable Tryz.prog 6 = true := by kernel_rfl
theorem ca7 : callable Tryz.prog 7 = true := by kernel_rfl
theorem ca8 : callable Tryz.prog 8 = true := by kernel_rfl
theorem ca9 : callable Tryz.prog 9 = true := by kernel_rfl
theorem ca10 : callable Tryz.prog 10 = true := by kernel_rfl
theorem ca11 : callable Tryz.prog 11 = true := by kernel_rfl
theorem ca12 : callable Tryz.prog 12 = true := by kernel_rfl
theorem ca13 : callable Tryz.prog 13 = true := by kernel_rfl
theorem ca14 : callable Tryz.prog 14 = true := by kernel_rfl
theorem ca15 : callable Tryz.prog 15 = true := by kernel_rfl
theorem ca16 : callable Tryz.prog 16 = true := by kernel_rfl
theorem ca17 : callable Tryz.prog 17 = true := by kernel_rfl
theorem ca18 : callable Tryz.prog 18 = true := by kernel_rfl
theorem ca19 : callable Tryz.prog 19 = true := by kernel_rfl
theorem ca20 : callable Tryz.prog 20 = true := by kernel_rfl
theorem ca21 : callable Tryz.prog 21 = true := by kernel_rfl
theorem ca22 : callable Tryz.prog 22 = true := by kernel_rfl
theorem ca23 : callable Tryz.prog 23 = true := by kernel_rfl
theorem ca24 : callable Tryz.prog 24 = true := by kernel_rfl
theorem ca25 : callable Tryz.prog 25 = true := by kernel_rfl
theorem ca26 : callable Tryz.prog 26 = true := by kernel_rfl
theorem ca27 : callable Tryz.prog 27 = true := by kernel_rfl
theorem ca28 : callable Tryz.prog 28 = true := by kernel_rfl
theorem ca29 : callable Tryz.prog 29 = true := by kernel_rfl
theorem ca30 : callable Tryz.prog 30 = true := by kernel_rfl
theorem ca31 : callable Tryz.prog 31 = true := by kernel_rfl
theorem ca32 : callable Tryz.prog 32 = true := by kernel_rfl
theorem ca33 : callable Tryz.prog 33 = true := by kernel_rfl
theorem ca34 : callable Tryz.prog 34 = true := by kernel_rfl
theorem ca35 : callable Tryz.prog 35 = true := by kernel_rfl
theorem ca36 : callable Tryz.prog 36 = true := by kernel_rfl
theorem ca37 : callable Tryz.prog 37 = true := by kernel_rfl
theorem ca38 : callable Tryz.prog 38 = true := by kernel_rfl
theorem ca39 : callable Tryz.prog 39 = true := by kernel_rfl
theorem ca40 : callable Tryz.prog 40 = true := by kernel_rfl
theorem ca41 : callable Tryz.prog 41 = true := by kernel_rfl
theorem ca42 : callable Tryz.prog 42 = true := by kernel_rfl
theorem ca43 : callable Tryz.prog 43 = true := by kernel_rfl
theorem ca44 : callable Tryz.prog 44 = true := by kernel_rfl
theorem ca45 : callable Tryz.prog 45 = true := by kernel_rfl
theorem ca46 : callable Tryz.prog 46 = true := by kernel_rfl
theorem ca47 : callable Tryz.prog 47 = true := by kernel_rfl
theorem ca48 : callable Tryz.prog 48 = true := by kernel_rfl
theorem ca49 : callable Tryz.prog 49 = true := by kernel_rfl
theorem ca50 : callable Tryz.prog 50 = true := by kernel_rfl
theorem ca51 : callable Tryz.prog 51 = true := by kernel_rfl
theorem ca52 : callable Tryz.prog 52 = true := by kernel_rfl
theorem ca53 : callable Tryz.prog 53 = true := by kernel_rfl
theorem ca54 : callable Tryz.prog 54 = true := by kernel_rfl
theorem ca55 : callable Tryz.prog 55 = true := by kernel_rfl
theorem ca56 : callable Tryz.prog 56 = true := by kernel_rfl
theorem ca57 : callable Tryz.prog 57 = true := by kernel_rfl
theorem ca58 : callable Tryz.prog 58 = true := by kernel_rfl
theorem ca59 : callable Tryz.prog 59 = true := by kernel_rfl
theorem ca60 : callable Tryz.prog 60 = true := by kernel_rfl
theorem ca61 : callable Tryz.prog 61 = true := by kernel_rfl
theorem ca62 : callable Tryz.prog 62 = true := by kernel_rfl
theorem ca63 : callable Tryz.prog 63 = true := by kernel_rfl
theorem ca64 : callable Tryz.prog 64 = true := by kernel_rfl
theorem ca65 : callable Tryz.prog 65 = true := by kernel_rfl
theorem ca66 : callable Tryz.prog 66 = true := by kernel_rfl
theorem ca67 : callable Tryz.prog 67 = true := by kernel_rfl
theorem ca68 : callable Tryz.prog 68 = true := by kernel_rfl
theorem ca69 : callable Tryz.prog 69 = true := by kernel_rfl
theorem ca70 : callable Tryz.prog 70 = true := by kernel_rfl
theorem ca71 : callable Tryz.prog 71 = true := by kernel_rfl
theorem ca72 : callable Tryz.prog 72 = true := by kernel_rfl
theorem ca73 : callable Tryz.prog 73 = true := by kernel_rfl
theorem ca74 : callable Tryz.prog 74 = true := by kernel_rfl
theorem ca75 : callable Tryz.prog 75 = true := by kernel_rfl
theorem ca76 : callable Tryz.prog 76 = true := by kernel_rfl
theorem ca77 : callable Tryz.prog 77 = true := by kernel_rfl
theorem ca78 : callable Tryz.prog 78 = true := by kernel_rfl
theorem ca79 : callable Tryz.prog 79 = true := by kernel_rfl
theorem ca80 : callable Tryz.prog 80 = true := by kernel_rfl
theorem ca81 : callable Tryz.prog 81 = true := by kernel_rfl
theorem ca82 : callable Tryz.prog 82 = true := by kernel_rfl
theorem ca83 : callable Tryz.prog 83 = true := by kernel_rfl
theorem ca84 : callable Tryz.prog 84 = true := by kernel_rfl
theorem ca85 : callable Tryz.prog 85 = true := by kernel_rfl
theorem ca86 : callable Tryz.prog 86 = true := by kernel_rfl
theorem ca87 : callable Tryz.prog 87 = true := by kernel_rfl
theorem ca88 : callable Tryz.prog 88 = true := by kernel_rfl
theorem ca89 : callable Tryz.prog 89 = true := by kernel_rfl
theorem ca90 : callable Tryz.prog 90 = true := by kernel_rfl
theorem ca91 : callable Tryz.prog 91 = true := by kernel_rfl
theorem ca92 : callable Tryz.prog 92 = true := by kernel_rfl
theorem ca93 : callable Tryz.prog 93 = true := by kernel_rfl
theorem ca94 : callable Tryz.prog 94 = true := by kernel_rfl
theorem ca95 : callable Tryz.prog 95 = true := by kernel_rfl
theorem ca96 : callable Tryz.prog 96 = true := by kernel_rfl
theorem ca97 : callable Tryz.prog 97 = true := by kernel_rfl
theorem ca98 : callable Tryz.prog 98 = true := by kernel_rfl
theorem ca99 : callable Tryz.prog 99 = true := by kernel_rfl
theorem ca100 : callable Tryz.prog 100 = true := by kernel_rfl
theorem ca101 : callable Tryz.prog 101 = true := by kernel_rfl
theorem ca102 : callable Tryz.prog 102 = true := by kernel_rfl
theorem ca103 : callable Tryz.prog 103 = true := by kernel_rfl
theorem ca104 : callable Tryz.prog 104 = true := by kernel_rfl
theorem ca105 : callable Tryz.prog 105 = true := by kernel_rfl
theorem ca106 : callable Tryz.prog 106 = true := by kernel_rfl
theorem ca107 : callable Tryz.prog 107 = true := by kernel_rfl
theorem ca108 : callable Tryz.prog 108 = true := by kernel_rfl
theorem ca109 : callable Tryz.prog 109 = true := by kernel_rfl
theorem ca110 : callable Tryz.prog 110 = true := by kernel_rfl
theorem ca111 : callable Tryz.prog 111 = true := by kernel_rfl
theorem ca112 : callable Tryz.prog 112 = true := by kernel_rfl
theorem ca113 : callable Tryz.prog 113 = true := by kernel_rfl
theorem ca114 : callable Tryz.prog 114 = true := by kernel_rfl
theorem ca115 : callable Tryz.prog 115 = true := by kernel_rfl
theorem ca116 : callable Tryz.prog 116 = true := by kernel_rfl
theorem ca117 : callable Tryz.prog 117 = true := by kernel_rfl
theorem ca118 : callable Tryz.prog 118 = true := by kernel_rfl
theorem ca119 : callable Tryz.prog 119 = true := by kernel_rfl
theorem ca120 : callable Tryz.prog 120 = true := by kernel_rfl
theorem ca121 : callable Tryz.prog 121 = true := by kernel_rfl
theorem ca122 : callable Tryz.prog 122 = true := by kernel_rfl
theorem ca123 : callable Tryz.prog 123 = true := by kernel_rfl
theorem ca124 : callable Tryz.prog 124 = true := by kernel_rfl
theorem ca125 : callable Tryz.prog 125 = true := by kernel_rfl
theorem ca126 : callable Tryz.prog 126 = true := by kernel_rfl
theorem ca127 : callable Tryz.prog 127 = true := by kernel_rfl
theorem ca128 : callable Tryz.prog 128 = true := by kernel_rfl
theorem ca129 : callable Tryz.prog 129 = true := by kernel_rfl
theorem ca130 : callable Tryz.prog 130 = true := by kernel_rfl
theorem ca131 : callable Tryz.prog 131 = true := by kernel_rfl
theorem ca132 : callable Tryz.prog 132 = true := by kernel_rfl
theorem ca133 : callable Tryz.prog 133 = true := by kernel_rfl
theorem ca134 : callable Tryz.prog 134 = true := by kernel_rfl
theorem ca135 : callable Tryz.prog 135 = true := by kernel_rfl
theorem ca136 : callable Tryz.prog 136 = true := by kernel_rfl
theorem ca137 : callable Tryz.prog 137 = true := by kernel_rfl
theorem ca138 : callable Tryz.prog 138 = true := by kernel_rfl
theorem ca139 : callable Tryz.prog 139 = true := by kernel_rfl
theorem ca140 : callable Tryz.prog 140 = true := by kernel_rfl
theorem ca141 : callable Tryz.prog 141 = true := by kernel_rfl
theorem ca142 : callable Tryz.prog 142 = true := by kernel_rfl
theorem ca143 : callable Tryz.prog 143 = true := by kernel_rfl
theorem ca144 : callable Tryz.prog 144 = true := by kernel_rfl
theorem ca146 : callable Tryz.prog 146 = true := by kernel_rfl
theorem ca147 : callable Tryz.prog 147 = true := by kernel_rfl
theorem ca148 : callable Tryz.prog 148 = true := by kernel_rfl
theorem ca150 : callable Tryz.prog 150 = true := by kernel_rfl
theorem ca151 : callable Tryz.prog 151 = true := by kernel_rfl
theorem ca153 : callable Tryz.prog 153 = true := by kernel_rfl
theorem ca155 : callable Tryz.prog 155 = true := by kernel_rfl
theorem ca156 : callable Tryz.prog 156 = true := by kernel_rfl
theorem ca157 : callable Tryz.prog 157 = true := by kernel_rfl
theorem ca158 : callable Tryz.prog 158 = true := by kernel_rfl
theorem ca159 : callable Tryz.prog 159 = true := by kernel_rfl
theorem ca160 : callable Tryz.prog 160 = true := by kernel_rfl
theorem ca161 : callable Tryz.prog 161 = true := by kernel_rfl
theorem ca162 : callable Tryz.prog 162 = true := by kernel_rfl
theorem ca163 : callable Tryz.prog 163 = true := by kernel_rfl
theorem ca164 : callable Tryz.prog 164 = true := by kernel_rfl
theorem ca165 : callable Tryz.prog 165 = true := by kernel_rfl
theorem ca166 : callable Tryz.prog 166 = true := by kernel_rfl
theorem ca167 : callable Tryz.prog 167 = true := by kernel_rfl
theorem ca168 : callable Tryz.prog 168 = true := by kernel_rfl
theorem ca169 : callable Tryz.prog 169 = true := by kernel_rfl
theorem ca170 : callable Tryz.prog 170 = true := by kernel_rfl
theorem ca171 : callable Tryz.prog 171 = true := by kernel_rfl
theorem ca172 : callable Tryz.prog 172 = true := by kernel_rfl
theorem ca173 : callable Tryz.prog 173 = true := by kernel_rfl
theorem ca174 : callable Tryz.prog 174 = true := by kernel_rfl
theorem ca175 : callable Tryz.prog 175 = true := by kernel_rfl
theorem ca176 : callable Tryz.prog 176 = true := by kernel_rfl
theorem ca177 : callable Tryz.prog 177 = true := by kernel_rfl
theorem ca178 : callable Tryz.prog 178 = true := by kernel_rfl
theorem ca179 : callable Tryz.prog 179 = true := by kernel_rfl
theorem ca180 : callable Tryz.prog 180 = true := by kernel_rfl
theorem ca181 : callable Tryz.prog 181 = true := by kernel_rfl
theorem ca182 : callable Tryz.prog 182 = true := by kernel_rfl
theorem ca184 : callable Tryz.prog 184 = true := by kernel_rfl
theorem ca186 : callable Tryz.prog 186 = true := by kernel_rfl
theorem ca187 : callable Tryz.prog 187 = true := by kernel_rfl
theorem ca188 : callable Tryz.prog 188 = true := by kernel_rfl
theorem ca189 : callable Tryz.prog 189 = true := by kernel_rfl
theorem ca190 : callable Tryz.prog 190 = true := by kernel_rfl
theorem ca191 : callable Tryz.prog 191 = true := by kernel_rfl
theorem ca192 : callable Tryz.prog 192 = true := by kernel_rfl
theorem ca193 : callable Tryz.prog 193 = true := by kernel_rfl
theorem mo : Tryz.prog.follows .mixedOrders = true := by kernel_rfl
end Go.Proofs.YtnbpodjbemfpbaaGreat.Fw
