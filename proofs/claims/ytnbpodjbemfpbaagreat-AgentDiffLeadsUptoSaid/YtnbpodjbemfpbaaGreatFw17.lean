/-
  Guarded operations in regions that draw their order and make or write memory.
-/
import Derived.Test.YtnbpodjbemfpbaaGreatFw16
set_option linter.unusedVariables false
set_option linter.all false
namespace Go.Proofs.YtnbpodjbemfpbaaGreat.Fw
open Go
section
variable {P : Program} {ops : Array Oper} {Q : Exit → Act → World → Prop} {n : Nat} {L : List (Nat × Value)} {a : Act} {w w0 : World} {R : Hh} {Ps Qs : List HP} {S : World → Prop} {y : Code}
end
end Go.Proofs.YtnbpodjbemfpbaaGreat.Fw
