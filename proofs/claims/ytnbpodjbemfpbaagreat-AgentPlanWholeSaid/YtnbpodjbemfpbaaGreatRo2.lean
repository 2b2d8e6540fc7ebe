/-
  Readings of tables, as arguments.
-/
import Derived.Test.YtnbpodjbemfpbaaGreatFr2
import Derived.Test.YtnbpodjbemfpbaaGreatRo
set_option linter.all false
namespace Go.Proofs.YtnbpodjbemfpbaaGreat.Fw
open Go Go.ChangeShapes Go.WideShapes
section
variable {H : Type} {enc : TypeId × Value → H} {w : World} {base : Nat} {spare : Nat → Bool} {held : Bool} {fuel : Nat} {cs : List Value} {x : DataW H × List MemPlace}
end
end Go.Proofs.YtnbpodjbemfpbaaGreat.Fw
