/-
  Rows: bulk, structs with slices in them. By the session; nothing here is trusted.
-/
import Derived.Test.YtnbpodjbemfpbaaGreatFr1
import Derived.Test.YtnbpodjbemfpbaaGreatRows
set_option linter.all false
namespace Go.Proofs.YtnbpodjbemfpbaaGreat.Fw
open Go Go.ChangeShapes Go.WideShapes Go.ChangeAt Go.RowKit
section
variable {H : Type} {enc : TypeId × Value → H} {P : Program} {w : World} {base : Nat} {spare : Nat → Bool} {held : Bool} {fuel : Nat} {t : TypeId} {cs : List Value} {x : DataW H × List MemPlace}
end
end Go.Proofs.YtnbpodjbemfpbaaGreat.Fw
