/-
  Plain functions of Diff.
-/
import Derived.Test.YtnbpodjbemfpbaaGreatPl3
set_option linter.all false
namespace Go.Proofs.YtnbpodjbemfpbaaGreat.Fw
open Go
/-! the changes -/
section
variable {α : Type} {p : α → Bool} {g : α → TOp} {l : List α} {k : Nat} {e : α} {A : List TOp}
end
end Go.Proofs.YtnbpodjbemfpbaaGreat.Fw
