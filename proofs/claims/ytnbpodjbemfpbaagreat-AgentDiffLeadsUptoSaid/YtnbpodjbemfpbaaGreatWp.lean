/-
  Walks: printed by wip/tool/agent.py.
-/
import Derived.Test.YtnbpodjbemfpbaaGreatWn
import Derived.Test.YtnbpodjbemfpbaaGreatFw17
import Derived.Test.YtnbpodjbemfpbaaGreatPl5
import Derived.KernelRfl
set_option linter.all false
set_option maxHeartbeats 4000000
set_option maxRecDepth 100000
namespace Go.Proofs.YtnbpodjbemfpbaaGreat.Fw
open Go
end Go.Proofs.YtnbpodjbemfpbaaGreat.Fw
