/-
  Own work: walks and laws, joined by wip/tool/compact.py.
-/
import Derived.Test.YtdallmabajeajaaGreatDoorG7
import Derived.Test.YtdallmabajeajaaGreatDoorRows
import Derived.JoinedCond
import Derived.KernelRfl
set_option linter.all false
set_option linter.all false
set_option maxRecDepth 100000
namespace Go.Proofs.YtdallmabajeajaaGreatDoor.leaseAgain
open Go Go.Proofs.YtdallmabajeajaaGreatDoor
theorem nam : Tryz.pinned.checked.prog.funcNamed Rows.leaseAgainRow.func = some 17 := by kernel_rfl
theorem closed : joinedFacts Tryz.pinned.checked.prog 17 Tryz.f17 (OpenSpec.ofChange Rows.leaseAgainSpec).bare Rows.leaseAgainRow = true := by kernel_rfl
end Go.Proofs.YtdallmabajeajaaGreatDoor.leaseAgain
