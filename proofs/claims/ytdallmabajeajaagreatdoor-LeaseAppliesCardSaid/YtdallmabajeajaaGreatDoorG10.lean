/-
  Own work: walks and laws, joined by wip/tool/compact.py.
-/
import Derived.Test.YtdallmabajeajaaGreatDoorRows
import Derived.JoinedCond
import Derived.KernelRfl
set_option linter.all false
set_option linter.all false
set_option maxRecDepth 100000
namespace Go.Proofs.YtdallmabajeajaaGreatDoor.leaseApplies
open Go Go.Proofs.YtdallmabajeajaaGreatDoor
theorem nam : Tryz.pinned.checked.prog.funcNamed Rows.leaseAppliesRow.func = some 10 := by kernel_rfl
theorem closed : joinedFacts Tryz.pinned.checked.prog 10 Tryz.f10 (OpenSpec.ofChange Rows.leaseAppliesSpec).bare Rows.leaseAppliesRow = true := by kernel_rfl
end Go.Proofs.YtdallmabajeajaaGreatDoor.leaseApplies
