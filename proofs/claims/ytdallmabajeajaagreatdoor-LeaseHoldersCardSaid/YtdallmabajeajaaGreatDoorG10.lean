/-
  Own work: walks and laws, joined by wip/tool/compact.py.
-/
import Derived.Test.YtdallmabajeajaaGreatDoorRows
import Derived.JoinedCond
import Derived.KernelRfl
set_option linter.all false
set_option linter.all false
set_option maxRecDepth 100000
namespace Go.Proofs.YtdallmabajeajaaGreatDoor.leaseHolders
open Go Go.Proofs.YtdallmabajeajaaGreatDoor
theorem nam : Tryz.pinned.checked.prog.funcNamed Rows.leaseHoldersRow.func = some 13 := by kernel_rfl
theorem closed : joinedFacts Tryz.pinned.checked.prog 13 Tryz.f13 (OpenSpec.ofChange Rows.leaseHoldersSpec).bare Rows.leaseHoldersRow = true := by kernel_rfl
end Go.Proofs.YtdallmabajeajaaGreatDoor.leaseHolders
