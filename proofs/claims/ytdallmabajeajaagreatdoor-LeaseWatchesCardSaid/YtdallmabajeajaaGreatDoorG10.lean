/-
  Own work: walks and laws, joined by wip/tool/compact.py.
-/
import Derived.Test.YtdallmabajeajaaGreatDoorRows
import Derived.JoinedCond
import Derived.KernelRfl
set_option linter.all false
set_option linter.all false
set_option maxRecDepth 100000
namespace Go.Proofs.YtdallmabajeajaaGreatDoor.leaseWatches
open Go Go.Proofs.YtdallmabajeajaaGreatDoor
theorem nam : Tryz.pinned.checked.prog.funcNamed Rows.leaseWatchesRow.func = some 12 := by kernel_rfl
theorem closed : joinedFacts Tryz.pinned.checked.prog 12 Tryz.f12 (OpenSpec.ofChange Rows.leaseWatchesSpec).bare Rows.leaseWatchesRow = true := by kernel_rfl
end Go.Proofs.YtdallmabajeajaaGreatDoor.leaseWatches
