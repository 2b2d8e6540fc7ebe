/-
  Own work: walks and laws, joined by wip/tool/compact.py.
-/
import Derived.Test.YtdallmabajeajaaGreatDoorG6
import Derived.Test.YtdallmabajeajaaGreatDoorRows
import Derived.JoinedCond
import Derived.KernelRfl
set_option linter.all false
set_option linter.all false
set_option maxRecDepth 100000
namespace Go.Proofs.YtdallmabajeajaaGreatDoor.leaseFold
open Go Go.Proofs.YtdallmabajeajaaGreatDoor
theorem nam : Tryz.pinned.checked.prog.funcNamed Rows.leaseFoldRow.func = some 8 := by kernel_rfl
theorem closed : joinedFacts Tryz.pinned.checked.prog 8 Tryz.f8 (OpenSpec.ofChange Rows.leaseFoldSpec).bare Rows.leaseFoldRow = true := by kernel_rfl
end Go.Proofs.YtdallmabajeajaaGreatDoor.leaseFold
