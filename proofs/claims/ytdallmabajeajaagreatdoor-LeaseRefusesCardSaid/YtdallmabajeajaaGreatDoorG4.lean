/-
  Own work: walks and laws, joined by wip/tool/compact.py.
-/
import Derived.Test.YtdallmabajeajaaGreatDoorG3
import Derived.Test.YtdallmabajeajaaGreatDoorRows
import Derived.JoinedCond
import Derived.KernelRfl
set_option linter.all false
set_option linter.all false
set_option maxRecDepth 100000
namespace Go.Proofs.YtdallmabajeajaaGreatDoor.leaseRefuses
open Go Go.Proofs.YtdallmabajeajaaGreatDoor
theorem nam : Tryz.pinned.checked.prog.funcNamed Rows.leaseRefusesRow.func = some 5 := by kernel_rfl
theorem closed : joinedFacts Tryz.pinned.checked.prog 5 Tryz.f5 (OpenSpec.ofChange Rows.leaseRefusesSpec).bare Rows.leaseRefusesRow = true := by kernel_rfl
end Go.Proofs.YtdallmabajeajaaGreatDoor.leaseRefuses
