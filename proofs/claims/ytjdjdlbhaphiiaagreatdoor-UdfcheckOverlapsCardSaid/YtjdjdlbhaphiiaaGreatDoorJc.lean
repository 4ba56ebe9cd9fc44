/- Closed facts of the row, the second. -/
import Derived.Test.YtjdjdlbhaphiiaaGreatDoorJa
import Derived.Test.YtjdjdlbhaphiiaaGreatDoorCards
import Derived.KernelRfl
import Derived.JoinedOf
set_option linter.unusedVariables false
set_option linter.unusedSimpArgs false
namespace Go.Proofs.YtjdjdlbhaphiiaaGreatDoor
open Go
set_option maxRecDepth 100000
theorem k13 : (Rows.udfcheckOverlapsRow.named == Tryz.prog.varsNamed 3) = true := by
  unfold Program.varsNamed
  rw [Go.Vm.closure3]
  kernel_rfl
end Go.Proofs.YtjdjdlbhaphiiaaGreatDoor
