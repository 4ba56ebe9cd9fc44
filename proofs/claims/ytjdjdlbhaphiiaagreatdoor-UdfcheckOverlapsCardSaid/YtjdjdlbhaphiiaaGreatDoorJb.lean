/- Closed facts of the row, the first. -/
import Derived.Test.YtjdjdlbhaphiiaaGreatDoorJa
import Derived.Test.YtjdjdlbhaphiiaaGreatDoorCards
import Derived.KernelRfl
import Derived.JoinedOf
set_option linter.unusedVariables false
set_option linter.unusedSimpArgs false
namespace Go.Proofs.YtjdjdlbhaphiiaaGreatDoor
open Go
set_option maxRecDepth 100000
theorem k10 : (Rows.udfcheckOverlapsRow.inPlace == Tryz.prog.inPlace 3) = true := by
  unfold Program.inPlace
  rw [Go.Vm.closure3]
  kernel_rfl
theorem k11 : (Rows.udfcheckOverlapsRow.unfollowed == Tryz.prog.unfollowed 3) = true := by
  unfold Program.unfollowed
  rw [Go.Vm.closure3]
  kernel_rfl
end Go.Proofs.YtjdjdlbhaphiiaaGreatDoor
