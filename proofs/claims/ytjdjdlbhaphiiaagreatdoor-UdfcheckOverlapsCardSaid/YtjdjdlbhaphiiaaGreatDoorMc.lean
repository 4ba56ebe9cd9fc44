/- Outcomes that the kernel has run: the first check. -/
import Derived.Test.YtjdjdlbhaphiiaaGreatDoorMa
import Derived.KernelRfl
set_option linter.unusedVariables false
set_option linter.unusedSimpArgs false
namespace Go.Vm
set_option maxRecDepth 1000000
theorem TzM.r9 : chk (callF envT intrT 200 (.fn 38) TzM.a9 TzM.g9 16112) TzM.v9 TzM.h9 18169 = true := by kernel_rfl
end Go.Vm

namespace Go.Vm
set_option maxRecDepth 1000000
theorem TzM.r10 : chk (callF envT intrT 200 (.fn 40) TzM.a10 TzM.g10 18169) TzM.v10 TzM.h10 20159 = true := by kernel_rfl
end Go.Vm

namespace Go.Vm
set_option maxRecDepth 1000000
theorem TzM.r11 : chk (callF envT intrT 200 (.fn 44) TzM.a11 TzM.g11 20658) TzM.v11 TzM.h11 22862 = true := by kernel_rfl
end Go.Vm
