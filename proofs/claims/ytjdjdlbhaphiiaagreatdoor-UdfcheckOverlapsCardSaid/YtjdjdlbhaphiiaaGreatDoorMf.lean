/- Outcomes that the kernel has run: the second check. -/
import Derived.Test.YtjdjdlbhaphiiaaGreatDoorMa
import Derived.KernelRfl
import Derived.Test.YtjdjdlbhaphiiaaGreatDoorMc
set_option linter.unusedVariables false
set_option linter.unusedSimpArgs false
namespace Go.Vm
set_option maxRecDepth 1000000
theorem TzM.r13 : chk (callF envT intrT 200 (.fn 38) TzM.a13 TzM.g13 22983) TzM.v13 TzM.h13 24960 = true := by kernel_rfl
end Go.Vm

namespace Go.Vm
set_option maxRecDepth 1000000
theorem TzM.r14 : chk (callF envT intrT 200 (.fn 40) TzM.a14 TzM.g14 24960) TzM.v14 TzM.h14 26950 = true := by kernel_rfl
end Go.Vm

namespace Go.Vm
set_option maxRecDepth 1000000
theorem TzM.r15 : chk (callF envT intrT 200 (.fn 44) TzM.a15 TzM.g15 27449) TzM.v15 TzM.h15 29653 = true := by kernel_rfl
end Go.Vm

namespace Go.Vm
noncomputable def TzM.f9 : CFun := memoF TzM.a9 TzM.g9 16112 TzM.v9 TzM.h9 18169 (plainF envT 38)
theorem TzM.f9_ok : CFunOk envT 38 TzM.f9 := memo_ok intrT_ok plainF_ok TzM.r9
noncomputable def TzM.f13 : CFun := memoF TzM.a13 TzM.g13 22983 TzM.v13 TzM.h13 24960 TzM.f9
theorem TzM.f13_ok : CFunOk envT 38 TzM.f13 := memo_ok intrT_ok TzM.f9_ok TzM.r13
noncomputable def TzM.f10 : CFun := memoF TzM.a10 TzM.g10 18169 TzM.v10 TzM.h10 20159 (plainF envT 40)
theorem TzM.f10_ok : CFunOk envT 40 TzM.f10 := memo_ok intrT_ok plainF_ok TzM.r10
noncomputable def TzM.f14 : CFun := memoF TzM.a14 TzM.g14 24960 TzM.v14 TzM.h14 26950 TzM.f10
theorem TzM.f14_ok : CFunOk envT 40 TzM.f14 := memo_ok intrT_ok TzM.f10_ok TzM.r14
noncomputable def TzM.f11 : CFun := memoF TzM.a11 TzM.g11 20658 TzM.v11 TzM.h11 22862 (plainF envT 44)
theorem TzM.f11_ok : CFunOk envT 44 TzM.f11 := memo_ok intrT_ok plainF_ok TzM.r11
noncomputable def TzM.f15 : CFun := memoF TzM.a15 TzM.g15 27449 TzM.v15 TzM.h15 29653 TzM.f11
theorem TzM.f15_ok : CFunOk envT 44 TzM.f15 := memo_ok intrT_ok TzM.f11_ok TzM.r15
noncomputable def J1 : T CFun := (T.set (some TzM.f15) 44 (T.set (some TzM.f14) 40 (T.set (some TzM.f13) 38 intrT)))
theorem J1_ok : IntrOk envT J1 := (((intrT_ok.set TzM.f13_ok).set TzM.f14_ok).set TzM.f15_ok)
end Go.Vm
