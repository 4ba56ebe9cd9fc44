/- Outcomes that the kernel has run: the new volume. -/
import Derived.Test.YtjdjdlbhaphiiaaGreatDoorMb
import Derived.KernelRfl
set_option linter.unusedVariables false
set_option linter.unusedSimpArgs false
namespace Go.Vm
set_option maxRecDepth 1000000
theorem TzM.r5 : chk (callF envT I1 200 (.fn 73) TzM.a5 TzM.g5 4388) TzM.v5 TzM.h5 12340 = true := by kernel_rfl
end Go.Vm

namespace Go.Vm
noncomputable def TzM.f5 : CFun := memoF TzM.a5 TzM.g5 4388 TzM.v5 TzM.h5 12340 (plainF envT 73)
theorem TzM.f5_ok : CFunOk envT 73 TzM.f5 := memo_ok I1_ok plainF_ok TzM.r5
noncomputable def TzM.f6 : CFun := memoF TzM.a6 TzM.g6 12355 TzM.v6 TzM.h6 15791 (plainF envT 74)
theorem TzM.f6_ok : CFunOk envT 74 TzM.f6 := memo_ok intrT_ok plainF_ok TzM.r6
noncomputable def I2 : T CFun := (T.set (some TzM.f6) 74 (T.set (some TzM.f5) 73 I1))
theorem I2_ok : IntrOk envT I2 := ((I1_ok.set TzM.f5_ok).set TzM.f6_ok)
end Go.Vm

namespace Go.Vm
set_option maxRecDepth 1000000
theorem TzM.r7 : chk (callF envT I2 200 (.fn 32) TzM.a7 TzM.g7 16) TzM.v7 TzM.h7 15816 = true := by kernel_rfl
end Go.Vm

namespace Go.Vm
noncomputable def TzM.f7 : CFun := memoF TzM.a7 TzM.g7 16 TzM.v7 TzM.h7 15816 (plainF envT 32)
theorem TzM.f7_ok : CFunOk envT 32 TzM.f7 := memo_ok I2_ok plainF_ok TzM.r7
noncomputable def I3 : T CFun := (T.set (some TzM.f7) 32 I2)
theorem I3_ok : IntrOk envT I3 := (I2_ok.set TzM.f7_ok)
end Go.Vm

namespace Go.Vm
set_option maxRecDepth 1000000
theorem TzM.r8 : chk (callF envT I3 200 (.fn 15) TzM.a8 TzM.g8 4) TzM.v8 TzM.h8 16109 = true := by kernel_rfl
end Go.Vm
