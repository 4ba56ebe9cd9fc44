/- Outcomes that the kernel has run: the first of a new volume. -/
import Derived.Test.YtjdjdlbhaphiiaaGreatDoorMa
import Derived.KernelRfl
set_option linter.unusedVariables false
set_option linter.unusedSimpArgs false
namespace Go.Vm
set_option maxRecDepth 1000000
theorem TzM.r0 : chk (callF envT intrT 200 (.fn 68) TzM.a0 TzM.g0 576) TzM.v0 TzM.h0 607 = true := by kernel_rfl
end Go.Vm

namespace Go.Vm
set_option maxRecDepth 1000000
theorem TzM.r1 : chk (callF envT intrT 200 (.fn 68) TzM.a1 TzM.g1 627) TzM.v1 TzM.h1 658 = true := by kernel_rfl
end Go.Vm

namespace Go.Vm
set_option maxRecDepth 1000000
theorem TzM.r2 : chk (callF envT intrT 200 (.fn 70) TzM.a2 TzM.g2 888) TzM.v2 TzM.h2 4331 = true := by kernel_rfl
end Go.Vm

namespace Go.Vm
set_option maxRecDepth 1000000
theorem TzM.r3 : chk (callF envT intrT 200 (.fn 150) TzM.a3 TzM.g3 4571) TzM.v3 TzM.h3 7137 = true := by kernel_rfl
end Go.Vm

namespace Go.Vm
set_option maxRecDepth 1000000
theorem TzM.r4 : chk (callF envT intrT 200 (.fn 150) TzM.a4 TzM.g4 7137) TzM.v4 TzM.h4 9703 = true := by kernel_rfl
end Go.Vm

namespace Go.Vm
set_option maxRecDepth 1000000
theorem TzM.r6 : chk (callF envT intrT 200 (.fn 74) TzM.a6 TzM.g6 12355) TzM.v6 TzM.h6 15791 = true := by kernel_rfl
end Go.Vm

namespace Go.Vm
noncomputable def TzM.f0 : CFun := memoF TzM.a0 TzM.g0 576 TzM.v0 TzM.h0 607 (framed (plainF envT 68))
theorem TzM.f0_ok : CFunOk envT 68 TzM.f0 := memo_ok intrT_ok (framed_ok plainF_ok) TzM.r0
noncomputable def TzM.f1 : CFun := memoF TzM.a1 TzM.g1 627 TzM.v1 TzM.h1 658 TzM.f0
theorem TzM.f1_ok : CFunOk envT 68 TzM.f1 := memo_ok intrT_ok TzM.f0_ok TzM.r1
noncomputable def TzM.f2 : CFun := memoF TzM.a2 TzM.g2 888 TzM.v2 TzM.h2 4331 (plainF envT 70)
theorem TzM.f2_ok : CFunOk envT 70 TzM.f2 := memo_ok intrT_ok plainF_ok TzM.r2
noncomputable def TzM.f3 : CFun := memoF TzM.a3 TzM.g3 4571 TzM.v3 TzM.h3 7137 (plainF envT 150)
theorem TzM.f3_ok : CFunOk envT 150 TzM.f3 := memo_ok intrT_ok plainF_ok TzM.r3
noncomputable def TzM.f4 : CFun := memoF TzM.a4 TzM.g4 7137 TzM.v4 TzM.h4 9703 TzM.f3
theorem TzM.f4_ok : CFunOk envT 150 TzM.f4 := memo_ok intrT_ok TzM.f3_ok TzM.r4
noncomputable def I1 : T CFun := (T.set (some TzM.f4) 150 (T.set (some TzM.f2) 70 (T.set (some TzM.f1) 68 intrT)))
theorem I1_ok : IntrOk envT I1 := (((intrT_ok.set TzM.f1_ok).set TzM.f2_ok).set TzM.f4_ok)
end Go.Vm
