/- Outcomes that the kernel has run: both checks, and the whole. -/
import Derived.Test.YtjdjdlbhaphiiaaGreatDoorMf
import Derived.KernelRfl
import Derived.Test.YtjdjdlbhaphiiaaGreatDoorMg
set_option linter.unusedVariables false
set_option linter.unusedSimpArgs false
namespace Go.Vm
set_option maxRecDepth 1000000
theorem TzM.r12 : chk (callF envT J1 200 (.fn 16) TzM.a12 TzM.g12 16109) TzM.v12 TzM.h12 22980 = true := by kernel_rfl
end Go.Vm

namespace Go.Vm
set_option maxRecDepth 1000000
theorem TzM.r16 : chk (callF envT J1 200 (.fn 16) TzM.a16 TzM.g16 22980) TzM.v16 TzM.h16 29771 = true := by kernel_rfl
end Go.Vm

namespace Go.Vm
noncomputable def TzM.f8 : CFun := memoF TzM.a8 TzM.g8 4 TzM.v8 TzM.h8 16109 (plainF envT 15)
theorem TzM.f8_ok : CFunOk envT 15 TzM.f8 := memo_ok I3_ok plainF_ok TzM.r8
noncomputable def TzM.f12 : CFun := memoF TzM.a12 TzM.g12 16109 TzM.v12 TzM.h12 22980 (plainF envT 16)
theorem TzM.f12_ok : CFunOk envT 16 TzM.f12 := memo_ok J1_ok plainF_ok TzM.r12
noncomputable def TzM.f16 : CFun := memoF TzM.a16 TzM.g16 22980 TzM.v16 TzM.h16 29771 TzM.f12
theorem TzM.f16_ok : CFunOk envT 16 TzM.f16 := memo_ok J1_ok TzM.f12_ok TzM.r16
noncomputable def I4 : T CFun := (T.set (some TzM.f16) 16 (T.set (some TzM.f8) 15 I3))
theorem I4_ok : IntrOk envT I4 := ((I3_ok.set TzM.f8_ok).set TzM.f16_ok)
end Go.Vm

namespace Go.Vm
noncomputable def resB (o : Option (AV × T AObj × Nat)) : Bool := Option.rec (motive := fun _ => Bool) false (fun r => r.1.onBool false id) o
set_option maxRecDepth 1000000
theorem awake_run : resB (callF envT I4 200 (.fn 5) [] .nil 0) = true := by kernel_rfl
end Go.Vm
