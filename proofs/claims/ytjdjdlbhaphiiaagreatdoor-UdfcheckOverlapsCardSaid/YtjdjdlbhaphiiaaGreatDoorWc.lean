/- The law with its first call. -/
import Derived.Test.YtjdjdlbhaphiiaaGreatDoorMh
import Derived.Test.YtjdjdlbhaphiiaaGreatDoorWb
set_option linter.unusedVariables false
set_option linter.unusedSimpArgs false
namespace Go.Proofs
open Go.RowKit Go.Vm
theorem Tz.awake (w : World) : Calls Tryz.prog 5 #[] w fun e w' => e = .returned (.bool true) ∧ Below w.heap.size w w' := by
  have hd := awake_run
  cases hr : callF envT I4 200 (.fn 5) [] .nil 0 with
  | none => rw [hr] at hd; cases hd
  | some r =>
    obtain ⟨av, h', nx'⟩ := r
    rw [hr] at hd
    have hav : av = .bool true := by
      have hd : av.onBool false id = true := hd
      cases av with
      | bool b => have hd : b = true := hd; rw [hd]
      | _ => exact absurd (show false = true from hd) (by decide)
    subst hav
    refine (callF_calls (E := envT) (intr := I4) I4_ok hr w (fun g cs e => by cases e)).mono ?_
    rintro e w' ⟨v, ρ', rfl, hx, hv⟩
    cases hv
    exact ⟨rfl, hx.toBelow⟩
end Go.Proofs
