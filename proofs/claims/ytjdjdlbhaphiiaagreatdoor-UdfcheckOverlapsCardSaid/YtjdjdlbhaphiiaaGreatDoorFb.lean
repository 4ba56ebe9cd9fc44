/- UdfcheckOverlaps: whatever list of spans it is called with, the law returns true, and the list reads as it did. No condition. -/
import Derived.Test.YtjdjdlbhaphiiaaGreatDoorFa
set_option linter.unusedVariables false
set_option linter.unusedSimpArgs false
namespace Go.Proofs.YtjdjdlbhaphiiaaGreatDoor
open Go
set_option maxRecDepth 100000
theorem g1 : Rows.udfcheckOverlapsRow.wfByText (OpenSpec.ofChange Rows.udfcheckOverlapsSpec) = true := by kernel_rfl
theorem g2 : Tryz.prog.mainIs = some (true, "984184d13f464ff227ac7342f712decdec50c16cec898e49bc36ce1d9955b742".toList) := by kernel_rfl
theorem g3 : false = Tryz.prog.looks [] := by kernel_rfl
theorem g4 : ([22].all fun u => !Tryz.prog.wantsStandIn u) = true := by kernel_rfl
theorem overlapsCard : Rows.UdfcheckOverlapsCardSaid :=
  Claim7.holds_tied_plain_at .later [] [.pinned, .data, .data, .data, .data] true (true, "984184d13f464ff227ac7342f712decdec50c16cec898e49bc36ce1d9955b742") false
    overlaps_holds (fun _ h => by cases h) g1 (fun _ h => by cases h) udfcheckOverlaps_row_tie rfl ⟨rfl, rfl⟩ g2 rfl
    (fun f fn hf hfn => by
      obtain rfl : f = 3 := Option.some.inj (kfn.symm.trans hf) |>.symm
      obtain rfl : fn = Tryz.f3 := (Option.some.inj (Tryz.func3.symm.trans hfn)).symm
      exact ⟨g3, fun j t ht => by
        rw [Tryz.params3] at ht
        have hm : t ∈ [22] := by simpa using Array.mem_of_getElem? ht
        exact (show Tryz.prog.wantsStandIn t = false by simpa using List.all_eq_true.1 g4 t hm)⟩)
    goes3
#print axioms overlapsCard
end Go.Proofs.YtjdjdlbhaphiiaaGreatDoor
