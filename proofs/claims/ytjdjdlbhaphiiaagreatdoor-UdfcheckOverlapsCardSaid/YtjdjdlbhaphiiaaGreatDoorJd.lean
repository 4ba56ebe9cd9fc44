/- Closed facts of the row, the third. -/
import Derived.Test.YtjdjdlbhaphiiaaGreatDoorJa
import Derived.Test.YtjdjdlbhaphiiaaGreatDoorCards
import Derived.KernelRfl
import Derived.JoinedOf
import Derived.Test.YtjdjdlbhaphiiaaGreatDoorJb
import Derived.Test.YtjdjdlbhaphiiaaGreatDoorJc
set_option linter.unusedVariables false
set_option linter.unusedSimpArgs false
namespace Go.Proofs.YtjdjdlbhaphiiaaGreatDoor
open Go
set_option maxRecDepth 100000
theorem lo0 : (List.range' 0 100).all (rowFine Tryz.prog) = true := by kernel_rfl
theorem lo1 : (List.range' 100 100).all (rowFine Tryz.prog) = true := by kernel_rfl
theorem lo2 : (List.range' 200 100).all (rowFine Tryz.prog) = true := by kernel_rfl
theorem lo3 : (List.range' 300 100).all (rowFine Tryz.prog) = true := by kernel_rfl
theorem lo4 : (List.range' 400 100).all (rowFine Tryz.prog) = true := by kernel_rfl
theorem lo5 : (List.range' 500 100).all (rowFine Tryz.prog) = true := by kernel_rfl
theorem lo6 : (List.range' 600 75).all (rowFine Tryz.prog) = true := by kernel_rfl
end Go.Proofs.YtjdjdlbhaphiiaaGreatDoor

namespace Go.Proofs.YtjdjdlbhaphiiaaGreatDoor
open Go
set_option maxRecDepth 100000
theorem k1 : (Rows.udfcheckOverlapsRow).wf (OpenSpec.ofChange Rows.udfcheckOverlapsSpec) = true := by kernel_rfl
theorem k3 : mapsRowed Tryz.prog = true := by kernel_rfl
theorem k4 : Tryz.f3.params.all (Tryz.prog.readableRec ·) = true := by kernel_rfl
theorem k5 : namedTie Tryz.prog Rows.udfcheckOverlapsRow.named Rows.udfcheckOverlapsSpec.vars = true := by kernel_rfl
theorem k6 : (Rows.udfcheckOverlapsRow.stops == []) = true := by kernel_rfl
theorem k7 : (Tryz.prog.stops == []) = true := by kernel_rfl
theorem k8 : (Rows.udfcheckOverlapsRow.knobs == []) = true := by kernel_rfl
theorem k9 : (Tryz.prog.stopKnobs == []) = true := by kernel_rfl
theorem k14 : (Rows.udfcheckOverlapsRow.maps == (Tryz.f3.params.toList ++ Rows.udfcheckOverlapsSpec.plain.varTypes Tryz.prog).any (Tryz.prog.mapsRec ·)) = true := by kernel_rfl
theorem k15 : (Rows.udfcheckOverlapsRow.ifaces == (Tryz.f3.params.toList ++ Rows.udfcheckOverlapsSpec.plain.varTypes Tryz.prog).any (Tryz.prog.ifacesRec ·)) = true := by kernel_rfl
theorem k16 : (Rows.udfcheckOverlapsRow.mapsOut == Tryz.prog.mapsAmong Tryz.f3.resultTypes.toList) = true := by kernel_rfl
theorem k17 : (Rows.udfcheckOverlapsRow.loops == (Tryz.f3.params.toList ++ Rows.udfcheckOverlapsSpec.plain.varTypes Tryz.prog).any (Tryz.prog.loopsFrom ·)) = true := by kernel_rfl
theorem k17b : (Rows.udfcheckOverlapsRow.wideKeys == (Tryz.f3.params.toList ++ Rows.udfcheckOverlapsSpec.plain.varTypes Tryz.prog ++ Tryz.f3.resultTypes.toList).any (Tryz.prog.wideKeysFrom ·)) = true := by kernel_rfl
theorem k18 : Rows.udfcheckOverlapsSpec.vars.all (Tryz.prog.varReadable ·) = true := by kernel_rfl
theorem k19 : Tryz.f3.resultTypes.all (fun t => Tryz.prog.readableRec t && decide (t < Tryz.prog.types.size)) = true := by kernel_rfl
theorem k20 : (Rows.udfcheckOverlapsRow.ifacesOut == Tryz.f3.resultTypes.toList.any (Tryz.prog.ifacesRec ·)) = true := by kernel_rfl
theorem k21 : (Rows.udfcheckOverlapsRow.loopsOut == Tryz.f3.resultTypes.toList.any (Tryz.prog.loopsFrom ·)) = true := by kernel_rfl
theorem k22 : (Rows.udfcheckOverlapsRow.plainKeys == Tryz.prog.plainKeys) = true := by kernel_rfl
theorem k23 : Rows.udfcheckOverlapsRow.shortTexts.isNone = true := by kernel_rfl
theorem k23b : Tryz.prog.stopsHeard = true := by kernel_rfl
theorem k24 : Tryz.prog.mayEnter = true := by kernel_rfl
theorem k24b : (Rows.udfcheckOverlapsRow.lifted == Tryz.prog.liftsFinal) = true := by kernel_rfl
theorem k24c : (Tryz.prog.make == some Rows.udfcheckOverlapsRow.make) = true := by kernel_rfl
theorem k25 : (Rows.udfcheckOverlapsRow.kinds == (if Rows.udfcheckOverlapsRow.domain.isEmpty then [] else Tryz.f3.params.toList.map fun t => match Tryz.prog.underlying t with | some (.int k) => some k | _ => none)) = true := by kernel_rfl
theorem k26 : (Rows.udfcheckOverlapsRow.pinned == Rows.udfcheckOverlapsRow.pinnedBy) = true := by kernel_rfl
theorem k27 : (Rows.udfcheckOverlapsRow.veiled == (Tryz.f3.params.toList ++ Rows.udfcheckOverlapsSpec.plain.varTypes Tryz.prog ++ Tryz.f3.resultTypes.toList).any (Tryz.prog.veiledRec ·)) = true := by kernel_rfl
theorem k28 : Rows.udfcheckOverlapsRow.veiledFits Tryz.prog Tryz.f3.params.toList (Tryz.f3.params.toList ++ Rows.udfcheckOverlapsSpec.plain.varTypes Tryz.prog ++ Tryz.f3.resultTypes.toList) = true := by kernel_rfl
theorem kfn : Tryz.prog.funcNamed "masterdisc/masterdisclaw45.UdfcheckOverlaps" = some 3 := by kernel_rfl
theorem kgoes : Tryz.prog.funcs.any Func.goes = false := by kernel_rfl
theorem k12 : (Rows.udfcheckOverlapsRow.recurses == Tryz.prog.recurses 3) = true := by
  have h : Tryz.prog.unfollowed 3 = true := (beq_iff_eq.1 k11).symm
  unfold Program.recurses
  rw [h, Bool.true_or]
  rfl
theorem lo8 : Tryz.prog.globals.toList.all (fun g => decide (g.type < Tryz.prog.types.size)) = true := by kernel_rfl
theorem lo9 : Tryz.prog.funcs.toList.all (fun f => f.params.all fun t => decide (t < Tryz.prog.types.size)) = true := by kernel_rfl
theorem types675 : Tryz.prog.types.size = 675 := by kernel_rfl
theorem k2 : laidOutB Tryz.prog = true := by
  unfold laidOutB
  rw [Bool.and_eq_true, Bool.and_eq_true]
  refine ⟨⟨?_, by rw [← Array.all_toList]; exact lo8⟩, by rw [← Array.all_toList]; exact lo9⟩
  rw [types675, List.all_eq_true]
  intro t ht
  have ht := List.mem_range.1 ht
  have pick : ∀ a n, (List.range' a n).all (rowFine Tryz.prog) = true → a ≤ t → t < a + n → rowFine Tryz.prog t = true := fun a n h h1 h2 => List.all_eq_true.1 h t (List.mem_range'_1.2 ⟨h1, h2⟩)
  by_cases c1 : t < 100
  · exact pick 0 100 lo0 (Nat.zero_le _) c1
  by_cases c2 : t < 200
  · exact pick 100 100 lo1 (by omega) (by omega)
  by_cases c3 : t < 300
  · exact pick 200 100 lo2 (by omega) (by omega)
  by_cases c4 : t < 400
  · exact pick 300 100 lo3 (by omega) (by omega)
  by_cases c5 : t < 500
  · exact pick 400 100 lo4 (by omega) (by omega)
  by_cases c6 : t < 600
  · exact pick 500 100 lo5 (by omega) (by omega)
  · exact pick 600 75 lo6 (by omega) (by omega)
end Go.Proofs.YtjdjdlbhaphiiaaGreatDoor

namespace Go.Proofs.YtjdjdlbhaphiiaaGreatDoor
open Go
set_option maxRecDepth 100000
theorem and2 {a b : Bool} (h : a = true) (k : b = true) : (a && b) = true := by rw [h, k]; rfl
theorem joined : joinedFacts Tryz.prog 3 Tryz.f3 Rows.udfcheckOverlapsSpec Rows.udfcheckOverlapsRow = true := by
  unfold joinedFacts
  simp only [Bool.and_eq_true]
  with_reducible refine ⟨⟨⟨⟨⟨⟨⟨⟨⟨⟨⟨⟨⟨⟨⟨⟨⟨⟨⟨⟨⟨⟨⟨⟨⟨⟨⟨⟨⟨⟨⟨k1, k2⟩, k3⟩, k4⟩, k5⟩, k6⟩, k7⟩, k8⟩, k9⟩, k10⟩, k11⟩, k12⟩, k13⟩, k14⟩, k15⟩, k16⟩, k17⟩, k17b⟩, k18⟩, k19⟩, k20⟩, k21⟩, k22⟩, k23⟩, k23b⟩, k24⟩, k24b⟩, k24c⟩, (by kernel_rfl)⟩, k26⟩, k27⟩, k28⟩
theorem goes_none {P : Program} (hk : P.funcs.any Func.goes = false) (name : String) : P.goesAt .entering name = false := by
  have h : ∀ f, P.goes f = false := fun f => by
    unfold Program.goes
    rw [Bool.or_eq_false_iff]
    refine ⟨?_, by rw [hk, Bool.and_false]⟩
    rw [List.any_eq_false]
    intro g _
    rw [Array.any_eq_false'] at hk
    cases hg : P.funcs[g]? with
    | none => simp
    | some d => simpa using hk d (Array.mem_of_getElem? hg)
  unfold Program.goesAt Program.goesFrom
  cases P.funcNamed name with
  | none => rfl
  | some f => simp [h]
theorem goes3 : false = Rows.udfcheckOverlapsRow.goesBy Tryz.prog := (goes_none kgoes "masterdisc/masterdisclaw45.UdfcheckOverlaps").symm
end Go.Proofs.YtjdjdlbhaphiiaaGreatDoor
