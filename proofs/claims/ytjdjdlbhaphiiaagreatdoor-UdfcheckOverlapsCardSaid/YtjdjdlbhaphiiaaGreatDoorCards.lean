/-
  DERIVED. GIVEN WITH THE SEED: THE CARDS: each row of YtjdjdlbhaphiiaaGreatDoorRows.lean that lists a variable, with what it lists TIED to the program's text (the seventh form; the later family's looks); each row that meets fmt, with fmt's text TOLD by the authors' own Lean function (tested against real Go, not proved from fmt's source: count such statements apart). THE CARD IS WHAT COUNTS. Prove the row's statement (the work); the ties are given (YtjdjdlbhaphiiaaGreatDoorTie.lean); close each card by the builder's one call (the guide's Derived/Test/ToyasCard.lean, 'card_holds'). Laid BY PROGRAM, IN A SANDBOX (cutbox-door.mjs). By AI agents, Wed Nov 11 2026. No macro, syntax, notation, axiom, sorry.
-/
import Derived.Test.YtjdjdlbhaphiiaaGreatDoorRows
import GoSem.ClaimSeven
namespace Go.Proofs.YtjdjdlbhaphiiaaGreatDoor
namespace Rows

/-- THE TIED CARD OF 'masterdisclaw45.UdfcheckOverlaps'. -/
def udfcheckOverlapsCard : Claim7 := { stood := { row := udfcheckOverlapsRow, standIns := [], harness := (true, "984184d13f464ff227ac7342f712decdec50c16cec898e49bc36ce1d9955b742"), looks := false }, kinds := [], alts := [], laidByText := true, laidKinds := [.pinned, .data, .data, .data, .data], laidTests := true, laidLooks := .later }
def UdfcheckOverlapsCardSaid : Prop := Claim7.holds Tryz.pinned (.plain (OpenSpec.ofChange udfcheckOverlapsSpec)) udfcheckOverlapsCard

/-- THE TIED CARD OF 'masterdisclaw45.UdfcheckDirectories'. -/
def udfcheckDirectoriesCard : Claim7 := { stood := { row := udfcheckDirectoriesRow, standIns := [], harness := (true, "984184d13f464ff227ac7342f712decdec50c16cec898e49bc36ce1d9955b742"), looks := false }, kinds := [], alts := [], laidByText := true, laidKinds := [.pinned, .data, .data, .data, .data], laidTests := true, laidLooks := .later }
def UdfcheckDirectoriesCardSaid : Prop := Claim7.holds Tryz.pinned (.plain (OpenSpec.ofChange udfcheckDirectoriesSpec)) udfcheckDirectoriesCard

/-- THE SECOND FORM's CARD OF 'masterdisclaw45.UdfcheckOverlaps'. -/
def udfcheckOverlapsUptoCard : Claim7 := { stood := { row := udfcheckOverlapsUptoRow, standIns := [], harness := (true, "984184d13f464ff227ac7342f712decdec50c16cec898e49bc36ce1d9955b742"), looks := false }, kinds := [], alts := [], laidByText := true, laidKinds := [.pinned, .data, .data, .data, .data], laidTests := true, laidLooks := .later }
def UdfcheckOverlapsUptoCardSaid : Prop := Claim7.holds Tryz.pinned (.plain (OpenSpec.upto udfcheckOverlapsSpec)) udfcheckOverlapsUptoCard

/-- THE SECOND FORM's CARD OF 'masterdisclaw45.UdfcheckDirectories'. -/
def udfcheckDirectoriesUptoCard : Claim7 := { stood := { row := udfcheckDirectoriesUptoRow, standIns := [], harness := (true, "984184d13f464ff227ac7342f712decdec50c16cec898e49bc36ce1d9955b742"), looks := false }, kinds := [], alts := [], laidByText := true, laidKinds := [.pinned, .data, .data, .data, .data], laidTests := true, laidLooks := .later }
def UdfcheckDirectoriesUptoCardSaid : Prop := Claim7.holds Tryz.pinned (.plain (OpenSpec.upto udfcheckDirectoriesSpec)) udfcheckDirectoriesUptoCard
end Rows
end Go.Proofs.YtjdjdlbhaphiiaaGreatDoor
