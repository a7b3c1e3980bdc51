/-
  DERIVED. GIVEN WITH THE SEED: THE CARDS: each row of YtfgonclaiphoeaaGreatDoorRows.lean that lists a variable, with what it lists TIED to the program's text (the seventh form; the later family's looks); each row that meets fmt, with fmt's text TOLD by the authors' own Lean function (tested against real Go, not proved from fmt's source: count such statements apart). THE CARD IS WHAT COUNTS. Prove the row's statement (the work); the ties are given (YtfgonclaiphoeaaGreatDoorTie.lean); close each card by the builder's one call (the guide's Derived/Test/ToyasCard.lean, 'card_holds'). Laid BY PROGRAM, IN A SANDBOX (cutbox-door.mjs). By AI agents, Wed Nov 11 2026. No macro, syntax, notation, axiom, sorry.
-/
import Derived.Test.YtfgonclaiphoeaaGreatDoorRows
import GoSem.ClaimSeven
namespace Go.Proofs.YtfgonclaiphoeaaGreatDoor
namespace Rows

/-- THE TIED CARD OF 'winnowerlaw22.GraphBoth'. -/
def graphBothCard : Claim7 := { stood := { row := graphBothRow, standIns := [], harness := (true, "0c3de5d34597e77b369f4599c480b54bdbbca6c1e48688960c3d4479c992a889"), looks := false }, kinds := [], alts := [], laidByText := true, laidKinds := [.data], laidTests := true, laidLooks := .later }
def GraphBothCardSaid : Prop := Claim7.holds Tryz.pinned (.plain (OpenSpec.ofChange graphBothSpec)) graphBothCard

/-- THE TIED CARD OF 'winnowerlaw22.GraphTells'. -/
def graphTellsCard : Claim7 := { stood := { row := graphTellsRow, standIns := [], harness := (true, "0c3de5d34597e77b369f4599c480b54bdbbca6c1e48688960c3d4479c992a889"), looks := false }, kinds := [], alts := [], laidByText := true, laidKinds := [.data], laidTests := true, laidLooks := .later }
def GraphTellsCardSaid : Prop := Claim7.holds Tryz.pinned (.plain (OpenSpec.ofChange graphTellsSpec)) graphTellsCard

/-- THE TIED CARD OF 'winnowerlaw22.GraphReach'. -/
def graphReachCard : Claim7 := { stood := { row := graphReachRow, standIns := [], harness := (true, "0c3de5d34597e77b369f4599c480b54bdbbca6c1e48688960c3d4479c992a889"), looks := false }, kinds := [], alts := [], laidByText := true, laidKinds := [.data], laidTests := true, laidLooks := .later }
def GraphReachCardSaid : Prop := Claim7.holds Tryz.pinned (.plain (OpenSpec.ofChange graphReachSpec)) graphReachCard

/-- THE SECOND FORM's CARD OF 'winnowerlaw22.GraphBoth'. -/
def graphBothUptoCard : Claim7 := { stood := { row := graphBothUptoRow, standIns := [], harness := (true, "0c3de5d34597e77b369f4599c480b54bdbbca6c1e48688960c3d4479c992a889"), looks := false }, kinds := [], alts := [], laidByText := true, laidKinds := [.data], laidTests := true, laidLooks := .later }
def GraphBothUptoCardSaid : Prop := Claim7.holds Tryz.pinned (.plain (OpenSpec.upto graphBothSpec)) graphBothUptoCard

/-- THE SECOND FORM's CARD OF 'winnowerlaw22.GraphTells'. -/
def graphTellsUptoCard : Claim7 := { stood := { row := graphTellsUptoRow, standIns := [], harness := (true, "0c3de5d34597e77b369f4599c480b54bdbbca6c1e48688960c3d4479c992a889"), looks := false }, kinds := [], alts := [], laidByText := true, laidKinds := [.data], laidTests := true, laidLooks := .later }
def GraphTellsUptoCardSaid : Prop := Claim7.holds Tryz.pinned (.plain (OpenSpec.upto graphTellsSpec)) graphTellsUptoCard

/-- THE SECOND FORM's CARD OF 'winnowerlaw22.GraphReach'. -/
def graphReachUptoCard : Claim7 := { stood := { row := graphReachUptoRow, standIns := [], harness := (true, "0c3de5d34597e77b369f4599c480b54bdbbca6c1e48688960c3d4479c992a889"), looks := false }, kinds := [], alts := [], laidByText := true, laidKinds := [.data], laidTests := true, laidLooks := .later }
def GraphReachUptoCardSaid : Prop := Claim7.holds Tryz.pinned (.plain (OpenSpec.upto graphReachSpec)) graphReachUptoCard
end Rows
end Go.Proofs.YtfgonclaiphoeaaGreatDoor
