/-
  DERIVED. GIVEN WITH THE SEED: THE CARDS: each row of YtkpadjhdneiniaaDoorRows.lean that lists a variable, with what it lists TIED to the program's text (the seventh form; the later family's looks); each row that meets fmt, with fmt's text TOLD by the authors' own Lean function (tested against real Go, not proved from fmt's source: count such statements apart). THE CARD IS WHAT COUNTS. Prove the row's statement (the work); the ties are given (YtkpadjhdneiniaaDoorTie.lean); close each card by the builder's one call (the guide's Derived/Test/ToyasCard.lean, 'card_holds'). Laid BY PROGRAM, IN A SANDBOX (cutbox-door.mjs). By AI agents, Wed Nov 11 2026. No macro, syntax, notation, axiom, sorry.
-/
import Derived.Test.YtkpadjhdneiniaaDoorRows
import GoSem.ClaimSeven
namespace Go.Proofs.YtkpadjhdneiniaaDoor
namespace Rows

/-- THE TIED CARD OF 'winnowerlaw26.StableSelf'. -/
def stableSelfCard : Claim7 := { stood := { row := stableSelfRow, standIns := [], harness := (true, "9f0732a09bd9be0cfe1a0f68140516014bcca6cdfc85cebef768fbdbb63ecff7"), looks := false }, kinds := [], alts := [], laidByText := true, laidKinds := [.data, .data, .data], laidTests := true, laidLooks := .later }
def StableSelfCardSaid : Prop := Claim7.holds Tryd.pinned (.plain (OpenSpec.ofChange stableSelfSpec)) stableSelfCard

/-- THE TIED CARD OF 'winnowerlaw26.StableRefines'. -/
def stableRefinesCard : Claim7 := { stood := { row := stableRefinesRow, standIns := [], harness := (true, "9f0732a09bd9be0cfe1a0f68140516014bcca6cdfc85cebef768fbdbb63ecff7"), looks := false }, kinds := [], alts := [], laidByText := true, laidKinds := [.data, .data, .data], laidTests := true, laidLooks := .later }
def StableRefinesCardSaid : Prop := Claim7.holds Tryd.pinned (.plain (OpenSpec.ofChange stableRefinesSpec)) stableRefinesCard

/-- THE TIED CARD OF 'winnowerlaw26.StableFiner'. -/
def stableFinerCard : Claim7 := { stood := { row := stableFinerRow, standIns := [], harness := (true, "9f0732a09bd9be0cfe1a0f68140516014bcca6cdfc85cebef768fbdbb63ecff7"), looks := false }, kinds := [], alts := [], laidByText := true, laidKinds := [.data, .data, .data], laidTests := true, laidLooks := .later }
def StableFinerCardSaid : Prop := Claim7.holds Tryd.pinned (.plain (OpenSpec.ofChange stableFinerSpec)) stableFinerCard

/-- THE TIED CARD OF 'winnowerlaw26.StableKeeps'. -/
def stableKeepsCard : Claim7 := { stood := { row := stableKeepsRow, standIns := [], harness := (true, "9f0732a09bd9be0cfe1a0f68140516014bcca6cdfc85cebef768fbdbb63ecff7"), looks := false }, kinds := [], alts := [], laidByText := true, laidKinds := [.data, .data, .data], laidTests := true, laidLooks := .later }
def StableKeepsCardSaid : Prop := Claim7.holds Tryd.pinned (.plain (OpenSpec.ofChange stableKeepsSpec)) stableKeepsCard

/-- THE SECOND FORM's CARD OF 'winnowerlaw26.StableSelf'. -/
def stableSelfUptoCard : Claim7 := { stood := { row := stableSelfUptoRow, standIns := [], harness := (true, "9f0732a09bd9be0cfe1a0f68140516014bcca6cdfc85cebef768fbdbb63ecff7"), looks := false }, kinds := [], alts := [], laidByText := true, laidKinds := [.data, .data, .data], laidTests := true, laidLooks := .later }
def StableSelfUptoCardSaid : Prop := Claim7.holds Tryd.pinned (.plain (OpenSpec.upto stableSelfSpec)) stableSelfUptoCard

/-- THE SECOND FORM's CARD OF 'winnowerlaw26.StableRefines'. -/
def stableRefinesUptoCard : Claim7 := { stood := { row := stableRefinesUptoRow, standIns := [], harness := (true, "9f0732a09bd9be0cfe1a0f68140516014bcca6cdfc85cebef768fbdbb63ecff7"), looks := false }, kinds := [], alts := [], laidByText := true, laidKinds := [.data, .data, .data], laidTests := true, laidLooks := .later }
def StableRefinesUptoCardSaid : Prop := Claim7.holds Tryd.pinned (.plain (OpenSpec.upto stableRefinesSpec)) stableRefinesUptoCard

/-- THE SECOND FORM's CARD OF 'winnowerlaw26.StableFiner'. -/
def stableFinerUptoCard : Claim7 := { stood := { row := stableFinerUptoRow, standIns := [], harness := (true, "9f0732a09bd9be0cfe1a0f68140516014bcca6cdfc85cebef768fbdbb63ecff7"), looks := false }, kinds := [], alts := [], laidByText := true, laidKinds := [.data, .data, .data], laidTests := true, laidLooks := .later }
def StableFinerUptoCardSaid : Prop := Claim7.holds Tryd.pinned (.plain (OpenSpec.upto stableFinerSpec)) stableFinerUptoCard

/-- THE SECOND FORM's CARD OF 'winnowerlaw26.StableKeeps'. -/
def stableKeepsUptoCard : Claim7 := { stood := { row := stableKeepsUptoRow, standIns := [], harness := (true, "9f0732a09bd9be0cfe1a0f68140516014bcca6cdfc85cebef768fbdbb63ecff7"), looks := false }, kinds := [], alts := [], laidByText := true, laidKinds := [.data, .data, .data], laidTests := true, laidLooks := .later }
def StableKeepsUptoCardSaid : Prop := Claim7.holds Tryd.pinned (.plain (OpenSpec.upto stableKeepsSpec)) stableKeepsUptoCard
end Rows
end Go.Proofs.YtkpadjhdneiniaaDoor
