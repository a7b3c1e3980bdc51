/-
  DERIVED. GIVEN WITH THE SEED: THE CARDS: each row of YtkpadjhdneiniaaGreatDoorRows.lean that lists a variable, with what it lists TIED to the program's text (the seventh form; the later family's looks); each row that meets fmt, with fmt's text TOLD by the authors' own Lean function (tested against real Go, not proved from fmt's source: count such statements apart). THE CARD IS WHAT COUNTS. Prove the row's statement (the work); the ties are given (YtkpadjhdneiniaaGreatDoorTie.lean); close each card by the builder's one call (the guide's Derived/Test/ToyasCard.lean, 'card_holds'). Laid BY PROGRAM, IN A SANDBOX (cutbox-door.mjs). By AI agents, Wed Nov 11 2026. No macro, syntax, notation, axiom, sorry.
-/
import Derived.Test.YtkpadjhdneiniaaGreatDoorRows
import GoSem.ClaimSeven
namespace Go.Proofs.YtkpadjhdneiniaaGreatDoor
namespace Rows

/-- THE TIED CARD OF 'winnowerlaw23.AutoRuns'. -/
def autoRunsCard : Claim7 := { stood := { row := autoRunsRow, standIns := [], harness := (true, "3db52ff08972e5c10cfc7bffaefea9618b1b3dd68d0b84b8c353effb22f27d66"), looks := false }, kinds := [], alts := [], laidByText := true, laidKinds := [.data, .data, .data], laidTests := true, laidLooks := .later }
def AutoRunsCardSaid : Prop := Claim7.holds Tryz.pinned (.plain (OpenSpec.ofChange autoRunsSpec)) autoRunsCard

/-- THE TIED CARD OF 'winnowerlaw23.AutoEnds'. -/
def autoEndsCard : Claim7 := { stood := { row := autoEndsRow, standIns := [], harness := (true, "3db52ff08972e5c10cfc7bffaefea9618b1b3dd68d0b84b8c353effb22f27d66"), looks := false }, kinds := [], alts := [], laidByText := true, laidKinds := [.data, .data, .data], laidTests := true, laidLooks := .later }
def AutoEndsCardSaid : Prop := Claim7.holds Tryz.pinned (.plain (OpenSpec.ofChange autoEndsSpec)) autoEndsCard

/-- THE TIED CARD OF 'winnowerlaw23.AutoStates'. -/
def autoStatesCard : Claim7 := { stood := { row := autoStatesRow, standIns := [], harness := (true, "3db52ff08972e5c10cfc7bffaefea9618b1b3dd68d0b84b8c353effb22f27d66"), looks := false }, kinds := [], alts := [], laidByText := true, laidKinds := [.data, .data, .data], laidTests := true, laidLooks := .later }
def AutoStatesCardSaid : Prop := Claim7.holds Tryz.pinned (.plain (OpenSpec.ofChange autoStatesSpec)) autoStatesCard

/-- THE TIED CARD OF 'winnowerlaw23.AutoSingle'. -/
def autoSingleCard : Claim7 := { stood := { row := autoSingleRow, standIns := [], harness := (true, "3db52ff08972e5c10cfc7bffaefea9618b1b3dd68d0b84b8c353effb22f27d66"), looks := false }, kinds := [], alts := [], laidByText := true, laidKinds := [.data, .data, .data], laidTests := true, laidLooks := .later }
def AutoSingleCardSaid : Prop := Claim7.holds Tryz.pinned (.plain (OpenSpec.ofChange autoSingleSpec)) autoSingleCard

/-- THE TIED CARD OF 'winnowerlaw24.EqualApart'. -/
def equalApartCard : Claim7 := { stood := { row := equalApartRow, standIns := [], harness := (true, "3db52ff08972e5c10cfc7bffaefea9618b1b3dd68d0b84b8c353effb22f27d66"), looks := false }, kinds := [], alts := [], laidByText := true, laidKinds := [.data, .data, .data], laidTests := true, laidLooks := .later }
def EqualApartCardSaid : Prop := Claim7.holds Tryz.pinned (.plain (OpenSpec.ofChange equalApartSpec)) equalApartCard

/-- THE TIED CARD OF 'winnowerlaw24.EqualSteps'. -/
def equalStepsCard : Claim7 := { stood := { row := equalStepsRow, standIns := [], harness := (true, "3db52ff08972e5c10cfc7bffaefea9618b1b3dd68d0b84b8c353effb22f27d66"), looks := false }, kinds := [], alts := [], laidByText := true, laidKinds := [.data, .data, .data], laidTests := true, laidLooks := .later }
def EqualStepsCardSaid : Prop := Claim7.holds Tryz.pinned (.plain (OpenSpec.ofChange equalStepsSpec)) equalStepsCard

/-- THE TIED CARD OF 'winnowerlaw24.EqualWords'. -/
def equalWordsCard : Claim7 := { stood := { row := equalWordsRow, standIns := [], harness := (true, "3db52ff08972e5c10cfc7bffaefea9618b1b3dd68d0b84b8c353effb22f27d66"), looks := false }, kinds := [], alts := [], laidByText := true, laidKinds := [.data, .data, .data], laidTests := true, laidLooks := .later }
def EqualWordsCardSaid : Prop := Claim7.holds Tryz.pinned (.plain (OpenSpec.ofChange equalWordsSpec)) equalWordsCard

/-- THE TIED CARD OF 'winnowerlaw24.EqualClasses'. -/
def equalClassesCard : Claim7 := { stood := { row := equalClassesRow, standIns := [], harness := (true, "3db52ff08972e5c10cfc7bffaefea9618b1b3dd68d0b84b8c353effb22f27d66"), looks := false }, kinds := [], alts := [], laidByText := true, laidKinds := [.data, .data, .data], laidTests := true, laidLooks := .later }
def EqualClassesCardSaid : Prop := Claim7.holds Tryz.pinned (.plain (OpenSpec.ofChange equalClassesSpec)) equalClassesCard

/-- THE TIED CARD OF 'winnowerlaw24.EqualNil'. -/
def equalNilCard : Claim7 := { stood := { row := equalNilRow, standIns := [], harness := (true, "3db52ff08972e5c10cfc7bffaefea9618b1b3dd68d0b84b8c353effb22f27d66"), looks := false }, kinds := [], alts := [], laidByText := true, laidKinds := [.data, .data, .data], laidTests := true, laidLooks := .later }
def EqualNilCardSaid : Prop := Claim7.holds Tryz.pinned (.plain (OpenSpec.ofChange equalNilSpec)) equalNilCard

/-- THE TIED CARD OF 'winnowerlaw25.MergeMore'. -/
def mergeMoreCard : Claim7 := { stood := { row := mergeMoreRow, standIns := [], harness := (true, "3db52ff08972e5c10cfc7bffaefea9618b1b3dd68d0b84b8c353effb22f27d66"), looks := false }, kinds := [], alts := [], laidByText := true, laidKinds := [.data, .data, .data], laidTests := true, laidLooks := .later }
def MergeMoreCardSaid : Prop := Claim7.holds Tryz.pinned (.plain (OpenSpec.ofChange mergeMoreSpec)) mergeMoreCard

/-- THE TIED CARD OF 'winnowerlaw25.MergeWords'. -/
def mergeWordsCard : Claim7 := { stood := { row := mergeWordsRow, standIns := [], harness := (true, "3db52ff08972e5c10cfc7bffaefea9618b1b3dd68d0b84b8c353effb22f27d66"), looks := false }, kinds := [], alts := [], laidByText := true, laidKinds := [.data, .data, .data], laidTests := true, laidLooks := .later }
def MergeWordsCardSaid : Prop := Claim7.holds Tryz.pinned (.plain (OpenSpec.ofChange mergeWordsSpec)) mergeWordsCard

/-- THE TIED CARD OF 'winnowerlaw25.MergeNone'. -/
def mergeNoneCard : Claim7 := { stood := { row := mergeNoneRow, standIns := [], harness := (true, "3db52ff08972e5c10cfc7bffaefea9618b1b3dd68d0b84b8c353effb22f27d66"), looks := false }, kinds := [], alts := [], laidByText := true, laidKinds := [.data, .data, .data], laidTests := true, laidLooks := .later }
def MergeNoneCardSaid : Prop := Claim7.holds Tryz.pinned (.plain (OpenSpec.ofChange mergeNoneSpec)) mergeNoneCard

/-- THE TIED CARD OF 'winnowerlaw25.MergeMaps'. -/
def mergeMapsCard : Claim7 := { stood := { row := mergeMapsRow, standIns := [], harness := (true, "3db52ff08972e5c10cfc7bffaefea9618b1b3dd68d0b84b8c353effb22f27d66"), looks := false }, kinds := [], alts := [], laidByText := true, laidKinds := [.data, .data, .data], laidTests := true, laidLooks := .later }
def MergeMapsCardSaid : Prop := Claim7.holds Tryz.pinned (.plain (OpenSpec.ofChange mergeMapsSpec)) mergeMapsCard

/-- THE TIED CARD OF 'winnowerlaw25.MergeRight'. -/
def mergeRightCard : Claim7 := { stood := { row := mergeRightRow, standIns := [], harness := (true, "3db52ff08972e5c10cfc7bffaefea9618b1b3dd68d0b84b8c353effb22f27d66"), looks := false }, kinds := [], alts := [], laidByText := true, laidKinds := [.data, .data, .data], laidTests := true, laidLooks := .later }
def MergeRightCardSaid : Prop := Claim7.holds Tryz.pinned (.plain (OpenSpec.ofChange mergeRightSpec)) mergeRightCard

/-- THE TIED CARD OF 'winnowerlaw26.StableMerged'. -/
def stableMergedCard : Claim7 := { stood := { row := stableMergedRow, standIns := [], harness := (true, "3db52ff08972e5c10cfc7bffaefea9618b1b3dd68d0b84b8c353effb22f27d66"), looks := false }, kinds := [], alts := [], laidByText := true, laidKinds := [.data, .data, .data], laidTests := true, laidLooks := .later }
def StableMergedCardSaid : Prop := Claim7.holds Tryz.pinned (.plain (OpenSpec.ofChange stableMergedSpec)) stableMergedCard

/-- THE SECOND FORM's CARD OF 'winnowerlaw23.AutoRuns'. -/
def autoRunsUptoCard : Claim7 := { stood := { row := autoRunsUptoRow, standIns := [], harness := (true, "3db52ff08972e5c10cfc7bffaefea9618b1b3dd68d0b84b8c353effb22f27d66"), looks := false }, kinds := [], alts := [], laidByText := true, laidKinds := [.data, .data, .data], laidTests := true, laidLooks := .later }
def AutoRunsUptoCardSaid : Prop := Claim7.holds Tryz.pinned (.plain (OpenSpec.upto autoRunsSpec)) autoRunsUptoCard

/-- THE SECOND FORM's CARD OF 'winnowerlaw23.AutoEnds'. -/
def autoEndsUptoCard : Claim7 := { stood := { row := autoEndsUptoRow, standIns := [], harness := (true, "3db52ff08972e5c10cfc7bffaefea9618b1b3dd68d0b84b8c353effb22f27d66"), looks := false }, kinds := [], alts := [], laidByText := true, laidKinds := [.data, .data, .data], laidTests := true, laidLooks := .later }
def AutoEndsUptoCardSaid : Prop := Claim7.holds Tryz.pinned (.plain (OpenSpec.upto autoEndsSpec)) autoEndsUptoCard

/-- THE SECOND FORM's CARD OF 'winnowerlaw23.AutoStates'. -/
def autoStatesUptoCard : Claim7 := { stood := { row := autoStatesUptoRow, standIns := [], harness := (true, "3db52ff08972e5c10cfc7bffaefea9618b1b3dd68d0b84b8c353effb22f27d66"), looks := false }, kinds := [], alts := [], laidByText := true, laidKinds := [.data, .data, .data], laidTests := true, laidLooks := .later }
def AutoStatesUptoCardSaid : Prop := Claim7.holds Tryz.pinned (.plain (OpenSpec.upto autoStatesSpec)) autoStatesUptoCard

/-- THE SECOND FORM's CARD OF 'winnowerlaw23.AutoSingle'. -/
def autoSingleUptoCard : Claim7 := { stood := { row := autoSingleUptoRow, standIns := [], harness := (true, "3db52ff08972e5c10cfc7bffaefea9618b1b3dd68d0b84b8c353effb22f27d66"), looks := false }, kinds := [], alts := [], laidByText := true, laidKinds := [.data, .data, .data], laidTests := true, laidLooks := .later }
def AutoSingleUptoCardSaid : Prop := Claim7.holds Tryz.pinned (.plain (OpenSpec.upto autoSingleSpec)) autoSingleUptoCard

/-- THE SECOND FORM's CARD OF 'winnowerlaw24.EqualApart'. -/
def equalApartUptoCard : Claim7 := { stood := { row := equalApartUptoRow, standIns := [], harness := (true, "3db52ff08972e5c10cfc7bffaefea9618b1b3dd68d0b84b8c353effb22f27d66"), looks := false }, kinds := [], alts := [], laidByText := true, laidKinds := [.data, .data, .data], laidTests := true, laidLooks := .later }
def EqualApartUptoCardSaid : Prop := Claim7.holds Tryz.pinned (.plain (OpenSpec.upto equalApartSpec)) equalApartUptoCard

/-- THE SECOND FORM's CARD OF 'winnowerlaw24.EqualSteps'. -/
def equalStepsUptoCard : Claim7 := { stood := { row := equalStepsUptoRow, standIns := [], harness := (true, "3db52ff08972e5c10cfc7bffaefea9618b1b3dd68d0b84b8c353effb22f27d66"), looks := false }, kinds := [], alts := [], laidByText := true, laidKinds := [.data, .data, .data], laidTests := true, laidLooks := .later }
def EqualStepsUptoCardSaid : Prop := Claim7.holds Tryz.pinned (.plain (OpenSpec.upto equalStepsSpec)) equalStepsUptoCard

/-- THE SECOND FORM's CARD OF 'winnowerlaw24.EqualWords'. -/
def equalWordsUptoCard : Claim7 := { stood := { row := equalWordsUptoRow, standIns := [], harness := (true, "3db52ff08972e5c10cfc7bffaefea9618b1b3dd68d0b84b8c353effb22f27d66"), looks := false }, kinds := [], alts := [], laidByText := true, laidKinds := [.data, .data, .data], laidTests := true, laidLooks := .later }
def EqualWordsUptoCardSaid : Prop := Claim7.holds Tryz.pinned (.plain (OpenSpec.upto equalWordsSpec)) equalWordsUptoCard

/-- THE SECOND FORM's CARD OF 'winnowerlaw24.EqualClasses'. -/
def equalClassesUptoCard : Claim7 := { stood := { row := equalClassesUptoRow, standIns := [], harness := (true, "3db52ff08972e5c10cfc7bffaefea9618b1b3dd68d0b84b8c353effb22f27d66"), looks := false }, kinds := [], alts := [], laidByText := true, laidKinds := [.data, .data, .data], laidTests := true, laidLooks := .later }
def EqualClassesUptoCardSaid : Prop := Claim7.holds Tryz.pinned (.plain (OpenSpec.upto equalClassesSpec)) equalClassesUptoCard

/-- THE SECOND FORM's CARD OF 'winnowerlaw24.EqualNil'. -/
def equalNilUptoCard : Claim7 := { stood := { row := equalNilUptoRow, standIns := [], harness := (true, "3db52ff08972e5c10cfc7bffaefea9618b1b3dd68d0b84b8c353effb22f27d66"), looks := false }, kinds := [], alts := [], laidByText := true, laidKinds := [.data, .data, .data], laidTests := true, laidLooks := .later }
def EqualNilUptoCardSaid : Prop := Claim7.holds Tryz.pinned (.plain (OpenSpec.upto equalNilSpec)) equalNilUptoCard

/-- THE SECOND FORM's CARD OF 'winnowerlaw25.MergeMore'. -/
def mergeMoreUptoCard : Claim7 := { stood := { row := mergeMoreUptoRow, standIns := [], harness := (true, "3db52ff08972e5c10cfc7bffaefea9618b1b3dd68d0b84b8c353effb22f27d66"), looks := false }, kinds := [], alts := [], laidByText := true, laidKinds := [.data, .data, .data], laidTests := true, laidLooks := .later }
def MergeMoreUptoCardSaid : Prop := Claim7.holds Tryz.pinned (.plain (OpenSpec.upto mergeMoreSpec)) mergeMoreUptoCard

/-- THE SECOND FORM's CARD OF 'winnowerlaw25.MergeWords'. -/
def mergeWordsUptoCard : Claim7 := { stood := { row := mergeWordsUptoRow, standIns := [], harness := (true, "3db52ff08972e5c10cfc7bffaefea9618b1b3dd68d0b84b8c353effb22f27d66"), looks := false }, kinds := [], alts := [], laidByText := true, laidKinds := [.data, .data, .data], laidTests := true, laidLooks := .later }
def MergeWordsUptoCardSaid : Prop := Claim7.holds Tryz.pinned (.plain (OpenSpec.upto mergeWordsSpec)) mergeWordsUptoCard

/-- THE SECOND FORM's CARD OF 'winnowerlaw25.MergeNone'. -/
def mergeNoneUptoCard : Claim7 := { stood := { row := mergeNoneUptoRow, standIns := [], harness := (true, "3db52ff08972e5c10cfc7bffaefea9618b1b3dd68d0b84b8c353effb22f27d66"), looks := false }, kinds := [], alts := [], laidByText := true, laidKinds := [.data, .data, .data], laidTests := true, laidLooks := .later }
def MergeNoneUptoCardSaid : Prop := Claim7.holds Tryz.pinned (.plain (OpenSpec.upto mergeNoneSpec)) mergeNoneUptoCard

/-- THE SECOND FORM's CARD OF 'winnowerlaw25.MergeMaps'. -/
def mergeMapsUptoCard : Claim7 := { stood := { row := mergeMapsUptoRow, standIns := [], harness := (true, "3db52ff08972e5c10cfc7bffaefea9618b1b3dd68d0b84b8c353effb22f27d66"), looks := false }, kinds := [], alts := [], laidByText := true, laidKinds := [.data, .data, .data], laidTests := true, laidLooks := .later }
def MergeMapsUptoCardSaid : Prop := Claim7.holds Tryz.pinned (.plain (OpenSpec.upto mergeMapsSpec)) mergeMapsUptoCard

/-- THE SECOND FORM's CARD OF 'winnowerlaw25.MergeRight'. -/
def mergeRightUptoCard : Claim7 := { stood := { row := mergeRightUptoRow, standIns := [], harness := (true, "3db52ff08972e5c10cfc7bffaefea9618b1b3dd68d0b84b8c353effb22f27d66"), looks := false }, kinds := [], alts := [], laidByText := true, laidKinds := [.data, .data, .data], laidTests := true, laidLooks := .later }
def MergeRightUptoCardSaid : Prop := Claim7.holds Tryz.pinned (.plain (OpenSpec.upto mergeRightSpec)) mergeRightUptoCard

/-- THE SECOND FORM's CARD OF 'winnowerlaw26.StableMerged'. -/
def stableMergedUptoCard : Claim7 := { stood := { row := stableMergedUptoRow, standIns := [], harness := (true, "3db52ff08972e5c10cfc7bffaefea9618b1b3dd68d0b84b8c353effb22f27d66"), looks := false }, kinds := [], alts := [], laidByText := true, laidKinds := [.data, .data, .data], laidTests := true, laidLooks := .later }
def StableMergedUptoCardSaid : Prop := Claim7.holds Tryz.pinned (.plain (OpenSpec.upto stableMergedSpec)) stableMergedUptoCard
end Rows
end Go.Proofs.YtkpadjhdneiniaaGreatDoor
