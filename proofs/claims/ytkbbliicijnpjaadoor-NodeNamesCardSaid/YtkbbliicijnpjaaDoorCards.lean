/-
  DERIVED. GIVEN WITH THE SEED: THE CARDS: each row of YtkbbliicijnpjaaDoorRows.lean that lists a variable, with what it lists TIED to the program's text (the seventh form; the later family's looks); each row that meets fmt, with fmt's text TOLD by the authors' own Lean function (tested against real Go, not proved from fmt's source: count such statements apart). THE CARD IS WHAT COUNTS. Prove the row's statement (the work); the ties are given (YtkbbliicijnpjaaDoorTie.lean); close each card by the builder's one call (the guide's Derived/Test/ToyasCard.lean, 'card_holds'). Laid BY PROGRAM, IN A SANDBOX (cutbox-door.mjs). By AI agents, Wed Nov 11 2026. No macro, syntax, notation, axiom, sorry.
-/
import Derived.Test.YtkbbliicijnpjaaDoorRows
import GoSem.ClaimSeven
namespace Go.Proofs.YtkbbliicijnpjaaDoor
namespace Rows

/-- THE TIED CARD OF 'winnowerlaw05.LexNames'. -/
def lexNamesCard : Claim7 := { stood := { row := lexNamesRow, standIns := [], harness := (true, "f9f459dcc0148a3480b3335b6158e32a792bd1f5660da48ff2e415b3551d9728"), looks := true }, kinds := [], alts := [], laidByText := true, laidKinds := [.widerDeep], laidTests := true, laidLooks := .later }
def LexNamesCardSaid : Prop := Claim7.holds Tryd.pinned (.plain (OpenSpec.ofChange lexNamesSpec)) lexNamesCard

/-- THE TIED CARD OF 'winnowerlaw16.CtxMakes'. -/
def ctxMakesCard : Claim7 := { stood := { row := ctxMakesRow, standIns := [], harness := (true, "f9f459dcc0148a3480b3335b6158e32a792bd1f5660da48ff2e415b3551d9728"), looks := true }, kinds := [], alts := [], laidByText := true, laidKinds := [.data, .data, .data], laidTests := true, laidLooks := .later }
def CtxMakesCardSaid : Prop := Claim7.holds Tryd.pinned (.plain (OpenSpec.ofChange ctxMakesSpec)) ctxMakesCard

/-- THE TIED CARD OF 'winnowerlaw17.NodeNames'. -/
def nodeNamesCard : Claim7 := { stood := { row := nodeNamesRow, standIns := [], harness := (true, "f9f459dcc0148a3480b3335b6158e32a792bd1f5660da48ff2e415b3551d9728"), looks := true }, kinds := [], alts := [], laidByText := true, laidKinds := [.data, .data, .data], laidTests := true, laidLooks := .later }
def NodeNamesCardSaid : Prop := Claim7.holds Tryd.pinned (.plain (OpenSpec.ofChange nodeNamesSpec)) nodeNamesCard

/-- THE TIED CARD OF 'winnowerlaw17.NodeKinds'. -/
def nodeKindsCard : Claim7 := { stood := { row := nodeKindsRow, standIns := [], harness := (true, "f9f459dcc0148a3480b3335b6158e32a792bd1f5660da48ff2e415b3551d9728"), looks := true }, kinds := [], alts := [], laidByText := true, laidKinds := [.data, .data, .data], laidTests := true, laidLooks := .later }
def NodeKindsCardSaid : Prop := Claim7.holds Tryd.pinned (.plain (OpenSpec.ofChange nodeKindsSpec)) nodeKindsCard

/-- THE TIED CARD OF 'winnowerlaw17.NodeIds'. -/
def nodeIdsCard : Claim7 := { stood := { row := nodeIdsRow, standIns := [], harness := (true, "f9f459dcc0148a3480b3335b6158e32a792bd1f5660da48ff2e415b3551d9728"), looks := true }, kinds := [], alts := [], laidByText := true, laidKinds := [.data, .data, .data], laidTests := true, laidLooks := .later }
def NodeIdsCardSaid : Prop := Claim7.holds Tryd.pinned (.plain (OpenSpec.ofChange nodeIdsSpec)) nodeIdsCard

/-- THE SECOND FORM's CARD OF 'winnowerlaw05.LexNames'. -/
def lexNamesUptoCard : Claim7 := { stood := { row := lexNamesUptoRow, standIns := [], harness := (true, "f9f459dcc0148a3480b3335b6158e32a792bd1f5660da48ff2e415b3551d9728"), looks := true }, kinds := [], alts := [], laidByText := true, laidKinds := [.widerDeep], laidTests := true, laidLooks := .later }
def LexNamesUptoCardSaid : Prop := Claim7.holds Tryd.pinned (.plain (OpenSpec.upto lexNamesSpec)) lexNamesUptoCard

/-- THE SECOND FORM's CARD OF 'winnowerlaw16.CtxMakes'. -/
def ctxMakesUptoCard : Claim7 := { stood := { row := ctxMakesUptoRow, standIns := [], harness := (true, "f9f459dcc0148a3480b3335b6158e32a792bd1f5660da48ff2e415b3551d9728"), looks := true }, kinds := [], alts := [], laidByText := true, laidKinds := [.data, .data, .data], laidTests := true, laidLooks := .later }
def CtxMakesUptoCardSaid : Prop := Claim7.holds Tryd.pinned (.plain (OpenSpec.upto ctxMakesSpec)) ctxMakesUptoCard

/-- THE SECOND FORM's CARD OF 'winnowerlaw17.NodeNames'. -/
def nodeNamesUptoCard : Claim7 := { stood := { row := nodeNamesUptoRow, standIns := [], harness := (true, "f9f459dcc0148a3480b3335b6158e32a792bd1f5660da48ff2e415b3551d9728"), looks := true }, kinds := [], alts := [], laidByText := true, laidKinds := [.data, .data, .data], laidTests := true, laidLooks := .later }
def NodeNamesUptoCardSaid : Prop := Claim7.holds Tryd.pinned (.plain (OpenSpec.upto nodeNamesSpec)) nodeNamesUptoCard

/-- THE SECOND FORM's CARD OF 'winnowerlaw17.NodeKinds'. -/
def nodeKindsUptoCard : Claim7 := { stood := { row := nodeKindsUptoRow, standIns := [], harness := (true, "f9f459dcc0148a3480b3335b6158e32a792bd1f5660da48ff2e415b3551d9728"), looks := true }, kinds := [], alts := [], laidByText := true, laidKinds := [.data, .data, .data], laidTests := true, laidLooks := .later }
def NodeKindsUptoCardSaid : Prop := Claim7.holds Tryd.pinned (.plain (OpenSpec.upto nodeKindsSpec)) nodeKindsUptoCard

/-- THE SECOND FORM's CARD OF 'winnowerlaw17.NodeIds'. -/
def nodeIdsUptoCard : Claim7 := { stood := { row := nodeIdsUptoRow, standIns := [], harness := (true, "f9f459dcc0148a3480b3335b6158e32a792bd1f5660da48ff2e415b3551d9728"), looks := true }, kinds := [], alts := [], laidByText := true, laidKinds := [.data, .data, .data], laidTests := true, laidLooks := .later }
def NodeIdsUptoCardSaid : Prop := Claim7.holds Tryd.pinned (.plain (OpenSpec.upto nodeIdsSpec)) nodeIdsUptoCard
end Rows
end Go.Proofs.YtkbbliicijnpjaaDoor
