/-
  DERIVED. GIVEN WITH THE SEED: THE CARDS: each row of YtihelknkcomjpaaDoorRows.lean that lists a variable, with what it lists TIED to the program's text (the seventh form; the later family's looks); each row that meets fmt, with fmt's text TOLD by the authors' own Lean function (tested against real Go, not proved from fmt's source: count such statements apart). THE CARD IS WHAT COUNTS. Prove the row's statement (the work); the ties are given (YtihelknkcomjpaaDoorTie.lean); close each card by the builder's one call (the guide's Derived/Test/ToyasCard.lean, 'card_holds'). Laid BY PROGRAM, IN A SANDBOX (cutbox-door.mjs). By AI agents, Wed Nov 11 2026. No macro, syntax, notation, axiom, sorry.
-/
import Derived.Test.YtihelknkcomjpaaDoorRows
import GoSem.ClaimSeven
namespace Go.Proofs.YtihelknkcomjpaaDoor
namespace Rows

/-- THE TIED CARD OF 'pharoslaw08.OperDeposit'. -/
def operDepositCard : Claim7 := { stood := { row := operDepositRow, standIns := [], harness := (true, "cd284f5cc680d0d447d7112c467d446ba6cf84f9cbf81b675928c1b4dff10cf8"), looks := false }, kinds := [], alts := [], laidByText := true, laidKinds := [.data, .data, .data], laidTests := true, laidLooks := .later }
def OperDepositCardSaid : Prop := Claim7.holds Tryd.pinned (.plain (OpenSpec.ofChange operDepositSpec)) operDepositCard

/-- THE TIED CARD OF 'pharoslaw08.OperProposerSlashing'. -/
def operProposerSlashingCard : Claim7 := { stood := { row := operProposerSlashingRow, standIns := [], harness := (true, "cd284f5cc680d0d447d7112c467d446ba6cf84f9cbf81b675928c1b4dff10cf8"), looks := false }, kinds := [], alts := [], laidByText := true, laidKinds := [.data, .data, .data], laidTests := true, laidLooks := .later }
def OperProposerSlashingCardSaid : Prop := Claim7.holds Tryd.pinned (.plain (OpenSpec.ofChange operProposerSlashingSpec)) operProposerSlashingCard

/-- THE TIED CARD OF 'pharoslaw08.OperIndexed'. -/
def operIndexedCard : Claim7 := { stood := { row := operIndexedRow, standIns := [], harness := (true, "cd284f5cc680d0d447d7112c467d446ba6cf84f9cbf81b675928c1b4dff10cf8"), looks := false }, kinds := [], alts := [], laidByText := true, laidKinds := [.data, .data, .data], laidTests := true, laidLooks := .later }
def OperIndexedCardSaid : Prop := Claim7.holds Tryd.pinned (.plain (OpenSpec.ofChange operIndexedSpec)) operIndexedCard

/-- THE TIED CARD OF 'pharoslaw08.OperAttesterSlashing'. -/
def operAttesterSlashingCard : Claim7 := { stood := { row := operAttesterSlashingRow, standIns := [], harness := (true, "cd284f5cc680d0d447d7112c467d446ba6cf84f9cbf81b675928c1b4dff10cf8"), looks := false }, kinds := [], alts := [], laidByText := true, laidKinds := [.data, .data, .data], laidTests := true, laidLooks := .later }
def OperAttesterSlashingCardSaid : Prop := Claim7.holds Tryd.pinned (.plain (OpenSpec.ofChange operAttesterSlashingSpec)) operAttesterSlashingCard

/-- THE TIED CARD OF 'pharoslaw08.OperAttest'. -/
def operAttestCard : Claim7 := { stood := { row := operAttestRow, standIns := [], harness := (true, "cd284f5cc680d0d447d7112c467d446ba6cf84f9cbf81b675928c1b4dff10cf8"), looks := false }, kinds := [], alts := [], laidByText := true, laidKinds := [.data, .data, .data], laidTests := true, laidLooks := .later }
def OperAttestCardSaid : Prop := Claim7.holds Tryd.pinned (.plain (OpenSpec.ofChange operAttestSpec)) operAttestCard

/-- THE SECOND FORM's CARD OF 'pharoslaw08.OperDeposit'. -/
def operDepositUptoCard : Claim7 := { stood := { row := operDepositUptoRow, standIns := [], harness := (true, "cd284f5cc680d0d447d7112c467d446ba6cf84f9cbf81b675928c1b4dff10cf8"), looks := false }, kinds := [], alts := [], laidByText := true, laidKinds := [.data, .data, .data], laidTests := true, laidLooks := .later }
def OperDepositUptoCardSaid : Prop := Claim7.holds Tryd.pinned (.plain (OpenSpec.upto operDepositSpec)) operDepositUptoCard

/-- THE SECOND FORM's CARD OF 'pharoslaw08.OperProposerSlashing'. -/
def operProposerSlashingUptoCard : Claim7 := { stood := { row := operProposerSlashingUptoRow, standIns := [], harness := (true, "cd284f5cc680d0d447d7112c467d446ba6cf84f9cbf81b675928c1b4dff10cf8"), looks := false }, kinds := [], alts := [], laidByText := true, laidKinds := [.data, .data, .data], laidTests := true, laidLooks := .later }
def OperProposerSlashingUptoCardSaid : Prop := Claim7.holds Tryd.pinned (.plain (OpenSpec.upto operProposerSlashingSpec)) operProposerSlashingUptoCard

/-- THE SECOND FORM's CARD OF 'pharoslaw08.OperIndexed'. -/
def operIndexedUptoCard : Claim7 := { stood := { row := operIndexedUptoRow, standIns := [], harness := (true, "cd284f5cc680d0d447d7112c467d446ba6cf84f9cbf81b675928c1b4dff10cf8"), looks := false }, kinds := [], alts := [], laidByText := true, laidKinds := [.data, .data, .data], laidTests := true, laidLooks := .later }
def OperIndexedUptoCardSaid : Prop := Claim7.holds Tryd.pinned (.plain (OpenSpec.upto operIndexedSpec)) operIndexedUptoCard

/-- THE SECOND FORM's CARD OF 'pharoslaw08.OperAttesterSlashing'. -/
def operAttesterSlashingUptoCard : Claim7 := { stood := { row := operAttesterSlashingUptoRow, standIns := [], harness := (true, "cd284f5cc680d0d447d7112c467d446ba6cf84f9cbf81b675928c1b4dff10cf8"), looks := false }, kinds := [], alts := [], laidByText := true, laidKinds := [.data, .data, .data], laidTests := true, laidLooks := .later }
def OperAttesterSlashingUptoCardSaid : Prop := Claim7.holds Tryd.pinned (.plain (OpenSpec.upto operAttesterSlashingSpec)) operAttesterSlashingUptoCard

/-- THE SECOND FORM's CARD OF 'pharoslaw08.OperAttest'. -/
def operAttestUptoCard : Claim7 := { stood := { row := operAttestUptoRow, standIns := [], harness := (true, "cd284f5cc680d0d447d7112c467d446ba6cf84f9cbf81b675928c1b4dff10cf8"), looks := false }, kinds := [], alts := [], laidByText := true, laidKinds := [.data, .data, .data], laidTests := true, laidLooks := .later }
def OperAttestUptoCardSaid : Prop := Claim7.holds Tryd.pinned (.plain (OpenSpec.upto operAttestSpec)) operAttestUptoCard
end Rows
end Go.Proofs.YtihelknkcomjpaaDoor
