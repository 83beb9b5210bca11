/-
  DERIVED. GIVEN WITH THE SEED: THE CARDS: each row of YtjeoeibdgciafaaGreatDoorRows.lean that lists a variable, with what it lists TIED to the program's text (the seventh form; the later family's looks); each row that meets fmt, with fmt's text TOLD by the authors' own Lean function (tested against real Go, not proved from fmt's source: count such statements apart). THE CARD IS WHAT COUNTS. Prove the row's statement (the work); the ties are given (YtjeoeibdgciafaaGreatDoorTie.lean); close each card by the builder's one call (the guide's Derived/Test/ToyasCard.lean, 'card_holds'). Laid BY PROGRAM, IN A SANDBOX (cutbox-door.mjs). By AI agents, Wed Nov 11 2026. No macro, syntax, notation, axiom, sorry.
-/
import Derived.Test.YtjeoeibdgciafaaGreatDoorRows
import GoSem.ClaimSeven
namespace Go.Proofs.YtjeoeibdgciafaaGreatDoor
namespace Rows

/-- THE TIED CARD OF 'pharoslaw09.BlockBody'. -/
def blockBodyCard : Claim7 := { stood := { row := blockBodyRow, standIns := [], harness := (true, "43db7a619fa8f8d9ba7e0e9e9b7e93f552b45415bf3522669e55027d38ba56f7"), looks := false }, kinds := [], alts := [], laidByText := true, laidKinds := [.data, .data, .data], laidTests := true, laidLooks := .later }
def BlockBodyCardSaid : Prop := Claim7.holds Tryz.pinned (.plain (OpenSpec.ofChange blockBodySpec)) blockBodyCard

/-- THE TIED CARD OF 'pharoslaw09.BlockWhole'. -/
def blockWholeCard : Claim7 := { stood := { row := blockWholeRow, standIns := [], harness := (true, "43db7a619fa8f8d9ba7e0e9e9b7e93f552b45415bf3522669e55027d38ba56f7"), looks := false }, kinds := [], alts := [], laidByText := true, laidKinds := [.data, .data, .data], laidTests := true, laidLooks := .later }
def BlockWholeCardSaid : Prop := Claim7.holds Tryz.pinned (.plain (OpenSpec.ofChange blockWholeSpec)) blockWholeCard

/-- THE TIED CARD OF 'pharoslaw09.BlockSigned'. -/
def blockSignedCard : Claim7 := { stood := { row := blockSignedRow, standIns := [], harness := (true, "43db7a619fa8f8d9ba7e0e9e9b7e93f552b45415bf3522669e55027d38ba56f7"), looks := false }, kinds := [], alts := [], laidByText := true, laidKinds := [.data, .data, .data], laidTests := true, laidLooks := .later }
def BlockSignedCardSaid : Prop := Claim7.holds Tryz.pinned (.plain (OpenSpec.ofChange blockSignedSpec)) blockSignedCard

/-- THE SECOND FORM's CARD OF 'pharoslaw09.BlockBody'. -/
def blockBodyUptoCard : Claim7 := { stood := { row := blockBodyUptoRow, standIns := [], harness := (true, "43db7a619fa8f8d9ba7e0e9e9b7e93f552b45415bf3522669e55027d38ba56f7"), looks := false }, kinds := [], alts := [], laidByText := true, laidKinds := [.data, .data, .data], laidTests := true, laidLooks := .later }
def BlockBodyUptoCardSaid : Prop := Claim7.holds Tryz.pinned (.plain (OpenSpec.upto blockBodySpec)) blockBodyUptoCard

/-- THE SECOND FORM's CARD OF 'pharoslaw09.BlockWhole'. -/
def blockWholeUptoCard : Claim7 := { stood := { row := blockWholeUptoRow, standIns := [], harness := (true, "43db7a619fa8f8d9ba7e0e9e9b7e93f552b45415bf3522669e55027d38ba56f7"), looks := false }, kinds := [], alts := [], laidByText := true, laidKinds := [.data, .data, .data], laidTests := true, laidLooks := .later }
def BlockWholeUptoCardSaid : Prop := Claim7.holds Tryz.pinned (.plain (OpenSpec.upto blockWholeSpec)) blockWholeUptoCard

/-- THE SECOND FORM's CARD OF 'pharoslaw09.BlockSigned'. -/
def blockSignedUptoCard : Claim7 := { stood := { row := blockSignedUptoRow, standIns := [], harness := (true, "43db7a619fa8f8d9ba7e0e9e9b7e93f552b45415bf3522669e55027d38ba56f7"), looks := false }, kinds := [], alts := [], laidByText := true, laidKinds := [.data, .data, .data], laidTests := true, laidLooks := .later }
def BlockSignedUptoCardSaid : Prop := Claim7.holds Tryz.pinned (.plain (OpenSpec.upto blockSignedSpec)) blockSignedUptoCard
end Rows
end Go.Proofs.YtjeoeibdgciafaaGreatDoor
