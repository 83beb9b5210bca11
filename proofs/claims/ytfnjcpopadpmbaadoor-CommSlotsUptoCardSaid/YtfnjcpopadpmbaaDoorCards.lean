/-
  DERIVED. GIVEN WITH THE SEED: THE CARDS: each row of YtfnjcpopadpmbaaDoorRows.lean that lists a variable, with what it lists TIED to the program's text (the seventh form; the later family's looks); each row that meets fmt, with fmt's text TOLD by the authors' own Lean function (tested against real Go, not proved from fmt's source: count such statements apart). THE CARD IS WHAT COUNTS. Prove the row's statement (the work); the ties are given (YtfnjcpopadpmbaaDoorTie.lean); close each card by the builder's one call (the guide's Derived/Test/ToyasCard.lean, 'card_holds'). Laid BY PROGRAM, IN A SANDBOX (cutbox-door.mjs). By AI agents, Wed Nov 11 2026. No macro, syntax, notation, axiom, sorry.
-/
import Derived.Test.YtfnjcpopadpmbaaDoorRows
import GoSem.ClaimSeven
namespace Go.Proofs.YtfnjcpopadpmbaaDoor
namespace Rows

/-- THE TIED CARD OF 'pharoslaw14.CommAll'. -/
def commAllCard : Claim7 := { stood := { row := commAllRow, standIns := [], harness := (true, "073c66d143ddac1d704606f57e94b0ede61ac704ab3f91fd3aead4dfd1ce375f"), looks := false }, kinds := [], alts := [], laidByText := true, laidKinds := [.data, .data], laidTests := true, laidLooks := .later }
def CommAllCardSaid : Prop := Claim7.holds Tryd.pinned (.plain (OpenSpec.ofChange commAllSpec)) commAllCard

/-- THE TIED CARD OF 'pharoslaw14.CommBits'. -/
def commBitsCard : Claim7 := { stood := { row := commBitsRow, standIns := [], harness := (true, "073c66d143ddac1d704606f57e94b0ede61ac704ab3f91fd3aead4dfd1ce375f"), looks := false }, kinds := [], alts := [], laidByText := true, laidKinds := [.data, .data], laidTests := true, laidLooks := .later }
def CommBitsCardSaid : Prop := Claim7.holds Tryd.pinned (.plain (OpenSpec.ofChange commBitsSpec)) commBitsCard

/-- THE TIED CARD OF 'pharoslaw14.CommSlots'. -/
def commSlotsCard : Claim7 := { stood := { row := commSlotsRow, standIns := [], harness := (true, "073c66d143ddac1d704606f57e94b0ede61ac704ab3f91fd3aead4dfd1ce375f"), looks := false }, kinds := [], alts := [], laidByText := true, laidKinds := [.data, .data, .data], laidTests := true, laidLooks := .later }
def CommSlotsCardSaid : Prop := Claim7.holds Tryd.pinned (.plain (OpenSpec.ofChange commSlotsSpec)) commSlotsCard

/-- THE SECOND FORM's CARD OF 'pharoslaw14.CommAll'. -/
def commAllUptoCard : Claim7 := { stood := { row := commAllUptoRow, standIns := [], harness := (true, "073c66d143ddac1d704606f57e94b0ede61ac704ab3f91fd3aead4dfd1ce375f"), looks := false }, kinds := [], alts := [], laidByText := true, laidKinds := [.data, .data], laidTests := true, laidLooks := .later }
def CommAllUptoCardSaid : Prop := Claim7.holds Tryd.pinned (.plain (OpenSpec.upto commAllSpec)) commAllUptoCard

/-- THE SECOND FORM's CARD OF 'pharoslaw14.CommBits'. -/
def commBitsUptoCard : Claim7 := { stood := { row := commBitsUptoRow, standIns := [], harness := (true, "073c66d143ddac1d704606f57e94b0ede61ac704ab3f91fd3aead4dfd1ce375f"), looks := false }, kinds := [], alts := [], laidByText := true, laidKinds := [.data, .data], laidTests := true, laidLooks := .later }
def CommBitsUptoCardSaid : Prop := Claim7.holds Tryd.pinned (.plain (OpenSpec.upto commBitsSpec)) commBitsUptoCard

/-- THE SECOND FORM's CARD OF 'pharoslaw14.CommSlots'. -/
def commSlotsUptoCard : Claim7 := { stood := { row := commSlotsUptoRow, standIns := [], harness := (true, "073c66d143ddac1d704606f57e94b0ede61ac704ab3f91fd3aead4dfd1ce375f"), looks := false }, kinds := [], alts := [], laidByText := true, laidKinds := [.data, .data, .data], laidTests := true, laidLooks := .later }
def CommSlotsUptoCardSaid : Prop := Claim7.holds Tryd.pinned (.plain (OpenSpec.upto commSlotsSpec)) commSlotsUptoCard
end Rows
end Go.Proofs.YtfnjcpopadpmbaaDoor
