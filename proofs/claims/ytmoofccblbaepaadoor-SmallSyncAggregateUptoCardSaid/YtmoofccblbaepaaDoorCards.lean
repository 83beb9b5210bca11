/-
  DERIVED. GIVEN WITH THE SEED: THE CARDS: each row of YtmoofccblbaepaaDoorRows.lean that lists a variable, with what it lists TIED to the program's text (the seventh form; the later family's looks); each row that meets fmt, with fmt's text TOLD by the authors' own Lean function (tested against real Go, not proved from fmt's source: count such statements apart). THE CARD IS WHAT COUNTS. Prove the row's statement (the work); the ties are given (YtmoofccblbaepaaDoorTie.lean); close each card by the builder's one call (the guide's Derived/Test/ToyasCard.lean, 'card_holds'). Laid BY PROGRAM, IN A SANDBOX (cutbox-door.mjs). By AI agents, Wed Nov 11 2026. No macro, syntax, notation, axiom, sorry.
-/
import Derived.Test.YtmoofccblbaepaaDoorRows
import GoSem.ClaimSeven
namespace Go.Proofs.YtmoofccblbaepaaDoor
namespace Rows

/-- THE TIED CARD OF 'pharoslaw07.SmallExit'. -/
def smallExitCard : Claim7 := { stood := { row := smallExitRow, standIns := [], harness := (true, "765afef2c72870f90b59eeb558721a8db23625af3bd637da8164693ff1f317a1"), looks := false }, kinds := [], alts := [], laidByText := true, laidKinds := [.data, .data, .data], laidTests := true, laidLooks := .later }
def SmallExitCardSaid : Prop := Claim7.holds Tryd.pinned (.plain (OpenSpec.ofChange smallExitSpec)) smallExitCard

/-- THE TIED CARD OF 'pharoslaw07.SmallFork'. -/
def smallForkCard : Claim7 := { stood := { row := smallForkRow, standIns := [], harness := (true, "765afef2c72870f90b59eeb558721a8db23625af3bd637da8164693ff1f317a1"), looks := false }, kinds := [], alts := [], laidByText := true, laidKinds := [.data, .data, .data], laidTests := true, laidLooks := .later }
def SmallForkCardSaid : Prop := Claim7.holds Tryd.pinned (.plain (OpenSpec.ofChange smallForkSpec)) smallForkCard

/-- THE TIED CARD OF 'pharoslaw07.SmallCheckpoint'. -/
def smallCheckpointCard : Claim7 := { stood := { row := smallCheckpointRow, standIns := [], harness := (true, "765afef2c72870f90b59eeb558721a8db23625af3bd637da8164693ff1f317a1"), looks := false }, kinds := [], alts := [], laidByText := true, laidKinds := [.data, .data, .data], laidTests := true, laidLooks := .later }
def SmallCheckpointCardSaid : Prop := Claim7.holds Tryd.pinned (.plain (OpenSpec.ofChange smallCheckpointSpec)) smallCheckpointCard

/-- THE TIED CARD OF 'pharoslaw07.SmallEth1'. -/
def smallEth1Card : Claim7 := { stood := { row := smallEth1Row, standIns := [], harness := (true, "765afef2c72870f90b59eeb558721a8db23625af3bd637da8164693ff1f317a1"), looks := false }, kinds := [], alts := [], laidByText := true, laidKinds := [.data, .data, .data], laidTests := true, laidLooks := .later }
def SmallEth1CardSaid : Prop := Claim7.holds Tryd.pinned (.plain (OpenSpec.ofChange smallEth1Spec)) smallEth1Card

/-- THE TIED CARD OF 'pharoslaw07.SmallDepositData'. -/
def smallDepositDataCard : Claim7 := { stood := { row := smallDepositDataRow, standIns := [], harness := (true, "765afef2c72870f90b59eeb558721a8db23625af3bd637da8164693ff1f317a1"), looks := false }, kinds := [], alts := [], laidByText := true, laidKinds := [.data, .data, .data], laidTests := true, laidLooks := .later }
def SmallDepositDataCardSaid : Prop := Claim7.holds Tryd.pinned (.plain (OpenSpec.ofChange smallDepositDataSpec)) smallDepositDataCard

/-- THE TIED CARD OF 'pharoslaw07.SmallHeader'. -/
def smallHeaderCard : Claim7 := { stood := { row := smallHeaderRow, standIns := [], harness := (true, "765afef2c72870f90b59eeb558721a8db23625af3bd637da8164693ff1f317a1"), looks := false }, kinds := [], alts := [], laidByText := true, laidKinds := [.data, .data, .data], laidTests := true, laidLooks := .later }
def SmallHeaderCardSaid : Prop := Claim7.holds Tryd.pinned (.plain (OpenSpec.ofChange smallHeaderSpec)) smallHeaderCard

/-- THE TIED CARD OF 'pharoslaw07.SmallCommittee'. -/
def smallCommitteeCard : Claim7 := { stood := { row := smallCommitteeRow, standIns := [], harness := (true, "765afef2c72870f90b59eeb558721a8db23625af3bd637da8164693ff1f317a1"), looks := false }, kinds := [], alts := [], laidByText := true, laidKinds := [.data, .data, .data], laidTests := true, laidLooks := .later }
def SmallCommitteeCardSaid : Prop := Claim7.holds Tryd.pinned (.plain (OpenSpec.ofChange smallCommitteeSpec)) smallCommitteeCard

/-- THE TIED CARD OF 'pharoslaw07.SmallSignedExit'. -/
def smallSignedExitCard : Claim7 := { stood := { row := smallSignedExitRow, standIns := [], harness := (true, "765afef2c72870f90b59eeb558721a8db23625af3bd637da8164693ff1f317a1"), looks := false }, kinds := [], alts := [], laidByText := true, laidKinds := [.data, .data, .data], laidTests := true, laidLooks := .later }
def SmallSignedExitCardSaid : Prop := Claim7.holds Tryd.pinned (.plain (OpenSpec.ofChange smallSignedExitSpec)) smallSignedExitCard

/-- THE TIED CARD OF 'pharoslaw07.SmallValidator'. -/
def smallValidatorCard : Claim7 := { stood := { row := smallValidatorRow, standIns := [], harness := (true, "765afef2c72870f90b59eeb558721a8db23625af3bd637da8164693ff1f317a1"), looks := false }, kinds := [], alts := [], laidByText := true, laidKinds := [.data, .data, .data], laidTests := true, laidLooks := .later }
def SmallValidatorCardSaid : Prop := Claim7.holds Tryd.pinned (.plain (OpenSpec.ofChange smallValidatorSpec)) smallValidatorCard

/-- THE TIED CARD OF 'pharoslaw07.SmallSyncAggregate'. -/
def smallSyncAggregateCard : Claim7 := { stood := { row := smallSyncAggregateRow, standIns := [], harness := (true, "765afef2c72870f90b59eeb558721a8db23625af3bd637da8164693ff1f317a1"), looks := false }, kinds := [], alts := [], laidByText := true, laidKinds := [.data, .data, .data], laidTests := true, laidLooks := .later }
def SmallSyncAggregateCardSaid : Prop := Claim7.holds Tryd.pinned (.plain (OpenSpec.ofChange smallSyncAggregateSpec)) smallSyncAggregateCard

/-- THE TIED CARD OF 'pharoslaw07.SmallSignedHeader'. -/
def smallSignedHeaderCard : Claim7 := { stood := { row := smallSignedHeaderRow, standIns := [], harness := (true, "765afef2c72870f90b59eeb558721a8db23625af3bd637da8164693ff1f317a1"), looks := false }, kinds := [], alts := [], laidByText := true, laidKinds := [.data, .data, .data], laidTests := true, laidLooks := .later }
def SmallSignedHeaderCardSaid : Prop := Claim7.holds Tryd.pinned (.plain (OpenSpec.ofChange smallSignedHeaderSpec)) smallSignedHeaderCard

/-- THE TIED CARD OF 'pharoslaw07.SmallData'. -/
def smallDataCard : Claim7 := { stood := { row := smallDataRow, standIns := [], harness := (true, "765afef2c72870f90b59eeb558721a8db23625af3bd637da8164693ff1f317a1"), looks := false }, kinds := [], alts := [], laidByText := true, laidKinds := [.data, .data, .data], laidTests := true, laidLooks := .later }
def SmallDataCardSaid : Prop := Claim7.holds Tryd.pinned (.plain (OpenSpec.ofChange smallDataSpec)) smallDataCard

/-- THE SECOND FORM's CARD OF 'pharoslaw07.SmallExit'. -/
def smallExitUptoCard : Claim7 := { stood := { row := smallExitUptoRow, standIns := [], harness := (true, "765afef2c72870f90b59eeb558721a8db23625af3bd637da8164693ff1f317a1"), looks := false }, kinds := [], alts := [], laidByText := true, laidKinds := [.data, .data, .data], laidTests := true, laidLooks := .later }
def SmallExitUptoCardSaid : Prop := Claim7.holds Tryd.pinned (.plain (OpenSpec.upto smallExitSpec)) smallExitUptoCard

/-- THE SECOND FORM's CARD OF 'pharoslaw07.SmallFork'. -/
def smallForkUptoCard : Claim7 := { stood := { row := smallForkUptoRow, standIns := [], harness := (true, "765afef2c72870f90b59eeb558721a8db23625af3bd637da8164693ff1f317a1"), looks := false }, kinds := [], alts := [], laidByText := true, laidKinds := [.data, .data, .data], laidTests := true, laidLooks := .later }
def SmallForkUptoCardSaid : Prop := Claim7.holds Tryd.pinned (.plain (OpenSpec.upto smallForkSpec)) smallForkUptoCard

/-- THE SECOND FORM's CARD OF 'pharoslaw07.SmallCheckpoint'. -/
def smallCheckpointUptoCard : Claim7 := { stood := { row := smallCheckpointUptoRow, standIns := [], harness := (true, "765afef2c72870f90b59eeb558721a8db23625af3bd637da8164693ff1f317a1"), looks := false }, kinds := [], alts := [], laidByText := true, laidKinds := [.data, .data, .data], laidTests := true, laidLooks := .later }
def SmallCheckpointUptoCardSaid : Prop := Claim7.holds Tryd.pinned (.plain (OpenSpec.upto smallCheckpointSpec)) smallCheckpointUptoCard

/-- THE SECOND FORM's CARD OF 'pharoslaw07.SmallEth1'. -/
def smallEth1UptoCard : Claim7 := { stood := { row := smallEth1UptoRow, standIns := [], harness := (true, "765afef2c72870f90b59eeb558721a8db23625af3bd637da8164693ff1f317a1"), looks := false }, kinds := [], alts := [], laidByText := true, laidKinds := [.data, .data, .data], laidTests := true, laidLooks := .later }
def SmallEth1UptoCardSaid : Prop := Claim7.holds Tryd.pinned (.plain (OpenSpec.upto smallEth1Spec)) smallEth1UptoCard

/-- THE SECOND FORM's CARD OF 'pharoslaw07.SmallDepositData'. -/
def smallDepositDataUptoCard : Claim7 := { stood := { row := smallDepositDataUptoRow, standIns := [], harness := (true, "765afef2c72870f90b59eeb558721a8db23625af3bd637da8164693ff1f317a1"), looks := false }, kinds := [], alts := [], laidByText := true, laidKinds := [.data, .data, .data], laidTests := true, laidLooks := .later }
def SmallDepositDataUptoCardSaid : Prop := Claim7.holds Tryd.pinned (.plain (OpenSpec.upto smallDepositDataSpec)) smallDepositDataUptoCard

/-- THE SECOND FORM's CARD OF 'pharoslaw07.SmallHeader'. -/
def smallHeaderUptoCard : Claim7 := { stood := { row := smallHeaderUptoRow, standIns := [], harness := (true, "765afef2c72870f90b59eeb558721a8db23625af3bd637da8164693ff1f317a1"), looks := false }, kinds := [], alts := [], laidByText := true, laidKinds := [.data, .data, .data], laidTests := true, laidLooks := .later }
def SmallHeaderUptoCardSaid : Prop := Claim7.holds Tryd.pinned (.plain (OpenSpec.upto smallHeaderSpec)) smallHeaderUptoCard

/-- THE SECOND FORM's CARD OF 'pharoslaw07.SmallCommittee'. -/
def smallCommitteeUptoCard : Claim7 := { stood := { row := smallCommitteeUptoRow, standIns := [], harness := (true, "765afef2c72870f90b59eeb558721a8db23625af3bd637da8164693ff1f317a1"), looks := false }, kinds := [], alts := [], laidByText := true, laidKinds := [.data, .data, .data], laidTests := true, laidLooks := .later }
def SmallCommitteeUptoCardSaid : Prop := Claim7.holds Tryd.pinned (.plain (OpenSpec.upto smallCommitteeSpec)) smallCommitteeUptoCard

/-- THE SECOND FORM's CARD OF 'pharoslaw07.SmallSignedExit'. -/
def smallSignedExitUptoCard : Claim7 := { stood := { row := smallSignedExitUptoRow, standIns := [], harness := (true, "765afef2c72870f90b59eeb558721a8db23625af3bd637da8164693ff1f317a1"), looks := false }, kinds := [], alts := [], laidByText := true, laidKinds := [.data, .data, .data], laidTests := true, laidLooks := .later }
def SmallSignedExitUptoCardSaid : Prop := Claim7.holds Tryd.pinned (.plain (OpenSpec.upto smallSignedExitSpec)) smallSignedExitUptoCard

/-- THE SECOND FORM's CARD OF 'pharoslaw07.SmallValidator'. -/
def smallValidatorUptoCard : Claim7 := { stood := { row := smallValidatorUptoRow, standIns := [], harness := (true, "765afef2c72870f90b59eeb558721a8db23625af3bd637da8164693ff1f317a1"), looks := false }, kinds := [], alts := [], laidByText := true, laidKinds := [.data, .data, .data], laidTests := true, laidLooks := .later }
def SmallValidatorUptoCardSaid : Prop := Claim7.holds Tryd.pinned (.plain (OpenSpec.upto smallValidatorSpec)) smallValidatorUptoCard

/-- THE SECOND FORM's CARD OF 'pharoslaw07.SmallSyncAggregate'. -/
def smallSyncAggregateUptoCard : Claim7 := { stood := { row := smallSyncAggregateUptoRow, standIns := [], harness := (true, "765afef2c72870f90b59eeb558721a8db23625af3bd637da8164693ff1f317a1"), looks := false }, kinds := [], alts := [], laidByText := true, laidKinds := [.data, .data, .data], laidTests := true, laidLooks := .later }
def SmallSyncAggregateUptoCardSaid : Prop := Claim7.holds Tryd.pinned (.plain (OpenSpec.upto smallSyncAggregateSpec)) smallSyncAggregateUptoCard

/-- THE SECOND FORM's CARD OF 'pharoslaw07.SmallSignedHeader'. -/
def smallSignedHeaderUptoCard : Claim7 := { stood := { row := smallSignedHeaderUptoRow, standIns := [], harness := (true, "765afef2c72870f90b59eeb558721a8db23625af3bd637da8164693ff1f317a1"), looks := false }, kinds := [], alts := [], laidByText := true, laidKinds := [.data, .data, .data], laidTests := true, laidLooks := .later }
def SmallSignedHeaderUptoCardSaid : Prop := Claim7.holds Tryd.pinned (.plain (OpenSpec.upto smallSignedHeaderSpec)) smallSignedHeaderUptoCard

/-- THE SECOND FORM's CARD OF 'pharoslaw07.SmallData'. -/
def smallDataUptoCard : Claim7 := { stood := { row := smallDataUptoRow, standIns := [], harness := (true, "765afef2c72870f90b59eeb558721a8db23625af3bd637da8164693ff1f317a1"), looks := false }, kinds := [], alts := [], laidByText := true, laidKinds := [.data, .data, .data], laidTests := true, laidLooks := .later }
def SmallDataUptoCardSaid : Prop := Claim7.holds Tryd.pinned (.plain (OpenSpec.upto smallDataSpec)) smallDataUptoCard
end Rows
end Go.Proofs.YtmoofccblbaepaaDoor
