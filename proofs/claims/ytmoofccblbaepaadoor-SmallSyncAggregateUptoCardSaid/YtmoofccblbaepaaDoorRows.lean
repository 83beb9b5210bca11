/-
  NARROWER THAN 'FOR EVERY INPUT', by the rows' own cells (each row's printed sentence says how): SmallExit: laid · SmallFork: laid · SmallCheckpoint: laid · SmallEth1: laid · SmallDepositData: laid · SmallHeader: laid · SmallCommittee: laid · SmallSignedExit: laid · SmallValidator: laid · SmallSyncAggregate: laid · SmallSignedHeader: laid · SmallData: laid.
  DERIVED. THE GIVEN ROWS OF THIS SEAT. 12 by the template 'for every input the law returns true; each argument reads behind the call as it read before'; 0 by the template 'total and deterministic' (their statements: YtmoofccblbaepaaDoorTotals.lean).
  GIVEN WITH THE SEED: the statements are not yours to turn. If you find one false, say at which input.
  Laid BY PROGRAM, IN A SANDBOX (cutbox-rows.mjs): the forced cells as the released guide's own fill.sh prints them over the translation 71dde44f4daefd0f… (all of the seat's roots in one cut). By AI agents, Wed Nov 11 2026. No macro, syntax, notation, axiom, sorry.
-/
import Derived.Test.YtmoofccblbaepaaDoorChecked
import GoSem.Claim
import GoSem.ClaimJoined
import GoSem.ClaimMapViews
import Derived.JoinedTies
import Derived.KernelRfl
namespace Go.Proofs.YtmoofccblbaepaaDoor
/- THE CELL 'sum', in the pinned program and in every row, IS THE sha256 OF THE DUMP (.gsa) THAT YtmoofccblbaepaaDoorProg.lean LOADS. Nothing in Lean hashes anything: it is a label: what it is worth is what the hold of that sum in a sandbox is worth. -/
noncomputable def Tryd.pinned : Pinned := { name := "ytmoofccblbaepaadoor", sum := "71dde44f4daefd0f83add6817eca0f0b7bec3b886c83c8ba695244481a382c46", checked := Tryd.checked }
namespace Rows
def none {H : Type} : Left H := { results := [], args := [] }

/- WHAT THE LISTED PACKAGE-LEVEL VARIABLES READ AS WHEN THE CALL BEGINS. Each datum BY PROGRAM (the guide's laid-datum.mjs) off the statement by which the dump's own 'gosem.cut.vars' lays the variable. In a bare row this is a premise. The card (YtmoofccblbaepaaDoorCards.lean) ties it to the program's text. -/
def laid_pharos_pharosref02_constants {H : Type} : DataW H := .agg [.lit (.int .u32 1116352408), .lit (.int .u32 1899447441), .lit (.int .u32 3049323471), .lit (.int .u32 3921009573), .lit (.int .u32 961987163), .lit (.int .u32 1508970993), .lit (.int .u32 2453635748), .lit (.int .u32 2870763221), .lit (.int .u32 3624381080), .lit (.int .u32 310598401), .lit (.int .u32 607225278), .lit (.int .u32 1426881987), .lit (.int .u32 1925078388), .lit (.int .u32 2162078206), .lit (.int .u32 2614888103), .lit (.int .u32 3248222580), .lit (.int .u32 3835390401), .lit (.int .u32 4022224774), .lit (.int .u32 264347078), .lit (.int .u32 604807628), .lit (.int .u32 770255983), .lit (.int .u32 1249150122), .lit (.int .u32 1555081692), .lit (.int .u32 1996064986), .lit (.int .u32 2554220882), .lit (.int .u32 2821834349), .lit (.int .u32 2952996808), .lit (.int .u32 3210313671), .lit (.int .u32 3336571891), .lit (.int .u32 3584528711), .lit (.int .u32 113926993), .lit (.int .u32 338241895), .lit (.int .u32 666307205), .lit (.int .u32 773529912), .lit (.int .u32 1294757372), .lit (.int .u32 1396182291), .lit (.int .u32 1695183700), .lit (.int .u32 1986661051), .lit (.int .u32 2177026350), .lit (.int .u32 2456956037), .lit (.int .u32 2730485921), .lit (.int .u32 2820302411), .lit (.int .u32 3259730800), .lit (.int .u32 3345764771), .lit (.int .u32 3516065817), .lit (.int .u32 3600352804), .lit (.int .u32 4094571909), .lit (.int .u32 275423344), .lit (.int .u32 430227734), .lit (.int .u32 506948616), .lit (.int .u32 659060556), .lit (.int .u32 883997877), .lit (.int .u32 958139571), .lit (.int .u32 1322822218), .lit (.int .u32 1537002063), .lit (.int .u32 1747873779), .lit (.int .u32 1955562222), .lit (.int .u32 2024104815), .lit (.int .u32 2227730452), .lit (.int .u32 2361852424), .lit (.int .u32 2428436474), .lit (.int .u32 2756734187), .lit (.int .u32 3204031479), .lit (.int .u32 3329325298)]
def laid_pharos_sha_start {H : Type} : DataW H := .agg [.lit (.int .u32 1779033703), .lit (.int .u32 3144134277), .lit (.int .u32 1013904242), .lit (.int .u32 2773480762), .lit (.int .u32 1359893119), .lit (.int .u32 2600822924), .lit (.int .u32 528734635), .lit (.int .u32 1541459225)]
def laid_pharos_sha_round {H : Type} : DataW H := .agg [.lit (.int .u32 1116352408), .lit (.int .u32 1899447441), .lit (.int .u32 3049323471), .lit (.int .u32 3921009573), .lit (.int .u32 961987163), .lit (.int .u32 1508970993), .lit (.int .u32 2453635748), .lit (.int .u32 2870763221), .lit (.int .u32 3624381080), .lit (.int .u32 310598401), .lit (.int .u32 607225278), .lit (.int .u32 1426881987), .lit (.int .u32 1925078388), .lit (.int .u32 2162078206), .lit (.int .u32 2614888103), .lit (.int .u32 3248222580), .lit (.int .u32 3835390401), .lit (.int .u32 4022224774), .lit (.int .u32 264347078), .lit (.int .u32 604807628), .lit (.int .u32 770255983), .lit (.int .u32 1249150122), .lit (.int .u32 1555081692), .lit (.int .u32 1996064986), .lit (.int .u32 2554220882), .lit (.int .u32 2821834349), .lit (.int .u32 2952996808), .lit (.int .u32 3210313671), .lit (.int .u32 3336571891), .lit (.int .u32 3584528711), .lit (.int .u32 113926993), .lit (.int .u32 338241895), .lit (.int .u32 666307205), .lit (.int .u32 773529912), .lit (.int .u32 1294757372), .lit (.int .u32 1396182291), .lit (.int .u32 1695183700), .lit (.int .u32 1986661051), .lit (.int .u32 2177026350), .lit (.int .u32 2456956037), .lit (.int .u32 2730485921), .lit (.int .u32 2820302411), .lit (.int .u32 3259730800), .lit (.int .u32 3345764771), .lit (.int .u32 3516065817), .lit (.int .u32 3600352804), .lit (.int .u32 4094571909), .lit (.int .u32 275423344), .lit (.int .u32 430227734), .lit (.int .u32 506948616), .lit (.int .u32 659060556), .lit (.int .u32 883997877), .lit (.int .u32 958139571), .lit (.int .u32 1322822218), .lit (.int .u32 1537002063), .lit (.int .u32 1747873779), .lit (.int .u32 1955562222), .lit (.int .u32 2024104815), .lit (.int .u32 2227730452), .lit (.int .u32 2361852424), .lit (.int .u32 2428436474), .lit (.int .u32 2756734187), .lit (.int .u32 3204031479), .lit (.int .u32 3329325298)]

/-- 'pharoslaw07.SmallExit': WHATEVER THE INPUT: true; the input reads as it did. -/
def smallExitSpec : ChangeSpec := { name := "smallExit", fn := fun _ => fun
  | [d1, d2] => { results := [.lit (.bool true)], args := [d1, d2] }
  | _ => none }
def smallExitRow : OpenClaim := { program := "ytmoofccblbaepaadoor", sum := "71dde44f4daefd0f83add6817eca0f0b7bec3b886c83c8ba695244481a382c46", func := "pharos/pharoslaw07.SmallExit", spec := "smallExit", recurses := true, named := ["pharos/sha.start", "pharos/sha.round", "pharos/pharosref02.constants"], apart := false, laid := [("pharos/pharosref02.constants", laid_pharos_pharosref02_constants), ("pharos/sha.start", laid_pharos_sha_start), ("pharos/sha.round", laid_pharos_sha_round)] }
def SmallExitSaid : Prop := smallExitRow.holds Tryd.pinned (OpenSpec.ofChange smallExitSpec)

/-- ITS FALSE NEIGHBOUR: 'it returns false'. Refute it at one input. -/
def smallExitWrong : ChangeSpec := { name := "smallExit", fn := fun _ => fun
  | [d1, d2] => { results := [.lit (.bool false)], args := [d1, d2] }
  | _ => none }
def SmallExitWrongFalsely : Prop := smallExitRow.holds Tryd.pinned (OpenSpec.ofChange smallExitWrong)

/-- 'pharoslaw07.SmallFork': WHATEVER THE INPUT: true; the input reads as it did. -/
def smallForkSpec : ChangeSpec := { name := "smallFork", fn := fun _ => fun
  | [d1, d2] => { results := [.lit (.bool true)], args := [d1, d2] }
  | _ => none }
def smallForkRow : OpenClaim := { program := "ytmoofccblbaepaadoor", sum := "71dde44f4daefd0f83add6817eca0f0b7bec3b886c83c8ba695244481a382c46", func := "pharos/pharoslaw07.SmallFork", spec := "smallFork", recurses := true, named := ["pharos/sha.start", "pharos/sha.round", "pharos/pharosref02.constants"], apart := false, laid := [("pharos/pharosref02.constants", laid_pharos_pharosref02_constants), ("pharos/sha.start", laid_pharos_sha_start), ("pharos/sha.round", laid_pharos_sha_round)] }
def SmallForkSaid : Prop := smallForkRow.holds Tryd.pinned (OpenSpec.ofChange smallForkSpec)

/-- ITS FALSE NEIGHBOUR: 'it returns false'. Refute it at one input. -/
def smallForkWrong : ChangeSpec := { name := "smallFork", fn := fun _ => fun
  | [d1, d2] => { results := [.lit (.bool false)], args := [d1, d2] }
  | _ => none }
def SmallForkWrongFalsely : Prop := smallForkRow.holds Tryd.pinned (OpenSpec.ofChange smallForkWrong)

/-- 'pharoslaw07.SmallCheckpoint': WHATEVER THE INPUT: true; the input reads as it did. -/
def smallCheckpointSpec : ChangeSpec := { name := "smallCheckpoint", fn := fun _ => fun
  | [d1, d2] => { results := [.lit (.bool true)], args := [d1, d2] }
  | _ => none }
def smallCheckpointRow : OpenClaim := { program := "ytmoofccblbaepaadoor", sum := "71dde44f4daefd0f83add6817eca0f0b7bec3b886c83c8ba695244481a382c46", func := "pharos/pharoslaw07.SmallCheckpoint", spec := "smallCheckpoint", recurses := true, named := ["pharos/sha.start", "pharos/sha.round", "pharos/pharosref02.constants"], apart := false, laid := [("pharos/pharosref02.constants", laid_pharos_pharosref02_constants), ("pharos/sha.start", laid_pharos_sha_start), ("pharos/sha.round", laid_pharos_sha_round)] }
def SmallCheckpointSaid : Prop := smallCheckpointRow.holds Tryd.pinned (OpenSpec.ofChange smallCheckpointSpec)

/-- ITS FALSE NEIGHBOUR: 'it returns false'. Refute it at one input. -/
def smallCheckpointWrong : ChangeSpec := { name := "smallCheckpoint", fn := fun _ => fun
  | [d1, d2] => { results := [.lit (.bool false)], args := [d1, d2] }
  | _ => none }
def SmallCheckpointWrongFalsely : Prop := smallCheckpointRow.holds Tryd.pinned (OpenSpec.ofChange smallCheckpointWrong)

/-- 'pharoslaw07.SmallEth1': WHATEVER THE INPUT: true; the input reads as it did. -/
def smallEth1Spec : ChangeSpec := { name := "smallEth1", fn := fun _ => fun
  | [d1, d2] => { results := [.lit (.bool true)], args := [d1, d2] }
  | _ => none }
def smallEth1Row : OpenClaim := { program := "ytmoofccblbaepaadoor", sum := "71dde44f4daefd0f83add6817eca0f0b7bec3b886c83c8ba695244481a382c46", func := "pharos/pharoslaw07.SmallEth1", spec := "smallEth1", recurses := true, named := ["pharos/sha.start", "pharos/sha.round", "pharos/pharosref02.constants"], apart := false, laid := [("pharos/pharosref02.constants", laid_pharos_pharosref02_constants), ("pharos/sha.start", laid_pharos_sha_start), ("pharos/sha.round", laid_pharos_sha_round)] }
def SmallEth1Said : Prop := smallEth1Row.holds Tryd.pinned (OpenSpec.ofChange smallEth1Spec)

/-- ITS FALSE NEIGHBOUR: 'it returns false'. Refute it at one input. -/
def smallEth1Wrong : ChangeSpec := { name := "smallEth1", fn := fun _ => fun
  | [d1, d2] => { results := [.lit (.bool false)], args := [d1, d2] }
  | _ => none }
def SmallEth1WrongFalsely : Prop := smallEth1Row.holds Tryd.pinned (OpenSpec.ofChange smallEth1Wrong)

/-- 'pharoslaw07.SmallDepositData': WHATEVER THE INPUT: true; the input reads as it did. -/
def smallDepositDataSpec : ChangeSpec := { name := "smallDepositData", fn := fun _ => fun
  | [d1, d2] => { results := [.lit (.bool true)], args := [d1, d2] }
  | _ => none }
def smallDepositDataRow : OpenClaim := { program := "ytmoofccblbaepaadoor", sum := "71dde44f4daefd0f83add6817eca0f0b7bec3b886c83c8ba695244481a382c46", func := "pharos/pharoslaw07.SmallDepositData", spec := "smallDepositData", recurses := true, named := ["pharos/sha.start", "pharos/sha.round", "pharos/pharosref02.constants"], apart := false, laid := [("pharos/pharosref02.constants", laid_pharos_pharosref02_constants), ("pharos/sha.start", laid_pharos_sha_start), ("pharos/sha.round", laid_pharos_sha_round)] }
def SmallDepositDataSaid : Prop := smallDepositDataRow.holds Tryd.pinned (OpenSpec.ofChange smallDepositDataSpec)

/-- ITS FALSE NEIGHBOUR: 'it returns false'. Refute it at one input. -/
def smallDepositDataWrong : ChangeSpec := { name := "smallDepositData", fn := fun _ => fun
  | [d1, d2] => { results := [.lit (.bool false)], args := [d1, d2] }
  | _ => none }
def SmallDepositDataWrongFalsely : Prop := smallDepositDataRow.holds Tryd.pinned (OpenSpec.ofChange smallDepositDataWrong)

/-- 'pharoslaw07.SmallHeader': WHATEVER THE INPUT: true; the input reads as it did. -/
def smallHeaderSpec : ChangeSpec := { name := "smallHeader", fn := fun _ => fun
  | [d1, d2] => { results := [.lit (.bool true)], args := [d1, d2] }
  | _ => none }
def smallHeaderRow : OpenClaim := { program := "ytmoofccblbaepaadoor", sum := "71dde44f4daefd0f83add6817eca0f0b7bec3b886c83c8ba695244481a382c46", func := "pharos/pharoslaw07.SmallHeader", spec := "smallHeader", recurses := true, named := ["pharos/sha.start", "pharos/sha.round", "pharos/pharosref02.constants"], apart := false, laid := [("pharos/pharosref02.constants", laid_pharos_pharosref02_constants), ("pharos/sha.start", laid_pharos_sha_start), ("pharos/sha.round", laid_pharos_sha_round)] }
def SmallHeaderSaid : Prop := smallHeaderRow.holds Tryd.pinned (OpenSpec.ofChange smallHeaderSpec)

/-- ITS FALSE NEIGHBOUR: 'it returns false'. Refute it at one input. -/
def smallHeaderWrong : ChangeSpec := { name := "smallHeader", fn := fun _ => fun
  | [d1, d2] => { results := [.lit (.bool false)], args := [d1, d2] }
  | _ => none }
def SmallHeaderWrongFalsely : Prop := smallHeaderRow.holds Tryd.pinned (OpenSpec.ofChange smallHeaderWrong)

/-- 'pharoslaw07.SmallCommittee': WHATEVER THE INPUT: true; the input reads as it did. -/
def smallCommitteeSpec : ChangeSpec := { name := "smallCommittee", fn := fun _ => fun
  | [d1, d2] => { results := [.lit (.bool true)], args := [d1, d2] }
  | _ => none }
def smallCommitteeRow : OpenClaim := { program := "ytmoofccblbaepaadoor", sum := "71dde44f4daefd0f83add6817eca0f0b7bec3b886c83c8ba695244481a382c46", func := "pharos/pharoslaw07.SmallCommittee", spec := "smallCommittee", recurses := true, named := ["pharos/sha.start", "pharos/sha.round", "pharos/pharosref02.constants"], apart := false, laid := [("pharos/pharosref02.constants", laid_pharos_pharosref02_constants), ("pharos/sha.start", laid_pharos_sha_start), ("pharos/sha.round", laid_pharos_sha_round)] }
def SmallCommitteeSaid : Prop := smallCommitteeRow.holds Tryd.pinned (OpenSpec.ofChange smallCommitteeSpec)

/-- ITS FALSE NEIGHBOUR: 'it returns false'. Refute it at one input. -/
def smallCommitteeWrong : ChangeSpec := { name := "smallCommittee", fn := fun _ => fun
  | [d1, d2] => { results := [.lit (.bool false)], args := [d1, d2] }
  | _ => none }
def SmallCommitteeWrongFalsely : Prop := smallCommitteeRow.holds Tryd.pinned (OpenSpec.ofChange smallCommitteeWrong)

/-- 'pharoslaw07.SmallSignedExit': WHATEVER THE INPUT: true; the input reads as it did. -/
def smallSignedExitSpec : ChangeSpec := { name := "smallSignedExit", fn := fun _ => fun
  | [d1, d2] => { results := [.lit (.bool true)], args := [d1, d2] }
  | _ => none }
def smallSignedExitRow : OpenClaim := { program := "ytmoofccblbaepaadoor", sum := "71dde44f4daefd0f83add6817eca0f0b7bec3b886c83c8ba695244481a382c46", func := "pharos/pharoslaw07.SmallSignedExit", spec := "smallSignedExit", recurses := true, named := ["pharos/sha.start", "pharos/sha.round", "pharos/pharosref02.constants"], apart := false, laid := [("pharos/pharosref02.constants", laid_pharos_pharosref02_constants), ("pharos/sha.start", laid_pharos_sha_start), ("pharos/sha.round", laid_pharos_sha_round)] }
def SmallSignedExitSaid : Prop := smallSignedExitRow.holds Tryd.pinned (OpenSpec.ofChange smallSignedExitSpec)

/-- ITS FALSE NEIGHBOUR: 'it returns false'. Refute it at one input. -/
def smallSignedExitWrong : ChangeSpec := { name := "smallSignedExit", fn := fun _ => fun
  | [d1, d2] => { results := [.lit (.bool false)], args := [d1, d2] }
  | _ => none }
def SmallSignedExitWrongFalsely : Prop := smallSignedExitRow.holds Tryd.pinned (OpenSpec.ofChange smallSignedExitWrong)

/-- 'pharoslaw07.SmallValidator': WHATEVER THE INPUT: true; the input reads as it did. -/
def smallValidatorSpec : ChangeSpec := { name := "smallValidator", fn := fun _ => fun
  | [d1, d2] => { results := [.lit (.bool true)], args := [d1, d2] }
  | _ => none }
def smallValidatorRow : OpenClaim := { program := "ytmoofccblbaepaadoor", sum := "71dde44f4daefd0f83add6817eca0f0b7bec3b886c83c8ba695244481a382c46", func := "pharos/pharoslaw07.SmallValidator", spec := "smallValidator", recurses := true, named := ["pharos/sha.start", "pharos/sha.round", "pharos/pharosref02.constants"], apart := false, laid := [("pharos/pharosref02.constants", laid_pharos_pharosref02_constants), ("pharos/sha.start", laid_pharos_sha_start), ("pharos/sha.round", laid_pharos_sha_round)] }
def SmallValidatorSaid : Prop := smallValidatorRow.holds Tryd.pinned (OpenSpec.ofChange smallValidatorSpec)

/-- ITS FALSE NEIGHBOUR: 'it returns false'. Refute it at one input. -/
def smallValidatorWrong : ChangeSpec := { name := "smallValidator", fn := fun _ => fun
  | [d1, d2] => { results := [.lit (.bool false)], args := [d1, d2] }
  | _ => none }
def SmallValidatorWrongFalsely : Prop := smallValidatorRow.holds Tryd.pinned (OpenSpec.ofChange smallValidatorWrong)

/-- 'pharoslaw07.SmallSyncAggregate': WHATEVER THE INPUT: true; the input reads as it did. -/
def smallSyncAggregateSpec : ChangeSpec := { name := "smallSyncAggregate", fn := fun _ => fun
  | [d1, d2] => { results := [.lit (.bool true)], args := [d1, d2] }
  | _ => none }
def smallSyncAggregateRow : OpenClaim := { program := "ytmoofccblbaepaadoor", sum := "71dde44f4daefd0f83add6817eca0f0b7bec3b886c83c8ba695244481a382c46", func := "pharos/pharoslaw07.SmallSyncAggregate", spec := "smallSyncAggregate", recurses := true, named := ["pharos/sha.start", "pharos/sha.round", "pharos/pharosref02.constants"], apart := false, laid := [("pharos/pharosref02.constants", laid_pharos_pharosref02_constants), ("pharos/sha.start", laid_pharos_sha_start), ("pharos/sha.round", laid_pharos_sha_round)] }
def SmallSyncAggregateSaid : Prop := smallSyncAggregateRow.holds Tryd.pinned (OpenSpec.ofChange smallSyncAggregateSpec)

/-- ITS FALSE NEIGHBOUR: 'it returns false'. Refute it at one input. -/
def smallSyncAggregateWrong : ChangeSpec := { name := "smallSyncAggregate", fn := fun _ => fun
  | [d1, d2] => { results := [.lit (.bool false)], args := [d1, d2] }
  | _ => none }
def SmallSyncAggregateWrongFalsely : Prop := smallSyncAggregateRow.holds Tryd.pinned (OpenSpec.ofChange smallSyncAggregateWrong)

/-- 'pharoslaw07.SmallSignedHeader': WHATEVER THE INPUT: true; the input reads as it did. -/
def smallSignedHeaderSpec : ChangeSpec := { name := "smallSignedHeader", fn := fun _ => fun
  | [d1, d2] => { results := [.lit (.bool true)], args := [d1, d2] }
  | _ => none }
def smallSignedHeaderRow : OpenClaim := { program := "ytmoofccblbaepaadoor", sum := "71dde44f4daefd0f83add6817eca0f0b7bec3b886c83c8ba695244481a382c46", func := "pharos/pharoslaw07.SmallSignedHeader", spec := "smallSignedHeader", recurses := true, named := ["pharos/sha.start", "pharos/sha.round", "pharos/pharosref02.constants"], apart := false, laid := [("pharos/pharosref02.constants", laid_pharos_pharosref02_constants), ("pharos/sha.start", laid_pharos_sha_start), ("pharos/sha.round", laid_pharos_sha_round)] }
def SmallSignedHeaderSaid : Prop := smallSignedHeaderRow.holds Tryd.pinned (OpenSpec.ofChange smallSignedHeaderSpec)

/-- ITS FALSE NEIGHBOUR: 'it returns false'. Refute it at one input. -/
def smallSignedHeaderWrong : ChangeSpec := { name := "smallSignedHeader", fn := fun _ => fun
  | [d1, d2] => { results := [.lit (.bool false)], args := [d1, d2] }
  | _ => none }
def SmallSignedHeaderWrongFalsely : Prop := smallSignedHeaderRow.holds Tryd.pinned (OpenSpec.ofChange smallSignedHeaderWrong)

/-- 'pharoslaw07.SmallData': WHATEVER THE INPUT: true; the input reads as it did. -/
def smallDataSpec : ChangeSpec := { name := "smallData", fn := fun _ => fun
  | [d1, d2] => { results := [.lit (.bool true)], args := [d1, d2] }
  | _ => none }
def smallDataRow : OpenClaim := { program := "ytmoofccblbaepaadoor", sum := "71dde44f4daefd0f83add6817eca0f0b7bec3b886c83c8ba695244481a382c46", func := "pharos/pharoslaw07.SmallData", spec := "smallData", recurses := true, named := ["pharos/sha.start", "pharos/sha.round", "pharos/pharosref02.constants"], apart := false, laid := [("pharos/pharosref02.constants", laid_pharos_pharosref02_constants), ("pharos/sha.start", laid_pharos_sha_start), ("pharos/sha.round", laid_pharos_sha_round)] }
def SmallDataSaid : Prop := smallDataRow.holds Tryd.pinned (OpenSpec.ofChange smallDataSpec)

/-- ITS FALSE NEIGHBOUR: 'it returns false'. Refute it at one input. -/
def smallDataWrong : ChangeSpec := { name := "smallData", fn := fun _ => fun
  | [d1, d2] => { results := [.lit (.bool false)], args := [d1, d2] }
  | _ => none }
def SmallDataWrongFalsely : Prop := smallDataRow.holds Tryd.pinned (OpenSpec.ofChange smallDataWrong)

/- THE SECOND FORM. 'bulk': how many values and letters a reading holds, each counted each time it is reached (what is shared counts as often as it is met; a slice's spare places count too). A statement '..UptoSaid' is the law's where the arguments, and the package variables that the reading takes, are together of bulk at most 1048576: NARROWER than '..Said'. Prove '..Said' where nothing that the law and all that it calls make is longer than what came in: it says more and counts as full. Else prove '..UptoSaid'. A law counts once. -/
mutual
def uptoBulk {H : Type} : DataW H → Nat
  | .lit (.string bytes) => bytes.length + 1
  | .lit _ => 1
  | .nil => 1
  | .ptr d => uptoBulk d + 1
  | .slice elems spare => uptoBulkAll elems + uptoBulkAll spare + 1
  | .agg parts => uptoBulkAll parts + 1
  | .iface _ d => uptoBulk d + 1
  | .map entries => uptoBulkEntries entries + 1
  | .held _ => 1
def uptoBulkAll {H : Type} : List (DataW H) → Nat
  | [] => 0
  | d :: r => uptoBulk d + uptoBulkAll r
def uptoBulkEntries {H : Type} : List (Lit × DataW H) → Nat
  | [] => 0
  | x :: r => uptoBulkEntry x + uptoBulkEntries r
def uptoBulkEntry {H : Type} : Lit × DataW H → Nat
  | (.string bytes, d) => bytes.length + uptoBulk d + 1
  | (_, d) => uptoBulk d + 1
 end
def uptoSmall : (H : Type) → List (DataW H) → Bool := fun _ ds => decide (uptoBulkAll ds ≤ 1048576)
def OpenSpec.upto (s : _root_.Go.ChangeSpec) : _root_.Go.OpenSpec := { _root_.Go.OpenSpec.ofChange s with cond := some uptoSmall }

/-- 'pharoslaw07.SmallExit', WHERE WHAT IT READS IS OF BULK AT MOST 1048576: true; the input reads as it did. -/
def smallExitUptoRow : OpenClaim := { program := "ytmoofccblbaepaadoor", sum := "71dde44f4daefd0f83add6817eca0f0b7bec3b886c83c8ba695244481a382c46", func := "pharos/pharoslaw07.SmallExit", spec := "smallExit", recurses := true, named := ["pharos/sha.start", "pharos/sha.round", "pharos/pharosref02.constants"], apart := false, laid := [("pharos/pharosref02.constants", laid_pharos_pharosref02_constants), ("pharos/sha.start", laid_pharos_sha_start), ("pharos/sha.round", laid_pharos_sha_round)], narrowed := true }
def SmallExitUptoSaid : Prop := smallExitUptoRow.holds Tryd.pinned (OpenSpec.upto smallExitSpec)

/-- 'pharoslaw07.SmallFork', WHERE WHAT IT READS IS OF BULK AT MOST 1048576: true; the input reads as it did. -/
def smallForkUptoRow : OpenClaim := { program := "ytmoofccblbaepaadoor", sum := "71dde44f4daefd0f83add6817eca0f0b7bec3b886c83c8ba695244481a382c46", func := "pharos/pharoslaw07.SmallFork", spec := "smallFork", recurses := true, named := ["pharos/sha.start", "pharos/sha.round", "pharos/pharosref02.constants"], apart := false, laid := [("pharos/pharosref02.constants", laid_pharos_pharosref02_constants), ("pharos/sha.start", laid_pharos_sha_start), ("pharos/sha.round", laid_pharos_sha_round)], narrowed := true }
def SmallForkUptoSaid : Prop := smallForkUptoRow.holds Tryd.pinned (OpenSpec.upto smallForkSpec)

/-- 'pharoslaw07.SmallCheckpoint', WHERE WHAT IT READS IS OF BULK AT MOST 1048576: true; the input reads as it did. -/
def smallCheckpointUptoRow : OpenClaim := { program := "ytmoofccblbaepaadoor", sum := "71dde44f4daefd0f83add6817eca0f0b7bec3b886c83c8ba695244481a382c46", func := "pharos/pharoslaw07.SmallCheckpoint", spec := "smallCheckpoint", recurses := true, named := ["pharos/sha.start", "pharos/sha.round", "pharos/pharosref02.constants"], apart := false, laid := [("pharos/pharosref02.constants", laid_pharos_pharosref02_constants), ("pharos/sha.start", laid_pharos_sha_start), ("pharos/sha.round", laid_pharos_sha_round)], narrowed := true }
def SmallCheckpointUptoSaid : Prop := smallCheckpointUptoRow.holds Tryd.pinned (OpenSpec.upto smallCheckpointSpec)

/-- 'pharoslaw07.SmallEth1', WHERE WHAT IT READS IS OF BULK AT MOST 1048576: true; the input reads as it did. -/
def smallEth1UptoRow : OpenClaim := { program := "ytmoofccblbaepaadoor", sum := "71dde44f4daefd0f83add6817eca0f0b7bec3b886c83c8ba695244481a382c46", func := "pharos/pharoslaw07.SmallEth1", spec := "smallEth1", recurses := true, named := ["pharos/sha.start", "pharos/sha.round", "pharos/pharosref02.constants"], apart := false, laid := [("pharos/pharosref02.constants", laid_pharos_pharosref02_constants), ("pharos/sha.start", laid_pharos_sha_start), ("pharos/sha.round", laid_pharos_sha_round)], narrowed := true }
def SmallEth1UptoSaid : Prop := smallEth1UptoRow.holds Tryd.pinned (OpenSpec.upto smallEth1Spec)

/-- 'pharoslaw07.SmallDepositData', WHERE WHAT IT READS IS OF BULK AT MOST 1048576: true; the input reads as it did. -/
def smallDepositDataUptoRow : OpenClaim := { program := "ytmoofccblbaepaadoor", sum := "71dde44f4daefd0f83add6817eca0f0b7bec3b886c83c8ba695244481a382c46", func := "pharos/pharoslaw07.SmallDepositData", spec := "smallDepositData", recurses := true, named := ["pharos/sha.start", "pharos/sha.round", "pharos/pharosref02.constants"], apart := false, laid := [("pharos/pharosref02.constants", laid_pharos_pharosref02_constants), ("pharos/sha.start", laid_pharos_sha_start), ("pharos/sha.round", laid_pharos_sha_round)], narrowed := true }
def SmallDepositDataUptoSaid : Prop := smallDepositDataUptoRow.holds Tryd.pinned (OpenSpec.upto smallDepositDataSpec)

/-- 'pharoslaw07.SmallHeader', WHERE WHAT IT READS IS OF BULK AT MOST 1048576: true; the input reads as it did. -/
def smallHeaderUptoRow : OpenClaim := { program := "ytmoofccblbaepaadoor", sum := "71dde44f4daefd0f83add6817eca0f0b7bec3b886c83c8ba695244481a382c46", func := "pharos/pharoslaw07.SmallHeader", spec := "smallHeader", recurses := true, named := ["pharos/sha.start", "pharos/sha.round", "pharos/pharosref02.constants"], apart := false, laid := [("pharos/pharosref02.constants", laid_pharos_pharosref02_constants), ("pharos/sha.start", laid_pharos_sha_start), ("pharos/sha.round", laid_pharos_sha_round)], narrowed := true }
def SmallHeaderUptoSaid : Prop := smallHeaderUptoRow.holds Tryd.pinned (OpenSpec.upto smallHeaderSpec)

/-- 'pharoslaw07.SmallCommittee', WHERE WHAT IT READS IS OF BULK AT MOST 1048576: true; the input reads as it did. -/
def smallCommitteeUptoRow : OpenClaim := { program := "ytmoofccblbaepaadoor", sum := "71dde44f4daefd0f83add6817eca0f0b7bec3b886c83c8ba695244481a382c46", func := "pharos/pharoslaw07.SmallCommittee", spec := "smallCommittee", recurses := true, named := ["pharos/sha.start", "pharos/sha.round", "pharos/pharosref02.constants"], apart := false, laid := [("pharos/pharosref02.constants", laid_pharos_pharosref02_constants), ("pharos/sha.start", laid_pharos_sha_start), ("pharos/sha.round", laid_pharos_sha_round)], narrowed := true }
def SmallCommitteeUptoSaid : Prop := smallCommitteeUptoRow.holds Tryd.pinned (OpenSpec.upto smallCommitteeSpec)

/-- 'pharoslaw07.SmallSignedExit', WHERE WHAT IT READS IS OF BULK AT MOST 1048576: true; the input reads as it did. -/
def smallSignedExitUptoRow : OpenClaim := { program := "ytmoofccblbaepaadoor", sum := "71dde44f4daefd0f83add6817eca0f0b7bec3b886c83c8ba695244481a382c46", func := "pharos/pharoslaw07.SmallSignedExit", spec := "smallSignedExit", recurses := true, named := ["pharos/sha.start", "pharos/sha.round", "pharos/pharosref02.constants"], apart := false, laid := [("pharos/pharosref02.constants", laid_pharos_pharosref02_constants), ("pharos/sha.start", laid_pharos_sha_start), ("pharos/sha.round", laid_pharos_sha_round)], narrowed := true }
def SmallSignedExitUptoSaid : Prop := smallSignedExitUptoRow.holds Tryd.pinned (OpenSpec.upto smallSignedExitSpec)

/-- 'pharoslaw07.SmallValidator', WHERE WHAT IT READS IS OF BULK AT MOST 1048576: true; the input reads as it did. -/
def smallValidatorUptoRow : OpenClaim := { program := "ytmoofccblbaepaadoor", sum := "71dde44f4daefd0f83add6817eca0f0b7bec3b886c83c8ba695244481a382c46", func := "pharos/pharoslaw07.SmallValidator", spec := "smallValidator", recurses := true, named := ["pharos/sha.start", "pharos/sha.round", "pharos/pharosref02.constants"], apart := false, laid := [("pharos/pharosref02.constants", laid_pharos_pharosref02_constants), ("pharos/sha.start", laid_pharos_sha_start), ("pharos/sha.round", laid_pharos_sha_round)], narrowed := true }
def SmallValidatorUptoSaid : Prop := smallValidatorUptoRow.holds Tryd.pinned (OpenSpec.upto smallValidatorSpec)

/-- 'pharoslaw07.SmallSyncAggregate', WHERE WHAT IT READS IS OF BULK AT MOST 1048576: true; the input reads as it did. -/
def smallSyncAggregateUptoRow : OpenClaim := { program := "ytmoofccblbaepaadoor", sum := "71dde44f4daefd0f83add6817eca0f0b7bec3b886c83c8ba695244481a382c46", func := "pharos/pharoslaw07.SmallSyncAggregate", spec := "smallSyncAggregate", recurses := true, named := ["pharos/sha.start", "pharos/sha.round", "pharos/pharosref02.constants"], apart := false, laid := [("pharos/pharosref02.constants", laid_pharos_pharosref02_constants), ("pharos/sha.start", laid_pharos_sha_start), ("pharos/sha.round", laid_pharos_sha_round)], narrowed := true }
def SmallSyncAggregateUptoSaid : Prop := smallSyncAggregateUptoRow.holds Tryd.pinned (OpenSpec.upto smallSyncAggregateSpec)

/-- 'pharoslaw07.SmallSignedHeader', WHERE WHAT IT READS IS OF BULK AT MOST 1048576: true; the input reads as it did. -/
def smallSignedHeaderUptoRow : OpenClaim := { program := "ytmoofccblbaepaadoor", sum := "71dde44f4daefd0f83add6817eca0f0b7bec3b886c83c8ba695244481a382c46", func := "pharos/pharoslaw07.SmallSignedHeader", spec := "smallSignedHeader", recurses := true, named := ["pharos/sha.start", "pharos/sha.round", "pharos/pharosref02.constants"], apart := false, laid := [("pharos/pharosref02.constants", laid_pharos_pharosref02_constants), ("pharos/sha.start", laid_pharos_sha_start), ("pharos/sha.round", laid_pharos_sha_round)], narrowed := true }
def SmallSignedHeaderUptoSaid : Prop := smallSignedHeaderUptoRow.holds Tryd.pinned (OpenSpec.upto smallSignedHeaderSpec)

/-- 'pharoslaw07.SmallData', WHERE WHAT IT READS IS OF BULK AT MOST 1048576: true; the input reads as it did. -/
def smallDataUptoRow : OpenClaim := { program := "ytmoofccblbaepaadoor", sum := "71dde44f4daefd0f83add6817eca0f0b7bec3b886c83c8ba695244481a382c46", func := "pharos/pharoslaw07.SmallData", spec := "smallData", recurses := true, named := ["pharos/sha.start", "pharos/sha.round", "pharos/pharosref02.constants"], apart := false, laid := [("pharos/pharosref02.constants", laid_pharos_pharosref02_constants), ("pharos/sha.start", laid_pharos_sha_start), ("pharos/sha.round", laid_pharos_sha_round)], narrowed := true }
def SmallDataUptoSaid : Prop := smallDataUptoRow.holds Tryd.pinned (OpenSpec.upto smallDataSpec)

end Rows
end Go.Proofs.YtmoofccblbaepaaDoor
