/-
  No cell of these rows narrows 'for every input' (looked for: loops, veiled, ifaces, maps, wideKeys, modest, calm, conditions, laid).
  DERIVED. THE GIVEN ROWS OF THIS SEAT. 2 by the template 'for every input the law returns true; each argument reads behind the call as it read before'; 0 by the template 'total and deterministic' (their statements: YtbfmbgeibhkheaaTotals.lean).
  GIVEN WITH THE SEED: the statements are not yours to turn. If you find one false, say at which input.
  Laid BY PROGRAM, IN A SANDBOX (cutbox-rows.mjs): the forced cells as the released guide's own fill.sh prints them over the translation f13507deb5a54631… (all of the seat's roots in one cut). By AI agents, Wed Nov 11 2026. No macro, syntax, notation, axiom, sorry.
-/
import Derived.Test.YtbfmbgeibhkheaaChecked
import GoSem.Claim
import GoSem.ClaimJoined
import GoSem.ClaimMapViews
import Derived.JoinedTies
import Derived.KernelRfl
namespace Go.Proofs.Ytbfmbgeibhkheaa
/- THE CELL 'sum', in the pinned program and in every row, IS THE sha256 OF THE DUMP (.gsa) THAT YtbfmbgeibhkheaaProg.lean LOADS. Nothing in Lean hashes anything: it is a label: what it is worth is what the hold of that sum in a sandbox is worth. -/
noncomputable def Try.pinned : Pinned := { name := "ytbfmbgeibhkheaa", sum := "f13507deb5a546313b13bbe4302fec2f1fe5dc936eecf58b7912d35a01d58ad0", checked := Try.checked }
namespace Rows
def none {H : Type} : Left H := { results := [], args := [] }

/-- 'pharoslaw19.VoteFlags': WHATEVER THE INPUT: true; the input reads as it did. -/
def voteFlagsSpec : ChangeSpec := { name := "voteFlags", fn := fun _ => fun
  | [d1, d2] => { results := [.lit (.bool true)], args := [d1, d2] }
  | _ => none }
def voteFlagsRow : OpenClaim := { program := "ytbfmbgeibhkheaa", sum := "f13507deb5a546313b13bbe4302fec2f1fe5dc936eecf58b7912d35a01d58ad0", func := "pharos/pharoslaw19.VoteFlags", spec := "voteFlags", inPlace := ["math/bits.Sub64"], apart := false }
def VoteFlagsSaid : Prop := voteFlagsRow.holds Try.pinned (OpenSpec.ofChange voteFlagsSpec)

/-- ITS FALSE NEIGHBOUR: 'it returns false'. Refute it at one input. -/
def voteFlagsWrong : ChangeSpec := { name := "voteFlags", fn := fun _ => fun
  | [d1, d2] => { results := [.lit (.bool false)], args := [d1, d2] }
  | _ => none }
def VoteFlagsWrongFalsely : Prop := voteFlagsRow.holds Try.pinned (OpenSpec.ofChange voteFlagsWrong)

/-- 'pharoslaw19.VoteLater': WHATEVER THE INPUT: true; the input reads as it did. -/
def voteLaterSpec : ChangeSpec := { name := "voteLater", fn := fun _ => fun
  | [d1, d2] => { results := [.lit (.bool true)], args := [d1, d2] }
  | _ => none }
def voteLaterRow : OpenClaim := { program := "ytbfmbgeibhkheaa", sum := "f13507deb5a546313b13bbe4302fec2f1fe5dc936eecf58b7912d35a01d58ad0", func := "pharos/pharoslaw19.VoteLater", spec := "voteLater", inPlace := ["math/bits.Sub64"], apart := false }
def VoteLaterSaid : Prop := voteLaterRow.holds Try.pinned (OpenSpec.ofChange voteLaterSpec)

/-- ITS FALSE NEIGHBOUR: 'it returns false'. Refute it at one input. -/
def voteLaterWrong : ChangeSpec := { name := "voteLater", fn := fun _ => fun
  | [d1, d2] => { results := [.lit (.bool false)], args := [d1, d2] }
  | _ => none }
def VoteLaterWrongFalsely : Prop := voteLaterRow.holds Try.pinned (OpenSpec.ofChange voteLaterWrong)

/- THE SECOND FORM. 'bulk': how many values and letters a reading holds, each counted each time it is reached (what is shared counts as often as it is met; a slice's spare places count too). A statement '..UptoSaid' is the law's where the arguments, and the package variables that the reading takes, are together of bulk at most 1048576: NARROWER than '..Said'. Prove '..Said' where nothing that the law and all that it calls make is longer than what came in: it says more and counts as full. Else prove '..UptoSaid'. A law counts once. -/
mutual
def uptoBulk {H : Type} : DataW H → Nat
  | .lit (.string bytes) => bytes.length + 1
  | .lit _ => 1
  | .nil => 1
  | .ptr d => uptoBulk d + 1
  | .slice elems spare => uptoBulkAll elems + uptoBulkAll spare + 1
  | .agg parts => uptoBulkAll parts + 1
  | .iface _ d => uptoBulk d + 1
  | .map entries => uptoBulkEntries entries + 1
  | .held _ => 1
def uptoBulkAll {H : Type} : List (DataW H) → Nat
  | [] => 0
  | d :: r => uptoBulk d + uptoBulkAll r
def uptoBulkEntries {H : Type} : List (Lit × DataW H) → Nat
  | [] => 0
  | x :: r => uptoBulkEntry x + uptoBulkEntries r
def uptoBulkEntry {H : Type} : Lit × DataW H → Nat
  | (.string bytes, d) => bytes.length + uptoBulk d + 1
  | (_, d) => uptoBulk d + 1
 end
def uptoSmall : (H : Type) → List (DataW H) → Bool := fun _ ds => decide (uptoBulkAll ds ≤ 1048576)
def OpenSpec.upto (s : _root_.Go.ChangeSpec) : _root_.Go.OpenSpec := { _root_.Go.OpenSpec.ofChange s with cond := some uptoSmall }

/-- 'pharoslaw19.VoteFlags', WHERE WHAT IT READS IS OF BULK AT MOST 1048576: true; the input reads as it did. -/
def voteFlagsUptoRow : OpenClaim := { program := "ytbfmbgeibhkheaa", sum := "f13507deb5a546313b13bbe4302fec2f1fe5dc936eecf58b7912d35a01d58ad0", func := "pharos/pharoslaw19.VoteFlags", spec := "voteFlags", inPlace := ["math/bits.Sub64"], apart := false, narrowed := true }
def VoteFlagsUptoSaid : Prop := voteFlagsUptoRow.holds Try.pinned (OpenSpec.upto voteFlagsSpec)

/-- 'pharoslaw19.VoteLater', WHERE WHAT IT READS IS OF BULK AT MOST 1048576: true; the input reads as it did. -/
def voteLaterUptoRow : OpenClaim := { program := "ytbfmbgeibhkheaa", sum := "f13507deb5a546313b13bbe4302fec2f1fe5dc936eecf58b7912d35a01d58ad0", func := "pharos/pharoslaw19.VoteLater", spec := "voteLater", inPlace := ["math/bits.Sub64"], apart := false, narrowed := true }
def VoteLaterUptoSaid : Prop := voteLaterUptoRow.holds Try.pinned (OpenSpec.upto voteLaterSpec)

end Rows
end Go.Proofs.Ytbfmbgeibhkheaa
