/- The law's inner loops: who stands in a committee is counted; the counts are looked at. -/
/- The law's loop over a slot's committees. -/
/- The law: each active stands in just one committee. -/
/- The law for every state and epoch. -/
import Derived.Test.YtfnjcpopadpmbaaDoorJCmM
import Derived.Test.YtfnjcpopadpmbaaDoorKRefR2
set_option linter.unusedVariables false
set_option linter.unusedSimpArgs false
set_option linter.unnecessarySimpa false
namespace Go.Proofs.YtfnjcpopadpmbaaDoor
open Go.RowKit BigFrame
set_option maxRecDepth 100000
end Go.Proofs.YtfnjcpopadpmbaaDoor
namespace Go.Proofs.YtfnjcpopadpmbaaDoor
open Go.RowKit BigFrame
set_option maxRecDepth 100000
/-- What the shortest and the longest so far may be. -/
def LM (q : Nat) (le mo : Int) : Prop := (q : Int) ≤ le ∧ le ≤ 1048576 ∧ 0 ≤ mo ∧ mo ≤ (q : Int) + 1
theorem VsRep.apart {w W : World} {xs : Array Value} {vs : List (Nat → Int)} {mx : Nat → Int} {tb : Nat} (h : VsRep w xs vs mx) (hx : Apart tb w W) (ht : ∀ b o, ∀ k cap, xs[721]? = some (.slice (some ⟨b, o, none⟩) k cap) → b ≠ tb) : VsRep W xs vs mx := by
  obtain ⟨va, cap, h1, h2, h3⟩ := h.vals
  refine ⟨h.size, h.one, ⟨va, cap, h1, ⟨fun i hi => ?_, h2.ok⟩, h3⟩, h.mix⟩
  obtain ⟨b, o, e, hc⟩ := h2.cell i hi
  subst e
  exact ⟨b, o, rfl, fun j hj => (hx.cell (p := ⟨b, o + i * 86 + j, none⟩) (block_lt_of_cell (hc j hj)) (by simpa using ht b o _ _ h1)).trans (hc j hj)⟩
theorem LM.next {q m : Nat} {le mo : Int} (h : LM q le mo) (h1 : q ≤ m) (h2 : m ≤ q + 1) : LM q (if (m : Int) < le then m else le) (if (m : Int) > mo then m else mo) := by
  unfold LM at *
  split <;> split <;> omega
end Go.Proofs.YtfnjcpopadpmbaaDoor
namespace Go.Proofs.YtfnjcpopadpmbaaDoor
open Go.RowKit BigFrame
set_option maxRecDepth 100000
theorem stRep_later {w w' : World} {xs : Array Value} {s : Sx} (h : StRep w xs s) (hb : Below w.heap.size w w') : StRep w' xs s := by
  have f1 : ∀ {k sz kd l}, SlS w xs k sz kd l → SlS w' xs k sz kd l := fun ⟨va, cap, h1, h2, h3⟩ => ⟨va, cap, h1, h2.later hb, h3⟩
  have f2 : ∀ {k c l}, SlI w xs k c l → SlI w' xs k c l := fun ⟨va, cap, h1, h2, h3⟩ => ⟨va, cap, h1, h2.later hb, h3⟩
  exact ⟨h.size, h.one, h.flat, f1 h.hist, f1 h.votes, f1 h.vals, f2 h.bals, f2 h.prev, f2 h.cur, f2 h.scores⟩
/-- What the law asks first. -/
def AwakeOk : Prop := ∀ (W : World), TabC W → Calls Tryd.prog 6 #[] W fun e w' => e = .returned (.bool true) ∧ Below W.heap.size W w'
end Go.Proofs.YtfnjcpopadpmbaaDoor
namespace Go.Proofs.YtfnjcpopadpmbaaDoor
open Go.RowKit BigFrame
set_option maxRecDepth 100000
end Go.Proofs.YtfnjcpopadpmbaaDoor
