/- The law CommBits for every state, slot, index and list of bits. -/
import Derived.Test.YtfnjcpopadpmbaaDoorKCbD
import Derived.Test.YtfnjcpopadpmbaaDoorJCmR
import Derived.Test.YtfnjcpopadpmbaaDoorKCmU
set_option linter.unusedVariables false
set_option linter.unusedSimpArgs false
set_option linter.unnecessarySimpa false
namespace Go.Proofs.YtfnjcpopadpmbaaDoor
open Go.RowKit BigFrame
set_option maxRecDepth 100000
theorem Below.up {n0 n1 : Nat} {w1 W W' : World} (h : Below n1 w1 W) (hb : Below W.heap.size W W') (hn : n1 ≤ W.heap.size) : Below n1 w1 W' := h.trans (hb.mono hn)
theorem right_len {st : Sx} (h : st.rightB = true) : st.vals.length ≤ 65536 := by
  unfold Sx.rightB Sx.lensB at h
  simp only [Bool.and_eq_true, decide_eq_true_eq] at h
  exact h.1.1.1.1.1.1.1
end Go.Proofs.YtfnjcpopadpmbaaDoor
