/- The law of indexed attestations over whatever is handed in. -/
import Derived.Test.YtihelknkcomjpaaDoorKOpenB
import Derived.Test.YtihelknkcomjpaaDoorJIxH
import Derived.Test.YtihelknkcomjpaaDoorKLgIdx
set_option linter.unusedVariables false
set_option linter.unusedSimpArgs false
set_option linter.unnecessarySimpa false
namespace Go.Proofs.YtihelknkcomjpaaDoor
open Go.ChangeShapes Go.WideShapes Go.ChangeAt Go.RowKit BigFrame
set_option maxRecDepth 100000
theorem kd_c64 : kdB Tryd.prog 10 27 1 (fun _ => .u64) = true := by kernel_rfl
theorem sz_c64 : Tryd.prog.cellsOf 27 = 1 := by kernel_rfl
def kdIdx (j : Nat) : Option CK := if j = 0 then none else if j < 101 then some (kdData (j - 1)) else some .u8
theorem idx_cells {xs : List Value} {v0 : Value} {fd fs : Nat → Int} (hl : xs.length = 197) (h0 : xs[0]? = some v0) (h1 : ∀ j, j < 100 → xs[1 + j]? = some ((kdData j).mk (fd j))) (h2 : ∀ j, j < 96 → xs[101 + j]? = some (.int .u8 (fs j))) : xs = idxC v0 fd fs := by
  apply List.ext_getElem?
  intro i
  by_cases c0 : i = 0
  · subst c0; rw [h0]; rfl
  · by_cases c1 : i < 101
    · obtain ⟨j, rfl⟩ : ∃ j, i = 1 + j := ⟨i - 1, by omega⟩
      rw [h1 j (by omega)]
      unfold idxC
      rw [Nat.add_comm, List.getElem?_cons_succ, List.getElem?_append_left (by rw [fcells_length]; omega), fcells_get _ _ _ _ (by omega)]
    · by_cases c2 : i < 197
      · obtain ⟨j, rfl⟩ : ∃ j, i = 101 + j := ⟨i - 101, by omega⟩
        rw [h2 j (by omega)]
        unfold idxC
        rw [show 101 + j = (100 + j) + 1 by omega, List.getElem?_cons_succ, List.getElem?_append_right (by rw [fcells_length]; omega), fcells_length, Nat.add_sub_cancel_left, fcells_get _ _ _ _ (by omega)]
        rfl
      · rw [List.getElem?_eq_none (by omega), List.getElem?_eq_none (by rw [idxC_length]; omega)]
end Go.Proofs.YtihelknkcomjpaaDoor
