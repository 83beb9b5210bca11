/- Plain words on lists of which all are right. -/
import Derived.Test.YtfnjcpopadpmbaaDoorJG
set_option linter.unusedVariables false
set_option linter.unusedSimpArgs false
set_option linter.unnecessarySimpa false
namespace Go.Proofs.YtfnjcpopadpmbaaDoor
open Go.RowKit
theorem slash_k (i : Nat) (hi : i < 8) : stK (979 + i) = some .u64 := by
  rcases (show i = 0 ∨ i = 1 ∨ i = 2 ∨ i = 3 ∨ i = 4 ∨ i = 5 ∨ i = 6 ∨ i = 7 by omega) with rfl | rfl | rfl | rfl | rfl | rfl | rfl | rfl <;> rfl
theorem take_all {α : Type} (p : α → Bool) (l : List α) (k : Nat) (h : k < l.length) : (l.take (k + 1)).all p = ((l.take k).all p && p l[k]) := by
  rw [List.take_succ_eq_append_getElem h, List.all_append]
  simp
theorem all_bad {α : Type} (p : α → Bool) (l : List α) (k : Nat) (h : k < l.length) (hb : p l[k] = false) : l.all p = false := by
  rw [List.all_eq_false]
  exact ⟨l[k], List.getElem_mem h, by simp [hb]⟩
/-- The epochs of a validator. -/
def ep (f : Nat → Int) (j : Nat) : Int := f (82 + j)
end Go.Proofs.YtfnjcpopadpmbaaDoor
