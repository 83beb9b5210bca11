import Derived.Test.YtmoofccblbaepaaDoorJLawS
import Derived.Test.YtmoofccblbaepaaDoorKScE
set_option linter.unusedVariables false
set_option linter.unusedSimpArgs false
set_option linter.unnecessarySimpa false
/- The committee: what is written is read, what is read is written. -/
namespace Go.Proofs.YtmoofccblbaepaaDoor
open Go.RowKit BigFrame
set_option maxRecDepth 100000
theorem rdenc_Committee (f : Nat → Int) (_ : ∀ j, j < 432 → (kdCommittee j).ok (f j)) (k : Nat) (hk : k < 432) : rdCommittee (encLCommittee f) k = f k := by
  unfold rdCommittee encLCommittee
  rw [byL_get _ _ _ _ hk, Nat.zero_add]
theorem rdok_Committee {l : List Int} (hl : l.length = 432) (hok : ∀ x ∈ l, CK.ok .u8 x) (k : Nat) (hk : k < 432) : (kdCommittee k).ok (rdCommittee l k) := by
  have h : l[k]? = some (l[k]'(by omega)) := List.getElem?_eq_getElem (by omega)
  unfold rdCommittee
  simp only [List.getD, h]
  exact hok _ (List.getElem_mem _)
theorem encrd_Committee (l : List Int) (hl : l.length = 432) (_ : ∀ x ∈ l, CK.ok .u8 x) : encLCommittee (rdCommittee l) = l := by
  unfold encLCommittee
  rw [byL_rd (rdCommittee l) l 0 0 432 (fun j _ => rfl) (by omega), List.drop_zero, List.take_of_length_le (by omega)]
end Go.Proofs.YtmoofccblbaepaaDoor
