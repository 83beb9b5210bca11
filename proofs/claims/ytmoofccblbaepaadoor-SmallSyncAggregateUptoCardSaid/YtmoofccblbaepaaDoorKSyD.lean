import Derived.Test.YtmoofccblbaepaaDoorJLawS
import Derived.Test.YtmoofccblbaepaaDoorKSyB
set_option linter.unusedVariables false
set_option linter.unusedSimpArgs false
set_option linter.unnecessarySimpa false
/- The sync aggregate: what is written is read, what is read is written. -/
namespace Go.Proofs.YtmoofccblbaepaaDoor
open Go.RowKit BigFrame
set_option maxRecDepth 100000
theorem bitN_sum (f : Nat → Int) (h : ∀ j, j < 8 → f j = 0 ∨ f j = 1) : bitN (byL f 0 8) 8 = f 0 + 2 * f 1 + 4 * f 2 + 8 * f 3 + 16 * f 4 + 32 * f 5 + 64 * f 6 + 128 * f 7 := by
  have g : ∀ j, j < 8 → (if (byL f 0 8).getD j 0 = 0 then (0 : Int) else 2 ^ j) = 2 ^ j * f j := fun j hj => by
    rw [byL_get _ _ _ _ hj, Nat.zero_add]
    rcases h j hj with e | e <;> rw [e]
    · rw [if_pos rfl, Int.mul_zero]
    · rw [if_neg (by decide), Int.mul_one]
  simp only [bitN]
  rw [g 0 (by decide), g 1 (by decide), g 2 (by decide), g 3 (by decide), g 4 (by decide), g 5 (by decide), g 6 (by decide), g 7 (by decide)]
  omega
theorem bits_of (f : Nat → Int) (h : ∀ j, j < 8 → f j = 0 ∨ f j = 1) (k : Nat) (hk : k < 8) : bitV (bitB f) k = f k := by
  unfold bitB
  rw [bitN_sum f h]
  have h0 := h 0 (by decide)
  have h1 := h 1 (by decide)
  have h2 := h 2 (by decide)
  have h3 := h 3 (by decide)
  have h4 := h 4 (by decide)
  have h5 := h 5 (by decide)
  have h6 := h 6 (by decide)
  have h7 := h 7 (by decide)
  clear h
  rcases eight hk with rfl | rfl | rfl | rfl | rfl | rfl | rfl | rfl
  all_goals unfold bitV
  all_goals generalize f 0 = a0 at *
  all_goals generalize f 1 = a1 at *
  all_goals generalize f 2 = a2 at *
  all_goals generalize f 3 = a3 at *
  all_goals generalize f 4 = a4 at *
  all_goals generalize f 5 = a5 at *
  all_goals generalize f 6 = a6 at *
  all_goals generalize f 7 = a7 at *
  all_goals have b0 : 0 ≤ a0 ∧ a0 ≤ 1 := by omega
  all_goals have b1 : 0 ≤ a1 ∧ a1 ≤ 1 := by omega
  all_goals have b2 : 0 ≤ a2 ∧ a2 ≤ 1 := by omega
  all_goals have b3 : 0 ≤ a3 ∧ a3 ≤ 1 := by omega
  all_goals have b4 : 0 ≤ a4 ∧ a4 ≤ 1 := by omega
  all_goals have b5 : 0 ≤ a5 ∧ a5 ≤ 1 := by omega
  all_goals have b6 : 0 ≤ a6 ∧ a6 ≤ 1 := by omega
  all_goals have b7 : 0 ≤ a7 ∧ a7 ≤ 1 := by omega
  all_goals clear h0 h1 h2 h3 h4 h5 h6 h7
  · show _ / 1 % 2 = a0
    omega
  · show _ / 2 % 2 = a1
    omega
  · show _ / 4 % 2 = a2
    omega
  · show _ / 8 % 2 = a3
    omega
  · show _ / 16 % 2 = a4
    omega
  · show _ / 32 % 2 = a5
    omega
  · show _ / 64 % 2 = a6
    omega
  · show _ / 128 % 2 = a7
    omega
theorem of_bits (y : Int) (h0 : 0 ≤ y) (h1 : y ≤ 255) (f : Nat → Int) (hf : ∀ j, j < 8 → f j = bitV y j) : bitB f = y := by
  unfold bitB
  rw [bitN_sum f (fun j hj => by rw [hf j hj]; exact bitV_or y j), hf 0 (by decide), hf 1 (by decide), hf 2 (by decide), hf 3 (by decide), hf 4 (by decide), hf 5 (by decide), hf 6 (by decide), hf 7 (by decide)]
  unfold bitV
  show y / 1 % 2 + 2 * (y / 2 % 2) + 4 * (y / 4 % 2) + 8 * (y / 8 % 2) + 16 * (y / 16 % 2) + 32 * (y / 32 % 2) + 64 * (y / 64 % 2) + 128 * (y / 128 % 2) = y
  omega
theorem rdenc_SyncAggregate (f : Nat → Int) (hf : ∀ j, j < 104 → (kdSyncAggregate j).ok (f j)) (k : Nat) (hk : k < 104) : rdSyncAggregate (encLSyncAggregate f) k = f k := by
  unfold rdSyncAggregate
  by_cases c : k < 8
  · rw [if_pos c]
    have e : (encLSyncAggregate f).getD 0 0 = bitB f := rfl
    rw [e]
    exact bits_of f (fun j hj => by have := hf j (by omega); unfold kdSyncAggregate at this; rw [if_pos hj] at this; exact this) k c
  · rw [if_neg c]
    have e : (encLSyncAggregate f).getD (1 + (k - 8)) 0 = (byL f 8 96).getD (k - 8) 0 := by
      unfold encLSyncAggregate
      simp only [List.getD]
      rw [List.getElem?_append_right (by simp)]
      simp
    rw [e, byL_get _ _ _ _ (by omega), show 8 + (k - 8) = k by omega]
theorem rdok_SyncAggregate {l : List Int} (hl : l.length = 97) (hok : ∀ x ∈ l, CK.ok .u8 x) (k : Nat) (hk : k < 104) : (kdSyncAggregate k).ok (rdSyncAggregate l k) := by
  unfold rdSyncAggregate kdSyncAggregate
  by_cases c : k < 8
  · rw [if_pos c, if_pos c]
    exact bitV_or _ _
  · rw [if_neg c, if_neg c]
    exact ok_get hok (by omega)
theorem encrd_SyncAggregate (l : List Int) (hl : l.length = 97) (hok : ∀ x ∈ l, CK.ok .u8 x) : encLSyncAggregate (rdSyncAggregate l) = l := by
  have hy : CK.ok .u8 (l.getD 0 0) := ok_get hok (by omega)
  unfold encLSyncAggregate
  rw [of_bits (l.getD 0 0) hy.1 hy.2 _ (fun j hj => by unfold rdSyncAggregate; rw [if_pos hj]), byL_rd (rdSyncAggregate l) l 8 1 96 (fun j hj => by unfold rdSyncAggregate; rw [if_neg (by omega)]; congr 1; omega) (by omega)]
  cases l with
  | nil => simp at hl
  | cons a l =>
    simp only [List.length_cons] at hl
    simp [List.take_of_length_le (show l.length ≤ 96 by omega)]
end Go.Proofs.YtmoofccblbaepaaDoor
