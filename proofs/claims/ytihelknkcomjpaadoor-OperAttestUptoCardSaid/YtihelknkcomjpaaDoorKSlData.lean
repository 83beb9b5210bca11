/- The small container Data: what is written is read, what is read is written. -/
import Derived.Test.YtihelknkcomjpaaDoorJLawS
import Derived.Test.YtihelknkcomjpaaDoorKSpData
import Derived.Test.YtihelknkcomjpaaDoorKSlCheckpoint
set_option linter.unusedVariables false
set_option linter.unusedSimpArgs false
set_option linter.unnecessarySimpa false
namespace Go.Proofs.YtihelknkcomjpaaDoor
open Go.RowKit BigFrame
set_option maxRecDepth 100000
theorem partData_0 (f : Nat → Int) : ((encLData f).drop 0).take 8 = numL (f 0) := by
    rw [show encLData f = ([]) ++ ((numL (f 0)) ++ (numL (f 1) ++ byL f 2 32 ++ (encLCheckpoint (shF f 34)) ++ (encLCheckpoint (shF f 67)))) from by simp only [encLData, List.append_assoc, List.nil_append, List.append_nil]]
    exact drop_take_mid _ _ _ 0 8 (by simp [numL_length, byL_length, encCheckpoint_length]) (by simp [numL_length, byL_length, encCheckpoint_length])
theorem partData_1 (f : Nat → Int) : ((encLData f).drop 8).take 8 = numL (f 1) := by
    rw [show encLData f = (numL (f 0)) ++ ((numL (f 1)) ++ (byL f 2 32 ++ (encLCheckpoint (shF f 34)) ++ (encLCheckpoint (shF f 67)))) from by simp only [encLData, List.append_assoc, List.nil_append, List.append_nil]]
    exact drop_take_mid _ _ _ 8 8 (by simp [numL_length, byL_length, encCheckpoint_length]) (by simp [numL_length, byL_length, encCheckpoint_length])
theorem partData_2 (f : Nat → Int) : ((encLData f).drop 16).take 32 = byL f 2 32 := by
    rw [show encLData f = (numL (f 0) ++ numL (f 1)) ++ ((byL f 2 32) ++ ((encLCheckpoint (shF f 34)) ++ (encLCheckpoint (shF f 67)))) from by simp only [encLData, List.append_assoc, List.nil_append, List.append_nil]]
    exact drop_take_mid _ _ _ 16 32 (by simp [numL_length, byL_length, encCheckpoint_length]) (by simp [numL_length, byL_length, encCheckpoint_length])
theorem partData_3 (f : Nat → Int) : ((encLData f).drop 48).take 40 = encLCheckpoint (shF f 34) := by
    rw [show encLData f = (numL (f 0) ++ numL (f 1) ++ byL f 2 32) ++ ((encLCheckpoint (shF f 34)) ++ ((encLCheckpoint (shF f 67)))) from by simp only [encLData, List.append_assoc, List.nil_append, List.append_nil]]
    exact drop_take_mid _ _ _ 48 40 (by simp [numL_length, byL_length, encCheckpoint_length]) (by simp [numL_length, byL_length, encCheckpoint_length])
theorem partData_4 (f : Nat → Int) : ((encLData f).drop 88).take 40 = encLCheckpoint (shF f 67) := by
    rw [show encLData f = (numL (f 0) ++ numL (f 1) ++ byL f 2 32 ++ encLCheckpoint (shF f 34)) ++ ((encLCheckpoint (shF f 67)) ++ ([])) from by simp only [encLData, List.append_assoc, List.nil_append, List.append_nil]]
    exact drop_take_mid _ _ _ 88 40 (by simp [numL_length, byL_length, encCheckpoint_length]) (by simp [numL_length, byL_length, encCheckpoint_length])
theorem rdenc_Data (f : Nat → Int) (hf : ∀ j, j < 100 → (kdData j).ok (f j)) (k : Nat) (hk : k < 100) : rdData (encLData f) k = f k := by
  unfold rdData
  by_cases c0 : k < 1
  · rw [if_pos c0]
    obtain rfl : k = 0 := by omega
    have hk2 : 0 ≤ f 0 ∧ f 0 ≤ 18446744073709551615 := hf 0 (by decide)
    rw [inN_at, partData_0]
    exact rdQ_numL _ hk2.1 hk2.2
  · rw [if_neg c0]
    by_cases c1 : k < 2
    · rw [if_pos c1]
      obtain rfl : k = 1 := by omega
      have hk2 : 0 ≤ f 1 ∧ f 1 ≤ 18446744073709551615 := hf 1 (by decide)
      rw [inN_at, partData_1]
      exact rdQ_numL _ hk2.1 hk2.2
    · rw [if_neg c1]
      by_cases c2 : k < 34
      · rw [if_pos c2]
        rw [← drop_take_get _ 16 32 (k - 2) (by omega), partData_2, byL_get _ _ _ _ (by omega), show 2 + (k - 2) = k by omega]
      · rw [if_neg c2]
        by_cases c3 : k < 67
        · rw [if_pos c3]
          rw [partData_3, rdenc_Checkpoint _ (sub_ok hf (by intro j hj; simp only [kdData, kdCheckpoint]; (repeat' split) <;> first | rfl | (exfalso; omega)) (by decide)) (k - 34) (by omega)]
          show f (34 + (k - 34)) = f k
          rw [show 34 + (k - 34) = k by omega]
        · rw [if_neg c3]
          rw [partData_4, rdenc_Checkpoint _ (sub_ok hf (by intro j hj; simp only [kdData, kdCheckpoint]; (repeat' split) <;> first | rfl | (exfalso; omega)) (by decide)) (k - 67) (by omega)]
          show f (67 + (k - 67)) = f k
          rw [show 67 + (k - 67) = k by omega]
theorem rdok_Data {l : List Int} (hl : l.length = 128) (hok : ∀ x ∈ l, CK.ok .u8 x) (k : Nat) (hk : k < 100) : (kdData k).ok (rdData l k) := by
  by_cases c0 : k < 1
  · obtain rfl : k = 0 := by omega
    unfold rdData; rw [if_pos c0]
    rw [inN_at]
    exact rdQ_ok _ (part_len l 0 8 128 hl (by decide)) (take_ok hok _ _)
  by_cases c1 : k < 2
  · obtain rfl : k = 1 := by omega
    unfold rdData; rw [if_neg c0, if_pos c1]
    rw [inN_at]
    exact rdQ_ok _ (part_len l 8 8 128 hl (by decide)) (take_ok hok _ _)
  by_cases c2 : k < 34
  · have hkd : kdData k = .u8 := by have h := ((by intro j hj; simp only [kdData]; (repeat' split) <;> first | rfl | (exfalso; omega)) : ∀ j, j < 32 → kdData (2 + j) = .u8) (k - 2) (by omega); rwa [show 2 + (k - 2) = k by omega] at h
    rw [hkd]
    unfold rdData; rw [if_neg c0, if_neg c1, if_pos c2]
    exact list_isB hok _
  by_cases c3 : k < 67
  · have hkd : kdData k = kdCheckpoint (k - 34) := by have h := ((by intro j hj; simp only [kdData, kdCheckpoint]; (repeat' split) <;> first | rfl | (exfalso; omega)) : ∀ j, j < 33 → kdData (34 + j) = kdCheckpoint j) (k - 34) (by omega); rwa [show 34 + (k - 34) = k by omega] at h
    rw [hkd]
    unfold rdData; rw [if_neg c0, if_neg c1, if_neg c2, if_pos c3]
    exact rdok_Checkpoint (part_len l 48 40 128 hl (by decide)) (take_ok hok _ _) (k - 34) (by omega)
  have hkd : kdData k = kdCheckpoint (k - 67) := by have h := ((by intro j hj; simp only [kdData, kdCheckpoint]; (repeat' split) <;> first | rfl | (exfalso; omega)) : ∀ j, j < 33 → kdData (67 + j) = kdCheckpoint j) (k - 67) (by omega); rwa [show 67 + (k - 67) = k by omega] at h
  rw [hkd]
  unfold rdData; rw [if_neg c0, if_neg c1, if_neg c2, if_neg c3]
  exact rdok_Checkpoint (part_len l 88 40 128 hl (by decide)) (take_ok hok _ _) (k - 67) (by omega)
theorem encrd_Data (l : List Int) (hl : l.length = 128) (hok : ∀ x ∈ l, CK.ok .u8 x) : encLData (rdData l) = l := by
  have h0 : numL (rdData l 0) = (l.drop 0).take 8 := (congrArg numL (inN_at l 0)).trans (numL_rdQ _ (part_len l 0 8 128 hl (by decide)) (take_ok hok _ _))
  have h1 : numL (rdData l 1) = (l.drop 8).take 8 := (congrArg numL (inN_at l 8)).trans (numL_rdQ _ (part_len l 8 8 128 hl (by decide)) (take_ok hok _ _))
  have h2 : byL (rdData l) 2 32 = (l.drop 16).take 32 := byL_rd _ l 2 16 32 (fun j hj => by unfold rdData; (repeat' split) <;> first | (exfalso; omega) | (congr 1 <;> omega)) (by omega)
  have h3 : encLCheckpoint (shF (rdData l) 34) = (l.drop 48).take 40 := by
    rw [encCheckpoint_congr (g := rdCheckpoint ((l.drop 48).take 40)) fun j hj => by
      show rdData l (34 + j) = _
      simp only [rdData]; (repeat' split) <;> first | (exfalso; omega) | (congr 1 <;> omega)]
    exact encrd_Checkpoint _ (part_len l 48 40 128 hl (by decide)) (take_ok hok _ _)
  have h4 : encLCheckpoint (shF (rdData l) 67) = (l.drop 88).take 40 := by
    rw [encCheckpoint_congr (g := rdCheckpoint ((l.drop 88).take 40)) fun j hj => by
      show rdData l (67 + j) = _
      simp only [rdData]; (repeat' split) <;> first | (exfalso; omega) | (congr 1 <;> omega)]
    exact encrd_Checkpoint _ (part_len l 88 40 128 hl (by decide)) (take_ok hok _ _)
  unfold encLData
  rw [h0, h1, h2, h3, h4]
  try simp only [List.append_assoc]
  rw [cat_end l 88 40 (by omega), cat_next l 48 40 88 (by decide), cat_next l 16 32 48 (by decide), cat_next l 8 8 16 (by decide), cat_next l 0 8 8 (by decide)]
  rfl
end Go.Proofs.YtihelknkcomjpaaDoor
