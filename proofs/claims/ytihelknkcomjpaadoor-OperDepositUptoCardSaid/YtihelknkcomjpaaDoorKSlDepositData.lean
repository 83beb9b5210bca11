/- The small container DepositData: what is written is read, what is read is written. -/
import Derived.Test.YtihelknkcomjpaaDoorJLawS
import Derived.Test.YtihelknkcomjpaaDoorKSpDepositData
set_option linter.unusedVariables false
set_option linter.unusedSimpArgs false
set_option linter.unnecessarySimpa false
namespace Go.Proofs.YtihelknkcomjpaaDoor
open Go.RowKit BigFrame
set_option maxRecDepth 100000
theorem encDepositData_congr {f g : Nat → Int} (h : ∀ k, k < 177 → f k = g k) : encLDepositData f = encLDepositData g := by
  unfold encLDepositData
  rw [byL_congr (f := f) (g := g) (o := 0) (n := 48) fun j hj => h (0 + j) (by omega)]
  rw [byL_congr (f := f) (g := g) (o := 48) (n := 32) fun j hj => h (48 + j) (by omega)]
  rw [h 80 (by decide)]
  rw [byL_congr (f := f) (g := g) (o := 81) (n := 96) fun j hj => h (81 + j) (by omega)]
theorem partDepositData_0 (f : Nat → Int) : ((encLDepositData f).drop 0).take 48 = byL f 0 48 := by
    rw [show encLDepositData f = ([]) ++ ((byL f 0 48) ++ (byL f 48 32 ++ numL (f 80) ++ byL f 81 96)) from by simp only [encLDepositData, List.append_assoc, List.nil_append, List.append_nil]]
    exact drop_take_mid _ _ _ 0 48 (by simp [numL_length, byL_length]) (by simp [numL_length, byL_length])
theorem partDepositData_1 (f : Nat → Int) : ((encLDepositData f).drop 48).take 32 = byL f 48 32 := by
    rw [show encLDepositData f = (byL f 0 48) ++ ((byL f 48 32) ++ (numL (f 80) ++ byL f 81 96)) from by simp only [encLDepositData, List.append_assoc, List.nil_append, List.append_nil]]
    exact drop_take_mid _ _ _ 48 32 (by simp [numL_length, byL_length]) (by simp [numL_length, byL_length])
theorem partDepositData_2 (f : Nat → Int) : ((encLDepositData f).drop 80).take 8 = numL (f 80) := by
    rw [show encLDepositData f = (byL f 0 48 ++ byL f 48 32) ++ ((numL (f 80)) ++ (byL f 81 96)) from by simp only [encLDepositData, List.append_assoc, List.nil_append, List.append_nil]]
    exact drop_take_mid _ _ _ 80 8 (by simp [numL_length, byL_length]) (by simp [numL_length, byL_length])
theorem partDepositData_3 (f : Nat → Int) : ((encLDepositData f).drop 88).take 96 = byL f 81 96 := by
    rw [show encLDepositData f = (byL f 0 48 ++ byL f 48 32 ++ numL (f 80)) ++ ((byL f 81 96) ++ ([])) from by simp only [encLDepositData, List.append_assoc, List.nil_append, List.append_nil]]
    exact drop_take_mid _ _ _ 88 96 (by simp [numL_length, byL_length]) (by simp [numL_length, byL_length])
theorem rdenc_DepositData (f : Nat → Int) (hf : ∀ j, j < 177 → (kdDepositData j).ok (f j)) (k : Nat) (hk : k < 177) : rdDepositData (encLDepositData f) k = f k := by
  unfold rdDepositData
  by_cases c0 : k < 48
  · rw [if_pos c0]
    rw [← drop_take_get _ 0 48 (k - 0) (by omega), partDepositData_0, byL_get _ _ _ _ (by omega), show 0 + (k - 0) = k by omega]
  · rw [if_neg c0]
    by_cases c1 : k < 80
    · rw [if_pos c1]
      rw [← drop_take_get _ 48 32 (k - 48) (by omega), partDepositData_1, byL_get _ _ _ _ (by omega), show 48 + (k - 48) = k by omega]
    · rw [if_neg c1]
      by_cases c2 : k < 81
      · rw [if_pos c2]
        obtain rfl : k = 80 := by omega
        have hk2 : 0 ≤ f 80 ∧ f 80 ≤ 18446744073709551615 := hf 80 (by decide)
        rw [inN_at, partDepositData_2]
        exact rdQ_numL _ hk2.1 hk2.2
      · rw [if_neg c2]
        rw [← drop_take_get _ 88 96 (k - 81) (by omega), partDepositData_3, byL_get _ _ _ _ (by omega), show 81 + (k - 81) = k by omega]
theorem rdok_DepositData {l : List Int} (hl : l.length = 184) (hok : ∀ x ∈ l, CK.ok .u8 x) (k : Nat) (hk : k < 177) : (kdDepositData k).ok (rdDepositData l k) := by
  by_cases c0 : k < 48
  · have hkd : kdDepositData k = .u8 := by have h := ((by intro j hj; simp only [kdDepositData]; (repeat' split) <;> first | rfl | (exfalso; omega)) : ∀ j, j < 48 → kdDepositData (0 + j) = .u8) (k - 0) (by omega); rwa [show 0 + (k - 0) = k by omega] at h
    rw [hkd]
    unfold rdDepositData; rw [if_pos c0]
    exact list_isB hok _
  by_cases c1 : k < 80
  · have hkd : kdDepositData k = .u8 := by have h := ((by intro j hj; simp only [kdDepositData]; (repeat' split) <;> first | rfl | (exfalso; omega)) : ∀ j, j < 32 → kdDepositData (48 + j) = .u8) (k - 48) (by omega); rwa [show 48 + (k - 48) = k by omega] at h
    rw [hkd]
    unfold rdDepositData; rw [if_neg c0, if_pos c1]
    exact list_isB hok _
  by_cases c2 : k < 81
  · obtain rfl : k = 80 := by omega
    unfold rdDepositData; rw [if_neg c0, if_neg c1, if_pos c2]
    rw [inN_at]
    exact rdQ_ok _ (part_len l 80 8 184 hl (by decide)) (take_ok hok _ _)
  have hkd : kdDepositData k = .u8 := by have h := ((by intro j hj; simp only [kdDepositData]; (repeat' split) <;> first | rfl | (exfalso; omega)) : ∀ j, j < 96 → kdDepositData (81 + j) = .u8) (k - 81) (by omega); rwa [show 81 + (k - 81) = k by omega] at h
  rw [hkd]
  unfold rdDepositData; rw [if_neg c0, if_neg c1, if_neg c2]
  exact list_isB hok _
theorem encrd_DepositData (l : List Int) (hl : l.length = 184) (hok : ∀ x ∈ l, CK.ok .u8 x) : encLDepositData (rdDepositData l) = l := by
  have h0 : byL (rdDepositData l) 0 48 = (l.drop 0).take 48 := byL_rd _ l 0 0 48 (fun j hj => by unfold rdDepositData; (repeat' split) <;> first | (exfalso; omega) | (congr 1 <;> omega)) (by omega)
  have h1 : byL (rdDepositData l) 48 32 = (l.drop 48).take 32 := byL_rd _ l 48 48 32 (fun j hj => by unfold rdDepositData; (repeat' split) <;> first | (exfalso; omega) | (congr 1 <;> omega)) (by omega)
  have h2 : numL (rdDepositData l 80) = (l.drop 80).take 8 := (congrArg numL (inN_at l 80)).trans (numL_rdQ _ (part_len l 80 8 184 hl (by decide)) (take_ok hok _ _))
  have h3 : byL (rdDepositData l) 81 96 = (l.drop 88).take 96 := byL_rd _ l 81 88 96 (fun j hj => by unfold rdDepositData; (repeat' split) <;> first | (exfalso; omega) | (congr 1 <;> omega)) (by omega)
  unfold encLDepositData
  rw [h0, h1, h2, h3]
  try simp only [List.append_assoc]
  rw [cat_end l 88 96 (by omega), cat_next l 80 8 88 (by decide), cat_next l 48 32 80 (by decide), cat_next l 0 48 48 (by decide)]
  rfl
end Go.Proofs.YtihelknkcomjpaaDoor
