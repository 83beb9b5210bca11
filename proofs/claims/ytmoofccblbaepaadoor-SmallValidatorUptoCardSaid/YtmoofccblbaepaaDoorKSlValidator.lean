import Derived.Test.YtmoofccblbaepaaDoorJLawS
import Derived.Test.YtmoofccblbaepaaDoorJSpValidator
set_option linter.unusedVariables false
set_option linter.unusedSimpArgs false
set_option linter.unnecessarySimpa false
/- The small container Validator: what is written is read, what is read is written. -/
namespace Go.Proofs.YtmoofccblbaepaaDoor
open Go.RowKit BigFrame
set_option maxRecDepth 100000
theorem encValidator_congr {f g : Nat → Int} (h : ∀ k, k < 86 → f k = g k) : encLValidator f = encLValidator g := by
  unfold encLValidator
  rw [byL_congr (f := f) (g := g) (o := 0) (n := 48) fun j hj => h (0 + j) (by omega)]
  rw [byL_congr (f := f) (g := g) (o := 48) (n := 32) fun j hj => h (48 + j) (by omega)]
  rw [h 80 (by decide)]
  rw [h 81 (by decide)]
  rw [h 82 (by decide)]
  rw [h 83 (by decide)]
  rw [h 84 (by decide)]
  rw [h 85 (by decide)]
theorem partValidator_0 (f : Nat → Int) : ((encLValidator f).drop 0).take 48 = byL f 0 48 := by
    rw [show encLValidator f = ([]) ++ ((byL f 0 48) ++ (byL f 48 32 ++ numL (f 80) ++ [if (!decide (f 81 = 0)) = true then 1 else 0] ++ numL (f 82) ++ numL (f 83) ++ numL (f 84) ++ numL (f 85))) from by simp only [encLValidator, List.append_assoc, List.nil_append, List.append_nil]]
    exact drop_take_mid _ _ _ 0 48 (by simp [numL_length, byL_length]) (by simp [numL_length, byL_length])
theorem partValidator_1 (f : Nat → Int) : ((encLValidator f).drop 48).take 32 = byL f 48 32 := by
    rw [show encLValidator f = (byL f 0 48) ++ ((byL f 48 32) ++ (numL (f 80) ++ [if (!decide (f 81 = 0)) = true then 1 else 0] ++ numL (f 82) ++ numL (f 83) ++ numL (f 84) ++ numL (f 85))) from by simp only [encLValidator, List.append_assoc, List.nil_append, List.append_nil]]
    exact drop_take_mid _ _ _ 48 32 (by simp [numL_length, byL_length]) (by simp [numL_length, byL_length])
theorem partValidator_2 (f : Nat → Int) : ((encLValidator f).drop 80).take 8 = numL (f 80) := by
    rw [show encLValidator f = (byL f 0 48 ++ byL f 48 32) ++ ((numL (f 80)) ++ ([if (!decide (f 81 = 0)) = true then 1 else 0] ++ numL (f 82) ++ numL (f 83) ++ numL (f 84) ++ numL (f 85))) from by simp only [encLValidator, List.append_assoc, List.nil_append, List.append_nil]]
    exact drop_take_mid _ _ _ 80 8 (by simp [numL_length, byL_length]) (by simp [numL_length, byL_length])
theorem partValidator_3 (f : Nat → Int) : ((encLValidator f).drop 88).take 1 = [if (!decide (f 81 = 0)) = true then 1 else 0] := by
    rw [show encLValidator f = (byL f 0 48 ++ byL f 48 32 ++ numL (f 80)) ++ (([if (!decide (f 81 = 0)) = true then 1 else 0]) ++ (numL (f 82) ++ numL (f 83) ++ numL (f 84) ++ numL (f 85))) from by simp only [encLValidator, List.append_assoc, List.nil_append, List.append_nil]]
    exact drop_take_mid _ _ _ 88 1 (by simp [numL_length, byL_length]) (by simp [numL_length, byL_length])
theorem partValidator_4 (f : Nat → Int) : ((encLValidator f).drop 89).take 8 = numL (f 82) := by
    rw [show encLValidator f = (byL f 0 48 ++ byL f 48 32 ++ numL (f 80) ++ [if (!decide (f 81 = 0)) = true then 1 else 0]) ++ ((numL (f 82)) ++ (numL (f 83) ++ numL (f 84) ++ numL (f 85))) from by simp only [encLValidator, List.append_assoc, List.nil_append, List.append_nil]]
    exact drop_take_mid _ _ _ 89 8 (by simp [numL_length, byL_length]) (by simp [numL_length, byL_length])
theorem partValidator_5 (f : Nat → Int) : ((encLValidator f).drop 97).take 8 = numL (f 83) := by
    rw [show encLValidator f = (byL f 0 48 ++ byL f 48 32 ++ numL (f 80) ++ [if (!decide (f 81 = 0)) = true then 1 else 0] ++ numL (f 82)) ++ ((numL (f 83)) ++ (numL (f 84) ++ numL (f 85))) from by simp only [encLValidator, List.append_assoc, List.nil_append, List.append_nil]]
    exact drop_take_mid _ _ _ 97 8 (by simp [numL_length, byL_length]) (by simp [numL_length, byL_length])
theorem partValidator_6 (f : Nat → Int) : ((encLValidator f).drop 105).take 8 = numL (f 84) := by
    rw [show encLValidator f = (byL f 0 48 ++ byL f 48 32 ++ numL (f 80) ++ [if (!decide (f 81 = 0)) = true then 1 else 0] ++ numL (f 82) ++ numL (f 83)) ++ ((numL (f 84)) ++ (numL (f 85))) from by simp only [encLValidator, List.append_assoc, List.nil_append, List.append_nil]]
    exact drop_take_mid _ _ _ 105 8 (by simp [numL_length, byL_length]) (by simp [numL_length, byL_length])
theorem partValidator_7 (f : Nat → Int) : ((encLValidator f).drop 113).take 8 = numL (f 85) := by
    rw [show encLValidator f = (byL f 0 48 ++ byL f 48 32 ++ numL (f 80) ++ [if (!decide (f 81 = 0)) = true then 1 else 0] ++ numL (f 82) ++ numL (f 83) ++ numL (f 84)) ++ ((numL (f 85)) ++ ([])) from by simp only [encLValidator, List.append_assoc, List.nil_append, List.append_nil]]
    exact drop_take_mid _ _ _ 113 8 (by simp [numL_length, byL_length]) (by simp [numL_length, byL_length])
theorem rdenc_Validator (f : Nat → Int) (hf : ∀ j, j < 86 → (kdValidator j).ok (f j)) (k : Nat) (hk : k < 86) : rdValidator (encLValidator f) k = f k := by
  unfold rdValidator
  by_cases c0 : k < 48
  · rw [if_pos c0]
    rw [← drop_take_get _ 0 48 (k - 0) (by omega), partValidator_0, byL_get _ _ _ _ (by omega), show 0 + (k - 0) = k by omega]
  · rw [if_neg c0]
    by_cases c1 : k < 80
    · rw [if_pos c1]
      rw [← drop_take_get _ 48 32 (k - 48) (by omega), partValidator_1, byL_get _ _ _ _ (by omega), show 48 + (k - 48) = k by omega]
    · rw [if_neg c1]
      by_cases c2 : k < 81
      · rw [if_pos c2]
        obtain rfl : k = 80 := by omega
        have hk2 : 0 ≤ f 80 ∧ f 80 ≤ 18446744073709551615 := hf 80 (by decide)
        rw [inN_at, partValidator_2]
        exact rdQ_numL _ hk2.1 hk2.2
      · rw [if_neg c2]
        by_cases c3 : k < 82
        · rw [if_pos c3]
          obtain rfl : k = 81 := by omega
          have hk2 : f 81 = 0 ∨ f 81 = 1 := hf 81 (by decide)
          rw [show 88 = 88 + 0 from rfl, ← drop_take_get _ 88 1 0 (by decide), partValidator_3]
          rcases hk2 with h | h <;> rw [h] <;> rfl
        · rw [if_neg c3]
          by_cases c4 : k < 83
          · rw [if_pos c4]
            obtain rfl : k = 82 := by omega
            have hk2 : 0 ≤ f 82 ∧ f 82 ≤ 18446744073709551615 := hf 82 (by decide)
            rw [inN_at, partValidator_4]
            exact rdQ_numL _ hk2.1 hk2.2
          · rw [if_neg c4]
            by_cases c5 : k < 84
            · rw [if_pos c5]
              obtain rfl : k = 83 := by omega
              have hk2 : 0 ≤ f 83 ∧ f 83 ≤ 18446744073709551615 := hf 83 (by decide)
              rw [inN_at, partValidator_5]
              exact rdQ_numL _ hk2.1 hk2.2
            · rw [if_neg c5]
              by_cases c6 : k < 85
              · rw [if_pos c6]
                obtain rfl : k = 84 := by omega
                have hk2 : 0 ≤ f 84 ∧ f 84 ≤ 18446744073709551615 := hf 84 (by decide)
                rw [inN_at, partValidator_6]
                exact rdQ_numL _ hk2.1 hk2.2
              · rw [if_neg c6]
                obtain rfl : k = 85 := by omega
                have hk2 : 0 ≤ f 85 ∧ f 85 ≤ 18446744073709551615 := hf 85 (by decide)
                rw [inN_at, partValidator_7]
                exact rdQ_numL _ hk2.1 hk2.2
theorem rdok_Validator {l : List Int} (hl : l.length = 121) (hok : ∀ x ∈ l, CK.ok .u8 x) (hy : l.getD 88 0 = 0 ∨ l.getD 88 0 = 1) (k : Nat) (hk : k < 86) : (kdValidator k).ok (rdValidator l k) := by
  by_cases c0 : k < 48
  · have hkd : kdValidator k = .u8 := by have h := ((by intro j hj; simp only [kdValidator]; (repeat' split) <;> first | rfl | (exfalso; omega)) : ∀ j, j < 48 → kdValidator (0 + j) = .u8) (k - 0) (by omega); rwa [show 0 + (k - 0) = k by omega] at h
    rw [hkd]
    unfold rdValidator; rw [if_pos c0]
    exact list_isB hok _
  by_cases c1 : k < 80
  · have hkd : kdValidator k = .u8 := by have h := ((by intro j hj; simp only [kdValidator]; (repeat' split) <;> first | rfl | (exfalso; omega)) : ∀ j, j < 32 → kdValidator (48 + j) = .u8) (k - 48) (by omega); rwa [show 48 + (k - 48) = k by omega] at h
    rw [hkd]
    unfold rdValidator; rw [if_neg c0, if_pos c1]
    exact list_isB hok _
  by_cases c2 : k < 81
  · obtain rfl : k = 80 := by omega
    unfold rdValidator; rw [if_neg c0, if_neg c1, if_pos c2]
    rw [inN_at]
    exact rdQ_ok _ (part_len l 80 8 121 hl (by decide)) (take_ok hok _ _)
  by_cases c3 : k < 82
  · obtain rfl : k = 81 := by omega
    unfold rdValidator; rw [if_neg c0, if_neg c1, if_neg c2, if_pos c3]
    exact hy
  by_cases c4 : k < 83
  · obtain rfl : k = 82 := by omega
    unfold rdValidator; rw [if_neg c0, if_neg c1, if_neg c2, if_neg c3, if_pos c4]
    rw [inN_at]
    exact rdQ_ok _ (part_len l 89 8 121 hl (by decide)) (take_ok hok _ _)
  by_cases c5 : k < 84
  · obtain rfl : k = 83 := by omega
    unfold rdValidator; rw [if_neg c0, if_neg c1, if_neg c2, if_neg c3, if_neg c4, if_pos c5]
    rw [inN_at]
    exact rdQ_ok _ (part_len l 97 8 121 hl (by decide)) (take_ok hok _ _)
  by_cases c6 : k < 85
  · obtain rfl : k = 84 := by omega
    unfold rdValidator; rw [if_neg c0, if_neg c1, if_neg c2, if_neg c3, if_neg c4, if_neg c5, if_pos c6]
    rw [inN_at]
    exact rdQ_ok _ (part_len l 105 8 121 hl (by decide)) (take_ok hok _ _)
  obtain rfl : k = 85 := by omega
  unfold rdValidator; rw [if_neg c0, if_neg c1, if_neg c2, if_neg c3, if_neg c4, if_neg c5, if_neg c6]
  rw [inN_at]
  exact rdQ_ok _ (part_len l 113 8 121 hl (by decide)) (take_ok hok _ _)
theorem encrd_Validator (l : List Int) (hl : l.length = 121) (hok : ∀ x ∈ l, CK.ok .u8 x) (hy : l.getD 88 0 = 0 ∨ l.getD 88 0 = 1) : encLValidator (rdValidator l) = l := by
  have h0 : byL (rdValidator l) 0 48 = (l.drop 0).take 48 := byL_rd _ l 0 0 48 (fun j hj => by unfold rdValidator; (repeat' split) <;> first | (exfalso; omega) | (congr 1 <;> omega)) (by omega)
  have h1 : byL (rdValidator l) 48 32 = (l.drop 48).take 32 := byL_rd _ l 48 48 32 (fun j hj => by unfold rdValidator; (repeat' split) <;> first | (exfalso; omega) | (congr 1 <;> omega)) (by omega)
  have h2 : numL (rdValidator l 80) = (l.drop 80).take 8 := (congrArg numL (inN_at l 80)).trans (numL_rdQ _ (part_len l 80 8 121 hl (by decide)) (take_ok hok _ _))
  have h3 : [if (!decide (rdValidator l 81 = 0)) = true then (1 : Int) else 0] = (l.drop 88).take 1 := by
    have e : rdValidator l 81 = l.getD 88 0 := rfl
    have e2 : (l.drop 88).take 1 = [l.getD 88 0] := by
      have h3 := part_len l 88 1 121 hl (by decide)
      have h4 := drop_take_get l 88 1 0 (by decide)
      generalize (l.drop 88).take 1 = q at *
      match q, h3 with
      | [y], _ => rw [show l.getD 88 0 = l.getD (88 + 0) 0 from rfl, ← h4]; rfl
    rw [e, e2]
    rcases hy with h | h <;> rw [h] <;> rfl
  have h4 : numL (rdValidator l 82) = (l.drop 89).take 8 := (congrArg numL (inN_at l 89)).trans (numL_rdQ _ (part_len l 89 8 121 hl (by decide)) (take_ok hok _ _))
  have h5 : numL (rdValidator l 83) = (l.drop 97).take 8 := (congrArg numL (inN_at l 97)).trans (numL_rdQ _ (part_len l 97 8 121 hl (by decide)) (take_ok hok _ _))
  have h6 : numL (rdValidator l 84) = (l.drop 105).take 8 := (congrArg numL (inN_at l 105)).trans (numL_rdQ _ (part_len l 105 8 121 hl (by decide)) (take_ok hok _ _))
  have h7 : numL (rdValidator l 85) = (l.drop 113).take 8 := (congrArg numL (inN_at l 113)).trans (numL_rdQ _ (part_len l 113 8 121 hl (by decide)) (take_ok hok _ _))
  unfold encLValidator
  rw [h0, h1, h2, h3, h4, h5, h6, h7]
  try simp only [List.append_assoc]
  rw [cat_end l 113 8 (by omega), cat_next l 105 8 113 (by decide), cat_next l 97 8 105 (by decide), cat_next l 89 8 97 (by decide), cat_next l 88 1 89 (by decide), cat_next l 80 8 88 (by decide), cat_next l 48 32 80 (by decide), cat_next l 0 48 48 (by decide)]
  rfl
end Go.Proofs.YtmoofccblbaepaaDoor
