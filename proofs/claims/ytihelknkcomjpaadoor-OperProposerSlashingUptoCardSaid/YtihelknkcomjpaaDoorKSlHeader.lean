/- The small container Header: what is written is read, what is read is written. -/
import Derived.Test.YtihelknkcomjpaaDoorJLawS
import Derived.Test.YtihelknkcomjpaaDoorKSpHeader
set_option linter.unusedVariables false
set_option linter.unusedSimpArgs false
set_option linter.unnecessarySimpa false
namespace Go.Proofs.YtihelknkcomjpaaDoor
open Go.RowKit BigFrame
set_option maxRecDepth 100000
theorem encHeader_congr {f g : Nat → Int} (h : ∀ k, k < 98 → f k = g k) : encLHeader f = encLHeader g := by
  unfold encLHeader
  rw [h 0 (by decide)]
  rw [h 1 (by decide)]
  rw [byL_congr (f := f) (g := g) (o := 2) (n := 32) fun j hj => h (2 + j) (by omega)]
  rw [byL_congr (f := f) (g := g) (o := 34) (n := 32) fun j hj => h (34 + j) (by omega)]
  rw [byL_congr (f := f) (g := g) (o := 66) (n := 32) fun j hj => h (66 + j) (by omega)]
theorem partHeader_0 (f : Nat → Int) : ((encLHeader f).drop 0).take 8 = numL (f 0) := by
    rw [show encLHeader f = ([]) ++ ((numL (f 0)) ++ (numL (f 1) ++ byL f 2 32 ++ byL f 34 32 ++ byL f 66 32)) from by simp only [encLHeader, List.append_assoc, List.nil_append, List.append_nil]]
    exact drop_take_mid _ _ _ 0 8 (by simp [numL_length, byL_length]) (by simp [numL_length, byL_length])
theorem partHeader_1 (f : Nat → Int) : ((encLHeader f).drop 8).take 8 = numL (f 1) := by
    rw [show encLHeader f = (numL (f 0)) ++ ((numL (f 1)) ++ (byL f 2 32 ++ byL f 34 32 ++ byL f 66 32)) from by simp only [encLHeader, List.append_assoc, List.nil_append, List.append_nil]]
    exact drop_take_mid _ _ _ 8 8 (by simp [numL_length, byL_length]) (by simp [numL_length, byL_length])
theorem partHeader_2 (f : Nat → Int) : ((encLHeader f).drop 16).take 32 = byL f 2 32 := by
    rw [show encLHeader f = (numL (f 0) ++ numL (f 1)) ++ ((byL f 2 32) ++ (byL f 34 32 ++ byL f 66 32)) from by simp only [encLHeader, List.append_assoc, List.nil_append, List.append_nil]]
    exact drop_take_mid _ _ _ 16 32 (by simp [numL_length, byL_length]) (by simp [numL_length, byL_length])
theorem partHeader_3 (f : Nat → Int) : ((encLHeader f).drop 48).take 32 = byL f 34 32 := by
    rw [show encLHeader f = (numL (f 0) ++ numL (f 1) ++ byL f 2 32) ++ ((byL f 34 32) ++ (byL f 66 32)) from by simp only [encLHeader, List.append_assoc, List.nil_append, List.append_nil]]
    exact drop_take_mid _ _ _ 48 32 (by simp [numL_length, byL_length]) (by simp [numL_length, byL_length])
theorem partHeader_4 (f : Nat → Int) : ((encLHeader f).drop 80).take 32 = byL f 66 32 := by
    rw [show encLHeader f = (numL (f 0) ++ numL (f 1) ++ byL f 2 32 ++ byL f 34 32) ++ ((byL f 66 32) ++ ([])) from by simp only [encLHeader, List.append_assoc, List.nil_append, List.append_nil]]
    exact drop_take_mid _ _ _ 80 32 (by simp [numL_length, byL_length]) (by simp [numL_length, byL_length])
theorem rdenc_Header (f : Nat → Int) (hf : ∀ j, j < 98 → (kdHeader j).ok (f j)) (k : Nat) (hk : k < 98) : rdHeader (encLHeader f) k = f k := by
  unfold rdHeader
  by_cases c0 : k < 1
  · rw [if_pos c0]
    obtain rfl : k = 0 := by omega
    have hk2 : 0 ≤ f 0 ∧ f 0 ≤ 18446744073709551615 := hf 0 (by decide)
    rw [inN_at, partHeader_0]
    exact rdQ_numL _ hk2.1 hk2.2
  · rw [if_neg c0]
    by_cases c1 : k < 2
    · rw [if_pos c1]
      obtain rfl : k = 1 := by omega
      have hk2 : 0 ≤ f 1 ∧ f 1 ≤ 18446744073709551615 := hf 1 (by decide)
      rw [inN_at, partHeader_1]
      exact rdQ_numL _ hk2.1 hk2.2
    · rw [if_neg c1]
      by_cases c2 : k < 34
      · rw [if_pos c2]
        rw [← drop_take_get _ 16 32 (k - 2) (by omega), partHeader_2, byL_get _ _ _ _ (by omega), show 2 + (k - 2) = k by omega]
      · rw [if_neg c2]
        by_cases c3 : k < 66
        · rw [if_pos c3]
          rw [← drop_take_get _ 48 32 (k - 34) (by omega), partHeader_3, byL_get _ _ _ _ (by omega), show 34 + (k - 34) = k by omega]
        · rw [if_neg c3]
          rw [← drop_take_get _ 80 32 (k - 66) (by omega), partHeader_4, byL_get _ _ _ _ (by omega), show 66 + (k - 66) = k by omega]
theorem rdok_Header {l : List Int} (hl : l.length = 112) (hok : ∀ x ∈ l, CK.ok .u8 x) (k : Nat) (hk : k < 98) : (kdHeader k).ok (rdHeader l k) := by
  by_cases c0 : k < 1
  · obtain rfl : k = 0 := by omega
    unfold rdHeader; rw [if_pos c0]
    rw [inN_at]
    exact rdQ_ok _ (part_len l 0 8 112 hl (by decide)) (take_ok hok _ _)
  by_cases c1 : k < 2
  · obtain rfl : k = 1 := by omega
    unfold rdHeader; rw [if_neg c0, if_pos c1]
    rw [inN_at]
    exact rdQ_ok _ (part_len l 8 8 112 hl (by decide)) (take_ok hok _ _)
  by_cases c2 : k < 34
  · have hkd : kdHeader k = .u8 := by have h := ((by intro j hj; simp only [kdHeader]; (repeat' split) <;> first | rfl | (exfalso; omega)) : ∀ j, j < 32 → kdHeader (2 + j) = .u8) (k - 2) (by omega); rwa [show 2 + (k - 2) = k by omega] at h
    rw [hkd]
    unfold rdHeader; rw [if_neg c0, if_neg c1, if_pos c2]
    exact list_isB hok _
  by_cases c3 : k < 66
  · have hkd : kdHeader k = .u8 := by have h := ((by intro j hj; simp only [kdHeader]; (repeat' split) <;> first | rfl | (exfalso; omega)) : ∀ j, j < 32 → kdHeader (34 + j) = .u8) (k - 34) (by omega); rwa [show 34 + (k - 34) = k by omega] at h
    rw [hkd]
    unfold rdHeader; rw [if_neg c0, if_neg c1, if_neg c2, if_pos c3]
    exact list_isB hok _
  have hkd : kdHeader k = .u8 := by have h := ((by intro j hj; simp only [kdHeader]; (repeat' split) <;> first | rfl | (exfalso; omega)) : ∀ j, j < 32 → kdHeader (66 + j) = .u8) (k - 66) (by omega); rwa [show 66 + (k - 66) = k by omega] at h
  rw [hkd]
  unfold rdHeader; rw [if_neg c0, if_neg c1, if_neg c2, if_neg c3]
  exact list_isB hok _
theorem encrd_Header (l : List Int) (hl : l.length = 112) (hok : ∀ x ∈ l, CK.ok .u8 x) : encLHeader (rdHeader l) = l := by
  have h0 : numL (rdHeader l 0) = (l.drop 0).take 8 := (congrArg numL (inN_at l 0)).trans (numL_rdQ _ (part_len l 0 8 112 hl (by decide)) (take_ok hok _ _))
  have h1 : numL (rdHeader l 1) = (l.drop 8).take 8 := (congrArg numL (inN_at l 8)).trans (numL_rdQ _ (part_len l 8 8 112 hl (by decide)) (take_ok hok _ _))
  have h2 : byL (rdHeader l) 2 32 = (l.drop 16).take 32 := byL_rd _ l 2 16 32 (fun j hj => by unfold rdHeader; (repeat' split) <;> first | (exfalso; omega) | (congr 1 <;> omega)) (by omega)
  have h3 : byL (rdHeader l) 34 32 = (l.drop 48).take 32 := byL_rd _ l 34 48 32 (fun j hj => by unfold rdHeader; (repeat' split) <;> first | (exfalso; omega) | (congr 1 <;> omega)) (by omega)
  have h4 : byL (rdHeader l) 66 32 = (l.drop 80).take 32 := byL_rd _ l 66 80 32 (fun j hj => by unfold rdHeader; (repeat' split) <;> first | (exfalso; omega) | (congr 1 <;> omega)) (by omega)
  unfold encLHeader
  rw [h0, h1, h2, h3, h4]
  try simp only [List.append_assoc]
  rw [cat_end l 80 32 (by omega), cat_next l 48 32 80 (by decide), cat_next l 16 32 48 (by decide), cat_next l 8 8 16 (by decide), cat_next l 0 8 8 (by decide)]
  rfl
end Go.Proofs.YtihelknkcomjpaaDoor
