import Derived.Test.YtmoofccblbaepaaDoorJLawS
import Derived.Test.YtmoofccblbaepaaDoorKSpEth1
set_option linter.unusedVariables false
set_option linter.unusedSimpArgs false
set_option linter.unnecessarySimpa false
/- The small container Eth1: what is written is read, what is read is written. -/
namespace Go.Proofs.YtmoofccblbaepaaDoor
open Go.RowKit BigFrame
set_option maxRecDepth 100000
theorem encEth1_congr {f g : Nat → Int} (h : ∀ k, k < 65 → f k = g k) : encLEth1 f = encLEth1 g := by
  unfold encLEth1
  rw [byL_congr (f := f) (g := g) (o := 0) (n := 32) fun j hj => h (0 + j) (by omega)]
  rw [h 32 (by decide)]
  rw [byL_congr (f := f) (g := g) (o := 33) (n := 32) fun j hj => h (33 + j) (by omega)]
theorem partEth1_0 (f : Nat → Int) : ((encLEth1 f).drop 0).take 32 = byL f 0 32 := by
    rw [show encLEth1 f = ([]) ++ ((byL f 0 32) ++ (numL (f 32) ++ byL f 33 32)) from by simp only [encLEth1, List.append_assoc, List.nil_append, List.append_nil]]
    exact drop_take_mid _ _ _ 0 32 (by simp [numL_length, byL_length]) (by simp [numL_length, byL_length])
theorem partEth1_1 (f : Nat → Int) : ((encLEth1 f).drop 32).take 8 = numL (f 32) := by
    rw [show encLEth1 f = (byL f 0 32) ++ ((numL (f 32)) ++ (byL f 33 32)) from by simp only [encLEth1, List.append_assoc, List.nil_append, List.append_nil]]
    exact drop_take_mid _ _ _ 32 8 (by simp [numL_length, byL_length]) (by simp [numL_length, byL_length])
theorem partEth1_2 (f : Nat → Int) : ((encLEth1 f).drop 40).take 32 = byL f 33 32 := by
    rw [show encLEth1 f = (byL f 0 32 ++ numL (f 32)) ++ ((byL f 33 32) ++ ([])) from by simp only [encLEth1, List.append_assoc, List.nil_append, List.append_nil]]
    exact drop_take_mid _ _ _ 40 32 (by simp [numL_length, byL_length]) (by simp [numL_length, byL_length])
theorem rdenc_Eth1 (f : Nat → Int) (hf : ∀ j, j < 65 → (kdEth1 j).ok (f j)) (k : Nat) (hk : k < 65) : rdEth1 (encLEth1 f) k = f k := by
  unfold rdEth1
  by_cases c0 : k < 32
  · rw [if_pos c0]
    rw [← drop_take_get _ 0 32 (k - 0) (by omega), partEth1_0, byL_get _ _ _ _ (by omega), show 0 + (k - 0) = k by omega]
  · rw [if_neg c0]
    by_cases c1 : k < 33
    · rw [if_pos c1]
      obtain rfl : k = 32 := by omega
      have hk2 : 0 ≤ f 32 ∧ f 32 ≤ 18446744073709551615 := hf 32 (by decide)
      rw [inN_at, partEth1_1]
      exact rdQ_numL _ hk2.1 hk2.2
    · rw [if_neg c1]
      rw [← drop_take_get _ 40 32 (k - 33) (by omega), partEth1_2, byL_get _ _ _ _ (by omega), show 33 + (k - 33) = k by omega]
theorem rdok_Eth1 {l : List Int} (hl : l.length = 72) (hok : ∀ x ∈ l, CK.ok .u8 x) (k : Nat) (hk : k < 65) : (kdEth1 k).ok (rdEth1 l k) := by
  by_cases c0 : k < 32
  · have hkd : kdEth1 k = .u8 := by have h := ((by intro j hj; simp only [kdEth1]; (repeat' split) <;> first | rfl | (exfalso; omega)) : ∀ j, j < 32 → kdEth1 (0 + j) = .u8) (k - 0) (by omega); rwa [show 0 + (k - 0) = k by omega] at h
    rw [hkd]
    unfold rdEth1; rw [if_pos c0]
    exact list_isB hok _
  by_cases c1 : k < 33
  · obtain rfl : k = 32 := by omega
    unfold rdEth1; rw [if_neg c0, if_pos c1]
    rw [inN_at]
    exact rdQ_ok _ (part_len l 32 8 72 hl (by decide)) (take_ok hok _ _)
  have hkd : kdEth1 k = .u8 := by have h := ((by intro j hj; simp only [kdEth1]; (repeat' split) <;> first | rfl | (exfalso; omega)) : ∀ j, j < 32 → kdEth1 (33 + j) = .u8) (k - 33) (by omega); rwa [show 33 + (k - 33) = k by omega] at h
  rw [hkd]
  unfold rdEth1; rw [if_neg c0, if_neg c1]
  exact list_isB hok _
theorem encrd_Eth1 (l : List Int) (hl : l.length = 72) (hok : ∀ x ∈ l, CK.ok .u8 x) : encLEth1 (rdEth1 l) = l := by
  have h0 : byL (rdEth1 l) 0 32 = (l.drop 0).take 32 := byL_rd _ l 0 0 32 (fun j hj => by unfold rdEth1; (repeat' split) <;> first | (exfalso; omega) | (congr 1 <;> omega)) (by omega)
  have h1 : numL (rdEth1 l 32) = (l.drop 32).take 8 := (congrArg numL (inN_at l 32)).trans (numL_rdQ _ (part_len l 32 8 72 hl (by decide)) (take_ok hok _ _))
  have h2 : byL (rdEth1 l) 33 32 = (l.drop 40).take 32 := byL_rd _ l 33 40 32 (fun j hj => by unfold rdEth1; (repeat' split) <;> first | (exfalso; omega) | (congr 1 <;> omega)) (by omega)
  unfold encLEth1
  rw [h0, h1, h2]
  try simp only [List.append_assoc]
  rw [cat_end l 40 32 (by omega), cat_next l 32 8 40 (by decide), cat_next l 0 32 32 (by decide)]
  rfl
end Go.Proofs.YtmoofccblbaepaaDoor
