import Derived.Test.YtmoofccblbaepaaDoorJLawS
import Derived.Test.YtmoofccblbaepaaDoorJSpFork
set_option linter.unusedVariables false
set_option linter.unusedSimpArgs false
set_option linter.unnecessarySimpa false
/- The small container Fork: what is written is read, what is read is written. -/
namespace Go.Proofs.YtmoofccblbaepaaDoor
open Go.RowKit BigFrame
set_option maxRecDepth 100000
theorem encFork_congr {f g : Nat → Int} (h : ∀ k, k < 9 → f k = g k) : encLFork f = encLFork g := by
  unfold encLFork
  rw [byL_congr (f := f) (g := g) (o := 0) (n := 4) fun j hj => h (0 + j) (by omega)]
  rw [byL_congr (f := f) (g := g) (o := 4) (n := 4) fun j hj => h (4 + j) (by omega)]
  rw [h 8 (by decide)]
theorem partFork_0 (f : Nat → Int) : ((encLFork f).drop 0).take 4 = byL f 0 4 := by
    rw [show encLFork f = ([]) ++ ((byL f 0 4) ++ (byL f 4 4 ++ numL (f 8))) from by simp only [encLFork, List.append_assoc, List.nil_append, List.append_nil]]
    exact drop_take_mid _ _ _ 0 4 (by simp [numL_length, byL_length]) (by simp [numL_length, byL_length])
theorem partFork_1 (f : Nat → Int) : ((encLFork f).drop 4).take 4 = byL f 4 4 := by
    rw [show encLFork f = (byL f 0 4) ++ ((byL f 4 4) ++ (numL (f 8))) from by simp only [encLFork, List.append_assoc, List.nil_append, List.append_nil]]
    exact drop_take_mid _ _ _ 4 4 (by simp [numL_length, byL_length]) (by simp [numL_length, byL_length])
theorem partFork_2 (f : Nat → Int) : ((encLFork f).drop 8).take 8 = numL (f 8) := by
    rw [show encLFork f = (byL f 0 4 ++ byL f 4 4) ++ ((numL (f 8)) ++ ([])) from by simp only [encLFork, List.append_assoc, List.nil_append, List.append_nil]]
    exact drop_take_mid _ _ _ 8 8 (by simp [numL_length, byL_length]) (by simp [numL_length, byL_length])
theorem rdenc_Fork (f : Nat → Int) (hf : ∀ j, j < 9 → (kdFork j).ok (f j)) (k : Nat) (hk : k < 9) : rdFork (encLFork f) k = f k := by
  unfold rdFork
  by_cases c0 : k < 4
  · rw [if_pos c0]
    rw [← drop_take_get _ 0 4 (k - 0) (by omega), partFork_0, byL_get _ _ _ _ (by omega), show 0 + (k - 0) = k by omega]
  · rw [if_neg c0]
    by_cases c1 : k < 8
    · rw [if_pos c1]
      rw [← drop_take_get _ 4 4 (k - 4) (by omega), partFork_1, byL_get _ _ _ _ (by omega), show 4 + (k - 4) = k by omega]
    · rw [if_neg c1]
      obtain rfl : k = 8 := by omega
      have hk2 : 0 ≤ f 8 ∧ f 8 ≤ 18446744073709551615 := hf 8 (by decide)
      rw [inN_at, partFork_2]
      exact rdQ_numL _ hk2.1 hk2.2
theorem rdok_Fork {l : List Int} (hl : l.length = 16) (hok : ∀ x ∈ l, CK.ok .u8 x) (k : Nat) (hk : k < 9) : (kdFork k).ok (rdFork l k) := by
  by_cases c0 : k < 4
  · have hkd : kdFork k = .u8 := by have h := ((by intro j hj; simp only [kdFork]; (repeat' split) <;> first | rfl | (exfalso; omega)) : ∀ j, j < 4 → kdFork (0 + j) = .u8) (k - 0) (by omega); rwa [show 0 + (k - 0) = k by omega] at h
    rw [hkd]
    unfold rdFork; rw [if_pos c0]
    exact list_isB hok _
  by_cases c1 : k < 8
  · have hkd : kdFork k = .u8 := by have h := ((by intro j hj; simp only [kdFork]; (repeat' split) <;> first | rfl | (exfalso; omega)) : ∀ j, j < 4 → kdFork (4 + j) = .u8) (k - 4) (by omega); rwa [show 4 + (k - 4) = k by omega] at h
    rw [hkd]
    unfold rdFork; rw [if_neg c0, if_pos c1]
    exact list_isB hok _
  obtain rfl : k = 8 := by omega
  unfold rdFork; rw [if_neg c0, if_neg c1]
  rw [inN_at]
  exact rdQ_ok _ (part_len l 8 8 16 hl (by decide)) (take_ok hok _ _)
theorem encrd_Fork (l : List Int) (hl : l.length = 16) (hok : ∀ x ∈ l, CK.ok .u8 x) : encLFork (rdFork l) = l := by
  have h0 : byL (rdFork l) 0 4 = (l.drop 0).take 4 := byL_rd _ l 0 0 4 (fun j hj => by unfold rdFork; (repeat' split) <;> first | (exfalso; omega) | (congr 1 <;> omega)) (by omega)
  have h1 : byL (rdFork l) 4 4 = (l.drop 4).take 4 := byL_rd _ l 4 4 4 (fun j hj => by unfold rdFork; (repeat' split) <;> first | (exfalso; omega) | (congr 1 <;> omega)) (by omega)
  have h2 : numL (rdFork l 8) = (l.drop 8).take 8 := (congrArg numL (inN_at l 8)).trans (numL_rdQ _ (part_len l 8 8 16 hl (by decide)) (take_ok hok _ _))
  unfold encLFork
  rw [h0, h1, h2]
  try simp only [List.append_assoc]
  rw [cat_end l 8 8 (by omega), cat_next l 4 4 8 (by decide), cat_next l 0 4 4 (by decide)]
  rfl
end Go.Proofs.YtmoofccblbaepaaDoor
