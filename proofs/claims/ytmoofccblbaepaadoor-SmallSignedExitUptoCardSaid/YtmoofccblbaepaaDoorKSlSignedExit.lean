import Derived.Test.YtmoofccblbaepaaDoorJLawS
import Derived.Test.YtmoofccblbaepaaDoorKSpSignedExit
import Derived.Test.YtmoofccblbaepaaDoorJSlExit
set_option linter.unusedVariables false
set_option linter.unusedSimpArgs false
set_option linter.unnecessarySimpa false
/- The small container SignedExit: what is written is read, what is read is written. -/
namespace Go.Proofs.YtmoofccblbaepaaDoor
open Go.RowKit BigFrame
set_option maxRecDepth 100000
theorem encSignedExit_congr {f g : Nat → Int} (h : ∀ k, k < 98 → f k = g k) : encLSignedExit f = encLSignedExit g := by
  unfold encLSignedExit
  rw [encExit_congr (f := shF f 0) (g := shF g 0) fun j hj => h (0 + j) (by omega)]
  rw [byL_congr (f := f) (g := g) (o := 2) (n := 96) fun j hj => h (2 + j) (by omega)]
theorem partSignedExit_0 (f : Nat → Int) : ((encLSignedExit f).drop 0).take 16 = encLExit (shF f 0) := by
    rw [show encLSignedExit f = ([]) ++ ((encLExit (shF f 0)) ++ (byL f 2 96)) from by simp only [encLSignedExit, List.append_assoc, List.nil_append, List.append_nil]]
    exact drop_take_mid _ _ _ 0 16 (by simp [numL_length, byL_length, encExit_length]) (by simp [numL_length, byL_length, encExit_length])
theorem partSignedExit_1 (f : Nat → Int) : ((encLSignedExit f).drop 16).take 96 = byL f 2 96 := by
    rw [show encLSignedExit f = (encLExit (shF f 0)) ++ ((byL f 2 96) ++ ([])) from by simp only [encLSignedExit, List.append_assoc, List.nil_append, List.append_nil]]
    exact drop_take_mid _ _ _ 16 96 (by simp [numL_length, byL_length, encExit_length]) (by simp [numL_length, byL_length, encExit_length])
theorem rdenc_SignedExit (f : Nat → Int) (hf : ∀ j, j < 98 → (kdSignedExit j).ok (f j)) (k : Nat) (hk : k < 98) : rdSignedExit (encLSignedExit f) k = f k := by
  unfold rdSignedExit
  by_cases c0 : k < 2
  · rw [if_pos c0]
    rw [partSignedExit_0, rdenc_Exit _ (sub_ok hf (by intro j hj; simp only [kdSignedExit, kdExit]; (repeat' split) <;> first | rfl | (exfalso; omega)) (by decide)) (k - 0) (by omega)]
    show f (0 + (k - 0)) = f k
    rw [show 0 + (k - 0) = k by omega]
  · rw [if_neg c0]
    rw [← drop_take_get _ 16 96 (k - 2) (by omega), partSignedExit_1, byL_get _ _ _ _ (by omega), show 2 + (k - 2) = k by omega]
theorem rdok_SignedExit {l : List Int} (hl : l.length = 112) (hok : ∀ x ∈ l, CK.ok .u8 x) (k : Nat) (hk : k < 98) : (kdSignedExit k).ok (rdSignedExit l k) := by
  by_cases c0 : k < 2
  · have hkd : kdSignedExit k = kdExit (k - 0) := by have h := ((by intro j hj; simp only [kdSignedExit, kdExit]; (repeat' split) <;> first | rfl | (exfalso; omega)) : ∀ j, j < 2 → kdSignedExit (0 + j) = kdExit j) (k - 0) (by omega); rwa [show 0 + (k - 0) = k by omega] at h
    rw [hkd]
    unfold rdSignedExit; rw [if_pos c0]
    exact rdok_Exit (part_len l 0 16 112 hl (by decide)) (take_ok hok _ _) (k - 0) (by omega)
  have hkd : kdSignedExit k = .u8 := by have h := ((by intro j hj; simp only [kdSignedExit]; (repeat' split) <;> first | rfl | (exfalso; omega)) : ∀ j, j < 96 → kdSignedExit (2 + j) = .u8) (k - 2) (by omega); rwa [show 2 + (k - 2) = k by omega] at h
  rw [hkd]
  unfold rdSignedExit; rw [if_neg c0]
  exact list_isB hok _
theorem encrd_SignedExit (l : List Int) (hl : l.length = 112) (hok : ∀ x ∈ l, CK.ok .u8 x) : encLSignedExit (rdSignedExit l) = l := by
  have h0 : encLExit (shF (rdSignedExit l) 0) = (l.drop 0).take 16 := by
    rw [encExit_congr (g := rdExit ((l.drop 0).take 16)) fun j hj => by
      show rdSignedExit l (0 + j) = _
      simp only [rdSignedExit]; (repeat' split) <;> first | (exfalso; omega) | (congr 1 <;> omega)]
    exact encrd_Exit _ (part_len l 0 16 112 hl (by decide)) (take_ok hok _ _)
  have h1 : byL (rdSignedExit l) 2 96 = (l.drop 16).take 96 := byL_rd _ l 2 16 96 (fun j hj => by unfold rdSignedExit; (repeat' split) <;> first | (exfalso; omega) | (congr 1 <;> omega)) (by omega)
  unfold encLSignedExit
  rw [h0, h1]
  try simp only [List.append_assoc]
  rw [cat_end l 16 96 (by omega), cat_next l 0 16 16 (by decide)]
  rfl
end Go.Proofs.YtmoofccblbaepaaDoor
