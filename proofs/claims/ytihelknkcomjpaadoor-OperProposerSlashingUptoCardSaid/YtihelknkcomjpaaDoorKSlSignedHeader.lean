/- The small container SignedHeader: what is written is read, what is read is written. -/
import Derived.Test.YtihelknkcomjpaaDoorJLawS
import Derived.Test.YtihelknkcomjpaaDoorKSpSignedHeader
import Derived.Test.YtihelknkcomjpaaDoorKSlHeader
set_option linter.unusedVariables false
set_option linter.unusedSimpArgs false
set_option linter.unnecessarySimpa false
namespace Go.Proofs.YtihelknkcomjpaaDoor
open Go.RowKit BigFrame
set_option maxRecDepth 100000
theorem encSignedHeader_congr {f g : Nat → Int} (h : ∀ k, k < 194 → f k = g k) : encLSignedHeader f = encLSignedHeader g := by
  unfold encLSignedHeader
  rw [encHeader_congr (f := shF f 0) (g := shF g 0) fun j hj => h (0 + j) (by omega)]
  rw [byL_congr (f := f) (g := g) (o := 98) (n := 96) fun j hj => h (98 + j) (by omega)]
theorem partSignedHeader_0 (f : Nat → Int) : ((encLSignedHeader f).drop 0).take 112 = encLHeader (shF f 0) := by
    rw [show encLSignedHeader f = ([]) ++ ((encLHeader (shF f 0)) ++ (byL f 98 96)) from by simp only [encLSignedHeader, List.append_assoc, List.nil_append, List.append_nil]]
    exact drop_take_mid _ _ _ 0 112 (by simp [numL_length, byL_length, encHeader_length]) (by simp [numL_length, byL_length, encHeader_length])
theorem partSignedHeader_1 (f : Nat → Int) : ((encLSignedHeader f).drop 112).take 96 = byL f 98 96 := by
    rw [show encLSignedHeader f = (encLHeader (shF f 0)) ++ ((byL f 98 96) ++ ([])) from by simp only [encLSignedHeader, List.append_assoc, List.nil_append, List.append_nil]]
    exact drop_take_mid _ _ _ 112 96 (by simp [numL_length, byL_length, encHeader_length]) (by simp [numL_length, byL_length, encHeader_length])
theorem rdenc_SignedHeader (f : Nat → Int) (hf : ∀ j, j < 194 → (kdSignedHeader j).ok (f j)) (k : Nat) (hk : k < 194) : rdSignedHeader (encLSignedHeader f) k = f k := by
  unfold rdSignedHeader
  by_cases c0 : k < 98
  · rw [if_pos c0]
    rw [partSignedHeader_0, rdenc_Header _ (sub_ok hf (by intro j hj; simp only [kdSignedHeader, kdHeader]; (repeat' split) <;> first | rfl | (exfalso; omega)) (by decide)) (k - 0) (by omega)]
    show f (0 + (k - 0)) = f k
    rw [show 0 + (k - 0) = k by omega]
  · rw [if_neg c0]
    rw [← drop_take_get _ 112 96 (k - 98) (by omega), partSignedHeader_1, byL_get _ _ _ _ (by omega), show 98 + (k - 98) = k by omega]
theorem rdok_SignedHeader {l : List Int} (hl : l.length = 208) (hok : ∀ x ∈ l, CK.ok .u8 x) (k : Nat) (hk : k < 194) : (kdSignedHeader k).ok (rdSignedHeader l k) := by
  by_cases c0 : k < 98
  · have hkd : kdSignedHeader k = kdHeader (k - 0) := by have h := ((by intro j hj; simp only [kdSignedHeader, kdHeader]; (repeat' split) <;> first | rfl | (exfalso; omega)) : ∀ j, j < 98 → kdSignedHeader (0 + j) = kdHeader j) (k - 0) (by omega); rwa [show 0 + (k - 0) = k by omega] at h
    rw [hkd]
    unfold rdSignedHeader; rw [if_pos c0]
    exact rdok_Header (part_len l 0 112 208 hl (by decide)) (take_ok hok _ _) (k - 0) (by omega)
  have hkd : kdSignedHeader k = .u8 := by have h := ((by intro j hj; simp only [kdSignedHeader]; (repeat' split) <;> first | rfl | (exfalso; omega)) : ∀ j, j < 96 → kdSignedHeader (98 + j) = .u8) (k - 98) (by omega); rwa [show 98 + (k - 98) = k by omega] at h
  rw [hkd]
  unfold rdSignedHeader; rw [if_neg c0]
  exact list_isB hok _
theorem encrd_SignedHeader (l : List Int) (hl : l.length = 208) (hok : ∀ x ∈ l, CK.ok .u8 x) : encLSignedHeader (rdSignedHeader l) = l := by
  have h0 : encLHeader (shF (rdSignedHeader l) 0) = (l.drop 0).take 112 := by
    rw [encHeader_congr (g := rdHeader ((l.drop 0).take 112)) fun j hj => by
      show rdSignedHeader l (0 + j) = _
      simp only [rdSignedHeader]; (repeat' split) <;> first | (exfalso; omega) | (congr 1 <;> omega)]
    exact encrd_Header _ (part_len l 0 112 208 hl (by decide)) (take_ok hok _ _)
  have h1 : byL (rdSignedHeader l) 98 96 = (l.drop 112).take 96 := byL_rd _ l 98 112 96 (fun j hj => by unfold rdSignedHeader; (repeat' split) <;> first | (exfalso; omega) | (congr 1 <;> omega)) (by omega)
  unfold encLSignedHeader
  rw [h0, h1]
  try simp only [List.append_assoc]
  rw [cat_end l 112 96 (by omega), cat_next l 0 112 112 (by decide)]
  rfl
end Go.Proofs.YtihelknkcomjpaaDoor
