/- Oper's container ProposerSlashing: what is written is read, what is read is written. -/
import Derived.Test.YtihelknkcomjpaaDoorJLawS
import Derived.Test.YtihelknkcomjpaaDoorKSpProposerSlashing
import Derived.Test.YtihelknkcomjpaaDoorKSlSignedHeader
set_option linter.unusedVariables false
set_option linter.unusedSimpArgs false
set_option linter.unnecessarySimpa false
namespace Go.Proofs.YtihelknkcomjpaaDoor
open Go.RowKit BigFrame
set_option maxRecDepth 100000
theorem encProposerSlashing_congr {f g : Nat → Int} (h : ∀ k, k < 388 → f k = g k) : encLProposerSlashing f = encLProposerSlashing g := by
  unfold encLProposerSlashing
  rw [encSignedHeader_congr (f := shF f 0) (g := shF g 0) fun j hj => h (0 + j) (by omega)]
  rw [encSignedHeader_congr (f := shF f 194) (g := shF g 194) fun j hj => h (194 + j) (by omega)]
theorem partProposerSlashing_0 (f : Nat → Int) : ((encLProposerSlashing f).drop 0).take 208 = encLSignedHeader (shF f 0) := by
    rw [show encLProposerSlashing f = ([]) ++ ((encLSignedHeader (shF f 0)) ++ ((encLSignedHeader (shF f 194)))) from by simp only [encLProposerSlashing, List.append_assoc, List.nil_append, List.append_nil]]
    exact drop_take_mid _ _ _ 0 208 (by simp [numL_length, byL_length, encSignedHeader_length]) (by simp [numL_length, byL_length, encSignedHeader_length])
theorem partProposerSlashing_1 (f : Nat → Int) : ((encLProposerSlashing f).drop 208).take 208 = encLSignedHeader (shF f 194) := by
    rw [show encLProposerSlashing f = (encLSignedHeader (shF f 0)) ++ ((encLSignedHeader (shF f 194)) ++ ([])) from by simp only [encLProposerSlashing, List.append_assoc, List.nil_append, List.append_nil]]
    exact drop_take_mid _ _ _ 208 208 (by simp [numL_length, byL_length, encSignedHeader_length]) (by simp [numL_length, byL_length, encSignedHeader_length])
theorem rdenc_ProposerSlashing (f : Nat → Int) (hf : ∀ j, j < 388 → (kdProposerSlashing j).ok (f j)) (k : Nat) (hk : k < 388) : rdProposerSlashing (encLProposerSlashing f) k = f k := by
  unfold rdProposerSlashing
  by_cases c0 : k < 194
  · rw [if_pos c0]
    rw [partProposerSlashing_0, rdenc_SignedHeader _ (sub_ok hf (by intro j hj; simp only [kdProposerSlashing, kdSignedHeader]; (repeat' split) <;> first | rfl | (exfalso; omega)) (by decide)) (k - 0) (by omega)]
    show f (0 + (k - 0)) = f k
    rw [show 0 + (k - 0) = k by omega]
  · rw [if_neg c0]
    rw [partProposerSlashing_1, rdenc_SignedHeader _ (sub_ok hf (by intro j hj; simp only [kdProposerSlashing, kdSignedHeader]; (repeat' split) <;> first | rfl | (exfalso; omega)) (by decide)) (k - 194) (by omega)]
    show f (194 + (k - 194)) = f k
    rw [show 194 + (k - 194) = k by omega]
theorem rdok_ProposerSlashing {l : List Int} (hl : l.length = 416) (hok : ∀ x ∈ l, CK.ok .u8 x) (k : Nat) (hk : k < 388) : (kdProposerSlashing k).ok (rdProposerSlashing l k) := by
  by_cases c0 : k < 194
  · have hkd : kdProposerSlashing k = kdSignedHeader (k - 0) := by have h := ((by intro j hj; simp only [kdProposerSlashing, kdSignedHeader]; (repeat' split) <;> first | rfl | (exfalso; omega)) : ∀ j, j < 194 → kdProposerSlashing (0 + j) = kdSignedHeader j) (k - 0) (by omega); rwa [show 0 + (k - 0) = k by omega] at h
    rw [hkd]
    unfold rdProposerSlashing; rw [if_pos c0]
    exact rdok_SignedHeader (part_len l 0 208 416 hl (by decide)) (take_ok hok _ _) (k - 0) (by omega)
  have hkd : kdProposerSlashing k = kdSignedHeader (k - 194) := by have h := ((by intro j hj; simp only [kdProposerSlashing, kdSignedHeader]; (repeat' split) <;> first | rfl | (exfalso; omega)) : ∀ j, j < 194 → kdProposerSlashing (194 + j) = kdSignedHeader j) (k - 194) (by omega); rwa [show 194 + (k - 194) = k by omega] at h
  rw [hkd]
  unfold rdProposerSlashing; rw [if_neg c0]
  exact rdok_SignedHeader (part_len l 208 208 416 hl (by decide)) (take_ok hok _ _) (k - 194) (by omega)
theorem encrd_ProposerSlashing (l : List Int) (hl : l.length = 416) (hok : ∀ x ∈ l, CK.ok .u8 x) : encLProposerSlashing (rdProposerSlashing l) = l := by
  have h0 : encLSignedHeader (shF (rdProposerSlashing l) 0) = (l.drop 0).take 208 := by
    rw [encSignedHeader_congr (g := rdSignedHeader ((l.drop 0).take 208)) fun j hj => by
      show rdProposerSlashing l (0 + j) = _
      simp only [rdProposerSlashing]; (repeat' split) <;> first | (exfalso; omega) | (congr 1 <;> omega)]
    exact encrd_SignedHeader _ (part_len l 0 208 416 hl (by decide)) (take_ok hok _ _)
  have h1 : encLSignedHeader (shF (rdProposerSlashing l) 194) = (l.drop 208).take 208 := by
    rw [encSignedHeader_congr (g := rdSignedHeader ((l.drop 208).take 208)) fun j hj => by
      show rdProposerSlashing l (194 + j) = _
      simp only [rdProposerSlashing]; (repeat' split) <;> first | (exfalso; omega) | (congr 1 <;> omega)]
    exact encrd_SignedHeader _ (part_len l 208 208 416 hl (by decide)) (take_ok hok _ _)
  unfold encLProposerSlashing
  rw [h0, h1]
  try simp only [List.append_assoc]
  rw [cat_end l 208 208 (by omega), cat_next l 0 208 208 (by decide)]
  rfl
end Go.Proofs.YtihelknkcomjpaaDoor
