/- The small container Checkpoint: what is written is read, what is read is written. -/
import Derived.Test.YtihelknkcomjpaaDoorJLawS
import Derived.Test.YtihelknkcomjpaaDoorKSpCheckpoint
set_option linter.unusedVariables false
set_option linter.unusedSimpArgs false
set_option linter.unnecessarySimpa false
namespace Go.Proofs.YtihelknkcomjpaaDoor
open Go.RowKit BigFrame
set_option maxRecDepth 100000
theorem encCheckpoint_congr {f g : Nat → Int} (h : ∀ k, k < 33 → f k = g k) : encLCheckpoint f = encLCheckpoint g := by
  unfold encLCheckpoint
  rw [h 0 (by decide)]
  rw [byL_congr (f := f) (g := g) (o := 1) (n := 32) fun j hj => h (1 + j) (by omega)]
theorem partCheckpoint_0 (f : Nat → Int) : ((encLCheckpoint f).drop 0).take 8 = numL (f 0) := by
    rw [show encLCheckpoint f = ([]) ++ ((numL (f 0)) ++ (byL f 1 32)) from by simp only [encLCheckpoint, List.append_assoc, List.nil_append, List.append_nil]]
    exact drop_take_mid _ _ _ 0 8 (by simp [numL_length, byL_length]) (by simp [numL_length, byL_length])
theorem partCheckpoint_1 (f : Nat → Int) : ((encLCheckpoint f).drop 8).take 32 = byL f 1 32 := by
    rw [show encLCheckpoint f = (numL (f 0)) ++ ((byL f 1 32) ++ ([])) from by simp only [encLCheckpoint, List.append_assoc, List.nil_append, List.append_nil]]
    exact drop_take_mid _ _ _ 8 32 (by simp [numL_length, byL_length]) (by simp [numL_length, byL_length])
theorem rdenc_Checkpoint (f : Nat → Int) (hf : ∀ j, j < 33 → (kdCheckpoint j).ok (f j)) (k : Nat) (hk : k < 33) : rdCheckpoint (encLCheckpoint f) k = f k := by
  unfold rdCheckpoint
  by_cases c0 : k < 1
  · rw [if_pos c0]
    obtain rfl : k = 0 := by omega
    have hk2 : 0 ≤ f 0 ∧ f 0 ≤ 18446744073709551615 := hf 0 (by decide)
    rw [inN_at, partCheckpoint_0]
    exact rdQ_numL _ hk2.1 hk2.2
  · rw [if_neg c0]
    rw [← drop_take_get _ 8 32 (k - 1) (by omega), partCheckpoint_1, byL_get _ _ _ _ (by omega), show 1 + (k - 1) = k by omega]
theorem rdok_Checkpoint {l : List Int} (hl : l.length = 40) (hok : ∀ x ∈ l, CK.ok .u8 x) (k : Nat) (hk : k < 33) : (kdCheckpoint k).ok (rdCheckpoint l k) := by
  by_cases c0 : k < 1
  · obtain rfl : k = 0 := by omega
    unfold rdCheckpoint; rw [if_pos c0]
    rw [inN_at]
    exact rdQ_ok _ (part_len l 0 8 40 hl (by decide)) (take_ok hok _ _)
  have hkd : kdCheckpoint k = .u8 := by have h := ((by intro j hj; simp only [kdCheckpoint]; (repeat' split) <;> first | rfl | (exfalso; omega)) : ∀ j, j < 32 → kdCheckpoint (1 + j) = .u8) (k - 1) (by omega); rwa [show 1 + (k - 1) = k by omega] at h
  rw [hkd]
  unfold rdCheckpoint; rw [if_neg c0]
  exact list_isB hok _
theorem encrd_Checkpoint (l : List Int) (hl : l.length = 40) (hok : ∀ x ∈ l, CK.ok .u8 x) : encLCheckpoint (rdCheckpoint l) = l := by
  have h0 : numL (rdCheckpoint l 0) = (l.drop 0).take 8 := (congrArg numL (inN_at l 0)).trans (numL_rdQ _ (part_len l 0 8 40 hl (by decide)) (take_ok hok _ _))
  have h1 : byL (rdCheckpoint l) 1 32 = (l.drop 8).take 32 := byL_rd _ l 1 8 32 (fun j hj => by unfold rdCheckpoint; (repeat' split) <;> first | (exfalso; omega) | (congr 1 <;> omega)) (by omega)
  unfold encLCheckpoint
  rw [h0, h1]
  try simp only [List.append_assoc]
  rw [cat_end l 8 32 (by omega), cat_next l 0 8 8 (by decide)]
  rfl
end Go.Proofs.YtihelknkcomjpaaDoor
