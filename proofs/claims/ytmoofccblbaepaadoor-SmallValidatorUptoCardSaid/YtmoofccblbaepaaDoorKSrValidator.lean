import Derived.Test.YtmoofccblbaepaaDoorJSpValidator
set_option linter.unusedVariables false
set_option linter.unusedSimpArgs false
set_option linter.unnecessarySimpa false
/- The small container Validator: the reference's root. -/
namespace Go.Proofs.YtmoofccblbaepaaDoor
open Go.RowKit BigFrame
set_option maxRecDepth 100000
set_option maxHeartbeats 8000000 in
theorem rroot_Validator (f : Nat → Int) (hf0 : ∀ j, j < 86 → (kdValidator j).ok (f j)) (w : World) (hT0 : Tabs w) :
    Calls Tryd.prog 67 #[.agg (fcells 86 kdValidator f).toArray] w fun e w' => e = .returned (.tuple #[.agg (rootV (rootValidator f)), .int .i64 0]) ∧ Below w.heap.size w w' := by
  have hf := Lib.hid hf0
  have hT := Lib.hid hT0
  clear hf0 hT0
  go_enter Tryd.func67, Tryd.ntmps67
  go_wp2_with (first
    | ((with_reducible refine at_alloc 29 ?_); refine wpList_plain rfl fun K hK => wp_alloc_row 29 rfl 2 rfl zr 32 info_zr (hK _ _ ?_); clear hK K)
    | ((with_reducible refine at_alloc 180 ?_); go_loud (refine wpList_plain rfl fun K hK => wp_alloc_row 180 rfl 5 rfl (rep 256) 256 (by kernel_rfl) (hK _ _ ?_)); clear hK K
       refine gen_l (fun W => RefR w.heap.size 86 kdValidator f 110 180 8 [] w W) (RefR.begin (heap_new _ _ _ _ rfl) rfl hT.out (by simp) (rep_get _)) ?_
       intro W hS0
       have hS := Lib.hid hS0
       clear hS0)
    | ((with_reducible refine at_load 22 ?_); refine wpList_value (by rfl) _ (run_load_cell _ 22 _ (by rfl) ⟨w.heap.size, 80, none⟩ rfl (.int .u64 (f 80)) (hS.out.toBox.cell (show 80 < 86 by decide)) _ Tryd.underlying22 rfl) ?_)
    | ((with_reducible refine at_load 4 ?_); refine wpList_value (by rfl) _ (run_load_cell _ 4 _ (by rfl) ⟨w.heap.size, 81, none⟩ rfl (.bool (!decide (f 81 = 0))) (hS.out.toBox.flag (show 81 < 86 by decide) rfl) _ Tryd.underlying4 rfl) ?_)
    | ((with_reducible refine at_load 22 ?_); refine wpList_value (by rfl) _ (run_load_cell _ 22 _ (by rfl) ⟨w.heap.size, 82, none⟩ rfl (.int .u64 (f 82)) (hS.out.toBox.cell (show 82 < 86 by decide)) _ Tryd.underlying22 rfl) ?_)
    | ((with_reducible refine at_load 22 ?_); refine wpList_value (by rfl) _ (run_load_cell _ 22 _ (by rfl) ⟨w.heap.size, 83, none⟩ rfl (.int .u64 (f 83)) (hS.out.toBox.cell (show 83 < 86 by decide)) _ Tryd.underlying22 rfl) ?_)
    | ((with_reducible refine at_load 22 ?_); refine wpList_value (by rfl) _ (run_load_cell _ 22 _ (by rfl) ⟨w.heap.size, 84, none⟩ rfl (.int .u64 (f 84)) (hS.out.toBox.cell (show 84 < 86 by decide)) _ Tryd.underlying22 rfl) ?_)
    | ((with_reducible refine at_load 22 ?_); refine wpList_value (by rfl) _ (run_load_cell _ 22 _ (by rfl) ⟨w.heap.size, 85, none⟩ rfl (.int .u64 (f 85)) (hS.out.toBox.cell (show 85 < 86 by decide)) _ Tryd.underlying22 rfl) ?_)
    | ((with_reducible refine (RefR.num hS.out _).mono ?_)
       rintro e W ⟨va1, c1, rfl, hl1, hS1⟩
       have hl := Lib.hid hl1
       clear hl1
       clear hS
       have hS := Lib.hid hS1
       clear hS1)
    | ((with_reducible refine (RefR.chunk hS.out _ va1 c1 8 hl.out (numL_length _) (by decide) (by decide)).mono ?_)
       rintro e W ⟨rfl, hS1⟩
       clear hl
       clear hS
       have hS := Lib.hid hS1
       clear hS1)
    | ((with_reducible refine (RefR.flag hS.out _).mono ?_)
       rintro e W ⟨va1, c1, rfl, hl1, hS1⟩
       have hl := Lib.hid hl1
       clear hl1
       clear hS
       have hS := Lib.hid hS1
       clear hS1)
    | ((with_reducible refine (RefR.chunkF hS.out _ va1 c1 hl.out).mono ?_)
       rintro e W ⟨rfl, hS1⟩
       clear hl
       clear hS
       have hS := Lib.hid hS1
       clear hS1)
    | ((with_reducible refine (RefR.pack hS.out (byL f 0 48) (some ⟨w.heap.size, 0, none⟩) 48 48 2 (hS.out.toBox.sl 0 48 (by intro j hj; simp only [kdValidator]; (repeat' split) <;> first | rfl | (exfalso; omega)) (by decide) hf.out) (byL_length _ _ _) (by decide) (by decide) (by decide)).mono ?_)
       rintro e W ⟨va1, c1, rfl, hrw1, hlw1, hcq, hS1⟩
       have hrw := Lib.hid hrw1
       have hlw := Lib.hid hlw1
       clear hrw1 hlw1
       clear hS
       have hS := Lib.hid hS1
       clear hS1)
    | ((with_reducible refine (RefR.must hS.out (byL f 0 48) va1 c1 2 1 (2 : Int) hrw.out hlw.out hcq (by rw [byL_length]) rfl (by unfold Dep; decide) (by decide)).mono ?_)
       rintro e W ⟨rfl, hS1⟩
       clear hrw hlw hcq
       clear hS
       have hS := Lib.hid hS1
       clear hS1)
    | ((with_reducible refine at_store 29 ?_); refine at_staddr 29 (w.heap.size + 1 + 1) (32 * 0) rfl ?_; refine wpList_rootT rfl _ _ rfl 0 (byR 1 (byL f 0 48)) rfl rfl hS.out rfl (by decide) (byR_is (byL_ok (ok_u8 hf.out (by intro j hj; simp only [kdValidator]; (repeat' split) <;> first | rfl | (exfalso; omega)) (by decide)))) (fun W1 hS1 => ?_)
       obtain ⟨W, hWW⟩ : ∃ W, W = W1 := ⟨_, rfl⟩
       subst hWW
       clear hS
       have hS := Lib.hid hS1
       clear hS1)
    | ((with_reducible refine at_load 29 ?_); refine wpList_value (by rfl) _ (run_load_rows _ 29 _ (by rfl) w.heap.size 48 rfl (fcells 32 (fun _ => .u8) (shF f 48)) _ (hS.out.toBox.sub 48 32 (fun _ => .u8) (by intro j hj; simp only [kdValidator]; (repeat' split) <;> first | rfl | (exfalso; omega)) (by decide)) Tryd.underlying29 rfl (by rw [row_size row_root, fcells_length])) ?_)
    | ((with_reducible refine at_store 29 ?_); refine at_staddr 29 (w.heap.size + 1 + 1) (32 * 1) rfl ?_; refine wpList_rootT rfl _ _ rfl 1 (shF f 48) rfl rfl hS.out rfl (by decide) (isR_u8 hf.out (by intro j hj; simp only [kdValidator]; (repeat' split) <;> first | rfl | (exfalso; omega)) (by decide)) (fun W1 hS1 => ?_)
       obtain ⟨W, hWW⟩ : ∃ W, W = W1 := ⟨_, rfl⟩
       subst hWW
       clear hS
       have hS := Lib.hid hS1
       clear hS1)
    | ((with_reducible refine at_store 29 ?_); refine at_staddr 29 (w.heap.size + 1 + 1) (32 * 2) rfl ?_; refine wpList_rootT rfl _ _ rfl 2 (numR (f 80)) rfl rfl hS.out rfl (by decide) (numR_is _) (fun W1 hS1 => ?_)
       obtain ⟨W, hWW⟩ : ∃ W, W = W1 := ⟨_, rfl⟩
       subst hWW
       clear hS
       have hS := Lib.hid hS1
       clear hS1)
    | ((with_reducible refine at_store 29 ?_); refine at_staddr 29 (w.heap.size + 1 + 1) (32 * 3) rfl ?_; refine wpList_rootT rfl _ _ rfl 3 (flagR (!decide (f 81 = 0))) rfl rfl hS.out rfl (by decide) (flagR_is _) (fun W1 hS1 => ?_)
       obtain ⟨W, hWW⟩ : ∃ W, W = W1 := ⟨_, rfl⟩
       subst hWW
       clear hS
       have hS := Lib.hid hS1
       clear hS1)
    | ((with_reducible refine at_store 29 ?_); refine at_staddr 29 (w.heap.size + 1 + 1) (32 * 4) rfl ?_; refine wpList_rootT rfl _ _ rfl 4 (numR (f 82)) rfl rfl hS.out rfl (by decide) (numR_is _) (fun W1 hS1 => ?_)
       obtain ⟨W, hWW⟩ : ∃ W, W = W1 := ⟨_, rfl⟩
       subst hWW
       clear hS
       have hS := Lib.hid hS1
       clear hS1)
    | ((with_reducible refine at_store 29 ?_); refine at_staddr 29 (w.heap.size + 1 + 1) (32 * 5) rfl ?_; refine wpList_rootT rfl _ _ rfl 5 (numR (f 83)) rfl rfl hS.out rfl (by decide) (numR_is _) (fun W1 hS1 => ?_)
       obtain ⟨W, hWW⟩ : ∃ W, W = W1 := ⟨_, rfl⟩
       subst hWW
       clear hS
       have hS := Lib.hid hS1
       clear hS1)
    | ((with_reducible refine at_store 29 ?_); refine at_staddr 29 (w.heap.size + 1 + 1) (32 * 6) rfl ?_; refine wpList_rootT rfl _ _ rfl 6 (numR (f 84)) rfl rfl hS.out rfl (by decide) (numR_is _) (fun W1 hS1 => ?_)
       obtain ⟨W, hWW⟩ : ∃ W, W = W1 := ⟨_, rfl⟩
       subst hWW
       clear hS
       have hS := Lib.hid hS1
       clear hS1)
    | ((with_reducible refine at_store 29 ?_); refine at_staddr 29 (w.heap.size + 1 + 1) (32 * 7) rfl ?_; refine wpList_rootT rfl _ _ rfl 7 (numR (f 85)) rfl rfl hS.out rfl (by decide) (numR_is _) (fun W1 hS1 => ?_)
       obtain ⟨W, hWW⟩ : ∃ W, W = W1 := ⟨_, rfl⟩
       subst hWW
       clear hS
       have hS := Lib.hid hS1
       clear hS1)
    | ((with_reducible refine (RefR.last hS.out 3 (8 : Int) rfl rfl (by unfold Dep; decide) (by decide)).mono ?_)
       rintro e W ⟨rfl, hBf, hRf⟩
       have hRf1 := Lib.hid hRf
       clear hRf hS)
    | ((with_reducible refine at_store 29 ?_); go_loud (refine wpList_store_row_gen (w0 := w) (n0 := w.heap.size) 29 _ _ rfl rfl (w.heap.size + 1) rfl _ rfl (fcells_one _ _ _) (by rw [row_size row_root]; simp [fcells]) _ 29 hRf1.out (by rw [zr_size]; simp [fcells]) (by omega) hBf (fun W9 hW9 hBW _ => ?_))))
  exact ret_mid_tmp rfl (w.heap.size + 1) 0 (fcells 32 (fun _ => .u8) (rootValidator f)) _ rfl hW9 Tryd.underlying29 rfl (by rw [row_size row_root, fcells_length]) rfl ⟨rfl, hBW⟩
end Go.Proofs.YtmoofccblbaepaaDoor
