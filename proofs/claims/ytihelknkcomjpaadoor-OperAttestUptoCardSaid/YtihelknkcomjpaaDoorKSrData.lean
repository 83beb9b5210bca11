/- The small container Data: the reference's root. -/
import Derived.Test.YtihelknkcomjpaaDoorKSmData
import Derived.Test.YtihelknkcomjpaaDoorKSrCheckpoint
set_option linter.unusedVariables false
set_option linter.unusedSimpArgs false
set_option linter.unnecessarySimpa false
namespace Go.Proofs.YtihelknkcomjpaaDoor
open Go.RowKit BigFrame
set_option maxRecDepth 100000
set_option maxHeartbeats 8000000 in
theorem rroot_Data (f : Nat → Int) (hf0 : ∀ j, j < 100 → (kdData j).ok (f j)) (w : World) (hT0 : Tabs w) :
    Calls Tryd.prog 73 #[.agg (fcells 100 kdData f).toArray] w fun e w' => e = .returned (.tuple #[.agg (rootV (rootData f)), .int .i64 0]) ∧ Below w.heap.size w w' := by
  have hf := Lib.hid hf0
  have hT := Lib.hid hT0
  clear hf0 hT0
  go_enter Tryd.func73, Tryd.ntmps73
  go_wp2_with (first
    | ((with_reducible refine at_alloc 23 ?_); refine wpList_plain rfl fun K hK => wp_alloc_row 23 rfl 2 rfl zr 32 info_zr (hK _ _ ?_); clear hK K)
    | ((with_reducible refine at_alloc 160 ?_); go_loud (refine wpList_plain rfl fun K hK => wp_alloc_row 160 rfl 5 rfl (rep 160) 160 (by kernel_rfl) (hK _ _ ?_)); clear hK K
       refine gen_l (fun W => RefR w.heap.size 100 kdData f 59 160 5 [] w W) (RefR.begin (heap_new _ _ _ _ rfl) rfl hT.out (by simp) (rep_get _)) ?_
       intro W hS0
       have hS := Lib.hid hS0
       clear hS0)
    | ((with_reducible refine at_load 27 ?_); refine wpList_value (by rfl) _ (run_load_cell _ 27 _ (by rfl) ⟨w.heap.size, 0, none⟩ rfl (.int .u64 (f 0)) (hS.out.toBox.cell (show 0 < 100 by decide)) _ Tryd.underlying27 rfl) ?_)
    | ((with_reducible refine at_load 27 ?_); refine wpList_value (by rfl) _ (run_load_cell _ 27 _ (by rfl) ⟨w.heap.size, 1, none⟩ rfl (.int .u64 (f 1)) (hS.out.toBox.cell (show 1 < 100 by decide)) _ Tryd.underlying27 rfl) ?_)
    | ((with_reducible refine at_load 57 ?_); refine wpList_value (by rfl) _ (run_load_rows _ 57 _ (by rfl) w.heap.size 34 rfl (fcells 33 kdCheckpoint (shF f 34)) _ (hS.out.toBox.sub 34 33 kdCheckpoint (by intro j hj; simp only [kdData, kdCheckpoint]; (repeat' split) <;> first | rfl | (exfalso; omega)) (by decide)) Tryd.underlying57 rfl (by rw [row_size rowCheckpoint, fcells_length])) ?_)
    | ((with_reducible refine at_load 57 ?_); refine wpList_value (by rfl) _ (run_load_rows _ 57 _ (by rfl) w.heap.size 67 rfl (fcells 33 kdCheckpoint (shF f 67)) _ (hS.out.toBox.sub 67 33 kdCheckpoint (by intro j hj; simp only [kdData, kdCheckpoint]; (repeat' split) <;> first | rfl | (exfalso; omega)) (by decide)) Tryd.underlying57 rfl (by rw [row_size rowCheckpoint, fcells_length])) ?_)
    | ((with_reducible refine (RefR.num hS.out _).mono ?_)
       rintro e W ⟨va1, c1, rfl, hl1, hS1⟩
       have hl := Lib.hid hl1
       clear hl1
       clear hS
       have hS := Lib.hid hS1
       clear hS1)
    | ((with_reducible refine (RefR.chunk hS.out _ va1 c1 8 hl.out (numL_length _) (by decide) (by decide)).mono ?_)
       rintro e W ⟨rfl, hS1⟩
       clear hl
       clear hS
       have hS := Lib.hid hS1
       clear hS1)
    | ((with_reducible refine at_store 23 ?_); refine at_staddr 23 (w.heap.size + 1 + 1) (32 * 0) rfl ?_; refine wpList_rootT rfl _ _ rfl 0 (numR (f 0)) rfl rfl hS.out rfl (by decide) (numR_is _) (fun W1 hS1 => ?_)
       obtain ⟨W, hWW⟩ : ∃ W, W = W1 := ⟨_, rfl⟩
       subst hWW
       clear hS
       have hS := Lib.hid hS1
       clear hS1)
    | ((with_reducible refine at_store 23 ?_); refine at_staddr 23 (w.heap.size + 1 + 1) (32 * 1) rfl ?_; refine wpList_rootT rfl _ _ rfl 1 (numR (f 1)) rfl rfl hS.out rfl (by decide) (numR_is _) (fun W1 hS1 => ?_)
       obtain ⟨W, hWW⟩ : ∃ W, W = W1 := ⟨_, rfl⟩
       subst hWW
       clear hS
       have hS := Lib.hid hS1
       clear hS1)
    | ((with_reducible refine at_load 23 ?_); refine wpList_value (by rfl) _ (run_load_rows _ 23 _ (by rfl) w.heap.size 2 rfl (fcells 32 (fun _ => .u8) (shF f 2)) _ (hS.out.toBox.sub 2 32 (fun _ => .u8) (by intro j hj; simp only [kdData]; (repeat' split) <;> first | rfl | (exfalso; omega)) (by decide)) Tryd.underlying23 rfl (by rw [row_size row_root, fcells_length])) ?_)
    | ((with_reducible refine at_store 23 ?_); refine at_staddr 23 (w.heap.size + 1 + 1) (32 * 2) rfl ?_; refine wpList_rootT rfl _ _ rfl 2 (shF f 2) rfl rfl hS.out rfl (by decide) (isR_u8 hf.out (by intro j hj; simp only [kdData]; (repeat' split) <;> first | rfl | (exfalso; omega)) (by decide)) (fun W1 hS1 => ?_)
       obtain ⟨W, hWW⟩ : ∃ W, W = W1 := ⟨_, rfl⟩
       subst hWW
       clear hS
       have hS := Lib.hid hS1
       clear hS1)
    | ((with_reducible refine (rroot_Checkpoint (shF f 34) (sub_ok hf.out (by intro j hj; simp only [kdData, kdCheckpoint]; (repeat' split) <;> first | rfl | (exfalso; omega)) (by decide)) _ hS.out.hT).mono ?_)
       rintro e W ⟨rfl, hb1⟩
       have hS1 := hS.out.later hb1
       clear hb1
       clear hS
       have hS := Lib.hid hS1
       clear hS1)
    | ((with_reducible refine at_store 23 ?_); refine at_staddr 23 (w.heap.size + 1 + 1) (32 * 3) rfl ?_; refine wpList_rootT rfl _ _ rfl 3 (rootCheckpoint (shF f 34)) rfl rfl hS.out rfl (by decide) (rootCheckpoint_is (sub_ok hf.out (by intro j hj; simp only [kdData, kdCheckpoint]; (repeat' split) <;> first | rfl | (exfalso; omega)) (by decide))) (fun W1 hS1 => ?_)
       obtain ⟨W, hWW⟩ : ∃ W, W = W1 := ⟨_, rfl⟩
       subst hWW
       clear hS
       have hS := Lib.hid hS1
       clear hS1)
    | ((with_reducible refine (rroot_Checkpoint (shF f 67) (sub_ok hf.out (by intro j hj; simp only [kdData, kdCheckpoint]; (repeat' split) <;> first | rfl | (exfalso; omega)) (by decide)) _ hS.out.hT).mono ?_)
       rintro e W ⟨rfl, hb1⟩
       have hS1 := hS.out.later hb1
       clear hb1
       clear hS
       have hS := Lib.hid hS1
       clear hS1)
    | ((with_reducible refine at_store 23 ?_); refine at_staddr 23 (w.heap.size + 1 + 1) (32 * 4) rfl ?_; refine wpList_rootT rfl _ _ rfl 4 (rootCheckpoint (shF f 67)) rfl rfl hS.out rfl (by decide) (rootCheckpoint_is (sub_ok hf.out (by intro j hj; simp only [kdData, kdCheckpoint]; (repeat' split) <;> first | rfl | (exfalso; omega)) (by decide))) (fun W1 hS1 => ?_)
       obtain ⟨W, hWW⟩ : ∃ W, W = W1 := ⟨_, rfl⟩
       subst hWW
       clear hS
       have hS := Lib.hid hS1
       clear hS1)
    | ((with_reducible refine (RefR.last hS.out 3 (5 : Int) rfl rfl (by unfold Dep; decide) (by decide)).mono ?_)
       rintro e W ⟨rfl, hBf, hRf⟩
       have hRf1 := Lib.hid hRf
       clear hRf hS)
    | ((with_reducible refine at_store 23 ?_); go_loud (refine wpList_store_row_gen (w0 := w) (n0 := w.heap.size) 23 _ _ rfl rfl (w.heap.size + 1) rfl _ rfl (fcells_one _ _ _) (by rw [row_size row_root]; simp [fcells]) _ 23 hRf1.out (by rw [zr_size]; simp [fcells]) (by omega) hBf (fun W9 hW9 hBW _ => ?_))))
  exact ret_mid_tmp rfl (w.heap.size + 1) 0 (fcells 32 (fun _ => .u8) (rootData f)) _ rfl hW9 Tryd.underlying23 rfl (by rw [row_size row_root, fcells_length]) rfl ⟨rfl, hBW⟩
end Go.Proofs.YtihelknkcomjpaaDoor
