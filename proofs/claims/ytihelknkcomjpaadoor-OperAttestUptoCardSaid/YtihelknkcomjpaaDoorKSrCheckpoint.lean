/- The small container Checkpoint: the reference's root. -/
import Derived.Test.YtihelknkcomjpaaDoorKSmCheckpoint
set_option linter.unusedVariables false
set_option linter.unusedSimpArgs false
set_option linter.unnecessarySimpa false
namespace Go.Proofs.YtihelknkcomjpaaDoor
open Go.RowKit BigFrame
set_option maxRecDepth 100000
set_option maxHeartbeats 8000000 in
theorem rroot_Checkpoint (f : Nat → Int) (hf0 : ∀ j, j < 33 → (kdCheckpoint j).ok (f j)) (w : World) (hT0 : Tabs w) :
    Calls Tryd.prog 113 #[.agg (fcells 33 kdCheckpoint f).toArray] w fun e w' => e = .returned (.tuple #[.agg (rootV (rootCheckpoint f)), .int .i64 0]) ∧ Below w.heap.size w w' := by
  have hf := Lib.hid hf0
  have hT := Lib.hid hT0
  clear hf0 hT0
  go_enter Tryd.func113, Tryd.ntmps113
  go_wp2_with (first
    | ((with_reducible refine at_alloc 23 ?_); refine wpList_plain rfl fun K hK => wp_alloc_row 23 rfl 2 rfl zr 32 info_zr (hK _ _ ?_); clear hK K)
    | ((with_reducible refine at_alloc 97 ?_); go_loud (refine wpList_plain rfl fun K hK => wp_alloc_row 97 rfl 5 rfl (rep 64) 64 (by kernel_rfl) (hK _ _ ?_)); clear hK K
       refine gen_l (fun W => RefR w.heap.size 33 kdCheckpoint f 57 97 2 [] w W) (RefR.begin (heap_new _ _ _ _ rfl) rfl hT.out (by simp) (rep_get _)) ?_
       intro W hS0
       have hS := Lib.hid hS0
       clear hS0)
    | ((with_reducible refine at_load 27 ?_); refine wpList_value (by rfl) _ (run_load_cell _ 27 _ (by rfl) ⟨w.heap.size, 0, none⟩ rfl (.int .u64 (f 0)) (hS.out.toBox.cell (show 0 < 33 by decide)) _ Tryd.underlying27 rfl) ?_)
    | ((with_reducible refine (RefR.num hS.out _).mono ?_)
       rintro e W ⟨va1, c1, rfl, hl1, hS1⟩
       have hl := Lib.hid hl1
       clear hl1
       clear hS
       have hS := Lib.hid hS1
       clear hS1)
    | ((with_reducible refine (RefR.chunk hS.out _ va1 c1 8 hl.out (numL_length _) (by decide) (by decide)).mono ?_)
       rintro e W ⟨rfl, hS1⟩
       clear hl
       clear hS
       have hS := Lib.hid hS1
       clear hS1)
    | ((with_reducible refine at_store 23 ?_); refine at_staddr 23 (w.heap.size + 1 + 1) (32 * 0) rfl ?_; refine wpList_rootT rfl _ _ rfl 0 (numR (f 0)) rfl rfl hS.out rfl (by decide) (numR_is _) (fun W1 hS1 => ?_)
       obtain ⟨W, hWW⟩ : ∃ W, W = W1 := ⟨_, rfl⟩
       subst hWW
       clear hS
       have hS := Lib.hid hS1
       clear hS1)
    | ((with_reducible refine at_load 23 ?_); refine wpList_value (by rfl) _ (run_load_rows _ 23 _ (by rfl) w.heap.size 1 rfl (fcells 32 (fun _ => .u8) (shF f 1)) _ (hS.out.toBox.sub 1 32 (fun _ => .u8) (by intro j hj; simp only [kdCheckpoint]; (repeat' split) <;> first | rfl | (exfalso; omega)) (by decide)) Tryd.underlying23 rfl (by rw [row_size row_root, fcells_length])) ?_)
    | ((with_reducible refine at_store 23 ?_); refine at_staddr 23 (w.heap.size + 1 + 1) (32 * 1) rfl ?_; refine wpList_rootT rfl _ _ rfl 1 (shF f 1) rfl rfl hS.out rfl (by decide) (isR_u8 hf.out (by intro j hj; simp only [kdCheckpoint]; (repeat' split) <;> first | rfl | (exfalso; omega)) (by decide)) (fun W1 hS1 => ?_)
       obtain ⟨W, hWW⟩ : ∃ W, W = W1 := ⟨_, rfl⟩
       subst hWW
       clear hS
       have hS := Lib.hid hS1
       clear hS1)
    | ((with_reducible refine (RefR.last hS.out 1 (2 : Int) rfl rfl (by unfold Dep; decide) (by decide)).mono ?_)
       rintro e W ⟨rfl, hBf, hRf⟩
       have hRf1 := Lib.hid hRf
       clear hRf hS)
    | ((with_reducible refine at_store 23 ?_); go_loud (refine wpList_store_row_gen (w0 := w) (n0 := w.heap.size) 23 _ _ rfl rfl (w.heap.size + 1) rfl _ rfl (fcells_one _ _ _) (by rw [row_size row_root]; simp [fcells]) _ 23 hRf1.out (by rw [zr_size]; simp [fcells]) (by omega) hBf (fun W9 hW9 hBW _ => ?_))))
  exact ret_mid_tmp rfl (w.heap.size + 1) 0 (fcells 32 (fun _ => .u8) (rootCheckpoint f)) _ rfl hW9 Tryd.underlying23 rfl (by rw [row_size row_root, fcells_length]) rfl ⟨rfl, hBW⟩
end Go.Proofs.YtihelknkcomjpaaDoor
