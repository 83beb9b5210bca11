import Derived.Test.YtmoofccblbaepaaDoorKSmSignedExit
import Derived.Test.YtmoofccblbaepaaDoorKSrExit
set_option linter.unusedVariables false
set_option linter.unusedSimpArgs false
set_option linter.unnecessarySimpa false
/- The small container SignedExit: the reference's root. -/
namespace Go.Proofs.YtmoofccblbaepaaDoor
open Go.RowKit BigFrame
set_option maxRecDepth 100000
set_option maxHeartbeats 8000000 in
theorem rroot_SignedExit (f : Nat → Int) (hf0 : ∀ j, j < 98 → (kdSignedExit j).ok (f j)) (w : World) (hT0 : Tabs w) :
    Calls Tryd.prog 61 #[.agg (fcells 98 kdSignedExit f).toArray] w fun e w' => e = .returned (.tuple #[.agg (rootV (rootSignedExit f)), .int .i64 0]) ∧ Below w.heap.size w w' := by
  have hf := Lib.hid hf0
  have hT := Lib.hid hT0
  clear hf0 hT0
  go_enter Tryd.func61, Tryd.ntmps61
  go_wp2_with (first
    | ((with_reducible refine at_alloc 29 ?_); refine wpList_plain rfl fun K hK => wp_alloc_row 29 rfl 2 rfl zr 32 info_zr (hK _ _ ?_); clear hK K)
    | ((with_reducible refine at_alloc 158 ?_); go_loud (refine wpList_plain rfl fun K hK => wp_alloc_row 158 rfl 5 rfl (rep 64) 64 (by kernel_rfl) (hK _ _ ?_)); clear hK K
       refine gen_l (fun W => RefR w.heap.size 98 kdSignedExit f 101 158 2 [] w W) (RefR.begin (heap_new _ _ _ _ rfl) rfl hT.out (by simp) (rep_get _)) ?_
       intro W hS0
       have hS := Lib.hid hS0
       clear hS0)
    | ((with_reducible refine at_load 24 ?_); refine wpList_value (by rfl) _ (run_load_rows _ 24 _ (by rfl) w.heap.size 0 rfl (fcells 2 kdExit (shF f 0)) _ (hS.out.toBox.sub 0 2 kdExit (by intro j hj; simp only [kdSignedExit, kdExit]; (repeat' split) <;> first | rfl | (exfalso; omega)) (by decide)) Tryd.underlying24 rfl (by rw [row_size rowExit, fcells_length])) ?_)
    | ((with_reducible refine (rroot_Exit (shF f 0) (sub_ok hf.out (by intro j hj; simp only [kdSignedExit, kdExit]; (repeat' split) <;> first | rfl | (exfalso; omega)) (by decide)) _ hS.out.hT).mono ?_)
       rintro e W ⟨rfl, hb1⟩
       have hS1 := hS.out.later hb1
       clear hb1
       clear hS
       have hS := Lib.hid hS1
       clear hS1)
    | ((with_reducible refine at_store 29 ?_); refine at_staddr 29 (w.heap.size + 1 + 1) (32 * 0) rfl ?_; refine wpList_rootT rfl _ _ rfl 0 (rootExit (shF f 0)) rfl rfl hS.out rfl (by decide) (rootExit_is (sub_ok hf.out (by intro j hj; simp only [kdSignedExit, kdExit]; (repeat' split) <;> first | rfl | (exfalso; omega)) (by decide))) (fun W1 hS1 => ?_)
       obtain ⟨W, hWW⟩ : ∃ W, W = W1 := ⟨_, rfl⟩
       subst hWW
       clear hS
       have hS := Lib.hid hS1
       clear hS1)
    | ((with_reducible refine (RefR.pack hS.out (byL f 2 96) (some ⟨w.heap.size, 2, none⟩) 96 96 3 (hS.out.toBox.sl 2 96 (by intro j hj; simp only [kdSignedExit]; (repeat' split) <;> first | rfl | (exfalso; omega)) (by decide) hf.out) (byL_length _ _ _) (by decide) (by decide) (by decide)).mono ?_)
       rintro e W ⟨va1, c1, rfl, hrw1, hlw1, hcq, hS1⟩
       have hrw := Lib.hid hrw1
       have hlw := Lib.hid hlw1
       clear hrw1 hlw1
       clear hS
       have hS := Lib.hid hS1
       clear hS1)
    | ((with_reducible refine (RefR.must hS.out (byL f 2 96) va1 c1 3 2 (3 : Int) hrw.out hlw.out hcq (by rw [byL_length]) rfl (by unfold Dep; decide) (by decide)).mono ?_)
       rintro e W ⟨rfl, hS1⟩
       clear hrw hlw hcq
       clear hS
       have hS := Lib.hid hS1
       clear hS1)
    | ((with_reducible refine at_store 29 ?_); refine at_staddr 29 (w.heap.size + 1 + 1) (32 * 1) rfl ?_; refine wpList_rootT rfl _ _ rfl 1 (byR 2 (byL f 2 96)) rfl rfl hS.out rfl (by decide) (byR_is (byL_ok (ok_u8 hf.out (by intro j hj; simp only [kdSignedExit]; (repeat' split) <;> first | rfl | (exfalso; omega)) (by decide)))) (fun W1 hS1 => ?_)
       obtain ⟨W, hWW⟩ : ∃ W, W = W1 := ⟨_, rfl⟩
       subst hWW
       clear hS
       have hS := Lib.hid hS1
       clear hS1)
    | ((with_reducible refine (RefR.last hS.out 1 (2 : Int) rfl rfl (by unfold Dep; decide) (by decide)).mono ?_)
       rintro e W ⟨rfl, hBf, hRf⟩
       have hRf1 := Lib.hid hRf
       clear hRf hS)
    | ((with_reducible refine at_store 29 ?_); go_loud (refine wpList_store_row_gen (w0 := w) (n0 := w.heap.size) 29 _ _ rfl rfl (w.heap.size + 1) rfl _ rfl (fcells_one _ _ _) (by rw [row_size row_root]; simp [fcells]) _ 29 hRf1.out (by rw [zr_size]; simp [fcells]) (by omega) hBf (fun W9 hW9 hBW _ => ?_))))
  exact ret_mid_tmp rfl (w.heap.size + 1) 0 (fcells 32 (fun _ => .u8) (rootSignedExit f)) _ rfl hW9 Tryd.underlying29 rfl (by rw [row_size row_root, fcells_length]) rfl ⟨rfl, hBW⟩
end Go.Proofs.YtmoofccblbaepaaDoor
