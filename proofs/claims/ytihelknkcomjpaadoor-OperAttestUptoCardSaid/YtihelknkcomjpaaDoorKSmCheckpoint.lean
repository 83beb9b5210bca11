/- The small container Checkpoint: its bytes, root and reading. -/
import Derived.Test.YtihelknkcomjpaaDoorJBoxR
set_option linter.unusedVariables false
set_option linter.unusedSimpArgs false
set_option linter.unnecessarySimpa false
namespace Go.Proofs.YtihelknkcomjpaaDoor
open Go.RowKit BigFrame
set_option maxRecDepth 100000
def kdCheckpoint (j : Nat) : CK := if j < 1 then .u64 else .u8
/-- The bytes. -/
def encLCheckpoint (f : Nat → Int) : List Int := numL (f 0) ++ byL f 1 32
theorem encCheckpoint_length (f : Nat → Int) : (encLCheckpoint f).length = 40 := by simp [encLCheckpoint, numL_length, byL_length]
theorem encCheckpoint_ok {f : Nat → Int} (hf : ∀ j, j < 33 → (kdCheckpoint j).ok (f j)) : ∀ m ∈ encLCheckpoint f, CK.ok .u8 m := (ok_append (numL_ok _) (byL_ok (ok_u8 hf (by intro j hj; simp only [kdCheckpoint]; (repeat' split) <;> first | rfl | (exfalso; omega)) (by decide))))
theorem rowCheckpoint : rowB Tryd.prog 57 33 = true := by kernel_rfl
set_option maxHeartbeats 8000000 in
theorem enc_Checkpoint (f : Nat → Int) (hf0 : ∀ j, j < 33 → (kdCheckpoint j).ok (f j)) (w : World) :
    Calls Tryd.prog 106 #[.agg (fcells 33 kdCheckpoint f).toArray] w fun e w' => (∃ va c, e = .returned (.slice va 40 c) ∧ (va = none → c = 0) ∧ OwnB w.heap.size (.slice va 40 c) (encLCheckpoint f) w') ∧ Below w.heap.size w w' := by
  have hf := Lib.hid hf0
  clear hf0
  go_enter Tryd.func106, Tryd.ntmps106
  go_wp2_with (first
    | ((with_reducible refine at_alloc 84 ?_); go_loud (refine wpList_plain rfl fun K hK => wp_alloc_row 84 rfl 3 rfl _ 5 info_out (hK _ _ ?_)); clear hK K
       refine gen_l (fun W => EncS w.heap.size 33 kdCheckpoint f 57 [] w W) (EncS.begin (heap_new _ _ _ _ rfl) rfl) ?_
       intro W hS0
       have hS := Lib.hid hS0
       clear hS0)
    | ((with_reducible refine at_load 27 ?_); refine wpList_value (by rfl) _ (run_load_cell _ 27 _ (by rfl) ⟨w.heap.size, 0, none⟩ rfl (.int .u64 (f 0)) (hS.out.toBox.cell (show 0 < 33 by decide)) _ Tryd.underlying27 rfl) ?_)
    | ((with_reducible refine (EncS.u64 hS.out _ (by simp [numL_length, byL_length])).mono ?_)
       rintro e W ⟨rfl, hS1⟩
       clear hS
       have hS := Lib.hid hS1
       clear hS1)
    | ((with_reducible refine (EncS.bytes hS.out 1 32 (by intro j hj; simp only [kdCheckpoint]; (repeat' split) <;> first | rfl | (exfalso; omega)) (by decide) hf.out (by simp [numL_length, byL_length])).mono ?_)
       rintro e W ⟨rfl, hS1⟩
       clear hS
       have hS := Lib.hid hS1
       clear hS1)
    | ((with_reducible refine (EncS.done hS.out 40 (by simp [numL_length, byL_length]) (by decide)).mono ?_)
       rintro e W ⟨⟨va, c, rfl, hva, hOw⟩, hBf⟩
       have hOw1 := Lib.hid hOw
       have hva1 := Lib.hid hva
       clear hOw hva))
  exact ret_t1 rfl _ rfl rfl ⟨⟨va, c, rfl, hva1.out, by have h := hOw1.out; simp only [List.nil_append, List.append_assoc] at h; simpa only [encLCheckpoint, List.append_assoc] using h⟩, hBf⟩
/-- The root. -/
def rootCheckpoint (f : Nat → Int) : Nat → Int := fullT 1 (leaf [numR (f 0), shF f 1])
theorem rootCheckpoint_is {f : Nat → Int} (hf : ∀ j, j < 33 → (kdCheckpoint j).ok (f j)) : IsR (rootCheckpoint f) := fullT_is 1 (leaf_is (is_cons (numR_is _) (is_cons (ok_u8 hf (by intro j hj; simp only [kdCheckpoint]; (repeat' split) <;> first | rfl | (exfalso; omega)) (by decide)) (is_nil))))
set_option maxHeartbeats 8000000 in
theorem root_Checkpoint (f : Nat → Int) (hf0 : ∀ j, j < 33 → (kdCheckpoint j).ok (f j)) (w : World) (hT0 : Tabs w) :
    Calls Tryd.prog 109 #[.agg (fcells 33 kdCheckpoint f).toArray] w fun e w' => e = .returned (.agg (rootV (rootCheckpoint f))) ∧ Below w.heap.size w w' := by
  have hf := Lib.hid hf0
  have hT := Lib.hid hT0
  clear hf0 hT0
  go_enter Tryd.func109, Tryd.ntmps109
  go_wp2_with (first
    | ((with_reducible refine at_alloc 23 ?_); refine wpList_plain rfl fun K hK => wp_alloc_row 23 rfl 2 rfl zr 32 info_zr (hK _ _ ?_); clear hK K)
    | ((with_reducible refine at_alloc 90 ?_); go_loud (refine wpList_plain rfl fun K hK => wp_alloc_row 90 rfl 3 rfl _ 2 info_hash (hK _ _ ?_)); clear hK K
       refine gen_l (fun W => HashS w.heap.size 33 kdCheckpoint f 57 [] w W) (HashS.begin (heap_new _ _ _ _ rfl) rfl hT.out) ?_
       intro W hS0
       have hS := Lib.hid hS0
       clear hS0)
    | ((with_reducible refine at_load 27 ?_); refine wpList_value (by rfl) _ (run_load_cell _ 27 _ (by rfl) ⟨w.heap.size, 0, none⟩ rfl (.int .u64 (f 0)) (hS.out.toBox.cell (show 0 < 33 by decide)) _ Tryd.underlying27 rfl) ?_)
    | ((with_reducible refine (HashS.u64 hS.out _ (by simp)).mono ?_)
       rintro e W ⟨rfl, hS1⟩
       clear hS
       have hS := Lib.hid hS1
       clear hS1)
    | ((with_reducible refine at_load 23 ?_); refine wpList_value (by rfl) _ (run_load_rows _ 23 _ (by rfl) w.heap.size 1 rfl (fcells 32 (fun _ => .u8) (shF f 1)) _ (hS.out.toBox.sub 1 32 (fun _ => .u8) (by intro j hj; simp only [kdCheckpoint]; (repeat' split) <;> first | rfl | (exfalso; omega)) (by decide)) Tryd.underlying23 rfl (by rw [row_size row_root, fcells_length])) ?_)
    | ((with_reducible refine (HashS.put hS.out (shF f 1) (isR_u8 hf.out (by intro j hj; simp only [kdCheckpoint]; (repeat' split) <;> first | rfl | (exfalso; omega)) (by decide)) (by simp)).mono ?_)
       rintro e W ⟨rfl, hS1⟩
       clear hS
       have hS := Lib.hid hS1
       clear hS1)
    | ((with_reducible refine (HashS.done hS.out 1 (by simp [Dep]) (by simp) (by decide)).mono ?_)
       rintro e W ⟨rfl, hBf, hRf⟩
       have hRf1 := Lib.hid hRf
       have hbs := hBf.size
       clear hRf hS)
    | ((with_reducible refine at_alloc 23 ?_); go_loud (refine wpList_alloc_store rfl rfl 23 4 _ rfl rfl rfl (rootV _) rfl rfl (zeroOf Tryd.prog 23) (row_zero row_root).1 (row_zero row_root).2 (fcells_one _ _ _) ?_))
    | ((with_reducible refine at_load 23 ?_); go_loud (refine wpList_value (by rfl) _ (run_load_box _ 23 _ (by rfl) W.heap.size (by rfl) _ _ (0, 0) _ (heap_new W _ 23 W.heap.size rfl) Tryd.underlying23 rfl (by rw [row_size row_root]; simp [fcells])) ?_))
    | ((with_reducible refine at_store 23 ?_); go_loud (refine wpList_store_row_gen (w0 := w) (n0 := w.heap.size) 23 _ _ rfl rfl (w.heap.size + 1) rfl _ rfl (fcells_one _ _ _) (by rw [row_size row_root]; simp [fcells]) _ 23 (heap_past _ _ _ _ hRf1.out) (by rw [zr_size]; simp [fcells]) (by omega) (hBf.alloc hbs _) (fun W9 hW9 hBW _ => ?_))))
  exact ret_cell rfl (w.heap.size + 1) 0 (fcells 32 (fun _ => .u8) (rootCheckpoint f)) _ rfl hW9 Tryd.underlying23 rfl (by rw [row_size row_root, fcells_length]) rfl ⟨rfl, hBW⟩
set_option maxHeartbeats 8000000 in
theorem renc_Checkpoint (f : Nat → Int) (hf0 : ∀ j, j < 33 → (kdCheckpoint j).ok (f j)) (w : World) :
    Calls Tryd.prog 111 #[.agg (fcells 33 kdCheckpoint f).toArray] w fun e w' => (∃ va c, e = .returned (.tuple #[.slice va 40 c, .int .i64 0]) ∧ (va = none → c = 0) ∧ OwnB w.heap.size (.slice va 40 c) (encLCheckpoint f) w') ∧ Below w.heap.size w w' := by
  have hf := Lib.hid hf0
  clear hf0
  go_enter Tryd.func111, Tryd.ntmps111
  go_wp2_with (first
    | ((with_reducible refine at_box 57 ?_); go_loud (refine wpList_box rfl 57 _ rfl _ rfl ?_)
       refine gen_l (fun W => RefE w.heap.size 33 kdCheckpoint f 57 [] w W) (RefE.begin (heap_new _ _ _ _ rfl) rfl) ?_
       intro W hS0
       have hS := Lib.hid hS0
       clear hS0)
    | ((with_reducible refine at_load 27 ?_); refine wpList_value (by rfl) _ (run_load_cell _ 27 _ (by rfl) ⟨w.heap.size, 0, none⟩ rfl (.int .u64 (f 0)) (hS.out.toBox.cell (show 0 < 33 by decide)) _ Tryd.underlying27 rfl) ?_)
    | ((with_reducible refine (RefE.num hS.out _).mono ?_)
       rintro e W ⟨va1, c1, rfl, hS1⟩
       clear hS
       have hS := Lib.hid hS1
       clear hS1)
    | ((with_reducible refine at_bslice 34 ?_); go_loud (refine wpList_plain rfl fun K hK => wp_build0 rfl (hK _ _ ?_)); clear hK K)
    | ((with_reducible refine at_app 34 ?_); refine wpList_app (w0 := W) rfl _ _ rfl W.heap.size [] (byL f 1 32) _ rfl (OwnB.new (Nat.le_refl _) [] (by decide) (heap_new _ _ _ _ rfl)) (some ⟨w.heap.size, 1, none⟩) 32 rfl ((hS.out.toBox.row 1 32 (by intro j hj; simp only [kdCheckpoint]; (repeat' split) <;> first | rfl | (exfalso; omega)) (by decide) hf.out).later ((Below.refl _ _).alloc (Nat.le_refl _) _)) (by simp [byL_length]) (by simp) (fun h => by cases h) ((Below.refl _ _).alloc (Nat.le_refl _) _) (fun v1 W1 h1 b1 z1 => ?_)
       obtain ⟨va1, c1, e1, hS1⟩ := hS.out.own h1 b1 (byL_ok (ok_u8 hf.out (by intro j hj; simp only [kdCheckpoint]; (repeat' split) <;> first | rfl | (exfalso; omega)) (by decide))) (byL_length f 1 32)
       subst e1
       clear h1 b1 z1
       obtain ⟨W, hWW⟩ : ∃ W, W = W1 := ⟨_, rfl⟩
       subst hWW
       clear hS
       have hS := Lib.hid hS1
       clear hS1)
    | ((with_reducible refine (RefE.lay2 hS.out (k := 2) (S := 40) (L := encLCheckpoint f) [8, 32] ?hV ?hZ rfl (by decide) (by decide) (by simp [msOf, numL_length, byL_length]) (by decide) (by simp [msOf, encLCheckpoint]) (encCheckpoint_length f) (by decide)).mono ?hM)
       case hV => rfl
       case hZ => rfl
       rintro e W ⟨⟨va, c, rfl, hva, hOw⟩, hBf⟩
       have hOw1 := Lib.hid hOw
       have hva1 := Lib.hid hva
       clear hOw hva))
  exact ret_t2 rfl _ _ rfl rfl rfl ⟨⟨va, c, rfl, hva1.out, hOw1.out⟩, hBf⟩
end Go.Proofs.YtihelknkcomjpaaDoor
