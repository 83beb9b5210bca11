/- The small container Header: its bytes, root and reading. -/
import Derived.Test.YtihelknkcomjpaaDoorJBoxR
set_option linter.unusedVariables false
set_option linter.unusedSimpArgs false
set_option linter.unnecessarySimpa false
namespace Go.Proofs.YtihelknkcomjpaaDoor
open Go.RowKit BigFrame
set_option maxRecDepth 100000
def kdHeader (j : Nat) : CK := if j < 2 then .u64 else .u8
/-- The bytes. -/
def encLHeader (f : Nat → Int) : List Int := numL (f 0) ++ numL (f 1) ++ byL f 2 32 ++ byL f 34 32 ++ byL f 66 32
theorem encHeader_length (f : Nat → Int) : (encLHeader f).length = 112 := by simp [encLHeader, numL_length, byL_length]
theorem encHeader_ok {f : Nat → Int} (hf : ∀ j, j < 98 → (kdHeader j).ok (f j)) : ∀ m ∈ encLHeader f, CK.ok .u8 m := (ok_append (ok_append (ok_append (ok_append (numL_ok _) (numL_ok _)) (byL_ok (ok_u8 hf (by intro j hj; simp only [kdHeader]; (repeat' split) <;> first | rfl | (exfalso; omega)) (by decide)))) (byL_ok (ok_u8 hf (by intro j hj; simp only [kdHeader]; (repeat' split) <;> first | rfl | (exfalso; omega)) (by decide)))) (byL_ok (ok_u8 hf (by intro j hj; simp only [kdHeader]; (repeat' split) <;> first | rfl | (exfalso; omega)) (by decide))))
theorem rowHeader : rowB Tryd.prog 45 98 = true := by kernel_rfl
set_option maxHeartbeats 8000000 in
theorem enc_Header (f : Nat → Int) (hf0 : ∀ j, j < 98 → (kdHeader j).ok (f j)) (w : World) :
    Calls Tryd.prog 99 #[.agg (fcells 98 kdHeader f).toArray] w fun e w' => (∃ va c, e = .returned (.slice va 112 c) ∧ (va = none → c = 0) ∧ OwnB w.heap.size (.slice va 112 c) (encLHeader f) w') ∧ Below w.heap.size w w' := by
  have hf := Lib.hid hf0
  clear hf0
  go_enter Tryd.func99, Tryd.ntmps99
  go_wp2_with (first
    | ((with_reducible refine at_alloc 84 ?_); go_loud (refine wpList_plain rfl fun K hK => wp_alloc_row 84 rfl 3 rfl _ 5 info_out (hK _ _ ?_)); clear hK K
       refine gen_l (fun W => EncS w.heap.size 98 kdHeader f 45 [] w W) (EncS.begin (heap_new _ _ _ _ rfl) rfl) ?_
       intro W hS0
       have hS := Lib.hid hS0
       clear hS0)
    | ((with_reducible refine at_load 27 ?_); refine wpList_value (by rfl) _ (run_load_cell _ 27 _ (by rfl) ⟨w.heap.size, 0, none⟩ rfl (.int .u64 (f 0)) (hS.out.toBox.cell (show 0 < 98 by decide)) _ Tryd.underlying27 rfl) ?_)
    | ((with_reducible refine at_load 27 ?_); refine wpList_value (by rfl) _ (run_load_cell _ 27 _ (by rfl) ⟨w.heap.size, 1, none⟩ rfl (.int .u64 (f 1)) (hS.out.toBox.cell (show 1 < 98 by decide)) _ Tryd.underlying27 rfl) ?_)
    | ((with_reducible refine (EncS.u64 hS.out _ (by simp [numL_length, byL_length])).mono ?_)
       rintro e W ⟨rfl, hS1⟩
       clear hS
       have hS := Lib.hid hS1
       clear hS1)
    | ((with_reducible refine (EncS.bytes hS.out 2 32 (by intro j hj; simp only [kdHeader]; (repeat' split) <;> first | rfl | (exfalso; omega)) (by decide) hf.out (by simp [numL_length, byL_length])).mono ?_)
       rintro e W ⟨rfl, hS1⟩
       clear hS
       have hS := Lib.hid hS1
       clear hS1)
    | ((with_reducible refine (EncS.bytes hS.out 34 32 (by intro j hj; simp only [kdHeader]; (repeat' split) <;> first | rfl | (exfalso; omega)) (by decide) hf.out (by simp [numL_length, byL_length])).mono ?_)
       rintro e W ⟨rfl, hS1⟩
       clear hS
       have hS := Lib.hid hS1
       clear hS1)
    | ((with_reducible refine (EncS.bytes hS.out 66 32 (by intro j hj; simp only [kdHeader]; (repeat' split) <;> first | rfl | (exfalso; omega)) (by decide) hf.out (by simp [numL_length, byL_length])).mono ?_)
       rintro e W ⟨rfl, hS1⟩
       clear hS
       have hS := Lib.hid hS1
       clear hS1)
    | ((with_reducible refine (EncS.done hS.out 112 (by simp [numL_length, byL_length]) (by decide)).mono ?_)
       rintro e W ⟨⟨va, c, rfl, hva, hOw⟩, hBf⟩
       have hOw1 := Lib.hid hOw
       have hva1 := Lib.hid hva
       clear hOw hva))
  exact ret_t1 rfl _ rfl rfl ⟨⟨va, c, rfl, hva1.out, by have h := hOw1.out; simp only [List.nil_append, List.append_assoc] at h; simpa only [encLHeader, List.append_assoc] using h⟩, hBf⟩
/-- The root. -/
def rootHeader (f : Nat → Int) : Nat → Int := fullT 3 (leaf [numR (f 0), numR (f 1), shF f 2, shF f 34, shF f 66])
theorem rootHeader_is {f : Nat → Int} (hf : ∀ j, j < 98 → (kdHeader j).ok (f j)) : IsR (rootHeader f) := fullT_is 3 (leaf_is (is_cons (numR_is _) (is_cons (numR_is _) (is_cons (ok_u8 hf (by intro j hj; simp only [kdHeader]; (repeat' split) <;> first | rfl | (exfalso; omega)) (by decide)) (is_cons (ok_u8 hf (by intro j hj; simp only [kdHeader]; (repeat' split) <;> first | rfl | (exfalso; omega)) (by decide)) (is_cons (ok_u8 hf (by intro j hj; simp only [kdHeader]; (repeat' split) <;> first | rfl | (exfalso; omega)) (by decide)) (is_nil)))))))
set_option maxHeartbeats 8000000 in
theorem root_Header (f : Nat → Int) (hf0 : ∀ j, j < 98 → (kdHeader j).ok (f j)) (w : World) (hT0 : Tabs w) :
    Calls Tryd.prog 100 #[.agg (fcells 98 kdHeader f).toArray] w fun e w' => e = .returned (.agg (rootV (rootHeader f))) ∧ Below w.heap.size w w' := by
  have hf := Lib.hid hf0
  have hT := Lib.hid hT0
  clear hf0 hT0
  go_enter Tryd.func100, Tryd.ntmps100
  go_wp2_with (first
    | ((with_reducible refine at_alloc 23 ?_); refine wpList_plain rfl fun K hK => wp_alloc_row 23 rfl 2 rfl zr 32 info_zr (hK _ _ ?_); clear hK K)
    | ((with_reducible refine at_alloc 90 ?_); go_loud (refine wpList_plain rfl fun K hK => wp_alloc_row 90 rfl 3 rfl _ 2 info_hash (hK _ _ ?_)); clear hK K
       refine gen_l (fun W => HashS w.heap.size 98 kdHeader f 45 [] w W) (HashS.begin (heap_new _ _ _ _ rfl) rfl hT.out) ?_
       intro W hS0
       have hS := Lib.hid hS0
       clear hS0)
    | ((with_reducible refine at_load 27 ?_); refine wpList_value (by rfl) _ (run_load_cell _ 27 _ (by rfl) ⟨w.heap.size, 0, none⟩ rfl (.int .u64 (f 0)) (hS.out.toBox.cell (show 0 < 98 by decide)) _ Tryd.underlying27 rfl) ?_)
    | ((with_reducible refine at_load 27 ?_); refine wpList_value (by rfl) _ (run_load_cell _ 27 _ (by rfl) ⟨w.heap.size, 1, none⟩ rfl (.int .u64 (f 1)) (hS.out.toBox.cell (show 1 < 98 by decide)) _ Tryd.underlying27 rfl) ?_)
    | ((with_reducible refine (HashS.u64 hS.out _ (by simp)).mono ?_)
       rintro e W ⟨rfl, hS1⟩
       clear hS
       have hS := Lib.hid hS1
       clear hS1)
    | ((with_reducible refine at_load 23 ?_); refine wpList_value (by rfl) _ (run_load_rows _ 23 _ (by rfl) w.heap.size 2 rfl (fcells 32 (fun _ => .u8) (shF f 2)) _ (hS.out.toBox.sub 2 32 (fun _ => .u8) (by intro j hj; simp only [kdHeader]; (repeat' split) <;> first | rfl | (exfalso; omega)) (by decide)) Tryd.underlying23 rfl (by rw [row_size row_root, fcells_length])) ?_)
    | ((with_reducible refine (HashS.put hS.out (shF f 2) (isR_u8 hf.out (by intro j hj; simp only [kdHeader]; (repeat' split) <;> first | rfl | (exfalso; omega)) (by decide)) (by simp)).mono ?_)
       rintro e W ⟨rfl, hS1⟩
       clear hS
       have hS := Lib.hid hS1
       clear hS1)
    | ((with_reducible refine at_load 23 ?_); refine wpList_value (by rfl) _ (run_load_rows _ 23 _ (by rfl) w.heap.size 34 rfl (fcells 32 (fun _ => .u8) (shF f 34)) _ (hS.out.toBox.sub 34 32 (fun _ => .u8) (by intro j hj; simp only [kdHeader]; (repeat' split) <;> first | rfl | (exfalso; omega)) (by decide)) Tryd.underlying23 rfl (by rw [row_size row_root, fcells_length])) ?_)
    | ((with_reducible refine (HashS.put hS.out (shF f 34) (isR_u8 hf.out (by intro j hj; simp only [kdHeader]; (repeat' split) <;> first | rfl | (exfalso; omega)) (by decide)) (by simp)).mono ?_)
       rintro e W ⟨rfl, hS1⟩
       clear hS
       have hS := Lib.hid hS1
       clear hS1)
    | ((with_reducible refine at_load 23 ?_); refine wpList_value (by rfl) _ (run_load_rows _ 23 _ (by rfl) w.heap.size 66 rfl (fcells 32 (fun _ => .u8) (shF f 66)) _ (hS.out.toBox.sub 66 32 (fun _ => .u8) (by intro j hj; simp only [kdHeader]; (repeat' split) <;> first | rfl | (exfalso; omega)) (by decide)) Tryd.underlying23 rfl (by rw [row_size row_root, fcells_length])) ?_)
    | ((with_reducible refine (HashS.put hS.out (shF f 66) (isR_u8 hf.out (by intro j hj; simp only [kdHeader]; (repeat' split) <;> first | rfl | (exfalso; omega)) (by decide)) (by simp)).mono ?_)
       rintro e W ⟨rfl, hS1⟩
       clear hS
       have hS := Lib.hid hS1
       clear hS1)
    | ((with_reducible refine (HashS.done hS.out 3 (by simp [Dep]) (by simp) (by decide)).mono ?_)
       rintro e W ⟨rfl, hBf, hRf⟩
       have hRf1 := Lib.hid hRf
       have hbs := hBf.size
       clear hRf hS)
    | ((with_reducible refine at_alloc 23 ?_); go_loud (refine wpList_alloc_store rfl rfl 23 4 _ rfl rfl rfl (rootV _) rfl rfl (zeroOf Tryd.prog 23) (row_zero row_root).1 (row_zero row_root).2 (fcells_one _ _ _) ?_))
    | ((with_reducible refine at_load 23 ?_); go_loud (refine wpList_value (by rfl) _ (run_load_box _ 23 _ (by rfl) W.heap.size (by rfl) _ _ (0, 0) _ (heap_new W _ 23 W.heap.size rfl) Tryd.underlying23 rfl (by rw [row_size row_root]; simp [fcells])) ?_))
    | ((with_reducible refine at_store 23 ?_); go_loud (refine wpList_store_row_gen (w0 := w) (n0 := w.heap.size) 23 _ _ rfl rfl (w.heap.size + 1) rfl _ rfl (fcells_one _ _ _) (by rw [row_size row_root]; simp [fcells]) _ 23 (heap_past _ _ _ _ hRf1.out) (by rw [zr_size]; simp [fcells]) (by omega) (hBf.alloc hbs _) (fun W9 hW9 hBW _ => ?_))))
  exact ret_cell rfl (w.heap.size + 1) 0 (fcells 32 (fun _ => .u8) (rootHeader f)) _ rfl hW9 Tryd.underlying23 rfl (by rw [row_size row_root, fcells_length]) rfl ⟨rfl, hBW⟩
set_option maxHeartbeats 8000000 in
theorem renc_Header (f : Nat → Int) (hf0 : ∀ j, j < 98 → (kdHeader j).ok (f j)) (w : World) :
    Calls Tryd.prog 101 #[.agg (fcells 98 kdHeader f).toArray] w fun e w' => (∃ va c, e = .returned (.tuple #[.slice va 112 c, .int .i64 0]) ∧ (va = none → c = 0) ∧ OwnB w.heap.size (.slice va 112 c) (encLHeader f) w') ∧ Below w.heap.size w w' := by
  have hf := Lib.hid hf0
  clear hf0
  go_enter Tryd.func101, Tryd.ntmps101
  go_wp2_with (first
    | ((with_reducible refine at_box 45 ?_); go_loud (refine wpList_box rfl 45 _ rfl _ rfl ?_)
       refine gen_l (fun W => RefE w.heap.size 98 kdHeader f 45 [] w W) (RefE.begin (heap_new _ _ _ _ rfl) rfl) ?_
       intro W hS0
       have hS := Lib.hid hS0
       clear hS0)
    | ((with_reducible refine at_load 27 ?_); refine wpList_value (by rfl) _ (run_load_cell _ 27 _ (by rfl) ⟨w.heap.size, 0, none⟩ rfl (.int .u64 (f 0)) (hS.out.toBox.cell (show 0 < 98 by decide)) _ Tryd.underlying27 rfl) ?_)
    | ((with_reducible refine at_load 27 ?_); refine wpList_value (by rfl) _ (run_load_cell _ 27 _ (by rfl) ⟨w.heap.size, 1, none⟩ rfl (.int .u64 (f 1)) (hS.out.toBox.cell (show 1 < 98 by decide)) _ Tryd.underlying27 rfl) ?_)
    | ((with_reducible refine (RefE.num hS.out _).mono ?_)
       rintro e W ⟨va1, c1, rfl, hS1⟩
       clear hS
       have hS := Lib.hid hS1
       clear hS1)
    | ((with_reducible refine at_bslice 34 ?_); go_loud (refine wpList_plain rfl fun K hK => wp_build0 rfl (hK _ _ ?_)); clear hK K)
    | ((with_reducible refine at_app 34 ?_); refine wpList_app (w0 := W) rfl _ _ rfl W.heap.size [] (byL f 2 32) _ rfl (OwnB.new (Nat.le_refl _) [] (by decide) (heap_new _ _ _ _ rfl)) (some ⟨w.heap.size, 2, none⟩) 32 rfl ((hS.out.toBox.row 2 32 (by intro j hj; simp only [kdHeader]; (repeat' split) <;> first | rfl | (exfalso; omega)) (by decide) hf.out).later ((Below.refl _ _).alloc (Nat.le_refl _) _)) (by simp [byL_length]) (by simp) (fun h => by cases h) ((Below.refl _ _).alloc (Nat.le_refl _) _) (fun v1 W1 h1 b1 z1 => ?_)
       obtain ⟨va1, c1, e1, hS1⟩ := hS.out.own h1 b1 (byL_ok (ok_u8 hf.out (by intro j hj; simp only [kdHeader]; (repeat' split) <;> first | rfl | (exfalso; omega)) (by decide))) (byL_length f 2 32)
       subst e1
       clear h1 b1 z1
       obtain ⟨W, hWW⟩ : ∃ W, W = W1 := ⟨_, rfl⟩
       subst hWW
       clear hS
       have hS := Lib.hid hS1
       clear hS1)
    | ((with_reducible refine at_app 34 ?_); refine wpList_app (w0 := W) rfl _ _ rfl W.heap.size [] (byL f 34 32) _ rfl (OwnB.new (Nat.le_refl _) [] (by decide) (heap_new _ _ _ _ rfl)) (some ⟨w.heap.size, 34, none⟩) 32 rfl ((hS.out.toBox.row 34 32 (by intro j hj; simp only [kdHeader]; (repeat' split) <;> first | rfl | (exfalso; omega)) (by decide) hf.out).later ((Below.refl _ _).alloc (Nat.le_refl _) _)) (by simp [byL_length]) (by simp) (fun h => by cases h) ((Below.refl _ _).alloc (Nat.le_refl _) _) (fun v1 W1 h1 b1 z1 => ?_)
       obtain ⟨va1, c1, e1, hS1⟩ := hS.out.own h1 b1 (byL_ok (ok_u8 hf.out (by intro j hj; simp only [kdHeader]; (repeat' split) <;> first | rfl | (exfalso; omega)) (by decide))) (byL_length f 34 32)
       subst e1
       clear h1 b1 z1
       obtain ⟨W, hWW⟩ : ∃ W, W = W1 := ⟨_, rfl⟩
       subst hWW
       clear hS
       have hS := Lib.hid hS1
       clear hS1)
    | ((with_reducible refine at_app 34 ?_); refine wpList_app (w0 := W) rfl _ _ rfl W.heap.size [] (byL f 66 32) _ rfl (OwnB.new (Nat.le_refl _) [] (by decide) (heap_new _ _ _ _ rfl)) (some ⟨w.heap.size, 66, none⟩) 32 rfl ((hS.out.toBox.row 66 32 (by intro j hj; simp only [kdHeader]; (repeat' split) <;> first | rfl | (exfalso; omega)) (by decide) hf.out).later ((Below.refl _ _).alloc (Nat.le_refl _) _)) (by simp [byL_length]) (by simp) (fun h => by cases h) ((Below.refl _ _).alloc (Nat.le_refl _) _) (fun v1 W1 h1 b1 z1 => ?_)
       obtain ⟨va1, c1, e1, hS1⟩ := hS.out.own h1 b1 (byL_ok (ok_u8 hf.out (by intro j hj; simp only [kdHeader]; (repeat' split) <;> first | rfl | (exfalso; omega)) (by decide))) (byL_length f 66 32)
       subst e1
       clear h1 b1 z1
       obtain ⟨W, hWW⟩ : ∃ W, W = W1 := ⟨_, rfl⟩
       subst hWW
       clear hS
       have hS := Lib.hid hS1
       clear hS1)
    | ((with_reducible refine (RefE.lay2 hS.out (k := 5) (S := 112) (L := encLHeader f) [8, 8, 32, 32, 32] ?hV ?hZ rfl (by decide) (by decide) (by simp [msOf, numL_length, byL_length]) (by decide) (by simp [msOf, encLHeader]) (encHeader_length f) (by decide)).mono ?hM)
       case hV => rfl
       case hZ => rfl
       rintro e W ⟨⟨va, c, rfl, hva, hOw⟩, hBf⟩
       have hOw1 := Lib.hid hOw
       have hva1 := Lib.hid hva
       clear hOw hva))
  exact ret_t2 rfl _ _ rfl rfl rfl ⟨⟨va, c, rfl, hva1.out, hOw1.out⟩, hBf⟩
end Go.Proofs.YtihelknkcomjpaaDoor
