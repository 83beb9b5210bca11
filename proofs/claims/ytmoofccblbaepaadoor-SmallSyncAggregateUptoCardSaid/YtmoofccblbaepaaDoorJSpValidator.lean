import Derived.Test.YtmoofccblbaepaaDoorJBoxR
import Derived.Test.YtmoofccblbaepaaDoorJRqS
set_option linter.unusedVariables false
set_option linter.unusedSimpArgs false
set_option linter.unnecessarySimpa false
/- The small container Validator: its bytes, root and reading. -/
namespace Go.Proofs.YtmoofccblbaepaaDoor
open Go.RowKit BigFrame
set_option maxRecDepth 100000
def kdValidator (j : Nat) : CK := if j < 80 then .u8 else if j < 81 then .u64 else if j < 82 then .bool else .u64
/-- The bytes. -/
def encLValidator (f : Nat → Int) : List Int := byL f 0 48 ++ byL f 48 32 ++ numL (f 80) ++ [if (!decide (f 81 = 0)) = true then 1 else 0] ++ numL (f 82) ++ numL (f 83) ++ numL (f 84) ++ numL (f 85)
theorem encValidator_length (f : Nat → Int) : (encLValidator f).length = 121 := by simp [encLValidator, numL_length, byL_length]
theorem encValidator_ok {f : Nat → Int} (hf : ∀ j, j < 86 → (kdValidator j).ok (f j)) : ∀ m ∈ encLValidator f, CK.ok .u8 m := (ok_append (ok_append (ok_append (ok_append (ok_append (ok_append (ok_append (byL_ok (ok_u8 hf (by intro j hj; simp only [kdValidator]; (repeat' split) <;> first | rfl | (exfalso; omega)) (by decide))) (byL_ok (ok_u8 hf (by intro j hj; simp only [kdValidator]; (repeat' split) <;> first | rfl | (exfalso; omega)) (by decide)))) (numL_ok _)) flagL_ok) (numL_ok _)) (numL_ok _)) (numL_ok _)) (numL_ok _))
theorem rowValidator : rowB Tryd.prog 110 86 = true := by kernel_rfl
set_option maxHeartbeats 8000000 in
theorem enc_Validator (f : Nat → Int) (hf0 : ∀ j, j < 86 → (kdValidator j).ok (f j)) (w : World) :
    Calls Tryd.prog 64 #[.agg (fcells 86 kdValidator f).toArray] w fun e w' => (∃ va c, e = .returned (.slice va 121 c) ∧ (va = none → c = 0) ∧ OwnB w.heap.size (.slice va 121 c) (encLValidator f) w') ∧ Below w.heap.size w w' := by
  have hf := Lib.hid hf0
  clear hf0
  go_enter Tryd.func64, Tryd.ntmps64
  go_wp2_with (first
    | ((with_reducible refine at_alloc 148 ?_); go_loud (refine wpList_plain rfl fun K hK => wp_alloc_row 148 rfl 3 rfl _ 5 info_out (hK _ _ ?_)); clear hK K
       refine gen_l (fun W => EncS w.heap.size 86 kdValidator f 110 [] w W) (EncS.begin (heap_new _ _ _ _ rfl) rfl) ?_
       intro W hS0
       have hS := Lib.hid hS0
       clear hS0)
    | ((with_reducible refine at_load 22 ?_); refine wpList_value (by rfl) _ (run_load_cell _ 22 _ (by rfl) ⟨w.heap.size, 80, none⟩ rfl (.int .u64 (f 80)) (hS.out.toBox.cell (show 80 < 86 by decide)) _ Tryd.underlying22 rfl) ?_)
    | ((with_reducible refine at_load 4 ?_); refine wpList_value (by rfl) _ (run_load_cell _ 4 _ (by rfl) ⟨w.heap.size, 81, none⟩ rfl (.bool (!decide (f 81 = 0))) (hS.out.toBox.flag (show 81 < 86 by decide) rfl) _ Tryd.underlying4 rfl) ?_)
    | ((with_reducible refine at_load 22 ?_); refine wpList_value (by rfl) _ (run_load_cell _ 22 _ (by rfl) ⟨w.heap.size, 82, none⟩ rfl (.int .u64 (f 82)) (hS.out.toBox.cell (show 82 < 86 by decide)) _ Tryd.underlying22 rfl) ?_)
    | ((with_reducible refine at_load 22 ?_); refine wpList_value (by rfl) _ (run_load_cell _ 22 _ (by rfl) ⟨w.heap.size, 83, none⟩ rfl (.int .u64 (f 83)) (hS.out.toBox.cell (show 83 < 86 by decide)) _ Tryd.underlying22 rfl) ?_)
    | ((with_reducible refine at_load 22 ?_); refine wpList_value (by rfl) _ (run_load_cell _ 22 _ (by rfl) ⟨w.heap.size, 84, none⟩ rfl (.int .u64 (f 84)) (hS.out.toBox.cell (show 84 < 86 by decide)) _ Tryd.underlying22 rfl) ?_)
    | ((with_reducible refine at_load 22 ?_); refine wpList_value (by rfl) _ (run_load_cell _ 22 _ (by rfl) ⟨w.heap.size, 85, none⟩ rfl (.int .u64 (f 85)) (hS.out.toBox.cell (show 85 < 86 by decide)) _ Tryd.underlying22 rfl) ?_)
    | ((with_reducible refine (EncS.u64 hS.out _ (by simp [numL_length, byL_length])).mono ?_)
       rintro e W ⟨rfl, hS1⟩
       clear hS
       have hS := Lib.hid hS1
       clear hS1)
    | ((with_reducible refine (EncS.flag hS.out _ (by simp [numL_length, byL_length])).mono ?_)
       rintro e W ⟨rfl, hS1⟩
       clear hS
       have hS := Lib.hid hS1
       clear hS1)
    | ((with_reducible refine (EncS.bytes hS.out 0 48 (by intro j hj; simp only [kdValidator]; (repeat' split) <;> first | rfl | (exfalso; omega)) (by decide) hf.out (by simp [numL_length, byL_length])).mono ?_)
       rintro e W ⟨rfl, hS1⟩
       clear hS
       have hS := Lib.hid hS1
       clear hS1)
    | ((with_reducible refine (EncS.bytes hS.out 48 32 (by intro j hj; simp only [kdValidator]; (repeat' split) <;> first | rfl | (exfalso; omega)) (by decide) hf.out (by simp [numL_length, byL_length])).mono ?_)
       rintro e W ⟨rfl, hS1⟩
       clear hS
       have hS := Lib.hid hS1
       clear hS1)
    | ((with_reducible refine (EncS.done hS.out 121 (by simp [numL_length, byL_length]) (by decide)).mono ?_)
       rintro e W ⟨⟨va, c, rfl, hva, hOw⟩, hBf⟩
       have hOw1 := Lib.hid hOw
       have hva1 := Lib.hid hva
       clear hOw hva))
  exact ret_t1 rfl _ rfl rfl ⟨⟨va, c, rfl, hva1.out, by have h := hOw1.out; simp only [List.nil_append, List.append_assoc] at h; simpa only [encLValidator, List.append_assoc] using h⟩, hBf⟩
/-- The root. -/
def rootValidator (f : Nat → Int) : Nat → Int := fullT 3 (leaf [byR 1 (byL f 0 48), shF f 48, numR (f 80), flagR (!decide (f 81 = 0)), numR (f 82), numR (f 83), numR (f 84), numR (f 85)])
theorem rootValidator_is {f : Nat → Int} (hf : ∀ j, j < 86 → (kdValidator j).ok (f j)) : IsR (rootValidator f) := fullT_is 3 (leaf_is (is_cons (byR_is (byL_ok (ok_u8 hf (by intro j hj; simp only [kdValidator]; (repeat' split) <;> first | rfl | (exfalso; omega)) (by decide)))) (is_cons (ok_u8 hf (by intro j hj; simp only [kdValidator]; (repeat' split) <;> first | rfl | (exfalso; omega)) (by decide)) (is_cons (numR_is _) (is_cons (flagR_is _) (is_cons (numR_is _) (is_cons (numR_is _) (is_cons (numR_is _) (is_cons (numR_is _) (is_nil))))))))))
set_option maxHeartbeats 8000000 in
theorem root_Validator (f : Nat → Int) (hf0 : ∀ j, j < 86 → (kdValidator j).ok (f j)) (w : World) (hT0 : Tabs w) :
    Calls Tryd.prog 65 #[.agg (fcells 86 kdValidator f).toArray] w fun e w' => e = .returned (.agg (rootV (rootValidator f))) ∧ Below w.heap.size w w' := by
  have hf := Lib.hid hf0
  have hT := Lib.hid hT0
  clear hf0 hT0
  go_enter Tryd.func65, Tryd.ntmps65
  go_wp2_with (first
    | ((with_reducible refine at_alloc 29 ?_); refine wpList_plain rfl fun K hK => wp_alloc_row 29 rfl 2 rfl zr 32 info_zr (hK _ _ ?_); clear hK K)
    | ((with_reducible refine at_alloc 153 ?_); go_loud (refine wpList_plain rfl fun K hK => wp_alloc_row 153 rfl 3 rfl _ 2 info_hash (hK _ _ ?_)); clear hK K
       refine gen_l (fun W => HashS w.heap.size 86 kdValidator f 110 [] w W) (HashS.begin (heap_new _ _ _ _ rfl) rfl hT.out) ?_
       intro W hS0
       have hS := Lib.hid hS0
       clear hS0)
    | ((with_reducible refine at_load 22 ?_); refine wpList_value (by rfl) _ (run_load_cell _ 22 _ (by rfl) ⟨w.heap.size, 80, none⟩ rfl (.int .u64 (f 80)) (hS.out.toBox.cell (show 80 < 86 by decide)) _ Tryd.underlying22 rfl) ?_)
    | ((with_reducible refine at_load 4 ?_); refine wpList_value (by rfl) _ (run_load_cell _ 4 _ (by rfl) ⟨w.heap.size, 81, none⟩ rfl (.bool (!decide (f 81 = 0))) (hS.out.toBox.flag (show 81 < 86 by decide) rfl) _ Tryd.underlying4 rfl) ?_)
    | ((with_reducible refine at_load 22 ?_); refine wpList_value (by rfl) _ (run_load_cell _ 22 _ (by rfl) ⟨w.heap.size, 82, none⟩ rfl (.int .u64 (f 82)) (hS.out.toBox.cell (show 82 < 86 by decide)) _ Tryd.underlying22 rfl) ?_)
    | ((with_reducible refine at_load 22 ?_); refine wpList_value (by rfl) _ (run_load_cell _ 22 _ (by rfl) ⟨w.heap.size, 83, none⟩ rfl (.int .u64 (f 83)) (hS.out.toBox.cell (show 83 < 86 by decide)) _ Tryd.underlying22 rfl) ?_)
    | ((with_reducible refine at_load 22 ?_); refine wpList_value (by rfl) _ (run_load_cell _ 22 _ (by rfl) ⟨w.heap.size, 84, none⟩ rfl (.int .u64 (f 84)) (hS.out.toBox.cell (show 84 < 86 by decide)) _ Tryd.underlying22 rfl) ?_)
    | ((with_reducible refine at_load 22 ?_); refine wpList_value (by rfl) _ (run_load_cell _ 22 _ (by rfl) ⟨w.heap.size, 85, none⟩ rfl (.int .u64 (f 85)) (hS.out.toBox.cell (show 85 < 86 by decide)) _ Tryd.underlying22 rfl) ?_)
    | ((with_reducible refine (HashS.u64 hS.out _ (by simp)).mono ?_)
       rintro e W ⟨rfl, hS1⟩
       clear hS
       have hS := Lib.hid hS1
       clear hS1)
    | ((with_reducible refine (HashS.flag hS.out _ (by simp)).mono ?_)
       rintro e W ⟨rfl, hS1⟩
       clear hS
       have hS := Lib.hid hS1
       clear hS1)
    | ((with_reducible refine (HashS.bytes hS.out 0 48 1 (by intro j hj; simp only [kdValidator]; (repeat' split) <;> first | rfl | (exfalso; omega)) (by decide) hf.out (by decide) (by decide) (by unfold Dep; decide) (by decide) (by simp)).mono ?_)
       rintro e W ⟨rfl, hS1⟩
       clear hS
       have hS := Lib.hid hS1
       clear hS1)
    | ((with_reducible refine at_load 29 ?_); refine wpList_value (by rfl) _ (run_load_rows _ 29 _ (by rfl) w.heap.size 48 rfl (fcells 32 (fun _ => .u8) (shF f 48)) _ (hS.out.toBox.sub 48 32 (fun _ => .u8) (by intro j hj; simp only [kdValidator]; (repeat' split) <;> first | rfl | (exfalso; omega)) (by decide)) Tryd.underlying29 rfl (by rw [row_size row_root, fcells_length])) ?_)
    | ((with_reducible refine (HashS.put hS.out (shF f 48) (isR_u8 hf.out (by intro j hj; simp only [kdValidator]; (repeat' split) <;> first | rfl | (exfalso; omega)) (by decide)) (by simp)).mono ?_)
       rintro e W ⟨rfl, hS1⟩
       clear hS
       have hS := Lib.hid hS1
       clear hS1)
    | ((with_reducible refine (HashS.done hS.out 3 (by simp [Dep]) (by simp) (by decide)).mono ?_)
       rintro e W ⟨rfl, hBf, hRf⟩
       have hRf1 := Lib.hid hRf
       have hbs := hBf.size
       clear hRf hS)
    | ((with_reducible refine at_alloc 29 ?_); go_loud (refine wpList_alloc_store rfl rfl 29 4 _ rfl rfl rfl (rootV _) rfl rfl (zeroOf Tryd.prog 29) (row_zero row_root).1 (row_zero row_root).2 (fcells_one _ _ _) ?_))
    | ((with_reducible refine at_load 29 ?_); go_loud (refine wpList_value (by rfl) _ (run_load_box _ 29 _ (by rfl) W.heap.size (by rfl) _ _ (0, 0) _ (heap_new W _ 29 W.heap.size rfl) Tryd.underlying29 rfl (by rw [row_size row_root]; simp [fcells])) ?_))
    | ((with_reducible refine at_store 29 ?_); go_loud (refine wpList_store_row_gen (w0 := w) (n0 := w.heap.size) 29 _ _ rfl rfl (w.heap.size + 1) rfl _ rfl (fcells_one _ _ _) (by rw [row_size row_root]; simp [fcells]) _ 29 (heap_past _ _ _ _ hRf1.out) (by rw [zr_size]; simp [fcells]) (by omega) (hBf.alloc hbs _) (fun W9 hW9 hBW _ => ?_))))
  exact ret_cell rfl (w.heap.size + 1) 0 (fcells 32 (fun _ => .u8) (rootValidator f)) _ rfl hW9 Tryd.underlying29 rfl (by rw [row_size row_root, fcells_length]) rfl ⟨rfl, hBW⟩
set_option maxHeartbeats 8000000 in
theorem renc_Validator (f : Nat → Int) (hf0 : ∀ j, j < 86 → (kdValidator j).ok (f j)) (w : World) :
    Calls Tryd.prog 66 #[.agg (fcells 86 kdValidator f).toArray] w fun e w' => (∃ va c, e = .returned (.tuple #[.slice va 121 c, .int .i64 0]) ∧ (va = none → c = 0) ∧ OwnB w.heap.size (.slice va 121 c) (encLValidator f) w') ∧ Below w.heap.size w w' := by
  have hf := Lib.hid hf0
  clear hf0
  go_enter Tryd.func66, Tryd.ntmps66
  go_wp2_with (first
    | ((with_reducible refine at_box 110 ?_); go_loud (refine wpList_box rfl 110 _ rfl _ rfl ?_)
       refine gen_l (fun W => RefE w.heap.size 86 kdValidator f 110 [] w W) (RefE.begin (heap_new _ _ _ _ rfl) rfl) ?_
       intro W hS0
       have hS := Lib.hid hS0
       clear hS0)
    | ((with_reducible refine at_load 22 ?_); refine wpList_value (by rfl) _ (run_load_cell _ 22 _ (by rfl) ⟨w.heap.size, 80, none⟩ rfl (.int .u64 (f 80)) (hS.out.toBox.cell (show 80 < 86 by decide)) _ Tryd.underlying22 rfl) ?_)
    | ((with_reducible refine at_load 4 ?_); refine wpList_value (by rfl) _ (run_load_cell _ 4 _ (by rfl) ⟨w.heap.size, 81, none⟩ rfl (.bool (!decide (f 81 = 0))) (hS.out.toBox.flag (show 81 < 86 by decide) rfl) _ Tryd.underlying4 rfl) ?_)
    | ((with_reducible refine at_load 22 ?_); refine wpList_value (by rfl) _ (run_load_cell _ 22 _ (by rfl) ⟨w.heap.size, 82, none⟩ rfl (.int .u64 (f 82)) (hS.out.toBox.cell (show 82 < 86 by decide)) _ Tryd.underlying22 rfl) ?_)
    | ((with_reducible refine at_load 22 ?_); refine wpList_value (by rfl) _ (run_load_cell _ 22 _ (by rfl) ⟨w.heap.size, 83, none⟩ rfl (.int .u64 (f 83)) (hS.out.toBox.cell (show 83 < 86 by decide)) _ Tryd.underlying22 rfl) ?_)
    | ((with_reducible refine at_load 22 ?_); refine wpList_value (by rfl) _ (run_load_cell _ 22 _ (by rfl) ⟨w.heap.size, 84, none⟩ rfl (.int .u64 (f 84)) (hS.out.toBox.cell (show 84 < 86 by decide)) _ Tryd.underlying22 rfl) ?_)
    | ((with_reducible refine at_load 22 ?_); refine wpList_value (by rfl) _ (run_load_cell _ 22 _ (by rfl) ⟨w.heap.size, 85, none⟩ rfl (.int .u64 (f 85)) (hS.out.toBox.cell (show 85 < 86 by decide)) _ Tryd.underlying22 rfl) ?_)
    | ((with_reducible refine (RefE.num hS.out _).mono ?_)
       rintro e W ⟨va1, c1, rfl, hS1⟩
       clear hS
       have hS := Lib.hid hS1
       clear hS1)
    | ((with_reducible refine (RefE.flag hS.out _).mono ?_)
       rintro e W ⟨va1, c1, rfl, hS1⟩
       clear hS
       have hS := Lib.hid hS1
       clear hS1)
    | ((with_reducible refine at_bslice 25 ?_); go_loud (refine wpList_plain rfl fun K hK => wp_build0 rfl (hK _ _ ?_)); clear hK K)
    | ((with_reducible refine at_app 25 ?_); refine wpList_app (w0 := W) rfl _ _ rfl W.heap.size [] (byL f 0 48) _ rfl (OwnB.new (Nat.le_refl _) [] (by decide) (heap_new _ _ _ _ rfl)) (some ⟨w.heap.size, 0, none⟩) 48 rfl ((hS.out.toBox.row 0 48 (by intro j hj; simp only [kdValidator]; (repeat' split) <;> first | rfl | (exfalso; omega)) (by decide) hf.out).later ((Below.refl _ _).alloc (Nat.le_refl _) _)) (by simp [byL_length]) (by simp) (fun h => by cases h) ((Below.refl _ _).alloc (Nat.le_refl _) _) (fun v1 W1 h1 b1 z1 => ?_)
       obtain ⟨va1, c1, e1, hS1⟩ := hS.out.own h1 b1 (byL_ok (ok_u8 hf.out (by intro j hj; simp only [kdValidator]; (repeat' split) <;> first | rfl | (exfalso; omega)) (by decide))) (byL_length f 0 48)
       subst e1
       clear h1 b1 z1
       obtain ⟨W, hWW⟩ : ∃ W, W = W1 := ⟨_, rfl⟩
       subst hWW
       clear hS
       have hS := Lib.hid hS1
       clear hS1)
    | ((with_reducible refine at_app 25 ?_); refine wpList_app (w0 := W) rfl _ _ rfl W.heap.size [] (byL f 48 32) _ rfl (OwnB.new (Nat.le_refl _) [] (by decide) (heap_new _ _ _ _ rfl)) (some ⟨w.heap.size, 48, none⟩) 32 rfl ((hS.out.toBox.row 48 32 (by intro j hj; simp only [kdValidator]; (repeat' split) <;> first | rfl | (exfalso; omega)) (by decide) hf.out).later ((Below.refl _ _).alloc (Nat.le_refl _) _)) (by simp [byL_length]) (by simp) (fun h => by cases h) ((Below.refl _ _).alloc (Nat.le_refl _) _) (fun v1 W1 h1 b1 z1 => ?_)
       obtain ⟨va1, c1, e1, hS1⟩ := hS.out.own h1 b1 (byL_ok (ok_u8 hf.out (by intro j hj; simp only [kdValidator]; (repeat' split) <;> first | rfl | (exfalso; omega)) (by decide))) (byL_length f 48 32)
       subst e1
       clear h1 b1 z1
       obtain ⟨W, hWW⟩ : ∃ W, W = W1 := ⟨_, rfl⟩
       subst hWW
       clear hS
       have hS := Lib.hid hS1
       clear hS1)
    | ((with_reducible refine (RefE.lay2 hS.out (k := 8) (S := 121) (L := encLValidator f) [48, 32, 8, 1, 8, 8, 8, 8] ?hV ?hZ rfl (by decide) (by decide) (by simp [msOf, numL_length, byL_length]) (by decide) (by simp [msOf, encLValidator]) (encValidator_length f) (by decide)).mono ?hM)
       case hV => rfl
       case hZ => rfl
       rintro e W ⟨⟨va, c, rfl, hva, hOw⟩, hBf⟩
       have hOw1 := Lib.hid hOw
       have hva1 := Lib.hid hva
       clear hOw hva))
  exact ret_t2 rfl _ _ rfl rfl rfl ⟨⟨va, c, rfl, hva1.out, hOw1.out⟩, hBf⟩
end Go.Proofs.YtmoofccblbaepaaDoor
/- The small container Validator: reading, the program's. -/
namespace Go.Proofs.YtmoofccblbaepaaDoor
open Go.RowKit BigFrame
set_option maxRecDepth 100000
/-- What the bytes are read as. -/
def rdValidator (l : List Int) (k : Nat) : Int := if k < 48 then l.getD (0 + (k - 0)) 0 else if k < 80 then l.getD (48 + (k - 48)) 0 else if k < 81 then inN l 80 0 else if k < 82 then l.getD 88 0 else if k < 83 then inN l 89 0 else if k < 84 then inN l 97 0 else if k < 85 then inN l 105 0 else inN l 113 0
theorem infoValidator : (Tryd.prog.info? 110).map (fun i => (i.zero, i.size)) = some (some (.agg (fcells 86 kdValidator fun _ => 0).toArray), 86) := by kernel_rfl
theorem builtValidator (w : World) : (Instr.build 110 #[]).run Tryd.prog w = .ok (.agg (fcells 86 kdValidator fun _ => 0).toArray) w := by kernel_rfl
set_option maxHeartbeats 16000000 in
theorem readValidator_ok (l : List Int) (va : Option Addr) (c : Nat) (w : World) (hrow0 : Row w va .u8 l) (hcap : l.length ≤ c) (hnil0 : va = none → c = 0) (hlow0 : ∀ ad, va = some ad → ad.block < w.heap.size) (hkl0 : l.length = 121) (hy0 : (l.getD 88 0 = 0 ∨ l.getD 88 0 = 1)) :
    Calls Tryd.prog 68 #[.slice va 121 c] w fun e w' => e = .returned (.tuple #[.agg (fcells 86 kdValidator (rdValidator l)).toArray, .int .i64 0]) ∧ Below w.heap.size w w' := by
  have hrow := Lib.hid hrow0
  have hnil := Lib.hid hnil0
  have hlow := Lib.hid hlow0
  have hkl := Lib.hid hkl0
  have hfew : l.length ≤ 70368744177664 := by rw [hkl0]; decide
  clear hkl0
  have hy := Lib.hid hy0
  clear hy0
  clear hrow0 hnil0 hlow0
  go_enter Tryd.func68, Tryd.ntmps68
  go_wp2_with (first
    | ((with_reducible refine at_alloc 110 ?_); refine wpList_plain rfl fun K hK => wp_alloc_row 110 rfl 2 rfl _ 86 infoValidator (hK _ _ ?_); clear hK K)
    | ((with_reducible refine at_alloc 110 ?_); refine wpList_plain rfl fun K hK => wp_alloc_row 110 rfl 4 rfl _ 86 infoValidator (hK _ _ ?_); clear hK K)
    | ((with_reducible refine (RdS.open (N := 86) (kd := kdValidator) (r := rdValidator l) rfl 121 121 (121 : Int) rfl hkl.out (err := 0) rfl (by decide) hrow.out hcap hnil.out hlow.out hfew).mono ?_)
       rintro e W ⟨rfl, hS1⟩
       have hS := Lib.hid hS1
       clear hS1))
  rename_i K hK
  refine wp_region_held (S := fun _ => True) (by kernel_rfl) ?_
  have hTT : True := trivial
  refine takeL (i := 0) (v := (.pointer (some ⟨w.heap.size + 1, 0, none⟩))) rfl (by kernel_rfl) (by kernel_rfl) (by kernel_rfl) (fun _ _ _ h => h) rfl (by assumption) (fun w' hS' => by go_simp) ?_
  simp only [Act.put, List.setIfInBounds_toArray, List.set_cons_zero, List.set_cons_succ]
  refine takeL (i := 1) (v := (.slice (some ⟨w.heap.size + 1, 0, none⟩) 48 48)) rfl (by kernel_rfl) (by kernel_rfl) (by kernel_rfl) (fun _ _ _ h => h) rfl (by assumption) (fun w' hS' => by go_simp) ?_
  simp only [Act.put, List.setIfInBounds_toArray, List.set_cons_zero, List.set_cons_succ]
  refine takeL (i := 2) (v := (.pointer (some ⟨w.heap.size + 1 + 1, 0, none⟩))) rfl (by kernel_rfl) (by kernel_rfl) (by kernel_rfl) (fun _ _ _ h => h) rfl (by assumption) (fun w' hS' => by go_simp) ?_
  simp only [Act.put, List.setIfInBounds_toArray, List.set_cons_zero, List.set_cons_succ]
  refine oneL (i := 3) rfl (by kernel_rfl) rfl (wp_callE 102 #[.pointer (some ⟨w.heap.size + 1 + 1, 0, none⟩), .int .i64 48] (by go_simp) _ ((hS.out.drew _).bytesE 48 (48 : Int) rfl (by decide) (by decide) (fun _ => by rw [hkl.out]; decide)) ?_)
  rintro v W ⟨b, o', c', q, rfl, hcc, hbl, hrw, hql, hq, hS1⟩
  refine ⟨trivial, ?_⟩
  simp only [Act.put, List.setIfInBounds_toArray, List.set_cons_zero, List.set_cons_succ]
  refine oneL (i := 4) rfl (by kernel_rfl) rfl (wp_copy_rd _ _ rfl 0 48 b o' c' 48 rfl rfl hS1 q hrw hql rfl (by intro j hj; simp only [kdValidator]; (repeat' split) <;> first | rfl | (exfalso; omega)) (by decide) (fun e j hj => by rw [hq (by trivial), drop_take_get _ _ _ _ hj]; unfold rdValidator; (repeat' split) <;> first | (exfalso; omega) | (congr 1 <;> omega)) (fun W hS2 => ⟨trivial, ?_⟩))
  refine wpAnyH_done (by kernel_rfl) ?_ _
  refine hK _ _ ?_
  clear hK K hS hTT hrw hcc hbl hq hql hS1
  have hS := Lib.hid hS2
  clear hS2
  generalize goInt 48 = gi
  simp only [Act.put, List.setIfInBounds_toArray, List.set_cons_zero, List.set_cons_succ]
  go_wp2
  rename_i K hK
  refine wp_region_held (S := fun _ => True) (by kernel_rfl) ?_
  have hTT : True := trivial
  refine takeL (i := 0) (v := (.pointer (some ⟨w.heap.size + 1, 48, none⟩))) rfl (by kernel_rfl) (by kernel_rfl) (by kernel_rfl) (fun _ _ _ h => h) rfl (by assumption) (fun w' hS' => by go_simp) ?_
  simp only [Act.put, List.setIfInBounds_toArray, List.set_cons_zero, List.set_cons_succ]
  refine takeL (i := 1) (v := (.slice (some ⟨w.heap.size + 1, 48, none⟩) 32 32)) rfl (by kernel_rfl) (by kernel_rfl) (by kernel_rfl) (fun _ _ _ h => h) rfl (by assumption) (fun w' hS' => by go_simp) ?_
  simp only [Act.put, List.setIfInBounds_toArray, List.set_cons_zero, List.set_cons_succ]
  refine takeL (i := 2) (v := (.pointer (some ⟨w.heap.size + 1 + 1, 0, none⟩))) rfl (by kernel_rfl) (by kernel_rfl) (by kernel_rfl) (fun _ _ _ h => h) rfl (by assumption) (fun w' hS' => by go_simp) ?_
  simp only [Act.put, List.setIfInBounds_toArray, List.set_cons_zero, List.set_cons_succ]
  refine oneL (i := 3) rfl (by kernel_rfl) rfl (wp_callE 102 #[.pointer (some ⟨w.heap.size + 1 + 1, 0, none⟩), .int .i64 32] (by go_simp) _ ((hS.out.drew _).bytesE 32 (32 : Int) rfl (by decide) (by decide) (fun _ => by rw [hkl.out]; decide)) ?_)
  rintro v W ⟨b, o', c', q, rfl, hcc, hbl, hrw, hql, hq, hS1⟩
  refine ⟨trivial, ?_⟩
  simp only [Act.put, List.setIfInBounds_toArray, List.set_cons_zero, List.set_cons_succ]
  refine oneL (i := 4) rfl (by kernel_rfl) rfl (wp_copy_rd _ _ rfl 48 32 b o' c' 32 rfl rfl hS1 q hrw hql rfl (by intro j hj; simp only [kdValidator]; (repeat' split) <;> first | rfl | (exfalso; omega)) (by decide) (fun e j hj => by rw [hq (by trivial), drop_take_get _ _ _ _ hj]; unfold rdValidator; (repeat' split) <;> first | (exfalso; omega) | (congr 1 <;> omega)) (fun W hS2 => ⟨trivial, ?_⟩))
  refine wpAnyH_done (by kernel_rfl) ?_ _
  refine hK _ _ ?_
  clear hK K hS hTT hrw hcc hbl hq hql hS1
  have hS := Lib.hid hS2
  clear hS2
  generalize goInt 32 = gi
  simp only [Act.put, List.setIfInBounds_toArray, List.set_cons_zero, List.set_cons_succ]
  go_wp2_with (first
    | ((with_reducible refine (RdS.u64 hS.out (fun _ => by rw [hkl.out]; decide)).mono ?_)
       rintro e W ⟨v1, rfl, hv1, hS1⟩
       have hv := Lib.hid hv1
       clear hv1
       clear hS
       have hS := Lib.hid hS1
       clear hS1)
    | ((with_reducible refine at_store 22 ?_); refine at_staddr 22 (w.heap.size + 1) 80 rfl ?_; refine wpList_rd1 rfl 22 _ _ rfl 80 rfl (.int .u64 v1) rfl v1 rfl sz_u64 hS.out rfl (by decide) (fun _ => (hv.out (by trivial)).trans rfl) (fun W1 hS1 => ?_)
       obtain ⟨W, hWW⟩ : ∃ W, W = W1 := ⟨_, rfl⟩
       subst hWW
       clear hv
       clear hS
       have hS := Lib.hid hS1
       clear hS1)
    | ((with_reducible refine (RdS.flag hS.out (fun _ => by rw [hkl.out]; decide) (fun _ => hy.out)).mono ?_)
       rintro e W ⟨b1, rfl, hv1, hS1⟩
       have hv := Lib.hid hv1
       clear hv1
       clear hS
       have hS := Lib.hid hS1
       clear hS1)
    | ((with_reducible refine at_store 4 ?_); refine at_staddr 4 (w.heap.size + 1) 81 rfl ?_; refine wpList_rd1 rfl 4 _ _ rfl 81 rfl (.bool b1) rfl (if b1 then 1 else 0) (by cases b1 <;> rfl) sz_bool hS.out rfl (by decide) (fun _ => (flag_val (hv.out (by trivial)) hy.out).trans rfl) (fun W1 hS1 => ?_)
       obtain ⟨W, hWW⟩ : ∃ W, W = W1 := ⟨_, rfl⟩
       subst hWW
       clear hv
       clear hS
       have hS := Lib.hid hS1
       clear hS1)
    | ((with_reducible refine (RdS.u64 hS.out (fun _ => by rw [hkl.out]; decide)).mono ?_)
       rintro e W ⟨v1, rfl, hv1, hS1⟩
       have hv := Lib.hid hv1
       clear hv1
       clear hS
       have hS := Lib.hid hS1
       clear hS1)
    | ((with_reducible refine at_store 22 ?_); refine at_staddr 22 (w.heap.size + 1) 82 rfl ?_; refine wpList_rd1 rfl 22 _ _ rfl 82 rfl (.int .u64 v1) rfl v1 rfl sz_u64 hS.out rfl (by decide) (fun _ => (hv.out (by trivial)).trans rfl) (fun W1 hS1 => ?_)
       obtain ⟨W, hWW⟩ : ∃ W, W = W1 := ⟨_, rfl⟩
       subst hWW
       clear hv
       clear hS
       have hS := Lib.hid hS1
       clear hS1)
    | ((with_reducible refine (RdS.u64 hS.out (fun _ => by rw [hkl.out]; decide)).mono ?_)
       rintro e W ⟨v1, rfl, hv1, hS1⟩
       have hv := Lib.hid hv1
       clear hv1
       clear hS
       have hS := Lib.hid hS1
       clear hS1)
    | ((with_reducible refine at_store 22 ?_); refine at_staddr 22 (w.heap.size + 1) 83 rfl ?_; refine wpList_rd1 rfl 22 _ _ rfl 83 rfl (.int .u64 v1) rfl v1 rfl sz_u64 hS.out rfl (by decide) (fun _ => (hv.out (by trivial)).trans rfl) (fun W1 hS1 => ?_)
       obtain ⟨W, hWW⟩ : ∃ W, W = W1 := ⟨_, rfl⟩
       subst hWW
       clear hv
       clear hS
       have hS := Lib.hid hS1
       clear hS1)
    | ((with_reducible refine (RdS.u64 hS.out (fun _ => by rw [hkl.out]; decide)).mono ?_)
       rintro e W ⟨v1, rfl, hv1, hS1⟩
       have hv := Lib.hid hv1
       clear hv1
       clear hS
       have hS := Lib.hid hS1
       clear hS1)
    | ((with_reducible refine at_store 22 ?_); refine at_staddr 22 (w.heap.size + 1) 84 rfl ?_; refine wpList_rd1 rfl 22 _ _ rfl 84 rfl (.int .u64 v1) rfl v1 rfl sz_u64 hS.out rfl (by decide) (fun _ => (hv.out (by trivial)).trans rfl) (fun W1 hS1 => ?_)
       obtain ⟨W, hWW⟩ : ∃ W, W = W1 := ⟨_, rfl⟩
       subst hWW
       clear hv
       clear hS
       have hS := Lib.hid hS1
       clear hS1)
    | ((with_reducible refine (RdS.u64 hS.out (fun _ => by rw [hkl.out]; decide)).mono ?_)
       rintro e W ⟨v1, rfl, hv1, hS1⟩
       have hv := Lib.hid hv1
       clear hv1
       clear hS
       have hS := Lib.hid hS1
       clear hS1)
    | ((with_reducible refine at_store 22 ?_); refine at_staddr 22 (w.heap.size + 1) 85 rfl ?_; refine wpList_rd1 rfl 22 _ _ rfl 85 rfl (.int .u64 v1) rfl v1 rfl sz_u64 hS.out rfl (by decide) (fun _ => (hv.out (by trivial)).trans rfl) (fun W1 hS1 => ?_)
       obtain ⟨W, hWW⟩ : ∃ W, W = W1 := ⟨_, rfl⟩
       subst hWW
       clear hv
       clear hS
       have hS := Lib.hid hS1
       clear hS1)
    | ((with_reducible refine at_load 31 ?_); go_loud (refine wpList_value (by rfl) _ (run_load_cell _ 31 _ (by rfl) ⟨w.heap.size + 1 + 1, 4, none⟩ rfl (.int .i64 0) hS.out.errno _ Tryd.underlying31 rfl) ?_))
    | ((with_reducible refine at_load 110 ?_); go_loud (refine wpList_value (by rfl) _ (run_load_box _ 110 _ (by rfl) (w.heap.size + 1) (by rfl) _ _ (0, 0) _ hS.out.res Tryd.underlying110 rfl (by rw [row_size rowValidator]; simp [fcells])) ?_))
    | ((with_reducible refine at_store 110 ?_); refine at_staddr 110 w.heap.size 0 rfl ?_; go_loud (refine wpList_store_row_gen (w0 := w) (n0 := w.heap.size) 110 _ _ rfl rfl w.heap.size rfl _ rfl (fcells_one _ _ _) (by rw [row_size rowValidator]; simp [fcells]) _ 110 hS.out.hR (by simp [fcells]) (by omega) hS.out.hB (fun W9 hW9 hBW _ => ?_))))
  exact ret_mid_tmp rfl w.heap.size 0 (fcells 86 kdValidator (rdValidator l)) _ rfl hW9 Tryd.underlying110 rfl (by rw [row_size rowValidator, fcells_length]) rfl ⟨rfl, hBW⟩
set_option maxHeartbeats 16000000 in
theorem readValidator_bad (l : List Int) (va : Option Addr) (c : Nat) (w : World) (hrow0 : Row w va .u8 l) (hcap : l.length ≤ c) (hnil0 : va = none → c = 0) (hlow0 : ∀ ad, va = some ad → ad.block < w.heap.size) (hne0 : l.length ≠ 121) (hfew : l.length ≤ 70368744177664) :
    Calls Tryd.prog 68 #[.slice va l.length c] w fun e w' => e = .returned (.tuple #[.agg (fcells 86 kdValidator (fun _ => 0)).toArray, .int .i64 4]) ∧ Below w.heap.size w w' := by
  have hrow := Lib.hid hrow0
  have hnil := Lib.hid hnil0
  have hlow := Lib.hid hlow0
  have hkl := Lib.hid (rfl : l.length = l.length)
  have hne := hne0
  clear hne0
  clear hrow0 hnil0 hlow0
  go_enter Tryd.func68, Tryd.ntmps68
  go_wp2_with (first
    | ((with_reducible refine at_alloc 110 ?_); refine wpList_plain rfl fun K hK => wp_alloc_row 110 rfl 2 rfl _ 86 infoValidator (hK _ _ ?_); clear hK K)
    | ((with_reducible refine at_alloc 110 ?_); refine wpList_plain rfl fun K hK => wp_alloc_row 110 rfl 4 rfl _ 86 infoValidator (hK _ _ ?_); clear hK K)
    | ((with_reducible refine (RdS.open (N := 86) (kd := kdValidator) (r := rdValidator l) rfl l.length 121 (121 : Int) rfl hkl.out (err := 4) (if_neg hne) (by decide) hrow.out hcap hnil.out hlow.out hfew).mono ?_)
       rintro e W ⟨rfl, hS1⟩
       have hS := Lib.hid hS1
       clear hS1))
  rename_i K hK
  refine wp_region_held (S := fun _ => True) (by kernel_rfl) ?_
  have hTT : True := trivial
  refine takeL (i := 0) (v := (.pointer (some ⟨w.heap.size + 1, 0, none⟩))) rfl (by kernel_rfl) (by kernel_rfl) (by kernel_rfl) (fun _ _ _ h => h) rfl (by assumption) (fun w' hS' => by go_simp) ?_
  simp only [Act.put, List.setIfInBounds_toArray, List.set_cons_zero, List.set_cons_succ]
  refine takeL (i := 1) (v := (.slice (some ⟨w.heap.size + 1, 0, none⟩) 48 48)) rfl (by kernel_rfl) (by kernel_rfl) (by kernel_rfl) (fun _ _ _ h => h) rfl (by assumption) (fun w' hS' => by go_simp) ?_
  simp only [Act.put, List.setIfInBounds_toArray, List.set_cons_zero, List.set_cons_succ]
  refine takeL (i := 2) (v := (.pointer (some ⟨w.heap.size + 1 + 1, 0, none⟩))) rfl (by kernel_rfl) (by kernel_rfl) (by kernel_rfl) (fun _ _ _ h => h) rfl (by assumption) (fun w' hS' => by go_simp) ?_
  simp only [Act.put, List.setIfInBounds_toArray, List.set_cons_zero, List.set_cons_succ]
  refine oneL (i := 3) rfl (by kernel_rfl) rfl (wp_callE 102 #[.pointer (some ⟨w.heap.size + 1 + 1, 0, none⟩), .int .i64 48] (by go_simp) _ ((hS.out.drew _).bytesE 48 (48 : Int) rfl (by decide) (by decide) (fun e => absurd e (by decide))) ?_)
  rintro v W ⟨b, o', c', q, rfl, hcc, hbl, hrw, hql, hq, hS1⟩
  refine ⟨trivial, ?_⟩
  simp only [Act.put, List.setIfInBounds_toArray, List.set_cons_zero, List.set_cons_succ]
  refine oneL (i := 4) rfl (by kernel_rfl) rfl (wp_copy_rd _ _ rfl 0 48 b o' c' 48 rfl rfl (hS1.any (m' := 0) (by decide)) q hrw hql rfl (by intro j hj; simp only [kdValidator]; (repeat' split) <;> first | rfl | (exfalso; omega)) (by decide) (fun e => absurd e (by decide)) (fun W hS2 => ⟨trivial, ?_⟩))
  refine wpAnyH_done (by kernel_rfl) ?_ _
  refine hK _ _ ?_
  clear hK K hS hTT hrw hcc hbl hq hql hS1
  have hS := Lib.hid hS2
  clear hS2
  generalize goInt 48 = gi
  simp only [Act.put, List.setIfInBounds_toArray, List.set_cons_zero, List.set_cons_succ]
  go_wp2
  rename_i K hK
  refine wp_region_held (S := fun _ => True) (by kernel_rfl) ?_
  have hTT : True := trivial
  refine takeL (i := 0) (v := (.pointer (some ⟨w.heap.size + 1, 48, none⟩))) rfl (by kernel_rfl) (by kernel_rfl) (by kernel_rfl) (fun _ _ _ h => h) rfl (by assumption) (fun w' hS' => by go_simp) ?_
  simp only [Act.put, List.setIfInBounds_toArray, List.set_cons_zero, List.set_cons_succ]
  refine takeL (i := 1) (v := (.slice (some ⟨w.heap.size + 1, 48, none⟩) 32 32)) rfl (by kernel_rfl) (by kernel_rfl) (by kernel_rfl) (fun _ _ _ h => h) rfl (by assumption) (fun w' hS' => by go_simp) ?_
  simp only [Act.put, List.setIfInBounds_toArray, List.set_cons_zero, List.set_cons_succ]
  refine takeL (i := 2) (v := (.pointer (some ⟨w.heap.size + 1 + 1, 0, none⟩))) rfl (by kernel_rfl) (by kernel_rfl) (by kernel_rfl) (fun _ _ _ h => h) rfl (by assumption) (fun w' hS' => by go_simp) ?_
  simp only [Act.put, List.setIfInBounds_toArray, List.set_cons_zero, List.set_cons_succ]
  refine oneL (i := 3) rfl (by kernel_rfl) rfl (wp_callE 102 #[.pointer (some ⟨w.heap.size + 1 + 1, 0, none⟩), .int .i64 32] (by go_simp) _ ((hS.out.drew _).bytesE 32 (32 : Int) rfl (by decide) (by decide) (fun e => absurd e (by decide))) ?_)
  rintro v W ⟨b, o', c', q, rfl, hcc, hbl, hrw, hql, hq, hS1⟩
  refine ⟨trivial, ?_⟩
  simp only [Act.put, List.setIfInBounds_toArray, List.set_cons_zero, List.set_cons_succ]
  refine oneL (i := 4) rfl (by kernel_rfl) rfl (wp_copy_rd _ _ rfl 48 32 b o' c' 32 rfl rfl (hS1.any (m' := 48) (by decide)) q hrw hql rfl (by intro j hj; simp only [kdValidator]; (repeat' split) <;> first | rfl | (exfalso; omega)) (by decide) (fun e => absurd e (by decide)) (fun W hS2 => ⟨trivial, ?_⟩))
  refine wpAnyH_done (by kernel_rfl) ?_ _
  refine hK _ _ ?_
  clear hK K hS hTT hrw hcc hbl hq hql hS1
  have hS := Lib.hid hS2
  clear hS2
  generalize goInt 32 = gi
  simp only [Act.put, List.setIfInBounds_toArray, List.set_cons_zero, List.set_cons_succ]
  go_wp2_with (first
    | ((with_reducible refine (RdS.u64 hS.out (fun e => absurd e (by decide))).mono ?_)
       rintro e W ⟨v1, rfl, hv1, hS1⟩
       have hv := Lib.hid hv1
       clear hv1
       clear hS
       have hS := Lib.hid hS1
       clear hS1)
    | ((with_reducible refine at_store 22 ?_); refine at_staddr 22 (w.heap.size + 1) 80 rfl ?_; refine wpList_rd1 rfl 22 _ _ rfl 80 rfl (.int .u64 v1) rfl v1 rfl sz_u64 (hS.out.any (m' := 80) (by decide)) rfl (by decide) (fun e => absurd e (by decide)) (fun W1 hS1 => ?_)
       obtain ⟨W, hWW⟩ : ∃ W, W = W1 := ⟨_, rfl⟩
       subst hWW
       clear hv
       clear hS
       have hS := Lib.hid hS1
       clear hS1)
    | ((with_reducible refine (RdS.flag hS.out (fun e => absurd e (by decide)) (fun e => absurd e (by decide))).mono ?_)
       rintro e W ⟨b1, rfl, hv1, hS1⟩
       have hv := Lib.hid hv1
       clear hv1
       clear hS
       have hS := Lib.hid hS1
       clear hS1)
    | ((with_reducible refine at_store 4 ?_); refine at_staddr 4 (w.heap.size + 1) 81 rfl ?_; refine wpList_rd1 rfl 4 _ _ rfl 81 rfl (.bool b1) rfl (if b1 then 1 else 0) (by cases b1 <;> rfl) sz_bool hS.out rfl (by decide) (fun e => absurd e (by decide)) (fun W1 hS1 => ?_)
       obtain ⟨W, hWW⟩ : ∃ W, W = W1 := ⟨_, rfl⟩
       subst hWW
       clear hv
       clear hS
       have hS := Lib.hid hS1
       clear hS1)
    | ((with_reducible refine (RdS.u64 hS.out (fun e => absurd e (by decide))).mono ?_)
       rintro e W ⟨v1, rfl, hv1, hS1⟩
       have hv := Lib.hid hv1
       clear hv1
       clear hS
       have hS := Lib.hid hS1
       clear hS1)
    | ((with_reducible refine at_store 22 ?_); refine at_staddr 22 (w.heap.size + 1) 82 rfl ?_; refine wpList_rd1 rfl 22 _ _ rfl 82 rfl (.int .u64 v1) rfl v1 rfl sz_u64 (hS.out.any (m' := 82) (by decide)) rfl (by decide) (fun e => absurd e (by decide)) (fun W1 hS1 => ?_)
       obtain ⟨W, hWW⟩ : ∃ W, W = W1 := ⟨_, rfl⟩
       subst hWW
       clear hv
       clear hS
       have hS := Lib.hid hS1
       clear hS1)
    | ((with_reducible refine (RdS.u64 hS.out (fun e => absurd e (by decide))).mono ?_)
       rintro e W ⟨v1, rfl, hv1, hS1⟩
       have hv := Lib.hid hv1
       clear hv1
       clear hS
       have hS := Lib.hid hS1
       clear hS1)
    | ((with_reducible refine at_store 22 ?_); refine at_staddr 22 (w.heap.size + 1) 83 rfl ?_; refine wpList_rd1 rfl 22 _ _ rfl 83 rfl (.int .u64 v1) rfl v1 rfl sz_u64 (hS.out.any (m' := 83) (by decide)) rfl (by decide) (fun e => absurd e (by decide)) (fun W1 hS1 => ?_)
       obtain ⟨W, hWW⟩ : ∃ W, W = W1 := ⟨_, rfl⟩
       subst hWW
       clear hv
       clear hS
       have hS := Lib.hid hS1
       clear hS1)
    | ((with_reducible refine (RdS.u64 hS.out (fun e => absurd e (by decide))).mono ?_)
       rintro e W ⟨v1, rfl, hv1, hS1⟩
       have hv := Lib.hid hv1
       clear hv1
       clear hS
       have hS := Lib.hid hS1
       clear hS1)
    | ((with_reducible refine at_store 22 ?_); refine at_staddr 22 (w.heap.size + 1) 84 rfl ?_; refine wpList_rd1 rfl 22 _ _ rfl 84 rfl (.int .u64 v1) rfl v1 rfl sz_u64 (hS.out.any (m' := 84) (by decide)) rfl (by decide) (fun e => absurd e (by decide)) (fun W1 hS1 => ?_)
       obtain ⟨W, hWW⟩ : ∃ W, W = W1 := ⟨_, rfl⟩
       subst hWW
       clear hv
       clear hS
       have hS := Lib.hid hS1
       clear hS1)
    | ((with_reducible refine (RdS.u64 hS.out (fun e => absurd e (by decide))).mono ?_)
       rintro e W ⟨v1, rfl, hv1, hS1⟩
       have hv := Lib.hid hv1
       clear hv1
       clear hS
       have hS := Lib.hid hS1
       clear hS1)
    | ((with_reducible refine at_store 22 ?_); refine at_staddr 22 (w.heap.size + 1) 85 rfl ?_; refine wpList_rd1 rfl 22 _ _ rfl 85 rfl (.int .u64 v1) rfl v1 rfl sz_u64 (hS.out.any (m' := 85) (by decide)) rfl (by decide) (fun e => absurd e (by decide)) (fun W1 hS1 => ?_)
       obtain ⟨W, hWW⟩ : ∃ W, W = W1 := ⟨_, rfl⟩
       subst hWW
       clear hv
       clear hS
       have hS := Lib.hid hS1
       clear hS1)
    | ((with_reducible refine at_load 31 ?_); go_loud (refine wpList_value (by rfl) _ (run_load_cell _ 31 _ (by rfl) ⟨w.heap.size + 1 + 1, 4, none⟩ rfl (.int .i64 4) hS.out.errno _ Tryd.underlying31 rfl) ?_)))
  refine wp_region_held (S := fun w' => w'.cell? ⟨w.heap.size + 1 + 1, 4, none⟩ = some (.int .i64 4)) (by kernel_rfl) ?_
  have hTT : ({ W with drawn := W.drawn + 1 } : World).cell? ⟨w.heap.size + 1 + 1, 4, none⟩ = some (.int .i64 4) := hS.out.errno
  have hS2 := hS.out.drew (W.drawn + 1)
  have hsz := hS.out.size
  refine takeL (i := 0) (v := (.agg (fcells 86 kdValidator fun _ => 0).toArray)) rfl (by kernel_rfl) (by kernel_rfl) (by kernel_rfl) (fun _ _ _ h => h) rfl (by assumption) (fun w' _ => run_build 110 #[] (by rfl) _ (builtValidator w')) ?_
  simp only [Act.put, List.setIfInBounds_toArray, List.set_cons_zero, List.set_cons_succ]
  refine takeL (i := 1) (v := (.pointer (some ⟨w.heap.size + 1 + 1, 0, none⟩))) rfl (by kernel_rfl) (by kernel_rfl) (by kernel_rfl) (fun _ _ _ h => h) rfl (by assumption) (fun w' hS' => by go_simp) ?_
  simp only [Act.put, List.setIfInBounds_toArray, List.set_cons_zero, List.set_cons_succ]
  refine takeL (i := 2) (v := (.pointer (some ⟨w.heap.size + 1 + 1, 0, none⟩))) rfl (by kernel_rfl) (by kernel_rfl) (by kernel_rfl) (fun _ _ _ h => h) rfl (by assumption) (fun w' hS' => by go_simp) ?_
  simp only [Act.put, List.setIfInBounds_toArray, List.set_cons_zero, List.set_cons_succ]
  refine takeL (i := 3) (v := (.pointer (some ⟨w.heap.size + 1 + 1, 4, none⟩))) rfl (by kernel_rfl) (by kernel_rfl) (by kernel_rfl) (fun _ _ _ h => h) rfl (by assumption) (fun w' hS' => by go_simp) ?_
  simp only [Act.put, List.setIfInBounds_toArray, List.set_cons_zero, List.set_cons_succ]
  refine takeL (i := 4) (v := (.int .i64 4)) rfl (by kernel_rfl) (by kernel_rfl) (by kernel_rfl) (fun _ _ _ h => h) rfl (by assumption) (fun w' hS' => run_load_cell w' 31 _ (by rfl) ⟨w.heap.size + 1 + 1, 4, none⟩ (by rfl) _ hS' _ Tryd.underlying31 rfl) ?_
  simp only [Act.put, List.setIfInBounds_toArray, List.set_cons_zero, List.set_cons_succ]
  refine oneL (i := 5) rfl (by kernel_rfl) rfl (wp_store_row 110 _ _ rfl w.heap.size rfl _ rfl (fcells_one _ _ _) (by rw [row_size rowValidator]; simp [fcells]) _ 110 hS2.hR (by simp [fcells]) (fun W4 hC4 hA4 => ?_))
  have hTT : W4.cell? ⟨w.heap.size + 1 + 1, 4, none⟩ = some (.int .i64 4) := (World.cell?_of_block (w := { W with drawn := W.drawn + 1 }) (hA4.block (w.heap.size + 1 + 1) (show w.heap.size + 1 + 1 < W.heap.size by omega) (show w.heap.size + 1 + 1 ≠ w.heap.size by omega))).trans hS2.errno
  refine ⟨hTT, ?_⟩
  simp only [Act.put, List.setIfInBounds_toArray, List.set_cons_zero, List.set_cons_succ]
  refine takeL (i := 6) (v := (.int .i64 4)) rfl (by kernel_rfl) (by kernel_rfl) (by kernel_rfl) (fun _ _ _ h => h) rfl (by assumption) (fun w' hS' => by go_simp) ?_
  simp only [Act.put, List.setIfInBounds_toArray, List.set_cons_zero, List.set_cons_succ]
  refine wpAnyH_done (by kernel_rfl) ?_ _
  have hB4 := hA4.below hS2.hB (Nat.le_refl _) (show w.heap.size ≤ W.heap.size by omega)
  clear hS hS2 hA4 hTT
  go_wp2
  exact ret_mid_tmp rfl w.heap.size 0 (fcells 86 kdValidator fun _ => 0) _ rfl (range_whole hC4) Tryd.underlying110 rfl (by rw [row_size rowValidator, fcells_length]) rfl ⟨rfl, hB4⟩
set_option maxHeartbeats 16000000 in
theorem readValidator_fbad (l : List Int) (va : Option Addr) (c : Nat) (w : World) (hrow0 : Row w va .u8 l) (hcap : l.length ≤ c) (hnil0 : va = none → c = 0) (hlow0 : ∀ ad, va = some ad → ad.block < w.heap.size) (hkl0 : l.length = 121) (hy0 : ¬ (l.getD 88 0 = 0 ∨ l.getD 88 0 = 1)) :
    Calls Tryd.prog 68 #[.slice va 121 c] w fun e w' => e = .returned (.tuple #[.agg (fcells 86 kdValidator (fun _ => 0)).toArray, .int .i64 5]) ∧ Below w.heap.size w w' := by
  have hrow := Lib.hid hrow0
  have hnil := Lib.hid hnil0
  have hlow := Lib.hid hlow0
  have hkl := Lib.hid hkl0
  have hfew : l.length ≤ 70368744177664 := by rw [hkl0]; decide
  clear hkl0
  have hy := Lib.hid hy0
  clear hy0
  clear hrow0 hnil0 hlow0
  go_enter Tryd.func68, Tryd.ntmps68
  go_wp2_with (first
    | ((with_reducible refine at_alloc 110 ?_); refine wpList_plain rfl fun K hK => wp_alloc_row 110 rfl 2 rfl _ 86 infoValidator (hK _ _ ?_); clear hK K)
    | ((with_reducible refine at_alloc 110 ?_); refine wpList_plain rfl fun K hK => wp_alloc_row 110 rfl 4 rfl _ 86 infoValidator (hK _ _ ?_); clear hK K)
    | ((with_reducible refine (RdS.open (N := 86) (kd := kdValidator) (r := rdValidator l) rfl 121 121 (121 : Int) rfl hkl.out (err := 0) rfl (by decide) hrow.out hcap hnil.out hlow.out hfew).mono ?_)
       rintro e W ⟨rfl, hS1⟩
       have hS := Lib.hid hS1
       clear hS1))
  rename_i K hK
  refine wp_region_held (S := fun _ => True) (by kernel_rfl) ?_
  have hTT : True := trivial
  refine takeL (i := 0) (v := (.pointer (some ⟨w.heap.size + 1, 0, none⟩))) rfl (by kernel_rfl) (by kernel_rfl) (by kernel_rfl) (fun _ _ _ h => h) rfl (by assumption) (fun w' hS' => by go_simp) ?_
  simp only [Act.put, List.setIfInBounds_toArray, List.set_cons_zero, List.set_cons_succ]
  refine takeL (i := 1) (v := (.slice (some ⟨w.heap.size + 1, 0, none⟩) 48 48)) rfl (by kernel_rfl) (by kernel_rfl) (by kernel_rfl) (fun _ _ _ h => h) rfl (by assumption) (fun w' hS' => by go_simp) ?_
  simp only [Act.put, List.setIfInBounds_toArray, List.set_cons_zero, List.set_cons_succ]
  refine takeL (i := 2) (v := (.pointer (some ⟨w.heap.size + 1 + 1, 0, none⟩))) rfl (by kernel_rfl) (by kernel_rfl) (by kernel_rfl) (fun _ _ _ h => h) rfl (by assumption) (fun w' hS' => by go_simp) ?_
  simp only [Act.put, List.setIfInBounds_toArray, List.set_cons_zero, List.set_cons_succ]
  refine oneL (i := 3) rfl (by kernel_rfl) rfl (wp_callE 102 #[.pointer (some ⟨w.heap.size + 1 + 1, 0, none⟩), .int .i64 48] (by go_simp) _ ((hS.out.drew _).bytesE 48 (48 : Int) rfl (by decide) (by decide) (fun _ => by rw [hkl.out]; decide)) ?_)
  rintro v W ⟨b, o', c', q, rfl, hcc, hbl, hrw, hql, hq, hS1⟩
  refine ⟨trivial, ?_⟩
  simp only [Act.put, List.setIfInBounds_toArray, List.set_cons_zero, List.set_cons_succ]
  refine oneL (i := 4) rfl (by kernel_rfl) rfl (wp_copy_rd _ _ rfl 0 48 b o' c' 48 rfl rfl hS1 q hrw hql rfl (by intro j hj; simp only [kdValidator]; (repeat' split) <;> first | rfl | (exfalso; omega)) (by decide) (fun e j hj => by rw [hq (by trivial), drop_take_get _ _ _ _ hj]; unfold rdValidator; (repeat' split) <;> first | (exfalso; omega) | (congr 1 <;> omega)) (fun W hS2 => ⟨trivial, ?_⟩))
  refine wpAnyH_done (by kernel_rfl) ?_ _
  refine hK _ _ ?_
  clear hK K hS hTT hrw hcc hbl hq hql hS1
  have hS := Lib.hid hS2
  clear hS2
  generalize goInt 48 = gi
  simp only [Act.put, List.setIfInBounds_toArray, List.set_cons_zero, List.set_cons_succ]
  go_wp2
  rename_i K hK
  refine wp_region_held (S := fun _ => True) (by kernel_rfl) ?_
  have hTT : True := trivial
  refine takeL (i := 0) (v := (.pointer (some ⟨w.heap.size + 1, 48, none⟩))) rfl (by kernel_rfl) (by kernel_rfl) (by kernel_rfl) (fun _ _ _ h => h) rfl (by assumption) (fun w' hS' => by go_simp) ?_
  simp only [Act.put, List.setIfInBounds_toArray, List.set_cons_zero, List.set_cons_succ]
  refine takeL (i := 1) (v := (.slice (some ⟨w.heap.size + 1, 48, none⟩) 32 32)) rfl (by kernel_rfl) (by kernel_rfl) (by kernel_rfl) (fun _ _ _ h => h) rfl (by assumption) (fun w' hS' => by go_simp) ?_
  simp only [Act.put, List.setIfInBounds_toArray, List.set_cons_zero, List.set_cons_succ]
  refine takeL (i := 2) (v := (.pointer (some ⟨w.heap.size + 1 + 1, 0, none⟩))) rfl (by kernel_rfl) (by kernel_rfl) (by kernel_rfl) (fun _ _ _ h => h) rfl (by assumption) (fun w' hS' => by go_simp) ?_
  simp only [Act.put, List.setIfInBounds_toArray, List.set_cons_zero, List.set_cons_succ]
  refine oneL (i := 3) rfl (by kernel_rfl) rfl (wp_callE 102 #[.pointer (some ⟨w.heap.size + 1 + 1, 0, none⟩), .int .i64 32] (by go_simp) _ ((hS.out.drew _).bytesE 32 (32 : Int) rfl (by decide) (by decide) (fun _ => by rw [hkl.out]; decide)) ?_)
  rintro v W ⟨b, o', c', q, rfl, hcc, hbl, hrw, hql, hq, hS1⟩
  refine ⟨trivial, ?_⟩
  simp only [Act.put, List.setIfInBounds_toArray, List.set_cons_zero, List.set_cons_succ]
  refine oneL (i := 4) rfl (by kernel_rfl) rfl (wp_copy_rd _ _ rfl 48 32 b o' c' 32 rfl rfl hS1 q hrw hql rfl (by intro j hj; simp only [kdValidator]; (repeat' split) <;> first | rfl | (exfalso; omega)) (by decide) (fun e j hj => by rw [hq (by trivial), drop_take_get _ _ _ _ hj]; unfold rdValidator; (repeat' split) <;> first | (exfalso; omega) | (congr 1 <;> omega)) (fun W hS2 => ⟨trivial, ?_⟩))
  refine wpAnyH_done (by kernel_rfl) ?_ _
  refine hK _ _ ?_
  clear hK K hS hTT hrw hcc hbl hq hql hS1
  have hS := Lib.hid hS2
  clear hS2
  generalize goInt 32 = gi
  simp only [Act.put, List.setIfInBounds_toArray, List.set_cons_zero, List.set_cons_succ]
  go_wp2_with (first
    | ((with_reducible refine (RdS.u64 hS.out (fun _ => by rw [hkl.out]; decide)).mono ?_)
       rintro e W ⟨v1, rfl, hv1, hS1⟩
       have hv := Lib.hid hv1
       clear hv1
       clear hS
       have hS := Lib.hid hS1
       clear hS1)
    | ((with_reducible refine at_store 22 ?_); refine at_staddr 22 (w.heap.size + 1) 80 rfl ?_; refine wpList_rd1 rfl 22 _ _ rfl 80 rfl (.int .u64 v1) rfl v1 rfl sz_u64 hS.out rfl (by decide) (fun _ => (hv.out (by trivial)).trans rfl) (fun W1 hS1 => ?_)
       obtain ⟨W, hWW⟩ : ∃ W, W = W1 := ⟨_, rfl⟩
       subst hWW
       clear hv
       clear hS
       have hS := Lib.hid hS1
       clear hS1)
    | ((with_reducible refine (RdS.flagBad hS.out (by rw [hkl.out]; decide) hy.out).mono ?_)
       rintro e W ⟨b1, rfl, hS1⟩
       clear hS
       have hS := Lib.hid hS1
       clear hS1)
    | ((with_reducible refine at_store 4 ?_); refine at_staddr 4 (w.heap.size + 1) 81 rfl ?_; refine wpList_rd1 rfl 4 _ _ rfl 81 rfl (.bool b1) rfl (if b1 then 1 else 0) (by cases b1 <;> rfl) sz_bool hS.out rfl (by decide) (fun e => absurd e (by decide)) (fun W1 hS1 => ?_)
       obtain ⟨W, hWW⟩ : ∃ W, W = W1 := ⟨_, rfl⟩
       subst hWW
       clear hS
       have hS := Lib.hid hS1
       clear hS1)
    | ((with_reducible refine (RdS.u64 hS.out (fun e => absurd e (by decide))).mono ?_)
       rintro e W ⟨v1, rfl, hv1, hS1⟩
       have hv := Lib.hid hv1
       clear hv1
       clear hS
       have hS := Lib.hid hS1
       clear hS1)
    | ((with_reducible refine at_store 22 ?_); refine at_staddr 22 (w.heap.size + 1) 82 rfl ?_; refine wpList_rd1 rfl 22 _ _ rfl 82 rfl (.int .u64 v1) rfl v1 rfl sz_u64 (hS.out.any (m' := 82) (by decide)) rfl (by decide) (fun e => absurd e (by decide)) (fun W1 hS1 => ?_)
       obtain ⟨W, hWW⟩ : ∃ W, W = W1 := ⟨_, rfl⟩
       subst hWW
       clear hv
       clear hS
       have hS := Lib.hid hS1
       clear hS1)
    | ((with_reducible refine (RdS.u64 hS.out (fun e => absurd e (by decide))).mono ?_)
       rintro e W ⟨v1, rfl, hv1, hS1⟩
       have hv := Lib.hid hv1
       clear hv1
       clear hS
       have hS := Lib.hid hS1
       clear hS1)
    | ((with_reducible refine at_store 22 ?_); refine at_staddr 22 (w.heap.size + 1) 83 rfl ?_; refine wpList_rd1 rfl 22 _ _ rfl 83 rfl (.int .u64 v1) rfl v1 rfl sz_u64 (hS.out.any (m' := 83) (by decide)) rfl (by decide) (fun e => absurd e (by decide)) (fun W1 hS1 => ?_)
       obtain ⟨W, hWW⟩ : ∃ W, W = W1 := ⟨_, rfl⟩
       subst hWW
       clear hv
       clear hS
       have hS := Lib.hid hS1
       clear hS1)
    | ((with_reducible refine (RdS.u64 hS.out (fun e => absurd e (by decide))).mono ?_)
       rintro e W ⟨v1, rfl, hv1, hS1⟩
       have hv := Lib.hid hv1
       clear hv1
       clear hS
       have hS := Lib.hid hS1
       clear hS1)
    | ((with_reducible refine at_store 22 ?_); refine at_staddr 22 (w.heap.size + 1) 84 rfl ?_; refine wpList_rd1 rfl 22 _ _ rfl 84 rfl (.int .u64 v1) rfl v1 rfl sz_u64 (hS.out.any (m' := 84) (by decide)) rfl (by decide) (fun e => absurd e (by decide)) (fun W1 hS1 => ?_)
       obtain ⟨W, hWW⟩ : ∃ W, W = W1 := ⟨_, rfl⟩
       subst hWW
       clear hv
       clear hS
       have hS := Lib.hid hS1
       clear hS1)
    | ((with_reducible refine (RdS.u64 hS.out (fun e => absurd e (by decide))).mono ?_)
       rintro e W ⟨v1, rfl, hv1, hS1⟩
       have hv := Lib.hid hv1
       clear hv1
       clear hS
       have hS := Lib.hid hS1
       clear hS1)
    | ((with_reducible refine at_store 22 ?_); refine at_staddr 22 (w.heap.size + 1) 85 rfl ?_; refine wpList_rd1 rfl 22 _ _ rfl 85 rfl (.int .u64 v1) rfl v1 rfl sz_u64 (hS.out.any (m' := 85) (by decide)) rfl (by decide) (fun e => absurd e (by decide)) (fun W1 hS1 => ?_)
       obtain ⟨W, hWW⟩ : ∃ W, W = W1 := ⟨_, rfl⟩
       subst hWW
       clear hv
       clear hS
       have hS := Lib.hid hS1
       clear hS1)
    | ((with_reducible refine at_load 31 ?_); go_loud (refine wpList_value (by rfl) _ (run_load_cell _ 31 _ (by rfl) ⟨w.heap.size + 1 + 1, 4, none⟩ rfl (.int .i64 5) hS.out.errno _ Tryd.underlying31 rfl) ?_)))
  refine wp_region_held (S := fun w' => w'.cell? ⟨w.heap.size + 1 + 1, 4, none⟩ = some (.int .i64 5)) (by kernel_rfl) ?_
  have hTT : ({ W with drawn := W.drawn + 1 } : World).cell? ⟨w.heap.size + 1 + 1, 4, none⟩ = some (.int .i64 5) := hS.out.errno
  have hS2 := hS.out.drew (W.drawn + 1)
  have hsz := hS.out.size
  refine takeL (i := 0) (v := (.agg (fcells 86 kdValidator fun _ => 0).toArray)) rfl (by kernel_rfl) (by kernel_rfl) (by kernel_rfl) (fun _ _ _ h => h) rfl (by assumption) (fun w' _ => run_build 110 #[] (by rfl) _ (builtValidator w')) ?_
  simp only [Act.put, List.setIfInBounds_toArray, List.set_cons_zero, List.set_cons_succ]
  refine takeL (i := 1) (v := (.pointer (some ⟨w.heap.size + 1 + 1, 0, none⟩))) rfl (by kernel_rfl) (by kernel_rfl) (by kernel_rfl) (fun _ _ _ h => h) rfl (by assumption) (fun w' hS' => by go_simp) ?_
  simp only [Act.put, List.setIfInBounds_toArray, List.set_cons_zero, List.set_cons_succ]
  refine takeL (i := 2) (v := (.pointer (some ⟨w.heap.size + 1 + 1, 0, none⟩))) rfl (by kernel_rfl) (by kernel_rfl) (by kernel_rfl) (fun _ _ _ h => h) rfl (by assumption) (fun w' hS' => by go_simp) ?_
  simp only [Act.put, List.setIfInBounds_toArray, List.set_cons_zero, List.set_cons_succ]
  refine takeL (i := 3) (v := (.pointer (some ⟨w.heap.size + 1 + 1, 4, none⟩))) rfl (by kernel_rfl) (by kernel_rfl) (by kernel_rfl) (fun _ _ _ h => h) rfl (by assumption) (fun w' hS' => by go_simp) ?_
  simp only [Act.put, List.setIfInBounds_toArray, List.set_cons_zero, List.set_cons_succ]
  refine takeL (i := 4) (v := (.int .i64 5)) rfl (by kernel_rfl) (by kernel_rfl) (by kernel_rfl) (fun _ _ _ h => h) rfl (by assumption) (fun w' hS' => run_load_cell w' 31 _ (by rfl) ⟨w.heap.size + 1 + 1, 4, none⟩ (by rfl) _ hS' _ Tryd.underlying31 rfl) ?_
  simp only [Act.put, List.setIfInBounds_toArray, List.set_cons_zero, List.set_cons_succ]
  refine oneL (i := 5) rfl (by kernel_rfl) rfl (wp_store_row 110 _ _ rfl w.heap.size rfl _ rfl (fcells_one _ _ _) (by rw [row_size rowValidator]; simp [fcells]) _ 110 hS2.hR (by simp [fcells]) (fun W4 hC4 hA4 => ?_))
  have hTT : W4.cell? ⟨w.heap.size + 1 + 1, 4, none⟩ = some (.int .i64 5) := (World.cell?_of_block (w := { W with drawn := W.drawn + 1 }) (hA4.block (w.heap.size + 1 + 1) (show w.heap.size + 1 + 1 < W.heap.size by omega) (show w.heap.size + 1 + 1 ≠ w.heap.size by omega))).trans hS2.errno
  refine ⟨hTT, ?_⟩
  simp only [Act.put, List.setIfInBounds_toArray, List.set_cons_zero, List.set_cons_succ]
  refine takeL (i := 6) (v := (.int .i64 5)) rfl (by kernel_rfl) (by kernel_rfl) (by kernel_rfl) (fun _ _ _ h => h) rfl (by assumption) (fun w' hS' => by go_simp) ?_
  simp only [Act.put, List.setIfInBounds_toArray, List.set_cons_zero, List.set_cons_succ]
  refine wpAnyH_done (by kernel_rfl) ?_ _
  have hB4 := hA4.below hS2.hB (Nat.le_refl _) (show w.heap.size ≤ W.heap.size by omega)
  clear hS hS2 hA4 hTT
  go_wp2
  exact ret_mid_tmp rfl w.heap.size 0 (fcells 86 kdValidator fun _ => 0) _ rfl (range_whole hC4) Tryd.underlying110 rfl (by rw [row_size rowValidator, fcells_length]) rfl ⟨rfl, hB4⟩
end Go.Proofs.YtmoofccblbaepaaDoor
