/- The small container SignedHeader: its bytes, root and reading. -/
import Derived.Test.YtihelknkcomjpaaDoorKSmHeader
set_option linter.unusedVariables false
set_option linter.unusedSimpArgs false
set_option linter.unnecessarySimpa false
namespace Go.Proofs.YtihelknkcomjpaaDoor
open Go.RowKit BigFrame
set_option maxRecDepth 100000
def kdSignedHeader (j : Nat) : CK := if j < 2 then .u64 else .u8
/-- The bytes. -/
def encLSignedHeader (f : Nat → Int) : List Int := encLHeader (shF f 0) ++ byL f 98 96
theorem encSignedHeader_length (f : Nat → Int) : (encLSignedHeader f).length = 208 := by simp [encLSignedHeader, numL_length, byL_length, encHeader_length]
theorem encSignedHeader_ok {f : Nat → Int} (hf : ∀ j, j < 194 → (kdSignedHeader j).ok (f j)) : ∀ m ∈ encLSignedHeader f, CK.ok .u8 m := (ok_append (encHeader_ok (sub_ok hf (by intro j hj; simp only [kdSignedHeader, kdHeader]; (repeat' split) <;> first | rfl | (exfalso; omega)) (by decide))) (byL_ok (ok_u8 hf (by intro j hj; simp only [kdSignedHeader]; (repeat' split) <;> first | rfl | (exfalso; omega)) (by decide))))
theorem rowSignedHeader : rowB Tryd.prog 47 194 = true := by kernel_rfl
set_option maxHeartbeats 8000000 in
theorem enc_SignedHeader (f : Nat → Int) (hf0 : ∀ j, j < 194 → (kdSignedHeader j).ok (f j)) (w : World) :
    Calls Tryd.prog 55 #[.agg (fcells 194 kdSignedHeader f).toArray] w fun e w' => (∃ va c, e = .returned (.slice va 208 c) ∧ (va = none → c = 0) ∧ OwnB w.heap.size (.slice va 208 c) (encLSignedHeader f) w') ∧ Below w.heap.size w w' := by
  have hf := Lib.hid hf0
  clear hf0
  go_enter Tryd.func55, Tryd.ntmps55
  go_wp2_with (first
    | ((with_reducible refine at_alloc 84 ?_); go_loud (refine wpList_plain rfl fun K hK => wp_alloc_row 84 rfl 3 rfl _ 5 info_out (hK _ _ ?_)); clear hK K
       refine gen_l (fun W => EncS w.heap.size 194 kdSignedHeader f 47 [] w W) (EncS.begin (heap_new _ _ _ _ rfl) rfl) ?_
       intro W hS0
       have hS := Lib.hid hS0
       clear hS0)
    | ((with_reducible refine at_load 45 ?_); refine wpList_value (by rfl) _ (run_load_rows _ 45 _ (by rfl) w.heap.size 0 rfl (fcells 98 kdHeader (shF f 0)) _ (hS.out.toBox.sub 0 98 kdHeader (by intro j hj; simp only [kdSignedHeader, kdHeader]; (repeat' split) <;> first | rfl | (exfalso; omega)) (by decide)) Tryd.underlying45 rfl (by rw [row_size rowHeader, fcells_length])) ?_)
    | ((with_reducible refine (enc_Header (shF f 0) (sub_ok hf.out (by intro j hj; simp only [kdSignedHeader, kdHeader]; (repeat' split) <;> first | rfl | (exfalso; omega)) (by decide)) _).mono ?_)
       rintro e W ⟨⟨va1, c1, rfl, hn1, ho1⟩, hb1⟩
       have hS1 := hS.out.later hb1
       have hl := Lib.hid (SlB.of_own ho1 (encHeader_ok (sub_ok hf.out (by intro j hj; simp only [kdSignedHeader, kdHeader]; (repeat' split) <;> first | rfl | (exfalso; omega)) (by decide))) hn1)
       clear hS
       have hS := Lib.hid hS1
       clear hS1 hn1 ho1 hb1)
    | ((with_reducible refine (EncS.bytes hS.out 98 96 (by intro j hj; simp only [kdSignedHeader]; (repeat' split) <;> first | rfl | (exfalso; omega)) (by decide) hf.out (by simp [numL_length, byL_length, encHeader_length])).mono ?_)
       rintro e W ⟨rfl, hS1⟩
       clear hS
       have hS := Lib.hid hS1
       clear hS1)
    | ((with_reducible refine (EncS.app hS.out _ 112 va1 c1 hl.out (encHeader_length _) (by simp [numL_length, byL_length, encHeader_length])).mono ?_)
       rintro e W ⟨rfl, hS1⟩
       clear hS
       have hS := Lib.hid hS1
       clear hS1
       clear hl)
    | ((with_reducible refine (EncS.done hS.out 208 (by simp [numL_length, byL_length, encHeader_length]) (by decide)).mono ?_)
       rintro e W ⟨⟨va, c, rfl, hva, hOw⟩, hBf⟩
       have hOw1 := Lib.hid hOw
       have hva1 := Lib.hid hva
       clear hOw hva))
  exact ret_t1 rfl _ rfl rfl ⟨⟨va, c, rfl, hva1.out, by have h := hOw1.out; simp only [List.nil_append, List.append_assoc] at h; simpa only [encLSignedHeader, List.append_assoc] using h⟩, hBf⟩
/-- The root. -/
def rootSignedHeader (f : Nat → Int) : Nat → Int := fullT 1 (leaf [rootHeader (shF f 0), byR 2 (byL f 98 96)])
theorem rootSignedHeader_is {f : Nat → Int} (hf : ∀ j, j < 194 → (kdSignedHeader j).ok (f j)) : IsR (rootSignedHeader f) := fullT_is 1 (leaf_is (is_cons (rootHeader_is (sub_ok hf (by intro j hj; simp only [kdSignedHeader, kdHeader]; (repeat' split) <;> first | rfl | (exfalso; omega)) (by decide))) (is_cons (byR_is (byL_ok (ok_u8 hf (by intro j hj; simp only [kdSignedHeader]; (repeat' split) <;> first | rfl | (exfalso; omega)) (by decide)))) (is_nil))))
set_option maxHeartbeats 8000000 in
theorem root_SignedHeader (f : Nat → Int) (hf0 : ∀ j, j < 194 → (kdSignedHeader j).ok (f j)) (w : World) (hT0 : Tabs w) :
    Calls Tryd.prog 56 #[.agg (fcells 194 kdSignedHeader f).toArray] w fun e w' => e = .returned (.agg (rootV (rootSignedHeader f))) ∧ Below w.heap.size w w' := by
  have hf := Lib.hid hf0
  have hT := Lib.hid hT0
  clear hf0 hT0
  go_enter Tryd.func56, Tryd.ntmps56
  go_wp2_with (first
    | ((with_reducible refine at_alloc 23 ?_); refine wpList_plain rfl fun K hK => wp_alloc_row 23 rfl 2 rfl zr 32 info_zr (hK _ _ ?_); clear hK K)
    | ((with_reducible refine at_alloc 90 ?_); go_loud (refine wpList_plain rfl fun K hK => wp_alloc_row 90 rfl 3 rfl _ 2 info_hash (hK _ _ ?_)); clear hK K
       refine gen_l (fun W => HashS w.heap.size 194 kdSignedHeader f 47 [] w W) (HashS.begin (heap_new _ _ _ _ rfl) rfl hT.out) ?_
       intro W hS0
       have hS := Lib.hid hS0
       clear hS0)
    | ((with_reducible refine at_load 45 ?_); refine wpList_value (by rfl) _ (run_load_rows _ 45 _ (by rfl) w.heap.size 0 rfl (fcells 98 kdHeader (shF f 0)) _ (hS.out.toBox.sub 0 98 kdHeader (by intro j hj; simp only [kdSignedHeader, kdHeader]; (repeat' split) <;> first | rfl | (exfalso; omega)) (by decide)) Tryd.underlying45 rfl (by rw [row_size rowHeader, fcells_length])) ?_)
    | ((with_reducible refine (root_Header (shF f 0) (sub_ok hf.out (by intro j hj; simp only [kdSignedHeader, kdHeader]; (repeat' split) <;> first | rfl | (exfalso; omega)) (by decide)) _ hS.out.hT).mono ?_)
       rintro e W ⟨rfl, hb1⟩
       have hS1 := hS.out.later hb1
       clear hS
       have hS := Lib.hid hS1
       clear hS1 hb1)
    | ((with_reducible refine (HashS.put hS.out (rootHeader (shF f 0)) (rootHeader_is (sub_ok hf.out (by intro j hj; simp only [kdSignedHeader, kdHeader]; (repeat' split) <;> first | rfl | (exfalso; omega)) (by decide))) (by simp)).mono ?_)
       rintro e W ⟨rfl, hS1⟩
       clear hS
       have hS := Lib.hid hS1
       clear hS1)
    | ((with_reducible refine (HashS.bytes hS.out 98 96 2 (by intro j hj; simp only [kdSignedHeader]; (repeat' split) <;> first | rfl | (exfalso; omega)) (by decide) hf.out (by decide) (by decide) (by unfold Dep; decide) (by decide) (by simp)).mono ?_)
       rintro e W ⟨rfl, hS1⟩
       clear hS
       have hS := Lib.hid hS1
       clear hS1)
    | ((with_reducible refine (HashS.done hS.out 1 (by simp [Dep]) (by simp) (by decide)).mono ?_)
       rintro e W ⟨rfl, hBf, hRf⟩
       have hRf1 := Lib.hid hRf
       have hbs := hBf.size
       clear hRf hS)
    | ((with_reducible refine at_alloc 23 ?_); go_loud (refine wpList_alloc_store rfl rfl 23 4 _ rfl rfl rfl (rootV _) rfl rfl (zeroOf Tryd.prog 23) (row_zero row_root).1 (row_zero row_root).2 (fcells_one _ _ _) ?_))
    | ((with_reducible refine at_load 23 ?_); go_loud (refine wpList_value (by rfl) _ (run_load_box _ 23 _ (by rfl) W.heap.size (by rfl) _ _ (0, 0) _ (heap_new W _ 23 W.heap.size rfl) Tryd.underlying23 rfl (by rw [row_size row_root]; simp [fcells])) ?_))
    | ((with_reducible refine at_store 23 ?_); go_loud (refine wpList_store_row_gen (w0 := w) (n0 := w.heap.size) 23 _ _ rfl rfl (w.heap.size + 1) rfl _ rfl (fcells_one _ _ _) (by rw [row_size row_root]; simp [fcells]) _ 23 (heap_past _ _ _ _ hRf1.out) (by rw [zr_size]; simp [fcells]) (by omega) (hBf.alloc hbs _) (fun W9 hW9 hBW _ => ?_))))
  exact ret_cell rfl (w.heap.size + 1) 0 (fcells 32 (fun _ => .u8) (rootSignedHeader f)) _ rfl hW9 Tryd.underlying23 rfl (by rw [row_size row_root, fcells_length]) rfl ⟨rfl, hBW⟩
set_option maxHeartbeats 8000000 in
theorem renc_SignedHeader (f : Nat → Int) (hf0 : ∀ j, j < 194 → (kdSignedHeader j).ok (f j)) (w : World) :
    Calls Tryd.prog 57 #[.agg (fcells 194 kdSignedHeader f).toArray] w fun e w' => (∃ va c, e = .returned (.tuple #[.slice va 208 c, .int .i64 0]) ∧ (va = none → c = 0) ∧ OwnB w.heap.size (.slice va 208 c) (encLSignedHeader f) w') ∧ Below w.heap.size w w' := by
  have hf := Lib.hid hf0
  clear hf0
  go_enter Tryd.func57, Tryd.ntmps57
  go_wp2_with (first
    | ((with_reducible refine at_box 47 ?_); go_loud (refine wpList_box rfl 47 _ rfl _ rfl ?_)
       refine gen_l (fun W => RefE w.heap.size 194 kdSignedHeader f 47 [] w W) (RefE.begin (heap_new _ _ _ _ rfl) rfl) ?_
       intro W hS0
       have hS := Lib.hid hS0
       clear hS0)
    | ((with_reducible refine at_load 45 ?_); refine wpList_value (by rfl) _ (run_load_rows _ 45 _ (by rfl) w.heap.size 0 rfl (fcells 98 kdHeader (shF f 0)) _ (hS.out.toBox.sub 0 98 kdHeader (by intro j hj; simp only [kdSignedHeader, kdHeader]; (repeat' split) <;> first | rfl | (exfalso; omega)) (by decide)) Tryd.underlying45 rfl (by rw [row_size rowHeader, fcells_length])) ?_)
    | ((with_reducible refine at_bslice 34 ?_); go_loud (refine wpList_plain rfl fun K hK => wp_build0 rfl (hK _ _ ?_)); clear hK K)
    | ((with_reducible refine (renc_Header (shF f 0) (sub_ok hf.out (by intro j hj; simp only [kdSignedHeader, kdHeader]; (repeat' split) <;> first | rfl | (exfalso; omega)) (by decide)) _).mono ?_)
       rintro e W ⟨⟨va1, c1, rfl, hn1, ho1⟩, hb1⟩
       have hS1 := (hS.out.later hb1).add (SlB.of_own ho1 (encHeader_ok (sub_ok hf.out (by intro j hj; simp only [kdSignedHeader, kdHeader]; (repeat' split) <;> first | rfl | (exfalso; omega)) (by decide))) hn1) (encHeader_length _)
       clear hn1 ho1 hb1
       clear hS
       have hS := Lib.hid hS1
       clear hS1)
    | ((with_reducible refine at_app 34 ?_); refine wpList_app (w0 := W) rfl _ _ rfl W.heap.size [] (byL f 98 96) _ rfl (OwnB.new (Nat.le_refl _) [] (by decide) (heap_new _ _ _ _ rfl)) (some ⟨w.heap.size, 98, none⟩) 96 rfl ((hS.out.toBox.row 98 96 (by intro j hj; simp only [kdSignedHeader]; (repeat' split) <;> first | rfl | (exfalso; omega)) (by decide) hf.out).later ((Below.refl _ _).alloc (Nat.le_refl _) _)) (by simp [byL_length]) (by simp) (fun h => by cases h) ((Below.refl _ _).alloc (Nat.le_refl _) _) (fun v1 W1 h1 b1 z1 => ?_)
       obtain ⟨va1, c1, e1, hS1⟩ := hS.out.own h1 b1 (byL_ok (ok_u8 hf.out (by intro j hj; simp only [kdSignedHeader]; (repeat' split) <;> first | rfl | (exfalso; omega)) (by decide))) (byL_length f 98 96)
       subst e1
       clear h1 b1 z1
       obtain ⟨W, hWW⟩ : ∃ W, W = W1 := ⟨_, rfl⟩
       subst hWW
       clear hS
       have hS := Lib.hid hS1
       clear hS1)
    | ((with_reducible refine (RefE.lay2 hS.out (k := 2) (S := 208) (L := encLSignedHeader f) [112, 96] ?hV ?hZ rfl (by decide) (by decide) (by simp [msOf, numL_length, byL_length, encHeader_length]) (by decide) (by simp [msOf, encLSignedHeader]) (encSignedHeader_length f) (by decide)).mono ?hM)
       case hV => rfl
       case hZ => rfl
       rintro e W ⟨⟨va, c, rfl, hva, hOw⟩, hBf⟩
       have hOw1 := Lib.hid hOw
       have hva1 := Lib.hid hva
       clear hOw hva))
  exact ret_t2 rfl _ _ rfl rfl rfl ⟨⟨va, c, rfl, hva1.out, hOw1.out⟩, hBf⟩
end Go.Proofs.YtihelknkcomjpaaDoor
