import Derived.Test.YtmoofccblbaepaaDoorJSlExit
set_option linter.unusedVariables false
set_option linter.unusedSimpArgs false
set_option linter.unnecessarySimpa false
/- The small container SignedExit: its bytes, root and reading. -/
namespace Go.Proofs.YtmoofccblbaepaaDoor
open Go.RowKit BigFrame
set_option maxRecDepth 100000
def kdSignedExit (j : Nat) : CK := if j < 2 then .u64 else .u8
/-- The bytes. -/
def encLSignedExit (f : Nat → Int) : List Int := encLExit (shF f 0) ++ byL f 2 96
theorem encSignedExit_length (f : Nat → Int) : (encLSignedExit f).length = 112 := by simp [encLSignedExit, numL_length, byL_length, encExit_length]
theorem encSignedExit_ok {f : Nat → Int} (hf : ∀ j, j < 98 → (kdSignedExit j).ok (f j)) : ∀ m ∈ encLSignedExit f, CK.ok .u8 m := (ok_append (encExit_ok (sub_ok hf (by intro j hj; simp only [kdSignedExit, kdExit]; (repeat' split) <;> first | rfl | (exfalso; omega)) (by decide))) (byL_ok (ok_u8 hf (by intro j hj; simp only [kdSignedExit]; (repeat' split) <;> first | rfl | (exfalso; omega)) (by decide))))
theorem rowSignedExit : rowB Tryd.prog 101 98 = true := by kernel_rfl
set_option maxHeartbeats 8000000 in
theorem enc_SignedExit (f : Nat → Int) (hf0 : ∀ j, j < 98 → (kdSignedExit j).ok (f j)) (w : World) :
    Calls Tryd.prog 58 #[.agg (fcells 98 kdSignedExit f).toArray] w fun e w' => (∃ va c, e = .returned (.slice va 112 c) ∧ (va = none → c = 0) ∧ OwnB w.heap.size (.slice va 112 c) (encLSignedExit f) w') ∧ Below w.heap.size w w' := by
  have hf := Lib.hid hf0
  clear hf0
  go_enter Tryd.func58, Tryd.ntmps58
  go_wp2_with (first
    | ((with_reducible refine at_alloc 148 ?_); go_loud (refine wpList_plain rfl fun K hK => wp_alloc_row 148 rfl 3 rfl _ 5 info_out (hK _ _ ?_)); clear hK K
       refine gen_l (fun W => EncS w.heap.size 98 kdSignedExit f 101 [] w W) (EncS.begin (heap_new _ _ _ _ rfl) rfl) ?_
       intro W hS0
       have hS := Lib.hid hS0
       clear hS0)
    | ((with_reducible refine at_load 24 ?_); refine wpList_value (by rfl) _ (run_load_rows _ 24 _ (by rfl) w.heap.size 0 rfl (fcells 2 kdExit (shF f 0)) _ (hS.out.toBox.sub 0 2 kdExit (by intro j hj; simp only [kdSignedExit, kdExit]; (repeat' split) <;> first | rfl | (exfalso; omega)) (by decide)) Tryd.underlying24 rfl (by rw [row_size rowExit, fcells_length])) ?_)
    | ((with_reducible refine (enc_Exit (shF f 0) (sub_ok hf.out (by intro j hj; simp only [kdSignedExit, kdExit]; (repeat' split) <;> first | rfl | (exfalso; omega)) (by decide)) _).mono ?_)
       rintro e W ⟨⟨va1, c1, rfl, hn1, ho1⟩, hb1⟩
       have hS1 := hS.out.later hb1
       have hl := Lib.hid (SlB.of_own ho1 (encExit_ok (sub_ok hf.out (by intro j hj; simp only [kdSignedExit, kdExit]; (repeat' split) <;> first | rfl | (exfalso; omega)) (by decide))) hn1)
       clear hS
       have hS := Lib.hid hS1
       clear hS1 hn1 ho1 hb1)
    | ((with_reducible refine (EncS.bytes hS.out 2 96 (by intro j hj; simp only [kdSignedExit]; (repeat' split) <;> first | rfl | (exfalso; omega)) (by decide) hf.out (by simp [numL_length, byL_length, encExit_length])).mono ?_)
       rintro e W ⟨rfl, hS1⟩
       clear hS
       have hS := Lib.hid hS1
       clear hS1)
    | ((with_reducible refine (EncS.app hS.out _ 16 va1 c1 hl.out (encExit_length _) (by simp [numL_length, byL_length, encExit_length])).mono ?_)
       rintro e W ⟨rfl, hS1⟩
       clear hS
       have hS := Lib.hid hS1
       clear hS1
       clear hl)
    | ((with_reducible refine (EncS.done hS.out 112 (by simp [numL_length, byL_length, encExit_length]) (by decide)).mono ?_)
       rintro e W ⟨⟨va, c, rfl, hva, hOw⟩, hBf⟩
       have hOw1 := Lib.hid hOw
       have hva1 := Lib.hid hva
       clear hOw hva))
  exact ret_t1 rfl _ rfl rfl ⟨⟨va, c, rfl, hva1.out, by have h := hOw1.out; simp only [List.nil_append, List.append_assoc] at h; simpa only [encLSignedExit, List.append_assoc] using h⟩, hBf⟩
/-- The root. -/
def rootSignedExit (f : Nat → Int) : Nat → Int := fullT 1 (leaf [rootExit (shF f 0), byR 2 (byL f 2 96)])
theorem rootSignedExit_is {f : Nat → Int} (hf : ∀ j, j < 98 → (kdSignedExit j).ok (f j)) : IsR (rootSignedExit f) := fullT_is 1 (leaf_is (is_cons (rootExit_is (sub_ok hf (by intro j hj; simp only [kdSignedExit, kdExit]; (repeat' split) <;> first | rfl | (exfalso; omega)) (by decide))) (is_cons (byR_is (byL_ok (ok_u8 hf (by intro j hj; simp only [kdSignedExit]; (repeat' split) <;> first | rfl | (exfalso; omega)) (by decide)))) (is_nil))))
set_option maxHeartbeats 8000000 in
theorem root_SignedExit (f : Nat → Int) (hf0 : ∀ j, j < 98 → (kdSignedExit j).ok (f j)) (w : World) (hT0 : Tabs w) :
    Calls Tryd.prog 59 #[.agg (fcells 98 kdSignedExit f).toArray] w fun e w' => e = .returned (.agg (rootV (rootSignedExit f))) ∧ Below w.heap.size w w' := by
  have hf := Lib.hid hf0
  have hT := Lib.hid hT0
  clear hf0 hT0
  go_enter Tryd.func59, Tryd.ntmps59
  go_wp2_with (first
    | ((with_reducible refine at_alloc 29 ?_); refine wpList_plain rfl fun K hK => wp_alloc_row 29 rfl 2 rfl zr 32 info_zr (hK _ _ ?_); clear hK K)
    | ((with_reducible refine at_alloc 153 ?_); go_loud (refine wpList_plain rfl fun K hK => wp_alloc_row 153 rfl 3 rfl _ 2 info_hash (hK _ _ ?_)); clear hK K
       refine gen_l (fun W => HashS w.heap.size 98 kdSignedExit f 101 [] w W) (HashS.begin (heap_new _ _ _ _ rfl) rfl hT.out) ?_
       intro W hS0
       have hS := Lib.hid hS0
       clear hS0)
    | ((with_reducible refine at_load 24 ?_); refine wpList_value (by rfl) _ (run_load_rows _ 24 _ (by rfl) w.heap.size 0 rfl (fcells 2 kdExit (shF f 0)) _ (hS.out.toBox.sub 0 2 kdExit (by intro j hj; simp only [kdSignedExit, kdExit]; (repeat' split) <;> first | rfl | (exfalso; omega)) (by decide)) Tryd.underlying24 rfl (by rw [row_size rowExit, fcells_length])) ?_)
    | ((with_reducible refine (root_Exit (shF f 0) (sub_ok hf.out (by intro j hj; simp only [kdSignedExit, kdExit]; (repeat' split) <;> first | rfl | (exfalso; omega)) (by decide)) _ hS.out.hT).mono ?_)
       rintro e W ⟨rfl, hb1⟩
       have hS1 := hS.out.later hb1
       clear hS
       have hS := Lib.hid hS1
       clear hS1 hb1)
    | ((with_reducible refine (HashS.put hS.out (rootExit (shF f 0)) (rootExit_is (sub_ok hf.out (by intro j hj; simp only [kdSignedExit, kdExit]; (repeat' split) <;> first | rfl | (exfalso; omega)) (by decide))) (by simp)).mono ?_)
       rintro e W ⟨rfl, hS1⟩
       clear hS
       have hS := Lib.hid hS1
       clear hS1)
    | ((with_reducible refine (HashS.bytes hS.out 2 96 2 (by intro j hj; simp only [kdSignedExit]; (repeat' split) <;> first | rfl | (exfalso; omega)) (by decide) hf.out (by decide) (by decide) (by unfold Dep; decide) (by decide) (by simp)).mono ?_)
       rintro e W ⟨rfl, hS1⟩
       clear hS
       have hS := Lib.hid hS1
       clear hS1)
    | ((with_reducible refine (HashS.done hS.out 1 (by simp [Dep]) (by simp) (by decide)).mono ?_)
       rintro e W ⟨rfl, hBf, hRf⟩
       have hRf1 := Lib.hid hRf
       have hbs := hBf.size
       clear hRf hS)
    | ((with_reducible refine at_alloc 29 ?_); go_loud (refine wpList_alloc_store rfl rfl 29 4 _ rfl rfl rfl (rootV _) rfl rfl (zeroOf Tryd.prog 29) (row_zero row_root).1 (row_zero row_root).2 (fcells_one _ _ _) ?_))
    | ((with_reducible refine at_load 29 ?_); go_loud (refine wpList_value (by rfl) _ (run_load_box _ 29 _ (by rfl) W.heap.size (by rfl) _ _ (0, 0) _ (heap_new W _ 29 W.heap.size rfl) Tryd.underlying29 rfl (by rw [row_size row_root]; simp [fcells])) ?_))
    | ((with_reducible refine at_store 29 ?_); go_loud (refine wpList_store_row_gen (w0 := w) (n0 := w.heap.size) 29 _ _ rfl rfl (w.heap.size + 1) rfl _ rfl (fcells_one _ _ _) (by rw [row_size row_root]; simp [fcells]) _ 29 (heap_past _ _ _ _ hRf1.out) (by rw [zr_size]; simp [fcells]) (by omega) (hBf.alloc hbs _) (fun W9 hW9 hBW _ => ?_))))
  exact ret_cell rfl (w.heap.size + 1) 0 (fcells 32 (fun _ => .u8) (rootSignedExit f)) _ rfl hW9 Tryd.underlying29 rfl (by rw [row_size row_root, fcells_length]) rfl ⟨rfl, hBW⟩
set_option maxHeartbeats 8000000 in
theorem renc_SignedExit (f : Nat → Int) (hf0 : ∀ j, j < 98 → (kdSignedExit j).ok (f j)) (w : World) :
    Calls Tryd.prog 60 #[.agg (fcells 98 kdSignedExit f).toArray] w fun e w' => (∃ va c, e = .returned (.tuple #[.slice va 112 c, .int .i64 0]) ∧ (va = none → c = 0) ∧ OwnB w.heap.size (.slice va 112 c) (encLSignedExit f) w') ∧ Below w.heap.size w w' := by
  have hf := Lib.hid hf0
  clear hf0
  go_enter Tryd.func60, Tryd.ntmps60
  go_wp2_with (first
    | ((with_reducible refine at_box 101 ?_); go_loud (refine wpList_box rfl 101 _ rfl _ rfl ?_)
       refine gen_l (fun W => RefE w.heap.size 98 kdSignedExit f 101 [] w W) (RefE.begin (heap_new _ _ _ _ rfl) rfl) ?_
       intro W hS0
       have hS := Lib.hid hS0
       clear hS0)
    | ((with_reducible refine at_load 24 ?_); refine wpList_value (by rfl) _ (run_load_rows _ 24 _ (by rfl) w.heap.size 0 rfl (fcells 2 kdExit (shF f 0)) _ (hS.out.toBox.sub 0 2 kdExit (by intro j hj; simp only [kdSignedExit, kdExit]; (repeat' split) <;> first | rfl | (exfalso; omega)) (by decide)) Tryd.underlying24 rfl (by rw [row_size rowExit, fcells_length])) ?_)
    | ((with_reducible refine at_bslice 25 ?_); go_loud (refine wpList_plain rfl fun K hK => wp_build0 rfl (hK _ _ ?_)); clear hK K)
    | ((with_reducible refine (renc_Exit (shF f 0) (sub_ok hf.out (by intro j hj; simp only [kdSignedExit, kdExit]; (repeat' split) <;> first | rfl | (exfalso; omega)) (by decide)) _).mono ?_)
       rintro e W ⟨⟨va1, c1, rfl, hn1, ho1⟩, hb1⟩
       have hS1 := (hS.out.later hb1).add (SlB.of_own ho1 (encExit_ok (sub_ok hf.out (by intro j hj; simp only [kdSignedExit, kdExit]; (repeat' split) <;> first | rfl | (exfalso; omega)) (by decide))) hn1) (encExit_length _)
       clear hn1 ho1 hb1
       clear hS
       have hS := Lib.hid hS1
       clear hS1)
    | ((with_reducible refine at_app 25 ?_); refine wpList_app (w0 := W) rfl _ _ rfl W.heap.size [] (byL f 2 96) _ rfl (OwnB.new (Nat.le_refl _) [] (by decide) (heap_new _ _ _ _ rfl)) (some ⟨w.heap.size, 2, none⟩) 96 rfl ((hS.out.toBox.row 2 96 (by intro j hj; simp only [kdSignedExit]; (repeat' split) <;> first | rfl | (exfalso; omega)) (by decide) hf.out).later ((Below.refl _ _).alloc (Nat.le_refl _) _)) (by simp [byL_length]) (by simp) (fun h => by cases h) ((Below.refl _ _).alloc (Nat.le_refl _) _) (fun v1 W1 h1 b1 z1 => ?_)
       obtain ⟨va1, c1, e1, hS1⟩ := hS.out.own h1 b1 (byL_ok (ok_u8 hf.out (by intro j hj; simp only [kdSignedExit]; (repeat' split) <;> first | rfl | (exfalso; omega)) (by decide))) (byL_length f 2 96)
       subst e1
       clear h1 b1 z1
       obtain ⟨W, hWW⟩ : ∃ W, W = W1 := ⟨_, rfl⟩
       subst hWW
       clear hS
       have hS := Lib.hid hS1
       clear hS1)
    | ((with_reducible refine (RefE.lay2 hS.out (k := 2) (S := 112) (L := encLSignedExit f) [16, 96] ?hV ?hZ rfl (by decide) (by decide) (by simp [msOf, numL_length, byL_length, encExit_length]) (by decide) (by simp [msOf, encLSignedExit]) (encSignedExit_length f) (by decide)).mono ?hM)
       case hV => rfl
       case hZ => rfl
       rintro e W ⟨⟨va, c, rfl, hva, hOw⟩, hBf⟩
       have hOw1 := Lib.hid hOw
       have hva1 := Lib.hid hva
       clear hOw hva))
  exact ret_t2 rfl _ _ rfl rfl rfl ⟨⟨va, c, rfl, hva1.out, hOw1.out⟩, hBf⟩
end Go.Proofs.YtmoofccblbaepaaDoor
