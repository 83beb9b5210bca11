/- Oper's container ProposerSlashing: its bytes and root. -/
import Derived.Test.YtihelknkcomjpaaDoorKSmSignedHeader
set_option linter.unusedVariables false
set_option linter.unusedSimpArgs false
set_option linter.unnecessarySimpa false
namespace Go.Proofs.YtihelknkcomjpaaDoor
open Go.RowKit BigFrame
set_option maxRecDepth 100000
def kdProposerSlashing (j : Nat) : CK := if j < 2 then .u64 else if j < 194 then .u8 else if j < 196 then .u64 else .u8
/-- The bytes. -/
def encLProposerSlashing (f : Nat → Int) : List Int := encLSignedHeader (shF f 0) ++ encLSignedHeader (shF f 194)
theorem encProposerSlashing_length (f : Nat → Int) : (encLProposerSlashing f).length = 416 := by simp [encLProposerSlashing, numL_length, byL_length, encSignedHeader_length]
theorem encProposerSlashing_ok {f : Nat → Int} (hf : ∀ j, j < 388 → (kdProposerSlashing j).ok (f j)) : ∀ m ∈ encLProposerSlashing f, CK.ok .u8 m := (ok_append (encSignedHeader_ok (sub_ok hf (by intro j hj; simp only [kdProposerSlashing, kdSignedHeader]; (repeat' split) <;> first | rfl | (exfalso; omega)) (by decide))) (encSignedHeader_ok (sub_ok hf (by intro j hj; simp only [kdProposerSlashing, kdSignedHeader]; (repeat' split) <;> first | rfl | (exfalso; omega)) (by decide))))
theorem rowProposerSlashing : rowB Tryd.prog 49 388 = true := by kernel_rfl
set_option maxHeartbeats 8000000 in
theorem enc_ProposerSlashing (f : Nat → Int) (hf0 : ∀ j, j < 388 → (kdProposerSlashing j).ok (f j)) (w : World) :
    Calls Tryd.prog 15 #[.agg (fcells 388 kdProposerSlashing f).toArray] w fun e w' => (∃ va c, e = .returned (.tuple #[.slice va 416 c, .int .i64 0]) ∧ (va = none → c = 0) ∧ OwnB w.heap.size (.slice va 416 c) (encLProposerSlashing f) w') ∧ Below w.heap.size w w' := by
  have hf := Lib.hid hf0
  clear hf0
  go_enter Tryd.func15, Tryd.ntmps15
  go_wp2_with (first
    | ((with_reducible refine at_alloc 84 ?_); go_loud (refine wpList_plain rfl fun K hK => wp_alloc_row 84 rfl 4 rfl _ 5 info_out (hK _ _ ?_)); clear hK K
       refine gen_l (fun W => EncS w.heap.size 388 kdProposerSlashing f 49 [] w W) (EncS.begin (heap_new _ _ _ _ rfl) rfl) ?_
       intro W hS0
       have hS := Lib.hid hS0
       clear hS0)
    | ((with_reducible refine at_load 47 ?_); refine wpList_value (by rfl) _ (run_load_rows _ 47 _ (by rfl) w.heap.size 0 rfl (fcells 194 kdSignedHeader (shF f 0)) _ (hS.out.toBox.sub 0 194 kdSignedHeader (by intro j hj; simp only [kdProposerSlashing, kdSignedHeader]; (repeat' split) <;> first | rfl | (exfalso; omega)) (by decide)) Tryd.underlying47 rfl (by rw [row_size rowSignedHeader, fcells_length])) ?_)
    | ((with_reducible refine at_load 47 ?_); refine wpList_value (by rfl) _ (run_load_rows _ 47 _ (by rfl) w.heap.size 194 rfl (fcells 194 kdSignedHeader (shF f 194)) _ (hS.out.toBox.sub 194 194 kdSignedHeader (by intro j hj; simp only [kdProposerSlashing, kdSignedHeader]; (repeat' split) <;> first | rfl | (exfalso; omega)) (by decide)) Tryd.underlying47 rfl (by rw [row_size rowSignedHeader, fcells_length])) ?_)
    | ((with_reducible refine (enc_SignedHeader (shF f 0) (sub_ok hf.out (by intro j hj; simp only [kdProposerSlashing, kdSignedHeader]; (repeat' split) <;> first | rfl | (exfalso; omega)) (by decide)) _).mono ?_)
       rintro e W ⟨⟨va1, c1, rfl, hn1, ho1⟩, hb1⟩
       have hS1 := hS.out.later hb1
       have hl := Lib.hid (SlB.of_own ho1 (encSignedHeader_ok (sub_ok hf.out (by intro j hj; simp only [kdProposerSlashing, kdSignedHeader]; (repeat' split) <;> first | rfl | (exfalso; omega)) (by decide))) hn1)
       clear hS
       have hS := Lib.hid hS1
       clear hS1 hn1 ho1 hb1)
    | ((with_reducible refine (enc_SignedHeader (shF f 194) (sub_ok hf.out (by intro j hj; simp only [kdProposerSlashing, kdSignedHeader]; (repeat' split) <;> first | rfl | (exfalso; omega)) (by decide)) _).mono ?_)
       rintro e W ⟨⟨va1, c1, rfl, hn1, ho1⟩, hb1⟩
       have hS1 := hS.out.later hb1
       have hl := Lib.hid (SlB.of_own ho1 (encSignedHeader_ok (sub_ok hf.out (by intro j hj; simp only [kdProposerSlashing, kdSignedHeader]; (repeat' split) <;> first | rfl | (exfalso; omega)) (by decide))) hn1)
       clear hS
       have hS := Lib.hid hS1
       clear hS1 hn1 ho1 hb1)
    | ((with_reducible refine (EncS.app hS.out _ 208 va1 c1 hl.out (encSignedHeader_length _) (by simp [numL_length, byL_length, encSignedHeader_length])).mono ?_)
       rintro e W ⟨rfl, hS1⟩
       clear hS
       have hS := Lib.hid hS1
       clear hS1
       clear hl)
    | ((with_reducible refine (EncS.done hS.out 416 (by simp [numL_length, byL_length, encSignedHeader_length]) (by decide)).mono ?_)
       rintro e W ⟨⟨va, c, rfl, hva, hOw⟩, hBf⟩
       have hOw1 := Lib.hid hOw
       have hva1 := Lib.hid hva
       clear hOw hva))
  exact ret_t2 rfl _ _ rfl rfl rfl ⟨⟨va, c, rfl, hva1.out, by have h := hOw1.out; simp only [List.nil_append, List.append_assoc] at h; simpa only [encLProposerSlashing, List.append_assoc] using h⟩, hBf⟩
/-- The root. -/
def rootProposerSlashing (f : Nat → Int) : Nat → Int := fullT 1 (leaf [rootSignedHeader (shF f 0), rootSignedHeader (shF f 194)])
theorem rootProposerSlashing_is {f : Nat → Int} (hf : ∀ j, j < 388 → (kdProposerSlashing j).ok (f j)) : IsR (rootProposerSlashing f) := fullT_is 1 (leaf_is (is_cons (rootSignedHeader_is (sub_ok hf (by intro j hj; simp only [kdProposerSlashing, kdSignedHeader]; (repeat' split) <;> first | rfl | (exfalso; omega)) (by decide))) (is_cons (rootSignedHeader_is (sub_ok hf (by intro j hj; simp only [kdProposerSlashing, kdSignedHeader]; (repeat' split) <;> first | rfl | (exfalso; omega)) (by decide))) (is_nil))))
set_option maxHeartbeats 8000000 in
theorem root_ProposerSlashing (f : Nat → Int) (hf0 : ∀ j, j < 388 → (kdProposerSlashing j).ok (f j)) (w : World) (hT0 : Tabs w) :
    Calls Tryd.prog 16 #[.agg (fcells 388 kdProposerSlashing f).toArray] w fun e w' => e = .returned (.tuple #[.agg (rootV (rootProposerSlashing f)), .int .i64 0]) ∧ Below w.heap.size w w' := by
  have hf := Lib.hid hf0
  have hT := Lib.hid hT0
  clear hf0 hT0
  go_enter Tryd.func16, Tryd.ntmps16
  go_wp2_with (first
    | ((with_reducible refine at_alloc 23 ?_); refine wpList_plain rfl fun K hK => wp_alloc_row 23 rfl 2 rfl zr 32 info_zr (hK _ _ ?_); clear hK K)
    | ((with_reducible refine at_alloc 90 ?_); go_loud (refine wpList_plain rfl fun K hK => wp_alloc_row 90 rfl 4 rfl _ 2 info_hash (hK _ _ ?_)); clear hK K
       refine gen_l (fun W => HashS w.heap.size 388 kdProposerSlashing f 49 [] w W) (HashS.begin (heap_new _ _ _ _ rfl) rfl hT.out) ?_
       intro W hS0
       have hS := Lib.hid hS0
       clear hS0)
    | ((with_reducible refine at_load 47 ?_); refine wpList_value (by rfl) _ (run_load_rows _ 47 _ (by rfl) w.heap.size 0 rfl (fcells 194 kdSignedHeader (shF f 0)) _ (hS.out.toBox.sub 0 194 kdSignedHeader (by intro j hj; simp only [kdProposerSlashing, kdSignedHeader]; (repeat' split) <;> first | rfl | (exfalso; omega)) (by decide)) Tryd.underlying47 rfl (by rw [row_size rowSignedHeader, fcells_length])) ?_)
    | ((with_reducible refine at_load 47 ?_); refine wpList_value (by rfl) _ (run_load_rows _ 47 _ (by rfl) w.heap.size 194 rfl (fcells 194 kdSignedHeader (shF f 194)) _ (hS.out.toBox.sub 194 194 kdSignedHeader (by intro j hj; simp only [kdProposerSlashing, kdSignedHeader]; (repeat' split) <;> first | rfl | (exfalso; omega)) (by decide)) Tryd.underlying47 rfl (by rw [row_size rowSignedHeader, fcells_length])) ?_)
    | ((with_reducible refine (root_SignedHeader (shF f 0) (sub_ok hf.out (by intro j hj; simp only [kdProposerSlashing, kdSignedHeader]; (repeat' split) <;> first | rfl | (exfalso; omega)) (by decide)) _ hS.out.hT).mono ?_)
       rintro e W ⟨rfl, hb1⟩
       have hS1 := hS.out.later hb1
       clear hS
       have hS := Lib.hid hS1
       clear hS1 hb1)
    | ((with_reducible refine (HashS.put hS.out (rootSignedHeader (shF f 0)) (rootSignedHeader_is (sub_ok hf.out (by intro j hj; simp only [kdProposerSlashing, kdSignedHeader]; (repeat' split) <;> first | rfl | (exfalso; omega)) (by decide))) (by simp)).mono ?_)
       rintro e W ⟨rfl, hS1⟩
       clear hS
       have hS := Lib.hid hS1
       clear hS1)
    | ((with_reducible refine (root_SignedHeader (shF f 194) (sub_ok hf.out (by intro j hj; simp only [kdProposerSlashing, kdSignedHeader]; (repeat' split) <;> first | rfl | (exfalso; omega)) (by decide)) _ hS.out.hT).mono ?_)
       rintro e W ⟨rfl, hb1⟩
       have hS1 := hS.out.later hb1
       clear hS
       have hS := Lib.hid hS1
       clear hS1 hb1)
    | ((with_reducible refine (HashS.put hS.out (rootSignedHeader (shF f 194)) (rootSignedHeader_is (sub_ok hf.out (by intro j hj; simp only [kdProposerSlashing, kdSignedHeader]; (repeat' split) <;> first | rfl | (exfalso; omega)) (by decide))) (by simp)).mono ?_)
       rintro e W ⟨rfl, hS1⟩
       clear hS
       have hS := Lib.hid hS1
       clear hS1)
    | ((with_reducible refine (HashS.done hS.out 1 (by simp [Dep]) (by simp) (by decide)).mono ?_)
       rintro e W ⟨rfl, hBf, hRf⟩
       have hRf1 := Lib.hid hRf
       have hbs := hBf.size
       clear hRf hS)
    | ((with_reducible refine at_store 23 ?_); go_loud (refine wpList_store_row_gen (w0 := w) (n0 := w.heap.size) 23 _ _ rfl rfl (w.heap.size + 1) rfl _ rfl (fcells_one _ _ _) (by rw [row_size row_root]; simp [fcells]) _ 23 hRf1.out (by rw [zr_size]; simp [fcells]) (by omega) hBf (fun W9 hW9 hBW _ => ?_))))
  exact ret_mid_tmp rfl (w.heap.size + 1) 0 (fcells 32 (fun _ => .u8) (rootProposerSlashing f)) _ rfl hW9 Tryd.underlying23 rfl (by rw [row_size row_root, fcells_length]) rfl ⟨rfl, hBW⟩
set_option maxHeartbeats 8000000 in
theorem renc_ProposerSlashing (f : Nat → Int) (hf0 : ∀ j, j < 388 → (kdProposerSlashing j).ok (f j)) (w : World) :
    Calls Tryd.prog 17 #[.agg (fcells 388 kdProposerSlashing f).toArray] w fun e w' => (∃ va c, e = .returned (.tuple #[.slice va 416 c, .int .i64 0]) ∧ (va = none → c = 0) ∧ OwnB w.heap.size (.slice va 416 c) (encLProposerSlashing f) w') ∧ Below w.heap.size w w' := by
  have hf := Lib.hid hf0
  clear hf0
  go_enter Tryd.func17, Tryd.ntmps17
  go_wp2_with (first
    | ((with_reducible refine at_box 49 ?_); go_loud (refine wpList_box rfl 49 _ rfl _ rfl ?_)
       refine gen_l (fun W => RefE w.heap.size 388 kdProposerSlashing f 49 [] w W) (RefE.begin (heap_new _ _ _ _ rfl) rfl) ?_
       intro W hS0
       have hS := Lib.hid hS0
       clear hS0)
    | ((with_reducible refine at_load 47 ?_); refine wpList_value (by rfl) _ (run_load_rows _ 47 _ (by rfl) w.heap.size 0 rfl (fcells 194 kdSignedHeader (shF f 0)) _ (hS.out.toBox.sub 0 194 kdSignedHeader (by intro j hj; simp only [kdProposerSlashing, kdSignedHeader]; (repeat' split) <;> first | rfl | (exfalso; omega)) (by decide)) Tryd.underlying47 rfl (by rw [row_size rowSignedHeader, fcells_length])) ?_)
    | ((with_reducible refine at_load 47 ?_); refine wpList_value (by rfl) _ (run_load_rows _ 47 _ (by rfl) w.heap.size 194 rfl (fcells 194 kdSignedHeader (shF f 194)) _ (hS.out.toBox.sub 194 194 kdSignedHeader (by intro j hj; simp only [kdProposerSlashing, kdSignedHeader]; (repeat' split) <;> first | rfl | (exfalso; omega)) (by decide)) Tryd.underlying47 rfl (by rw [row_size rowSignedHeader, fcells_length])) ?_)
    | ((with_reducible refine (renc_SignedHeader (shF f 0) (sub_ok hf.out (by intro j hj; simp only [kdProposerSlashing, kdSignedHeader]; (repeat' split) <;> first | rfl | (exfalso; omega)) (by decide)) _).mono ?_)
       rintro e W ⟨⟨va1, c1, rfl, hn1, ho1⟩, hb1⟩
       have hS1 := (hS.out.later hb1).add (SlB.of_own ho1 (encSignedHeader_ok (sub_ok hf.out (by intro j hj; simp only [kdProposerSlashing, kdSignedHeader]; (repeat' split) <;> first | rfl | (exfalso; omega)) (by decide))) hn1) (encSignedHeader_length _)
       clear hn1 ho1 hb1
       clear hS
       have hS := Lib.hid hS1
       clear hS1)
    | ((with_reducible refine (renc_SignedHeader (shF f 194) (sub_ok hf.out (by intro j hj; simp only [kdProposerSlashing, kdSignedHeader]; (repeat' split) <;> first | rfl | (exfalso; omega)) (by decide)) _).mono ?_)
       rintro e W ⟨⟨va1, c1, rfl, hn1, ho1⟩, hb1⟩
       have hS1 := (hS.out.later hb1).add (SlB.of_own ho1 (encSignedHeader_ok (sub_ok hf.out (by intro j hj; simp only [kdProposerSlashing, kdSignedHeader]; (repeat' split) <;> first | rfl | (exfalso; omega)) (by decide))) hn1) (encSignedHeader_length _)
       clear hn1 ho1 hb1
       clear hS
       have hS := Lib.hid hS1
       clear hS1)
    | ((with_reducible refine (RefE.lay2 hS.out (k := 2) (S := 416) (L := encLProposerSlashing f) [208, 208] ?hV ?hZ rfl (by decide) (by decide) (by simp [msOf, numL_length, byL_length, encSignedHeader_length]) (by decide) (by simp [msOf, encLProposerSlashing]) (encProposerSlashing_length f) (by decide)).mono ?hM)
       case hV => rfl
       case hZ => rfl
       rintro e W ⟨⟨va, c, rfl, hva, hOw⟩, hBf⟩
       have hOw1 := Lib.hid hOw
       have hva1 := Lib.hid hva
       clear hOw hva))
  exact ret_t2 rfl _ _ rfl rfl rfl ⟨⟨va, c, rfl, hva1.out, hOw1.out⟩, hBf⟩
end Go.Proofs.YtihelknkcomjpaaDoor
