import Derived.Test.YtmoofccblbaepaaDoorJBoxR
import Derived.Test.YtmoofccblbaepaaDoorJRqS
set_option linter.unusedVariables false
set_option linter.unusedSimpArgs false
set_option linter.unnecessarySimpa false
/- The small container Fork: its bytes, root and reading. -/
namespace Go.Proofs.YtmoofccblbaepaaDoor
open Go.RowKit BigFrame
set_option maxRecDepth 100000
def kdFork (j : Nat) : CK := if j < 8 then .u8 else .u64
/-- The bytes. -/
def encLFork (f : Nat → Int) : List Int := byL f 0 4 ++ byL f 4 4 ++ numL (f 8)
theorem encFork_length (f : Nat → Int) : (encLFork f).length = 16 := by simp [encLFork, numL_length, byL_length]
theorem encFork_ok {f : Nat → Int} (hf : ∀ j, j < 9 → (kdFork j).ok (f j)) : ∀ m ∈ encLFork f, CK.ok .u8 m := (ok_append (ok_append (byL_ok (ok_u8 hf (by intro j hj; simp only [kdFork]; (repeat' split) <;> first | rfl | (exfalso; omega)) (by decide))) (byL_ok (ok_u8 hf (by intro j hj; simp only [kdFork]; (repeat' split) <;> first | rfl | (exfalso; omega)) (by decide)))) (numL_ok _))
theorem rowFork : rowB Tryd.prog 42 9 = true := by kernel_rfl
set_option maxHeartbeats 8000000 in
theorem enc_Fork (f : Nat → Int) (hf0 : ∀ j, j < 9 → (kdFork j).ok (f j)) (w : World) :
    Calls Tryd.prog 22 #[.agg (fcells 9 kdFork f).toArray] w fun e w' => (∃ va c, e = .returned (.slice va 16 c) ∧ (va = none → c = 0) ∧ OwnB w.heap.size (.slice va 16 c) (encLFork f) w') ∧ Below w.heap.size w w' := by
  have hf := Lib.hid hf0
  clear hf0
  go_enter Tryd.func22, Tryd.ntmps22
  go_wp2_with (first
    | ((with_reducible refine at_alloc 148 ?_); go_loud (refine wpList_plain rfl fun K hK => wp_alloc_row 148 rfl 3 rfl _ 5 info_out (hK _ _ ?_)); clear hK K
       refine gen_l (fun W => EncS w.heap.size 9 kdFork f 42 [] w W) (EncS.begin (heap_new _ _ _ _ rfl) rfl) ?_
       intro W hS0
       have hS := Lib.hid hS0
       clear hS0)
    | ((with_reducible refine at_load 22 ?_); refine wpList_value (by rfl) _ (run_load_cell _ 22 _ (by rfl) ⟨w.heap.size, 8, none⟩ rfl (.int .u64 (f 8)) (hS.out.toBox.cell (show 8 < 9 by decide)) _ Tryd.underlying22 rfl) ?_)
    | ((with_reducible refine (EncS.u64 hS.out _ (by simp [numL_length, byL_length])).mono ?_)
       rintro e W ⟨rfl, hS1⟩
       clear hS
       have hS := Lib.hid hS1
       clear hS1)
    | ((with_reducible refine (EncS.bytes hS.out 0 4 (by intro j hj; simp only [kdFork]; (repeat' split) <;> first | rfl | (exfalso; omega)) (by decide) hf.out (by simp [numL_length, byL_length])).mono ?_)
       rintro e W ⟨rfl, hS1⟩
       clear hS
       have hS := Lib.hid hS1
       clear hS1)
    | ((with_reducible refine (EncS.bytes hS.out 4 4 (by intro j hj; simp only [kdFork]; (repeat' split) <;> first | rfl | (exfalso; omega)) (by decide) hf.out (by simp [numL_length, byL_length])).mono ?_)
       rintro e W ⟨rfl, hS1⟩
       clear hS
       have hS := Lib.hid hS1
       clear hS1)
    | ((with_reducible refine (EncS.done hS.out 16 (by simp [numL_length, byL_length]) (by decide)).mono ?_)
       rintro e W ⟨⟨va, c, rfl, hva, hOw⟩, hBf⟩
       have hOw1 := Lib.hid hOw
       have hva1 := Lib.hid hva
       clear hOw hva))
  exact ret_t1 rfl _ rfl rfl ⟨⟨va, c, rfl, hva1.out, by have h := hOw1.out; simp only [List.nil_append, List.append_assoc] at h; simpa only [encLFork, List.append_assoc] using h⟩, hBf⟩
/-- The root. -/
def rootFork (f : Nat → Int) : Nat → Int := fullT 2 (leaf [byR 0 (byL f 0 4), byR 0 (byL f 4 4), numR (f 8)])
theorem rootFork_is {f : Nat → Int} (hf : ∀ j, j < 9 → (kdFork j).ok (f j)) : IsR (rootFork f) := fullT_is 2 (leaf_is (is_cons (byR_is (byL_ok (ok_u8 hf (by intro j hj; simp only [kdFork]; (repeat' split) <;> first | rfl | (exfalso; omega)) (by decide)))) (is_cons (byR_is (byL_ok (ok_u8 hf (by intro j hj; simp only [kdFork]; (repeat' split) <;> first | rfl | (exfalso; omega)) (by decide)))) (is_cons (numR_is _) (is_nil)))))
set_option maxHeartbeats 8000000 in
theorem root_Fork (f : Nat → Int) (hf0 : ∀ j, j < 9 → (kdFork j).ok (f j)) (w : World) (hT0 : Tabs w) :
    Calls Tryd.prog 23 #[.agg (fcells 9 kdFork f).toArray] w fun e w' => e = .returned (.agg (rootV (rootFork f))) ∧ Below w.heap.size w w' := by
  have hf := Lib.hid hf0
  have hT := Lib.hid hT0
  clear hf0 hT0
  go_enter Tryd.func23, Tryd.ntmps23
  go_wp2_with (first
    | ((with_reducible refine at_alloc 29 ?_); refine wpList_plain rfl fun K hK => wp_alloc_row 29 rfl 2 rfl zr 32 info_zr (hK _ _ ?_); clear hK K)
    | ((with_reducible refine at_alloc 153 ?_); go_loud (refine wpList_plain rfl fun K hK => wp_alloc_row 153 rfl 3 rfl _ 2 info_hash (hK _ _ ?_)); clear hK K
       refine gen_l (fun W => HashS w.heap.size 9 kdFork f 42 [] w W) (HashS.begin (heap_new _ _ _ _ rfl) rfl hT.out) ?_
       intro W hS0
       have hS := Lib.hid hS0
       clear hS0)
    | ((with_reducible refine at_load 22 ?_); refine wpList_value (by rfl) _ (run_load_cell _ 22 _ (by rfl) ⟨w.heap.size, 8, none⟩ rfl (.int .u64 (f 8)) (hS.out.toBox.cell (show 8 < 9 by decide)) _ Tryd.underlying22 rfl) ?_)
    | ((with_reducible refine (HashS.u64 hS.out _ (by simp)).mono ?_)
       rintro e W ⟨rfl, hS1⟩
       clear hS
       have hS := Lib.hid hS1
       clear hS1)
    | ((with_reducible refine (HashS.bytes hS.out 0 4 0 (by intro j hj; simp only [kdFork]; (repeat' split) <;> first | rfl | (exfalso; omega)) (by decide) hf.out (by decide) (by decide) (by unfold Dep; decide) (by decide) (by simp)).mono ?_)
       rintro e W ⟨rfl, hS1⟩
       clear hS
       have hS := Lib.hid hS1
       clear hS1)
    | ((with_reducible refine (HashS.bytes hS.out 4 4 0 (by intro j hj; simp only [kdFork]; (repeat' split) <;> first | rfl | (exfalso; omega)) (by decide) hf.out (by decide) (by decide) (by unfold Dep; decide) (by decide) (by simp)).mono ?_)
       rintro e W ⟨rfl, hS1⟩
       clear hS
       have hS := Lib.hid hS1
       clear hS1)
    | ((with_reducible refine (HashS.done hS.out 2 (by simp [Dep]) (by simp) (by decide)).mono ?_)
       rintro e W ⟨rfl, hBf, hRf⟩
       have hRf1 := Lib.hid hRf
       have hbs := hBf.size
       clear hRf hS)
    | ((with_reducible refine at_alloc 29 ?_); go_loud (refine wpList_alloc_store rfl rfl 29 4 _ rfl rfl rfl (rootV _) rfl rfl (zeroOf Tryd.prog 29) (row_zero row_root).1 (row_zero row_root).2 (fcells_one _ _ _) ?_))
    | ((with_reducible refine at_load 29 ?_); go_loud (refine wpList_value (by rfl) _ (run_load_box _ 29 _ (by rfl) W.heap.size (by rfl) _ _ (0, 0) _ (heap_new W _ 29 W.heap.size rfl) Tryd.underlying29 rfl (by rw [row_size row_root]; simp [fcells])) ?_))
    | ((with_reducible refine at_store 29 ?_); go_loud (refine wpList_store_row_gen (w0 := w) (n0 := w.heap.size) 29 _ _ rfl rfl (w.heap.size + 1) rfl _ rfl (fcells_one _ _ _) (by rw [row_size row_root]; simp [fcells]) _ 29 (heap_past _ _ _ _ hRf1.out) (by rw [zr_size]; simp [fcells]) (by omega) (hBf.alloc hbs _) (fun W9 hW9 hBW _ => ?_))))
  exact ret_cell rfl (w.heap.size + 1) 0 (fcells 32 (fun _ => .u8) (rootFork f)) _ rfl hW9 Tryd.underlying29 rfl (by rw [row_size row_root, fcells_length]) rfl ⟨rfl, hBW⟩
set_option maxHeartbeats 8000000 in
theorem renc_Fork (f : Nat → Int) (hf0 : ∀ j, j < 9 → (kdFork j).ok (f j)) (w : World) :
    Calls Tryd.prog 24 #[.agg (fcells 9 kdFork f).toArray] w fun e w' => (∃ va c, e = .returned (.tuple #[.slice va 16 c, .int .i64 0]) ∧ (va = none → c = 0) ∧ OwnB w.heap.size (.slice va 16 c) (encLFork f) w') ∧ Below w.heap.size w w' := by
  have hf := Lib.hid hf0
  clear hf0
  go_enter Tryd.func24, Tryd.ntmps24
  go_wp2_with (first
    | ((with_reducible refine at_box 42 ?_); go_loud (refine wpList_box rfl 42 _ rfl _ rfl ?_)
       refine gen_l (fun W => RefE w.heap.size 9 kdFork f 42 [] w W) (RefE.begin (heap_new _ _ _ _ rfl) rfl) ?_
       intro W hS0
       have hS := Lib.hid hS0
       clear hS0)
    | ((with_reducible refine at_load 22 ?_); refine wpList_value (by rfl) _ (run_load_cell _ 22 _ (by rfl) ⟨w.heap.size, 8, none⟩ rfl (.int .u64 (f 8)) (hS.out.toBox.cell (show 8 < 9 by decide)) _ Tryd.underlying22 rfl) ?_)
    | ((with_reducible refine (RefE.num hS.out _).mono ?_)
       rintro e W ⟨va1, c1, rfl, hS1⟩
       clear hS
       have hS := Lib.hid hS1
       clear hS1)
    | ((with_reducible refine at_bslice 25 ?_); go_loud (refine wpList_plain rfl fun K hK => wp_build0 rfl (hK _ _ ?_)); clear hK K)
    | ((with_reducible refine at_app 25 ?_); refine wpList_app (w0 := W) rfl _ _ rfl W.heap.size [] (byL f 0 4) _ rfl (OwnB.new (Nat.le_refl _) [] (by decide) (heap_new _ _ _ _ rfl)) (some ⟨w.heap.size, 0, none⟩) 4 rfl ((hS.out.toBox.row 0 4 (by intro j hj; simp only [kdFork]; (repeat' split) <;> first | rfl | (exfalso; omega)) (by decide) hf.out).later ((Below.refl _ _).alloc (Nat.le_refl _) _)) (by simp [byL_length]) (by simp) (fun h => by cases h) ((Below.refl _ _).alloc (Nat.le_refl _) _) (fun v1 W1 h1 b1 z1 => ?_)
       obtain ⟨va1, c1, e1, hS1⟩ := hS.out.own h1 b1 (byL_ok (ok_u8 hf.out (by intro j hj; simp only [kdFork]; (repeat' split) <;> first | rfl | (exfalso; omega)) (by decide))) (byL_length f 0 4)
       subst e1
       clear h1 b1 z1
       obtain ⟨W, hWW⟩ : ∃ W, W = W1 := ⟨_, rfl⟩
       subst hWW
       clear hS
       have hS := Lib.hid hS1
       clear hS1)
    | ((with_reducible refine at_app 25 ?_); refine wpList_app (w0 := W) rfl _ _ rfl W.heap.size [] (byL f 4 4) _ rfl (OwnB.new (Nat.le_refl _) [] (by decide) (heap_new _ _ _ _ rfl)) (some ⟨w.heap.size, 4, none⟩) 4 rfl ((hS.out.toBox.row 4 4 (by intro j hj; simp only [kdFork]; (repeat' split) <;> first | rfl | (exfalso; omega)) (by decide) hf.out).later ((Below.refl _ _).alloc (Nat.le_refl _) _)) (by simp [byL_length]) (by simp) (fun h => by cases h) ((Below.refl _ _).alloc (Nat.le_refl _) _) (fun v1 W1 h1 b1 z1 => ?_)
       obtain ⟨va1, c1, e1, hS1⟩ := hS.out.own h1 b1 (byL_ok (ok_u8 hf.out (by intro j hj; simp only [kdFork]; (repeat' split) <;> first | rfl | (exfalso; omega)) (by decide))) (byL_length f 4 4)
       subst e1
       clear h1 b1 z1
       obtain ⟨W, hWW⟩ : ∃ W, W = W1 := ⟨_, rfl⟩
       subst hWW
       clear hS
       have hS := Lib.hid hS1
       clear hS1)
    | ((with_reducible refine (RefE.lay2 hS.out (k := 3) (S := 16) (L := encLFork f) [4, 4, 8] ?hV ?hZ rfl (by decide) (by decide) (by simp [msOf, numL_length, byL_length]) (by decide) (by simp [msOf, encLFork]) (encFork_length f) (by decide)).mono ?hM)
       case hV => rfl
       case hZ => rfl
       rintro e W ⟨⟨va, c, rfl, hva, hOw⟩, hBf⟩
       have hOw1 := Lib.hid hOw
       have hva1 := Lib.hid hva
       clear hOw hva))
  exact ret_t2 rfl _ _ rfl rfl rfl ⟨⟨va, c, rfl, hva1.out, hOw1.out⟩, hBf⟩
end Go.Proofs.YtmoofccblbaepaaDoor
/- The small container Fork: reading, the program's. -/
namespace Go.Proofs.YtmoofccblbaepaaDoor
open Go.RowKit BigFrame
set_option maxRecDepth 100000
/-- What the bytes are read as. -/
def rdFork (l : List Int) (k : Nat) : Int := if k < 4 then l.getD (0 + (k - 0)) 0 else if k < 8 then l.getD (4 + (k - 4)) 0 else inN l 8 0
theorem infoFork : (Tryd.prog.info? 42).map (fun i => (i.zero, i.size)) = some (some (.agg (fcells 9 kdFork fun _ => 0).toArray), 9) := by kernel_rfl
theorem builtFork (w : World) : (Instr.build 42 #[]).run Tryd.prog w = .ok (.agg (fcells 9 kdFork fun _ => 0).toArray) w := by kernel_rfl
set_option maxHeartbeats 16000000 in
theorem readFork_ok (l : List Int) (va : Option Addr) (c : Nat) (w : World) (hrow0 : Row w va .u8 l) (hcap : l.length ≤ c) (hnil0 : va = none → c = 0) (hlow0 : ∀ ad, va = some ad → ad.block < w.heap.size) (hkl0 : l.length = 16) :
    Calls Tryd.prog 26 #[.slice va 16 c] w fun e w' => e = .returned (.tuple #[.agg (fcells 9 kdFork (rdFork l)).toArray, .int .i64 0]) ∧ Below w.heap.size w w' := by
  have hrow := Lib.hid hrow0
  have hnil := Lib.hid hnil0
  have hlow := Lib.hid hlow0
  have hkl := Lib.hid hkl0
  have hfew : l.length ≤ 70368744177664 := by rw [hkl0]; decide
  clear hkl0
  clear hrow0 hnil0 hlow0
  go_enter Tryd.func26, Tryd.ntmps26
  go_wp2_with (first
    | ((with_reducible refine at_alloc 42 ?_); refine wpList_plain rfl fun K hK => wp_alloc_row 42 rfl 2 rfl _ 9 infoFork (hK _ _ ?_); clear hK K)
    | ((with_reducible refine at_alloc 42 ?_); refine wpList_plain rfl fun K hK => wp_alloc_row 42 rfl 4 rfl _ 9 infoFork (hK _ _ ?_); clear hK K)
    | ((with_reducible refine (RdS.open (N := 9) (kd := kdFork) (r := rdFork l) rfl 16 16 (16 : Int) rfl hkl.out (err := 0) rfl (by decide) hrow.out hcap hnil.out hlow.out hfew).mono ?_)
       rintro e W ⟨rfl, hS1⟩
       have hS := Lib.hid hS1
       clear hS1))
  rename_i K hK
  refine wp_region_held (S := fun _ => True) (by kernel_rfl) ?_
  have hTT : True := trivial
  refine takeL (i := 0) (v := (.pointer (some ⟨w.heap.size + 1, 0, none⟩))) rfl (by kernel_rfl) (by kernel_rfl) (by kernel_rfl) (fun _ _ _ h => h) rfl (by assumption) (fun w' hS' => by go_simp) ?_
  simp only [Act.put, List.setIfInBounds_toArray, List.set_cons_zero, List.set_cons_succ]
  refine takeL (i := 1) (v := (.slice (some ⟨w.heap.size + 1, 0, none⟩) 4 4)) rfl (by kernel_rfl) (by kernel_rfl) (by kernel_rfl) (fun _ _ _ h => h) rfl (by assumption) (fun w' hS' => by go_simp) ?_
  simp only [Act.put, List.setIfInBounds_toArray, List.set_cons_zero, List.set_cons_succ]
  refine takeL (i := 2) (v := (.pointer (some ⟨w.heap.size + 1 + 1, 0, none⟩))) rfl (by kernel_rfl) (by kernel_rfl) (by kernel_rfl) (fun _ _ _ h => h) rfl (by assumption) (fun w' hS' => by go_simp) ?_
  simp only [Act.put, List.setIfInBounds_toArray, List.set_cons_zero, List.set_cons_succ]
  refine oneL (i := 3) rfl (by kernel_rfl) rfl (wp_callE 102 #[.pointer (some ⟨w.heap.size + 1 + 1, 0, none⟩), .int .i64 4] (by go_simp) _ ((hS.out.drew _).bytesE 4 (4 : Int) rfl (by decide) (by decide) (fun _ => by rw [hkl.out]; decide)) ?_)
  rintro v W ⟨b, o', c', q, rfl, hcc, hbl, hrw, hql, hq, hS1⟩
  refine ⟨trivial, ?_⟩
  simp only [Act.put, List.setIfInBounds_toArray, List.set_cons_zero, List.set_cons_succ]
  refine oneL (i := 4) rfl (by kernel_rfl) rfl (wp_copy_rd _ _ rfl 0 4 b o' c' 4 rfl rfl hS1 q hrw hql rfl (by intro j hj; simp only [kdFork]; (repeat' split) <;> first | rfl | (exfalso; omega)) (by decide) (fun e j hj => by rw [hq (by trivial), drop_take_get _ _ _ _ hj]; unfold rdFork; (repeat' split) <;> first | (exfalso; omega) | (congr 1 <;> omega)) (fun W hS2 => ⟨trivial, ?_⟩))
  refine wpAnyH_done (by kernel_rfl) ?_ _
  refine hK _ _ ?_
  clear hK K hS hTT hrw hcc hbl hq hql hS1
  have hS := Lib.hid hS2
  clear hS2
  generalize goInt 4 = gi
  simp only [Act.put, List.setIfInBounds_toArray, List.set_cons_zero, List.set_cons_succ]
  go_wp2
  rename_i K hK
  refine wp_region_held (S := fun _ => True) (by kernel_rfl) ?_
  have hTT : True := trivial
  refine takeL (i := 0) (v := (.pointer (some ⟨w.heap.size + 1, 4, none⟩))) rfl (by kernel_rfl) (by kernel_rfl) (by kernel_rfl) (fun _ _ _ h => h) rfl (by assumption) (fun w' hS' => by go_simp) ?_
  simp only [Act.put, List.setIfInBounds_toArray, List.set_cons_zero, List.set_cons_succ]
  refine takeL (i := 1) (v := (.slice (some ⟨w.heap.size + 1, 4, none⟩) 4 4)) rfl (by kernel_rfl) (by kernel_rfl) (by kernel_rfl) (fun _ _ _ h => h) rfl (by assumption) (fun w' hS' => by go_simp) ?_
  simp only [Act.put, List.setIfInBounds_toArray, List.set_cons_zero, List.set_cons_succ]
  refine takeL (i := 2) (v := (.pointer (some ⟨w.heap.size + 1 + 1, 0, none⟩))) rfl (by kernel_rfl) (by kernel_rfl) (by kernel_rfl) (fun _ _ _ h => h) rfl (by assumption) (fun w' hS' => by go_simp) ?_
  simp only [Act.put, List.setIfInBounds_toArray, List.set_cons_zero, List.set_cons_succ]
  refine oneL (i := 3) rfl (by kernel_rfl) rfl (wp_callE 102 #[.pointer (some ⟨w.heap.size + 1 + 1, 0, none⟩), .int .i64 4] (by go_simp) _ ((hS.out.drew _).bytesE 4 (4 : Int) rfl (by decide) (by decide) (fun _ => by rw [hkl.out]; decide)) ?_)
  rintro v W ⟨b, o', c', q, rfl, hcc, hbl, hrw, hql, hq, hS1⟩
  refine ⟨trivial, ?_⟩
  simp only [Act.put, List.setIfInBounds_toArray, List.set_cons_zero, List.set_cons_succ]
  refine oneL (i := 4) rfl (by kernel_rfl) rfl (wp_copy_rd _ _ rfl 4 4 b o' c' 4 rfl rfl hS1 q hrw hql rfl (by intro j hj; simp only [kdFork]; (repeat' split) <;> first | rfl | (exfalso; omega)) (by decide) (fun e j hj => by rw [hq (by trivial), drop_take_get _ _ _ _ hj]; unfold rdFork; (repeat' split) <;> first | (exfalso; omega) | (congr 1 <;> omega)) (fun W hS2 => ⟨trivial, ?_⟩))
  refine wpAnyH_done (by kernel_rfl) ?_ _
  refine hK _ _ ?_
  clear hK K hS hTT hrw hcc hbl hq hql hS1
  have hS := Lib.hid hS2
  clear hS2
  generalize goInt 4 = gi
  simp only [Act.put, List.setIfInBounds_toArray, List.set_cons_zero, List.set_cons_succ]
  go_wp2_with (first
    | ((with_reducible refine (RdS.u64 hS.out (fun _ => by rw [hkl.out]; decide)).mono ?_)
       rintro e W ⟨v1, rfl, hv1, hS1⟩
       have hv := Lib.hid hv1
       clear hv1
       clear hS
       have hS := Lib.hid hS1
       clear hS1)
    | ((with_reducible refine at_store 22 ?_); refine at_staddr 22 (w.heap.size + 1) 8 rfl ?_; refine wpList_rd1 rfl 22 _ _ rfl 8 rfl (.int .u64 v1) rfl v1 rfl sz_u64 hS.out rfl (by decide) (fun _ => (hv.out (by trivial)).trans rfl) (fun W1 hS1 => ?_)
       obtain ⟨W, hWW⟩ : ∃ W, W = W1 := ⟨_, rfl⟩
       subst hWW
       clear hv
       clear hS
       have hS := Lib.hid hS1
       clear hS1)
    | ((with_reducible refine at_load 31 ?_); go_loud (refine wpList_value (by rfl) _ (run_load_cell _ 31 _ (by rfl) ⟨w.heap.size + 1 + 1, 4, none⟩ rfl (.int .i64 0) hS.out.errno _ Tryd.underlying31 rfl) ?_))
    | ((with_reducible refine at_load 42 ?_); go_loud (refine wpList_value (by rfl) _ (run_load_box _ 42 _ (by rfl) (w.heap.size + 1) (by rfl) _ _ (0, 0) _ hS.out.res Tryd.underlying42 rfl (by rw [row_size rowFork]; simp [fcells])) ?_))
    | ((with_reducible refine at_store 42 ?_); refine at_staddr 42 w.heap.size 0 rfl ?_; go_loud (refine wpList_store_row_gen (w0 := w) (n0 := w.heap.size) 42 _ _ rfl rfl w.heap.size rfl _ rfl (fcells_one _ _ _) (by rw [row_size rowFork]; simp [fcells]) _ 42 hS.out.hR (by simp [fcells]) (by omega) hS.out.hB (fun W9 hW9 hBW _ => ?_))))
  exact ret_mid_tmp rfl w.heap.size 0 (fcells 9 kdFork (rdFork l)) _ rfl hW9 Tryd.underlying42 rfl (by rw [row_size rowFork, fcells_length]) rfl ⟨rfl, hBW⟩
set_option maxHeartbeats 16000000 in
theorem readFork_bad (l : List Int) (va : Option Addr) (c : Nat) (w : World) (hrow0 : Row w va .u8 l) (hcap : l.length ≤ c) (hnil0 : va = none → c = 0) (hlow0 : ∀ ad, va = some ad → ad.block < w.heap.size) (hne0 : l.length ≠ 16) (hfew : l.length ≤ 70368744177664) :
    Calls Tryd.prog 26 #[.slice va l.length c] w fun e w' => e = .returned (.tuple #[.agg (fcells 9 kdFork (fun _ => 0)).toArray, .int .i64 4]) ∧ Below w.heap.size w w' := by
  have hrow := Lib.hid hrow0
  have hnil := Lib.hid hnil0
  have hlow := Lib.hid hlow0
  have hkl := Lib.hid (rfl : l.length = l.length)
  have hne := hne0
  clear hne0
  clear hrow0 hnil0 hlow0
  go_enter Tryd.func26, Tryd.ntmps26
  go_wp2_with (first
    | ((with_reducible refine at_alloc 42 ?_); refine wpList_plain rfl fun K hK => wp_alloc_row 42 rfl 2 rfl _ 9 infoFork (hK _ _ ?_); clear hK K)
    | ((with_reducible refine at_alloc 42 ?_); refine wpList_plain rfl fun K hK => wp_alloc_row 42 rfl 4 rfl _ 9 infoFork (hK _ _ ?_); clear hK K)
    | ((with_reducible refine (RdS.open (N := 9) (kd := kdFork) (r := rdFork l) rfl l.length 16 (16 : Int) rfl hkl.out (err := 4) (if_neg hne) (by decide) hrow.out hcap hnil.out hlow.out hfew).mono ?_)
       rintro e W ⟨rfl, hS1⟩
       have hS := Lib.hid hS1
       clear hS1))
  rename_i K hK
  refine wp_region_held (S := fun _ => True) (by kernel_rfl) ?_
  have hTT : True := trivial
  refine takeL (i := 0) (v := (.pointer (some ⟨w.heap.size + 1, 0, none⟩))) rfl (by kernel_rfl) (by kernel_rfl) (by kernel_rfl) (fun _ _ _ h => h) rfl (by assumption) (fun w' hS' => by go_simp) ?_
  simp only [Act.put, List.setIfInBounds_toArray, List.set_cons_zero, List.set_cons_succ]
  refine takeL (i := 1) (v := (.slice (some ⟨w.heap.size + 1, 0, none⟩) 4 4)) rfl (by kernel_rfl) (by kernel_rfl) (by kernel_rfl) (fun _ _ _ h => h) rfl (by assumption) (fun w' hS' => by go_simp) ?_
  simp only [Act.put, List.setIfInBounds_toArray, List.set_cons_zero, List.set_cons_succ]
  refine takeL (i := 2) (v := (.pointer (some ⟨w.heap.size + 1 + 1, 0, none⟩))) rfl (by kernel_rfl) (by kernel_rfl) (by kernel_rfl) (fun _ _ _ h => h) rfl (by assumption) (fun w' hS' => by go_simp) ?_
  simp only [Act.put, List.setIfInBounds_toArray, List.set_cons_zero, List.set_cons_succ]
  refine oneL (i := 3) rfl (by kernel_rfl) rfl (wp_callE 102 #[.pointer (some ⟨w.heap.size + 1 + 1, 0, none⟩), .int .i64 4] (by go_simp) _ ((hS.out.drew _).bytesE 4 (4 : Int) rfl (by decide) (by decide) (fun e => absurd e (by decide))) ?_)
  rintro v W ⟨b, o', c', q, rfl, hcc, hbl, hrw, hql, hq, hS1⟩
  refine ⟨trivial, ?_⟩
  simp only [Act.put, List.setIfInBounds_toArray, List.set_cons_zero, List.set_cons_succ]
  refine oneL (i := 4) rfl (by kernel_rfl) rfl (wp_copy_rd _ _ rfl 0 4 b o' c' 4 rfl rfl (hS1.any (m' := 0) (by decide)) q hrw hql rfl (by intro j hj; simp only [kdFork]; (repeat' split) <;> first | rfl | (exfalso; omega)) (by decide) (fun e => absurd e (by decide)) (fun W hS2 => ⟨trivial, ?_⟩))
  refine wpAnyH_done (by kernel_rfl) ?_ _
  refine hK _ _ ?_
  clear hK K hS hTT hrw hcc hbl hq hql hS1
  have hS := Lib.hid hS2
  clear hS2
  generalize goInt 4 = gi
  simp only [Act.put, List.setIfInBounds_toArray, List.set_cons_zero, List.set_cons_succ]
  go_wp2
  rename_i K hK
  refine wp_region_held (S := fun _ => True) (by kernel_rfl) ?_
  have hTT : True := trivial
  refine takeL (i := 0) (v := (.pointer (some ⟨w.heap.size + 1, 4, none⟩))) rfl (by kernel_rfl) (by kernel_rfl) (by kernel_rfl) (fun _ _ _ h => h) rfl (by assumption) (fun w' hS' => by go_simp) ?_
  simp only [Act.put, List.setIfInBounds_toArray, List.set_cons_zero, List.set_cons_succ]
  refine takeL (i := 1) (v := (.slice (some ⟨w.heap.size + 1, 4, none⟩) 4 4)) rfl (by kernel_rfl) (by kernel_rfl) (by kernel_rfl) (fun _ _ _ h => h) rfl (by assumption) (fun w' hS' => by go_simp) ?_
  simp only [Act.put, List.setIfInBounds_toArray, List.set_cons_zero, List.set_cons_succ]
  refine takeL (i := 2) (v := (.pointer (some ⟨w.heap.size + 1 + 1, 0, none⟩))) rfl (by kernel_rfl) (by kernel_rfl) (by kernel_rfl) (fun _ _ _ h => h) rfl (by assumption) (fun w' hS' => by go_simp) ?_
  simp only [Act.put, List.setIfInBounds_toArray, List.set_cons_zero, List.set_cons_succ]
  refine oneL (i := 3) rfl (by kernel_rfl) rfl (wp_callE 102 #[.pointer (some ⟨w.heap.size + 1 + 1, 0, none⟩), .int .i64 4] (by go_simp) _ ((hS.out.drew _).bytesE 4 (4 : Int) rfl (by decide) (by decide) (fun e => absurd e (by decide))) ?_)
  rintro v W ⟨b, o', c', q, rfl, hcc, hbl, hrw, hql, hq, hS1⟩
  refine ⟨trivial, ?_⟩
  simp only [Act.put, List.setIfInBounds_toArray, List.set_cons_zero, List.set_cons_succ]
  refine oneL (i := 4) rfl (by kernel_rfl) rfl (wp_copy_rd _ _ rfl 4 4 b o' c' 4 rfl rfl (hS1.any (m' := 4) (by decide)) q hrw hql rfl (by intro j hj; simp only [kdFork]; (repeat' split) <;> first | rfl | (exfalso; omega)) (by decide) (fun e => absurd e (by decide)) (fun W hS2 => ⟨trivial, ?_⟩))
  refine wpAnyH_done (by kernel_rfl) ?_ _
  refine hK _ _ ?_
  clear hK K hS hTT hrw hcc hbl hq hql hS1
  have hS := Lib.hid hS2
  clear hS2
  generalize goInt 4 = gi
  simp only [Act.put, List.setIfInBounds_toArray, List.set_cons_zero, List.set_cons_succ]
  go_wp2_with (first
    | ((with_reducible refine (RdS.u64 hS.out (fun e => absurd e (by decide))).mono ?_)
       rintro e W ⟨v1, rfl, hv1, hS1⟩
       have hv := Lib.hid hv1
       clear hv1
       clear hS
       have hS := Lib.hid hS1
       clear hS1)
    | ((with_reducible refine at_store 22 ?_); refine at_staddr 22 (w.heap.size + 1) 8 rfl ?_; refine wpList_rd1 rfl 22 _ _ rfl 8 rfl (.int .u64 v1) rfl v1 rfl sz_u64 (hS.out.any (m' := 8) (by decide)) rfl (by decide) (fun e => absurd e (by decide)) (fun W1 hS1 => ?_)
       obtain ⟨W, hWW⟩ : ∃ W, W = W1 := ⟨_, rfl⟩
       subst hWW
       clear hv
       clear hS
       have hS := Lib.hid hS1
       clear hS1)
    | ((with_reducible refine at_load 31 ?_); go_loud (refine wpList_value (by rfl) _ (run_load_cell _ 31 _ (by rfl) ⟨w.heap.size + 1 + 1, 4, none⟩ rfl (.int .i64 4) hS.out.errno _ Tryd.underlying31 rfl) ?_)))
  refine wp_region_held (S := fun w' => w'.cell? ⟨w.heap.size + 1 + 1, 4, none⟩ = some (.int .i64 4)) (by kernel_rfl) ?_
  have hTT : ({ W with drawn := W.drawn + 1 } : World).cell? ⟨w.heap.size + 1 + 1, 4, none⟩ = some (.int .i64 4) := hS.out.errno
  have hS2 := hS.out.drew (W.drawn + 1)
  have hsz := hS.out.size
  refine takeL (i := 0) (v := (.agg (fcells 9 kdFork fun _ => 0).toArray)) rfl (by kernel_rfl) (by kernel_rfl) (by kernel_rfl) (fun _ _ _ h => h) rfl (by assumption) (fun w' _ => run_build 42 #[] (by rfl) _ (builtFork w')) ?_
  simp only [Act.put, List.setIfInBounds_toArray, List.set_cons_zero, List.set_cons_succ]
  refine takeL (i := 1) (v := (.pointer (some ⟨w.heap.size + 1 + 1, 0, none⟩))) rfl (by kernel_rfl) (by kernel_rfl) (by kernel_rfl) (fun _ _ _ h => h) rfl (by assumption) (fun w' hS' => by go_simp) ?_
  simp only [Act.put, List.setIfInBounds_toArray, List.set_cons_zero, List.set_cons_succ]
  refine takeL (i := 2) (v := (.pointer (some ⟨w.heap.size + 1 + 1, 0, none⟩))) rfl (by kernel_rfl) (by kernel_rfl) (by kernel_rfl) (fun _ _ _ h => h) rfl (by assumption) (fun w' hS' => by go_simp) ?_
  simp only [Act.put, List.setIfInBounds_toArray, List.set_cons_zero, List.set_cons_succ]
  refine takeL (i := 3) (v := (.pointer (some ⟨w.heap.size + 1 + 1, 4, none⟩))) rfl (by kernel_rfl) (by kernel_rfl) (by kernel_rfl) (fun _ _ _ h => h) rfl (by assumption) (fun w' hS' => by go_simp) ?_
  simp only [Act.put, List.setIfInBounds_toArray, List.set_cons_zero, List.set_cons_succ]
  refine takeL (i := 4) (v := (.int .i64 4)) rfl (by kernel_rfl) (by kernel_rfl) (by kernel_rfl) (fun _ _ _ h => h) rfl (by assumption) (fun w' hS' => run_load_cell w' 31 _ (by rfl) ⟨w.heap.size + 1 + 1, 4, none⟩ (by rfl) _ hS' _ Tryd.underlying31 rfl) ?_
  simp only [Act.put, List.setIfInBounds_toArray, List.set_cons_zero, List.set_cons_succ]
  refine oneL (i := 5) rfl (by kernel_rfl) rfl (wp_store_row 42 _ _ rfl w.heap.size rfl _ rfl (fcells_one _ _ _) (by rw [row_size rowFork]; simp [fcells]) _ 42 hS2.hR (by simp [fcells]) (fun W4 hC4 hA4 => ?_))
  have hTT : W4.cell? ⟨w.heap.size + 1 + 1, 4, none⟩ = some (.int .i64 4) := (World.cell?_of_block (w := { W with drawn := W.drawn + 1 }) (hA4.block (w.heap.size + 1 + 1) (show w.heap.size + 1 + 1 < W.heap.size by omega) (show w.heap.size + 1 + 1 ≠ w.heap.size by omega))).trans hS2.errno
  refine ⟨hTT, ?_⟩
  simp only [Act.put, List.setIfInBounds_toArray, List.set_cons_zero, List.set_cons_succ]
  refine takeL (i := 6) (v := (.int .i64 4)) rfl (by kernel_rfl) (by kernel_rfl) (by kernel_rfl) (fun _ _ _ h => h) rfl (by assumption) (fun w' hS' => by go_simp) ?_
  simp only [Act.put, List.setIfInBounds_toArray, List.set_cons_zero, List.set_cons_succ]
  refine wpAnyH_done (by kernel_rfl) ?_ _
  have hB4 := hA4.below hS2.hB (Nat.le_refl _) (show w.heap.size ≤ W.heap.size by omega)
  clear hS hS2 hA4 hTT
  go_wp2
  exact ret_mid_tmp rfl w.heap.size 0 (fcells 9 kdFork fun _ => 0) _ rfl (range_whole hC4) Tryd.underlying42 rfl (by rw [row_size rowFork, fcells_length]) rfl ⟨rfl, hB4⟩
end Go.Proofs.YtmoofccblbaepaaDoor
