import Derived.Test.YtmoofccblbaepaaDoorJBoxR
import Derived.Test.YtmoofccblbaepaaDoorJRqS
import Derived.Test.YtmoofccblbaepaaDoorJLawS
set_option linter.unusedVariables false
set_option linter.unusedSimpArgs false
set_option linter.unnecessarySimpa false
/- The small container Exit: its bytes, root and reading. -/
namespace Go.Proofs.YtmoofccblbaepaaDoor
open Go.RowKit BigFrame
set_option maxRecDepth 100000
def kdExit (j : Nat) : CK := .u64
/-- The bytes. -/
def encLExit (f : Nat → Int) : List Int := numL (f 0) ++ numL (f 1)
theorem encExit_length (f : Nat → Int) : (encLExit f).length = 16 := by simp [encLExit, numL_length, byL_length]
theorem encExit_ok {f : Nat → Int} (hf : ∀ j, j < 2 → (kdExit j).ok (f j)) : ∀ m ∈ encLExit f, CK.ok .u8 m := (ok_append (numL_ok _) (numL_ok _))
theorem rowExit : rowB Tryd.prog 24 2 = true := by kernel_rfl
set_option maxHeartbeats 8000000 in
theorem enc_Exit (f : Nat → Int) (hf0 : ∀ j, j < 2 → (kdExit j).ok (f j)) (w : World) :
    Calls Tryd.prog 16 #[.agg (fcells 2 kdExit f).toArray] w fun e w' => (∃ va c, e = .returned (.slice va 16 c) ∧ (va = none → c = 0) ∧ OwnB w.heap.size (.slice va 16 c) (encLExit f) w') ∧ Below w.heap.size w w' := by
  have hf := Lib.hid hf0
  clear hf0
  go_enter Tryd.func16, Tryd.ntmps16
  go_wp2_with (first
    | ((with_reducible refine at_alloc 148 ?_); go_loud (refine wpList_plain rfl fun K hK => wp_alloc_row 148 rfl 3 rfl _ 5 info_out (hK _ _ ?_)); clear hK K
       refine gen_l (fun W => EncS w.heap.size 2 kdExit f 24 [] w W) (EncS.begin (heap_new _ _ _ _ rfl) rfl) ?_
       intro W hS0
       have hS := Lib.hid hS0
       clear hS0)
    | ((with_reducible refine at_load 22 ?_); refine wpList_value (by rfl) _ (run_load_cell _ 22 _ (by rfl) ⟨w.heap.size, 0, none⟩ rfl (.int .u64 (f 0)) (hS.out.toBox.cell (show 0 < 2 by decide)) _ Tryd.underlying22 rfl) ?_)
    | ((with_reducible refine at_load 22 ?_); refine wpList_value (by rfl) _ (run_load_cell _ 22 _ (by rfl) ⟨w.heap.size, 1, none⟩ rfl (.int .u64 (f 1)) (hS.out.toBox.cell (show 1 < 2 by decide)) _ Tryd.underlying22 rfl) ?_)
    | ((with_reducible refine (EncS.u64 hS.out _ (by simp [numL_length, byL_length])).mono ?_)
       rintro e W ⟨rfl, hS1⟩
       clear hS
       have hS := Lib.hid hS1
       clear hS1)
    | ((with_reducible refine (EncS.done hS.out 16 (by simp [numL_length, byL_length]) (by decide)).mono ?_)
       rintro e W ⟨⟨va, c, rfl, hva, hOw⟩, hBf⟩
       have hOw1 := Lib.hid hOw
       have hva1 := Lib.hid hva
       clear hOw hva))
  exact ret_t1 rfl _ rfl rfl ⟨⟨va, c, rfl, hva1.out, by have h := hOw1.out; simp only [List.nil_append, List.append_assoc] at h; simpa only [encLExit, List.append_assoc] using h⟩, hBf⟩
/-- The root. -/
def rootExit (f : Nat → Int) : Nat → Int := fullT 1 (leaf [numR (f 0), numR (f 1)])
theorem rootExit_is {f : Nat → Int} (hf : ∀ j, j < 2 → (kdExit j).ok (f j)) : IsR (rootExit f) := fullT_is 1 (leaf_is (is_cons (numR_is _) (is_cons (numR_is _) (is_nil))))
set_option maxHeartbeats 8000000 in
theorem root_Exit (f : Nat → Int) (hf0 : ∀ j, j < 2 → (kdExit j).ok (f j)) (w : World) (hT0 : Tabs w) :
    Calls Tryd.prog 17 #[.agg (fcells 2 kdExit f).toArray] w fun e w' => e = .returned (.agg (rootV (rootExit f))) ∧ Below w.heap.size w w' := by
  have hf := Lib.hid hf0
  have hT := Lib.hid hT0
  clear hf0 hT0
  go_enter Tryd.func17, Tryd.ntmps17
  go_wp2_with (first
    | ((with_reducible refine at_alloc 29 ?_); refine wpList_plain rfl fun K hK => wp_alloc_row 29 rfl 2 rfl zr 32 info_zr (hK _ _ ?_); clear hK K)
    | ((with_reducible refine at_alloc 153 ?_); go_loud (refine wpList_plain rfl fun K hK => wp_alloc_row 153 rfl 3 rfl _ 2 info_hash (hK _ _ ?_)); clear hK K
       refine gen_l (fun W => HashS w.heap.size 2 kdExit f 24 [] w W) (HashS.begin (heap_new _ _ _ _ rfl) rfl hT.out) ?_
       intro W hS0
       have hS := Lib.hid hS0
       clear hS0)
    | ((with_reducible refine at_load 22 ?_); refine wpList_value (by rfl) _ (run_load_cell _ 22 _ (by rfl) ⟨w.heap.size, 0, none⟩ rfl (.int .u64 (f 0)) (hS.out.toBox.cell (show 0 < 2 by decide)) _ Tryd.underlying22 rfl) ?_)
    | ((with_reducible refine at_load 22 ?_); refine wpList_value (by rfl) _ (run_load_cell _ 22 _ (by rfl) ⟨w.heap.size, 1, none⟩ rfl (.int .u64 (f 1)) (hS.out.toBox.cell (show 1 < 2 by decide)) _ Tryd.underlying22 rfl) ?_)
    | ((with_reducible refine (HashS.u64 hS.out _ (by simp)).mono ?_)
       rintro e W ⟨rfl, hS1⟩
       clear hS
       have hS := Lib.hid hS1
       clear hS1)
    | ((with_reducible refine (HashS.done hS.out 1 (by simp [Dep]) (by simp) (by decide)).mono ?_)
       rintro e W ⟨rfl, hBf, hRf⟩
       have hRf1 := Lib.hid hRf
       have hbs := hBf.size
       clear hRf hS)
    | ((with_reducible refine at_alloc 29 ?_); go_loud (refine wpList_alloc_store rfl rfl 29 4 _ rfl rfl rfl (rootV _) rfl rfl (zeroOf Tryd.prog 29) (row_zero row_root).1 (row_zero row_root).2 (fcells_one _ _ _) ?_))
    | ((with_reducible refine at_load 29 ?_); go_loud (refine wpList_value (by rfl) _ (run_load_box _ 29 _ (by rfl) W.heap.size (by rfl) _ _ (0, 0) _ (heap_new W _ 29 W.heap.size rfl) Tryd.underlying29 rfl (by rw [row_size row_root]; simp [fcells])) ?_))
    | ((with_reducible refine at_store 29 ?_); go_loud (refine wpList_store_row_gen (w0 := w) (n0 := w.heap.size) 29 _ _ rfl rfl (w.heap.size + 1) rfl _ rfl (fcells_one _ _ _) (by rw [row_size row_root]; simp [fcells]) _ 29 (heap_past _ _ _ _ hRf1.out) (by rw [zr_size]; simp [fcells]) (by omega) (hBf.alloc hbs _) (fun W9 hW9 hBW _ => ?_))))
  exact ret_cell rfl (w.heap.size + 1) 0 (fcells 32 (fun _ => .u8) (rootExit f)) _ rfl hW9 Tryd.underlying29 rfl (by rw [row_size row_root, fcells_length]) rfl ⟨rfl, hBW⟩
set_option maxHeartbeats 8000000 in
theorem renc_Exit (f : Nat → Int) (hf0 : ∀ j, j < 2 → (kdExit j).ok (f j)) (w : World) :
    Calls Tryd.prog 18 #[.agg (fcells 2 kdExit f).toArray] w fun e w' => (∃ va c, e = .returned (.tuple #[.slice va 16 c, .int .i64 0]) ∧ (va = none → c = 0) ∧ OwnB w.heap.size (.slice va 16 c) (encLExit f) w') ∧ Below w.heap.size w w' := by
  have hf := Lib.hid hf0
  clear hf0
  go_enter Tryd.func18, Tryd.ntmps18
  go_wp2_with (first
    | ((with_reducible refine at_box 24 ?_); go_loud (refine wpList_box rfl 24 _ rfl _ rfl ?_)
       refine gen_l (fun W => RefE w.heap.size 2 kdExit f 24 [] w W) (RefE.begin (heap_new _ _ _ _ rfl) rfl) ?_
       intro W hS0
       have hS := Lib.hid hS0
       clear hS0)
    | ((with_reducible refine at_load 22 ?_); refine wpList_value (by rfl) _ (run_load_cell _ 22 _ (by rfl) ⟨w.heap.size, 0, none⟩ rfl (.int .u64 (f 0)) (hS.out.toBox.cell (show 0 < 2 by decide)) _ Tryd.underlying22 rfl) ?_)
    | ((with_reducible refine at_load 22 ?_); refine wpList_value (by rfl) _ (run_load_cell _ 22 _ (by rfl) ⟨w.heap.size, 1, none⟩ rfl (.int .u64 (f 1)) (hS.out.toBox.cell (show 1 < 2 by decide)) _ Tryd.underlying22 rfl) ?_)
    | ((with_reducible refine (RefE.num hS.out _).mono ?_)
       rintro e W ⟨va1, c1, rfl, hS1⟩
       clear hS
       have hS := Lib.hid hS1
       clear hS1)
    | ((with_reducible refine (RefE.lay2 hS.out (k := 2) (S := 16) (L := encLExit f) [8, 8] ?hV ?hZ rfl (by decide) (by decide) (by simp [msOf, numL_length, byL_length]) (by decide) (by simp [msOf, encLExit]) (encExit_length f) (by decide)).mono ?hM)
       case hV => rfl
       case hZ => rfl
       rintro e W ⟨⟨va, c, rfl, hva, hOw⟩, hBf⟩
       have hOw1 := Lib.hid hOw
       have hva1 := Lib.hid hva
       clear hOw hva))
  exact ret_t2 rfl _ _ rfl rfl rfl ⟨⟨va, c, rfl, hva1.out, hOw1.out⟩, hBf⟩
end Go.Proofs.YtmoofccblbaepaaDoor
/- The small container Exit: reading, the program's. -/
namespace Go.Proofs.YtmoofccblbaepaaDoor
open Go.RowKit BigFrame
set_option maxRecDepth 100000
/-- What the bytes are read as. -/
def rdExit (l : List Int) (k : Nat) : Int := if k < 1 then inN l 0 0 else inN l 8 0
theorem infoExit : (Tryd.prog.info? 24).map (fun i => (i.zero, i.size)) = some (some (.agg (fcells 2 kdExit fun _ => 0).toArray), 2) := by kernel_rfl
theorem builtExit (w : World) : (Instr.build 24 #[]).run Tryd.prog w = .ok (.agg (fcells 2 kdExit fun _ => 0).toArray) w := by kernel_rfl
set_option maxHeartbeats 16000000 in
theorem readExit_ok (l : List Int) (va : Option Addr) (c : Nat) (w : World) (hrow0 : Row w va .u8 l) (hcap : l.length ≤ c) (hnil0 : va = none → c = 0) (hlow0 : ∀ ad, va = some ad → ad.block < w.heap.size) (hkl0 : l.length = 16) :
    Calls Tryd.prog 20 #[.slice va 16 c] w fun e w' => e = .returned (.tuple #[.agg (fcells 2 kdExit (rdExit l)).toArray, .int .i64 0]) ∧ Below w.heap.size w w' := by
  have hrow := Lib.hid hrow0
  have hnil := Lib.hid hnil0
  have hlow := Lib.hid hlow0
  have hkl := Lib.hid hkl0
  have hfew : l.length ≤ 70368744177664 := by rw [hkl0]; decide
  clear hkl0
  clear hrow0 hnil0 hlow0
  go_enter Tryd.func20, Tryd.ntmps20
  go_wp2_with (first
    | ((with_reducible refine at_alloc 24 ?_); refine wpList_plain rfl fun K hK => wp_alloc_row 24 rfl 2 rfl _ 2 infoExit (hK _ _ ?_); clear hK K)
    | ((with_reducible refine at_alloc 24 ?_); refine wpList_plain rfl fun K hK => wp_alloc_row 24 rfl 4 rfl _ 2 infoExit (hK _ _ ?_); clear hK K)
    | ((with_reducible refine (RdS.open (N := 2) (kd := kdExit) (r := rdExit l) rfl 16 16 (16 : Int) rfl hkl.out (err := 0) rfl (by decide) hrow.out hcap hnil.out hlow.out hfew).mono ?_)
       rintro e W ⟨rfl, hS1⟩
       have hS := Lib.hid hS1
       clear hS1)
    | ((with_reducible refine (RdS.u64 hS.out (fun _ => by rw [hkl.out]; decide)).mono ?_)
       rintro e W ⟨v1, rfl, hv1, hS1⟩
       have hv := Lib.hid hv1
       clear hv1
       clear hS
       have hS := Lib.hid hS1
       clear hS1)
    | ((with_reducible refine at_store 22 ?_); refine at_staddr 22 (w.heap.size + 1) 0 rfl ?_; refine wpList_rd1 rfl 22 _ _ rfl 0 rfl (.int .u64 v1) rfl v1 rfl sz_u64 hS.out rfl (by decide) (fun _ => (hv.out (by trivial)).trans rfl) (fun W1 hS1 => ?_)
       obtain ⟨W, hWW⟩ : ∃ W, W = W1 := ⟨_, rfl⟩
       subst hWW
       clear hv
       clear hS
       have hS := Lib.hid hS1
       clear hS1)
    | ((with_reducible refine (RdS.u64 hS.out (fun _ => by rw [hkl.out]; decide)).mono ?_)
       rintro e W ⟨v1, rfl, hv1, hS1⟩
       have hv := Lib.hid hv1
       clear hv1
       clear hS
       have hS := Lib.hid hS1
       clear hS1)
    | ((with_reducible refine at_store 22 ?_); refine at_staddr 22 (w.heap.size + 1) 1 rfl ?_; refine wpList_rd1 rfl 22 _ _ rfl 1 rfl (.int .u64 v1) rfl v1 rfl sz_u64 hS.out rfl (by decide) (fun _ => (hv.out (by trivial)).trans rfl) (fun W1 hS1 => ?_)
       obtain ⟨W, hWW⟩ : ∃ W, W = W1 := ⟨_, rfl⟩
       subst hWW
       clear hv
       clear hS
       have hS := Lib.hid hS1
       clear hS1)
    | ((with_reducible refine at_load 31 ?_); go_loud (refine wpList_value (by rfl) _ (run_load_cell _ 31 _ (by rfl) ⟨w.heap.size + 1 + 1, 4, none⟩ rfl (.int .i64 0) hS.out.errno _ Tryd.underlying31 rfl) ?_))
    | ((with_reducible refine at_load 24 ?_); go_loud (refine wpList_value (by rfl) _ (run_load_box _ 24 _ (by rfl) (w.heap.size + 1) (by rfl) _ _ (0, 0) _ hS.out.res Tryd.underlying24 rfl (by rw [row_size rowExit]; simp [fcells])) ?_))
    | ((with_reducible refine at_store 24 ?_); refine at_staddr 24 w.heap.size 0 rfl ?_; go_loud (refine wpList_store_row_gen (w0 := w) (n0 := w.heap.size) 24 _ _ rfl rfl w.heap.size rfl _ rfl (fcells_one _ _ _) (by rw [row_size rowExit]; simp [fcells]) _ 24 hS.out.hR (by simp [fcells]) (by omega) hS.out.hB (fun W9 hW9 hBW _ => ?_))))
  exact ret_mid_tmp rfl w.heap.size 0 (fcells 2 kdExit (rdExit l)) _ rfl hW9 Tryd.underlying24 rfl (by rw [row_size rowExit, fcells_length]) rfl ⟨rfl, hBW⟩
set_option maxHeartbeats 16000000 in
theorem readExit_bad (l : List Int) (va : Option Addr) (c : Nat) (w : World) (hrow0 : Row w va .u8 l) (hcap : l.length ≤ c) (hnil0 : va = none → c = 0) (hlow0 : ∀ ad, va = some ad → ad.block < w.heap.size) (hne0 : l.length ≠ 16) (hfew : l.length ≤ 70368744177664) :
    Calls Tryd.prog 20 #[.slice va l.length c] w fun e w' => e = .returned (.tuple #[.agg (fcells 2 kdExit (fun _ => 0)).toArray, .int .i64 4]) ∧ Below w.heap.size w w' := by
  have hrow := Lib.hid hrow0
  have hnil := Lib.hid hnil0
  have hlow := Lib.hid hlow0
  have hkl := Lib.hid (rfl : l.length = l.length)
  have hne := hne0
  clear hne0
  clear hrow0 hnil0 hlow0
  go_enter Tryd.func20, Tryd.ntmps20
  go_wp2_with (first
    | ((with_reducible refine at_alloc 24 ?_); refine wpList_plain rfl fun K hK => wp_alloc_row 24 rfl 2 rfl _ 2 infoExit (hK _ _ ?_); clear hK K)
    | ((with_reducible refine at_alloc 24 ?_); refine wpList_plain rfl fun K hK => wp_alloc_row 24 rfl 4 rfl _ 2 infoExit (hK _ _ ?_); clear hK K)
    | ((with_reducible refine (RdS.open (N := 2) (kd := kdExit) (r := rdExit l) rfl l.length 16 (16 : Int) rfl hkl.out (err := 4) (if_neg hne) (by decide) hrow.out hcap hnil.out hlow.out hfew).mono ?_)
       rintro e W ⟨rfl, hS1⟩
       have hS := Lib.hid hS1
       clear hS1)
    | ((with_reducible refine (RdS.u64 hS.out (fun e => absurd e (by decide))).mono ?_)
       rintro e W ⟨v1, rfl, hv1, hS1⟩
       have hv := Lib.hid hv1
       clear hv1
       clear hS
       have hS := Lib.hid hS1
       clear hS1)
    | ((with_reducible refine at_store 22 ?_); refine at_staddr 22 (w.heap.size + 1) 0 rfl ?_; refine wpList_rd1 rfl 22 _ _ rfl 0 rfl (.int .u64 v1) rfl v1 rfl sz_u64 (hS.out.any (m' := 0) (by decide)) rfl (by decide) (fun e => absurd e (by decide)) (fun W1 hS1 => ?_)
       obtain ⟨W, hWW⟩ : ∃ W, W = W1 := ⟨_, rfl⟩
       subst hWW
       clear hv
       clear hS
       have hS := Lib.hid hS1
       clear hS1)
    | ((with_reducible refine (RdS.u64 hS.out (fun e => absurd e (by decide))).mono ?_)
       rintro e W ⟨v1, rfl, hv1, hS1⟩
       have hv := Lib.hid hv1
       clear hv1
       clear hS
       have hS := Lib.hid hS1
       clear hS1)
    | ((with_reducible refine at_store 22 ?_); refine at_staddr 22 (w.heap.size + 1) 1 rfl ?_; refine wpList_rd1 rfl 22 _ _ rfl 1 rfl (.int .u64 v1) rfl v1 rfl sz_u64 (hS.out.any (m' := 1) (by decide)) rfl (by decide) (fun e => absurd e (by decide)) (fun W1 hS1 => ?_)
       obtain ⟨W, hWW⟩ : ∃ W, W = W1 := ⟨_, rfl⟩
       subst hWW
       clear hv
       clear hS
       have hS := Lib.hid hS1
       clear hS1)
    | ((with_reducible refine at_load 31 ?_); go_loud (refine wpList_value (by rfl) _ (run_load_cell _ 31 _ (by rfl) ⟨w.heap.size + 1 + 1, 4, none⟩ rfl (.int .i64 4) hS.out.errno _ Tryd.underlying31 rfl) ?_)))
  refine wp_region_held (S := fun w' => w'.cell? ⟨w.heap.size + 1 + 1, 4, none⟩ = some (.int .i64 4)) (by kernel_rfl) ?_
  have hTT : ({ W with drawn := W.drawn + 1 } : World).cell? ⟨w.heap.size + 1 + 1, 4, none⟩ = some (.int .i64 4) := hS.out.errno
  have hS2 := hS.out.drew (W.drawn + 1)
  have hsz := hS.out.size
  refine takeL (i := 0) (v := (.agg (fcells 2 kdExit fun _ => 0).toArray)) rfl (by kernel_rfl) (by kernel_rfl) (by kernel_rfl) (fun _ _ _ h => h) rfl (by assumption) (fun w' _ => run_build 24 #[] (by rfl) _ (builtExit w')) ?_
  simp only [Act.put, List.setIfInBounds_toArray, List.set_cons_zero, List.set_cons_succ]
  refine takeL (i := 1) (v := (.pointer (some ⟨w.heap.size + 1 + 1, 0, none⟩))) rfl (by kernel_rfl) (by kernel_rfl) (by kernel_rfl) (fun _ _ _ h => h) rfl (by assumption) (fun w' hS' => by go_simp) ?_
  simp only [Act.put, List.setIfInBounds_toArray, List.set_cons_zero, List.set_cons_succ]
  refine takeL (i := 2) (v := (.pointer (some ⟨w.heap.size + 1 + 1, 0, none⟩))) rfl (by kernel_rfl) (by kernel_rfl) (by kernel_rfl) (fun _ _ _ h => h) rfl (by assumption) (fun w' hS' => by go_simp) ?_
  simp only [Act.put, List.setIfInBounds_toArray, List.set_cons_zero, List.set_cons_succ]
  refine takeL (i := 3) (v := (.pointer (some ⟨w.heap.size + 1 + 1, 4, none⟩))) rfl (by kernel_rfl) (by kernel_rfl) (by kernel_rfl) (fun _ _ _ h => h) rfl (by assumption) (fun w' hS' => by go_simp) ?_
  simp only [Act.put, List.setIfInBounds_toArray, List.set_cons_zero, List.set_cons_succ]
  refine takeL (i := 4) (v := (.int .i64 4)) rfl (by kernel_rfl) (by kernel_rfl) (by kernel_rfl) (fun _ _ _ h => h) rfl (by assumption) (fun w' hS' => run_load_cell w' 31 _ (by rfl) ⟨w.heap.size + 1 + 1, 4, none⟩ (by rfl) _ hS' _ Tryd.underlying31 rfl) ?_
  simp only [Act.put, List.setIfInBounds_toArray, List.set_cons_zero, List.set_cons_succ]
  refine oneL (i := 5) rfl (by kernel_rfl) rfl (wp_store_row 24 _ _ rfl w.heap.size rfl _ rfl (fcells_one _ _ _) (by rw [row_size rowExit]; simp [fcells]) _ 24 hS2.hR (by simp [fcells]) (fun W4 hC4 hA4 => ?_))
  have hTT : W4.cell? ⟨w.heap.size + 1 + 1, 4, none⟩ = some (.int .i64 4) := (World.cell?_of_block (w := { W with drawn := W.drawn + 1 }) (hA4.block (w.heap.size + 1 + 1) (show w.heap.size + 1 + 1 < W.heap.size by omega) (show w.heap.size + 1 + 1 ≠ w.heap.size by omega))).trans hS2.errno
  refine ⟨hTT, ?_⟩
  simp only [Act.put, List.setIfInBounds_toArray, List.set_cons_zero, List.set_cons_succ]
  refine takeL (i := 6) (v := (.int .i64 4)) rfl (by kernel_rfl) (by kernel_rfl) (by kernel_rfl) (fun _ _ _ h => h) rfl (by assumption) (fun w' hS' => by go_simp) ?_
  simp only [Act.put, List.setIfInBounds_toArray, List.set_cons_zero, List.set_cons_succ]
  refine wpAnyH_done (by kernel_rfl) ?_ _
  have hB4 := hA4.below hS2.hB (Nat.le_refl _) (show w.heap.size ≤ W.heap.size by omega)
  clear hS hS2 hA4 hTT
  go_wp2
  exact ret_mid_tmp rfl w.heap.size 0 (fcells 2 kdExit fun _ => 0) _ rfl (range_whole hC4) Tryd.underlying24 rfl (by rw [row_size rowExit, fcells_length]) rfl ⟨rfl, hB4⟩
end Go.Proofs.YtmoofccblbaepaaDoor
/- The small container Exit: what is written is read, what is read is written. -/
namespace Go.Proofs.YtmoofccblbaepaaDoor
open Go.RowKit BigFrame
set_option maxRecDepth 100000
theorem encExit_congr {f g : Nat → Int} (h : ∀ k, k < 2 → f k = g k) : encLExit f = encLExit g := by
  unfold encLExit
  rw [h 0 (by decide)]
  rw [h 1 (by decide)]
theorem partExit_0 (f : Nat → Int) : ((encLExit f).drop 0).take 8 = numL (f 0) := by
    rw [show encLExit f = ([]) ++ ((numL (f 0)) ++ (numL (f 1))) from by simp only [encLExit, List.append_assoc, List.nil_append, List.append_nil]]
    exact drop_take_mid _ _ _ 0 8 (by simp [numL_length, byL_length]) (by simp [numL_length, byL_length])
theorem partExit_1 (f : Nat → Int) : ((encLExit f).drop 8).take 8 = numL (f 1) := by
    rw [show encLExit f = (numL (f 0)) ++ ((numL (f 1)) ++ ([])) from by simp only [encLExit, List.append_assoc, List.nil_append, List.append_nil]]
    exact drop_take_mid _ _ _ 8 8 (by simp [numL_length, byL_length]) (by simp [numL_length, byL_length])
theorem rdenc_Exit (f : Nat → Int) (hf : ∀ j, j < 2 → (kdExit j).ok (f j)) (k : Nat) (hk : k < 2) : rdExit (encLExit f) k = f k := by
  unfold rdExit
  by_cases c0 : k < 1
  · rw [if_pos c0]
    obtain rfl : k = 0 := by omega
    have hk2 : 0 ≤ f 0 ∧ f 0 ≤ 18446744073709551615 := hf 0 (by decide)
    rw [inN_at, partExit_0]
    exact rdQ_numL _ hk2.1 hk2.2
  · rw [if_neg c0]
    obtain rfl : k = 1 := by omega
    have hk2 : 0 ≤ f 1 ∧ f 1 ≤ 18446744073709551615 := hf 1 (by decide)
    rw [inN_at, partExit_1]
    exact rdQ_numL _ hk2.1 hk2.2
theorem rdok_Exit {l : List Int} (hl : l.length = 16) (hok : ∀ x ∈ l, CK.ok .u8 x) (k : Nat) (hk : k < 2) : (kdExit k).ok (rdExit l k) := by
  by_cases c0 : k < 1
  · obtain rfl : k = 0 := by omega
    unfold rdExit; rw [if_pos c0]
    rw [inN_at]
    exact rdQ_ok _ (part_len l 0 8 16 hl (by decide)) (take_ok hok _ _)
  obtain rfl : k = 1 := by omega
  unfold rdExit; rw [if_neg c0]
  rw [inN_at]
  exact rdQ_ok _ (part_len l 8 8 16 hl (by decide)) (take_ok hok _ _)
theorem encrd_Exit (l : List Int) (hl : l.length = 16) (hok : ∀ x ∈ l, CK.ok .u8 x) : encLExit (rdExit l) = l := by
  have h0 : numL (rdExit l 0) = (l.drop 0).take 8 := (congrArg numL (inN_at l 0)).trans (numL_rdQ _ (part_len l 0 8 16 hl (by decide)) (take_ok hok _ _))
  have h1 : numL (rdExit l 1) = (l.drop 8).take 8 := (congrArg numL (inN_at l 8)).trans (numL_rdQ _ (part_len l 8 8 16 hl (by decide)) (take_ok hok _ _))
  unfold encLExit
  rw [h0, h1]
  try simp only [List.append_assoc]
  rw [cat_end l 8 8 (by omega), cat_next l 0 8 8 (by decide)]
  rfl
end Go.Proofs.YtmoofccblbaepaaDoor
