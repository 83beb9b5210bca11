import Derived.Test.YtmoofccblbaepaaDoorJScD
import Derived.Test.YtmoofccblbaepaaDoorJBtE
set_option linter.unusedVariables false
set_option linter.unusedSimpArgs false
set_option linter.unnecessarySimpa false
/- The sync aggregate: eight bits and a signature: its bytes and root, by the program and the reference. -/
namespace Go.Proofs.YtmoofccblbaepaaDoor
open Go.RowKit BigFrame
set_option maxRecDepth 100000
def kdSyncAggregate (j : Nat) : CK := if j < 8 then .bool else .u8
theorem kdY (len : Nat) : ∀ j, j < len → kdSyncAggregate (8 + j) = .u8 := fun j _ => by
  unfold kdSyncAggregate
  rw [if_neg (by omega)]
/-- The eight bits as a byte. -/
def bitB (f : Nat → Int) : Int := bitN (byL f 0 8) 8
theorem bitB_ok (f : Nat → Int) : ∀ m ∈ [bitB f], CK.ok .u8 m := fun m hm => by
  rw [List.mem_singleton.1 hm]
  have h := bitN_lt (byL f 0 8) 8
  exact ⟨h.1, by unfold bitB; omega⟩
/-- The bytes. -/
def encLSyncAggregate (f : Nat → Int) : List Int := [bitB f] ++ byL f 8 96
theorem encSyncAggregate_length (f : Nat → Int) : (encLSyncAggregate f).length = 97 := by simp [encLSyncAggregate, byL_length]
theorem encSyncAggregate_ok {f : Nat → Int} (hf : ∀ j, j < 104 → (kdSyncAggregate j).ok (f j)) : ∀ m ∈ encLSyncAggregate f, CK.ok .u8 m := ok_append (bitB_ok f) (byL_ok (ok_u8 hf (kdY 96) (by decide)))
theorem rowSyncAggregate : rowB Tryd.prog 120 104 = true := by kernel_rfl
section
variable {n : Nat} {f : Nat → Int} {t : TypeId} {w W W' : World}
theorem Box.bits (h : Box n 104 kdSyncAggregate f t w W) (hf : ∀ j, j < 104 → (kdSyncAggregate j).ok (f j)) : Row W (some ⟨n, 0, none⟩) .bool (byL f 0 8) := by
  refine ⟨fun i hi => ⟨n, 0, rfl, ?_⟩, fun m hm => ?_⟩
  · rw [byL_length] at hi
    rw [h.cell (by omega), byL_get _ _ _ _ hi]
    unfold kdSyncAggregate
    rw [if_pos (by omega)]
  · obtain ⟨j, hj, rfl⟩ := List.mem_map.1 hm
    have hj' := List.mem_range.1 hj
    have := hf (0 + j) (by omega)
    unfold kdSyncAggregate at this
    rw [if_pos (by omega)] at this
    exact this
theorem bit_sl {g : Nat} (h : W.heap[g]? = some (.cells #[.int .u8 (bitB f)] 5 (0, 0))) : SlB (some ⟨g, 0, none⟩) 1 [bitB f] W := by
  refine ⟨⟨fun i hi => ⟨g, 0, rfl, ?_⟩, bitB_ok f⟩, (fun e => by cases e), by simp, fun b o e => by cases e; exact block_lt h⟩
  have e : i = 0 := by simpa using hi
  subst e
  rw [cell_of_row W g _ _ _ _ h]
  rfl
theorem HashS.app {N : Nat} {kd : Nat → CK} {rs : List (Nat → Int)} (h : HashS n N kd f t rs w W) (l : List Int) (k d : Nat) (va : Option Addr) (c : Nat) (hs : SlB va c l W) (hk : l.length = k) (h1 : 1 ≤ k) (h2 : k ≤ 100000) (hd : Dep ((k + 31) / 32) d) (hd40 : d ≤ 40) (hlen : rs.length ≤ 1000) :
    Calls Tryd.prog 101 #[.pointer (some ⟨n + 1 + 1, 0, none⟩), .slice va k c] W fun e w' => e = .returned (.tuple #[]) ∧ HashS n N kd f t (rs ++ [byR d l]) w w' := by
  unfold byR
  subst hk
  exact (hash_bytes (n + 1 + 1) d rs l va c W h.hH h.hT (by have := h.h3; omega) hs.row hs.cap h1 (by omega) hd hd40 (by omega)).mono fun _ _ ⟨h1, h2, h3⟩ => ⟨h1, h.step h2 h3⟩
end
set_option maxHeartbeats 8000000 in
theorem enc_SyncAggregate (f : Nat → Int) (hf0 : ∀ j, j < 104 → (kdSyncAggregate j).ok (f j)) (w : World) :
    Calls Tryd.prog 70 #[.agg (fcells 104 kdSyncAggregate f).toArray] w fun e w' => (∃ va c, e = .returned (.slice va 97 c) ∧ (va = none → c = 0) ∧ OwnB w.heap.size (.slice va 97 c) (encLSyncAggregate f) w') ∧ Below w.heap.size w w' := by
  have hf := Lib.hid hf0
  clear hf0
  go_enter Tryd.func70, Tryd.ntmps70
  go_wp2_with (first
    | ((with_reducible refine at_alloc 148 ?_); go_loud (refine wpList_plain rfl fun K hK => wp_alloc_row 148 rfl 3 rfl _ 5 info_out (hK _ _ ?_)); clear hK K
       refine gen_l (fun W => EncS w.heap.size 104 kdSyncAggregate f 120 [] w W) (EncS.begin (heap_new _ _ _ _ rfl) rfl) ?_
       intro W hS0
       have hS := Lib.hid hS0
       clear hS0)
    | ((with_reducible refine (vector_any (byL f 0 8) (some ⟨w.heap.size, 0, none⟩) 8 _ (hS.out.toBox.bits hf.out) (fun b o e => by cases e; exact block_lt hS.out.hX) (byL_length f 0 8)).mono ?_)
       rintro e W1 ⟨rfl, hC, hb⟩
       have hV := Lib.hid (bit_sl hC)
       have hS1 := hS.out.later hb
       clear hC hb
       clear hS
       have hS := Lib.hid hS1
       clear hS1)
    | ((with_reducible refine (EncS.app hS.out [bitB f] 1 _ _ hV.out rfl (by simp)).mono ?_)
       rintro e W ⟨rfl, hS1⟩
       clear hS
       have hS := Lib.hid hS1
       clear hS1)
    | ((with_reducible refine (EncS.bytes hS.out 8 96 (kdY 96) (by decide) hf.out (by simp)).mono ?_)
       rintro e W ⟨rfl, hS1⟩
       clear hS
       have hS := Lib.hid hS1
       clear hS1)
    | ((with_reducible refine (EncS.done hS.out 97 (by simp [byL_length]) (by decide)).mono ?_)
       rintro e W ⟨⟨va, c, rfl, hva, hOw⟩, hBf⟩
       have hOw1 := Lib.hid hOw
       have hva1 := Lib.hid hva
       clear hOw hva))
  exact ret_t1 rfl _ rfl rfl ⟨⟨va, c, rfl, hva1.out, hOw1.out⟩, hBf⟩
/-- The root. -/
def rootSyncAggregate (f : Nat → Int) : Nat → Int := fullT 1 (leaf [byR 0 [bitB f], byR 2 (byL f 8 96)])
set_option maxHeartbeats 8000000 in
theorem root_SyncAggregate (f : Nat → Int) (hf0 : ∀ j, j < 104 → (kdSyncAggregate j).ok (f j)) (w : World) (hT0 : Tabs w) :
    Calls Tryd.prog 71 #[.agg (fcells 104 kdSyncAggregate f).toArray] w fun e w' => e = .returned (.agg (rootV (rootSyncAggregate f))) ∧ Below w.heap.size w w' := by
  have hf := Lib.hid hf0
  have hT := Lib.hid hT0
  clear hf0 hT0
  go_enter Tryd.func71, Tryd.ntmps71
  go_wp2_with (first
    | ((with_reducible refine at_alloc 29 ?_); refine wpList_plain rfl fun K hK => wp_alloc_row 29 rfl 2 rfl zr 32 info_zr (hK _ _ ?_); clear hK K)
    | ((with_reducible refine at_alloc 153 ?_); go_loud (refine wpList_plain rfl fun K hK => wp_alloc_row 153 rfl 3 rfl _ 2 info_hash (hK _ _ ?_)); clear hK K
       refine gen_l (fun W => HashS w.heap.size 104 kdSyncAggregate f 120 [] w W) (HashS.begin (heap_new _ _ _ _ rfl) rfl hT.out) ?_
       intro W hS0
       have hS := Lib.hid hS0
       clear hS0)
    | ((with_reducible refine (vector_any (byL f 0 8) (some ⟨w.heap.size, 0, none⟩) 8 _ (hS.out.toBox.bits hf.out) (fun b o e => by cases e; exact block_lt hS.out.hX) (byL_length f 0 8)).mono ?_)
       rintro e W1 ⟨rfl, hC, hb⟩
       have hV := Lib.hid (bit_sl hC)
       have hS1 := hS.out.later hb
       clear hC hb
       clear hS
       have hS := Lib.hid hS1
       clear hS1)
    | ((with_reducible refine (HashS.app hS.out [bitB f] 1 0 _ _ hV.out rfl (by decide) (by decide) (by unfold Dep; decide) (by decide) (by simp)).mono ?_)
       rintro e W ⟨rfl, hS1⟩
       clear hS
       have hS := Lib.hid hS1
       clear hS1)
    | ((with_reducible refine (HashS.bytes hS.out 8 96 2 (kdY 96) (by decide) hf.out (by decide) (by decide) (by unfold Dep; decide) (by decide) (by simp)).mono ?_)
       rintro e W ⟨rfl, hS1⟩
       clear hS
       have hS := Lib.hid hS1
       clear hS1)
    | ((with_reducible refine (HashS.done hS.out 1 (by simp [Dep]) (by simp) (by decide)).mono ?_)
       rintro e W ⟨rfl, hBf, hRf⟩
       have hRf1 := Lib.hid hRf
       have hbs := hBf.size
       clear hRf hS)
    | ((with_reducible refine at_alloc 29 ?_); go_loud (refine wpList_alloc_store rfl rfl 29 _ _ rfl rfl rfl (rootV _) rfl rfl (zeroOf Tryd.prog 29) (row_zero row_root).1 (row_zero row_root).2 (fcells_one _ _ _) ?_))
    | ((with_reducible refine at_load 29 ?_); go_loud (refine wpList_value (by rfl) _ (run_load_box _ 29 _ (by rfl) W.heap.size (by rfl) _ _ (0, 0) _ (heap_new W _ 29 W.heap.size rfl) Tryd.underlying29 rfl (by rw [row_size row_root]; simp [fcells])) ?_))
    | ((with_reducible refine at_store 29 ?_); go_loud (refine wpList_store_row_gen (w0 := w) (n0 := w.heap.size) 29 _ _ rfl rfl (w.heap.size + 1) rfl _ rfl (fcells_one _ _ _) (by rw [row_size row_root]; simp [fcells]) _ 29 (heap_past _ _ _ _ hRf1.out) (by rw [zr_size]; simp [fcells]) (by omega) (hBf.alloc hbs _) (fun W9 hW9 hBW _ => ?_))))
  exact ret_cell rfl (w.heap.size + 1) 0 (fcells 32 (fun _ => .u8) (rootSyncAggregate f)) _ rfl hW9 Tryd.underlying29 rfl (by rw [row_size row_root, fcells_length]) rfl ⟨rfl, hBW⟩
theorem encY_two (f : Nat → Int) : [bitB f] ++ byL f 8 96 = encLSyncAggregate f := rfl
set_option maxHeartbeats 8000000 in
theorem renc_SyncAggregate (f : Nat → Int) (hf0 : ∀ j, j < 104 → (kdSyncAggregate j).ok (f j)) (w : World) :
    Calls Tryd.prog 72 #[.agg (fcells 104 kdSyncAggregate f).toArray] w fun e w' => (∃ va c, e = .returned (.tuple #[.slice va 97 c, .int .i64 0]) ∧ (va = none → c = 0) ∧ OwnB w.heap.size (.slice va 97 c) (encLSyncAggregate f) w') ∧ Below w.heap.size w w' := by
  have hf := Lib.hid hf0
  clear hf0
  go_enter Tryd.func72, Tryd.ntmps72
  go_wp2_with (first
    | ((with_reducible refine at_box 120 ?_); go_loud (refine wpList_box rfl 120 _ rfl _ rfl ?_)
       refine gen_l (fun W => RefE w.heap.size 104 kdSyncAggregate f 120 [] w W) (RefE.begin (heap_new _ _ _ _ rfl) rfl) ?_
       intro W hS0
       have hS := Lib.hid hS0
       clear hS0)
    | ((with_reducible refine (rvector_any (byL f 0 8) (some ⟨w.heap.size, 0, none⟩) 8 _ (hS.out.toBox.bits hf.out) (fun b o e => by cases e; exact block_lt hS.out.hX) (byL_length f 0 8)).mono ?_)
       rintro e W1 ⟨rfl, hC, hb⟩
       have hS1 := (hS.out.later hb).add (bit_sl hC) (k := 1) rfl
       clear hC hb
       clear hS
       obtain ⟨g1, hg1⟩ : ∃ g1, g1 = W.heap.size := ⟨_, rfl⟩
       rw [← hg1] at hS1 ⊢
       clear hg1
       obtain ⟨W, hWW⟩ : ∃ W, W = W1 := ⟨_, rfl⟩
       subst hWW
       have hS := Lib.hid hS1
       clear hS1)
    | ((with_reducible refine at_bslice 25 ?_); go_loud (refine wpList_plain rfl fun K hK => wp_build0 rfl (hK _ _ ?_)); clear hK K)
    | ((with_reducible refine at_app 25 ?_); refine wpList_app (w0 := W) rfl _ _ rfl W.heap.size [] (byL f 8 96) _ rfl (OwnB.new (Nat.le_refl _) [] (by decide) (heap_new _ _ _ _ rfl)) (some ⟨w.heap.size, 8, none⟩) 96 rfl ((hS.out.toBox.row 8 96 (kdY 96) (by decide) hf.out).later ((Below.refl _ _).alloc (Nat.le_refl _) _)) (by simp [byL_length]) (by simp) (fun h => by cases h) ((Below.refl _ _).alloc (Nat.le_refl _) _) (fun v1 W1 h1 b1 z1 => ?_)
       obtain ⟨va1, c1, e1, hS1⟩ := hS.out.own h1 b1 (byL_ok (ok_u8 hf.out (kdY 96) (by decide))) (byL_length f 8 96)
       subst e1
       clear h1 b1 z1
       obtain ⟨W, hWW⟩ : ∃ W, W = W1 := ⟨_, rfl⟩
       subst hWW
       clear hS
       have hS := Lib.hid hS1
       clear hS1)
    | ((with_reducible refine (RefE.lay2 hS.out (k := 2) (S := 97) (L := encLSyncAggregate f) [1, 96] ?hV ?hZ rfl (by decide) (by decide) (by simp [msOf, byL_length]) (by decide) (by simp [msOf, encLSyncAggregate]) (encSyncAggregate_length f) (by decide)).mono ?hM)
       case hV => rfl
       case hZ => rfl
       rintro e W ⟨⟨va, c, rfl, hva, hOw⟩, hBf⟩
       have hOw1 := Lib.hid hOw
       have hva1 := Lib.hid hva
       clear hOw hva))
  exact ret_t2 rfl _ _ rfl rfl rfl ⟨⟨va, c, rfl, hva1.out, hOw1.out⟩, hBf⟩
set_option maxHeartbeats 8000000 in
theorem rroot_SyncAggregate (f : Nat → Int) (hf0 : ∀ j, j < 104 → (kdSyncAggregate j).ok (f j)) (w : World) (hT0 : Tabs w) :
    Calls Tryd.prog 73 #[.agg (fcells 104 kdSyncAggregate f).toArray] w fun e w' => e = .returned (.tuple #[.agg (rootV (rootSyncAggregate f)), .int .i64 0]) ∧ Below w.heap.size w w' := by
  have hf := Lib.hid hf0
  have hT := Lib.hid hT0
  clear hf0 hT0
  go_enter Tryd.func73, Tryd.ntmps73
  go_wp2_with (first
    | ((with_reducible refine at_alloc 29 ?_); refine wpList_plain rfl fun K hK => wp_alloc_row 29 rfl 2 rfl zr 32 info_zr (hK _ _ ?_); clear hK K)
    | ((with_reducible refine at_alloc 158 ?_); go_loud (refine wpList_plain rfl fun K hK => wp_alloc_row 158 rfl 5 rfl (rep 64) 64 (by kernel_rfl) (hK _ _ ?_)); clear hK K
       refine gen_l (fun W => RefR w.heap.size 104 kdSyncAggregate f 120 158 2 [] w W) (RefR.begin (heap_new _ _ _ _ rfl) rfl hT.out (by simp) (rep_get _)) ?_
       intro W hS0
       have hS := Lib.hid hS0
       clear hS0)
    | ((with_reducible refine (rvector_any (byL f 0 8) (some ⟨w.heap.size, 0, none⟩) 8 _ (hS.out.toBox.bits hf.out) (fun b o e => by cases e; exact block_lt hS.out.hX) (byL_length f 0 8)).mono ?_)
       rintro e W1 ⟨rfl, hC, hb⟩
       have hV := Lib.hid (bit_sl hC)
       have hS1 := hS.out.later hb
       clear hC hb
       clear hS
       have hS := Lib.hid hS1
       clear hS1)
    | ((with_reducible refine (RefR.chunkB hS.out [bitB f] _ _ 1 hV.out rfl (by decide) (by decide)).mono ?_)
       rintro e W ⟨rfl, hS1⟩
       clear hS
       have hS := Lib.hid hS1
       clear hS1)
    | ((with_reducible refine at_store 29 ?_); refine at_staddr 29 (w.heap.size + 1 + 1) (32 * 0) rfl ?_; refine wpList_rootT rfl _ _ rfl 0 (byR 0 [bitB f]) rfl rfl hS.out rfl (by decide) (byR_is (bitB_ok f)) (fun W1 hS1 => ?_)
       obtain ⟨W, hWW⟩ : ∃ W, W = W1 := ⟨_, rfl⟩
       subst hWW
       clear hS
       have hS := Lib.hid hS1
       clear hS1)
    | ((with_reducible refine (RefR.pack hS.out (byL f 8 96) (some ⟨w.heap.size, 8, none⟩) 96 96 3 (hS.out.toBox.sl 8 96 (kdY 96) (by decide) hf.out) (byL_length _ _ _) (by decide) (by decide) (by decide)).mono ?_)
       rintro e W ⟨va1, c1, rfl, hrw1, hlw1, hcq, hS1⟩
       have hrw := Lib.hid hrw1
       have hlw := Lib.hid hlw1
       clear hrw1 hlw1
       clear hS
       have hS := Lib.hid hS1
       clear hS1)
    | ((with_reducible refine (RefR.must hS.out (byL f 8 96) va1 c1 3 2 (3 : Int) hrw.out hlw.out hcq (by rw [byL_length]) rfl (by unfold Dep; decide) (by decide)).mono ?_)
       rintro e W ⟨rfl, hS1⟩
       clear hrw hlw hcq
       clear hS
       have hS := Lib.hid hS1
       clear hS1)
    | ((with_reducible refine at_store 29 ?_); refine at_staddr 29 (w.heap.size + 1 + 1) (32 * 1) rfl ?_; refine wpList_rootT rfl _ _ rfl 1 (byR 2 (byL f 8 96)) rfl rfl hS.out rfl (by decide) (byR_is (byL_ok (ok_u8 hf.out (kdY 96) (by decide)))) (fun W1 hS1 => ?_)
       obtain ⟨W, hWW⟩ : ∃ W, W = W1 := ⟨_, rfl⟩
       subst hWW
       clear hS
       have hS := Lib.hid hS1
       clear hS1)
    | ((with_reducible refine (RefR.last hS.out 1 (2 : Int) rfl rfl (by unfold Dep; decide) (by decide)).mono ?_)
       rintro e W ⟨rfl, hBf, hRf⟩
       have hRf1 := Lib.hid hRf
       clear hRf hS)
    | ((with_reducible refine at_store 29 ?_); go_loud (refine wpList_store_row_gen (w0 := w) (n0 := w.heap.size) 29 _ _ rfl rfl (w.heap.size + 1) rfl _ rfl (fcells_one _ _ _) (by rw [row_size row_root]; simp [fcells]) _ 29 hRf1.out (by rw [zr_size]; simp [fcells]) (by omega) hBf (fun W9 hW9 hBW _ => ?_))))
  exact ret_mid_tmp rfl (w.heap.size + 1) 0 (fcells 32 (fun _ => .u8) (rootSyncAggregate f)) _ rfl hW9 Tryd.underlying29 rfl (by rw [row_size row_root, fcells_length]) rfl ⟨rfl, hBW⟩
end Go.Proofs.YtmoofccblbaepaaDoor
