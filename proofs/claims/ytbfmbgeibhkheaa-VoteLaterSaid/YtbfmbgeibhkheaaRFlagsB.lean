/- flags of the reference, the other cases. -/
import Derived.Test.YtbfmbgeibhkheaaRFlags
namespace Go.Proofs.Ytbfmbgeibhkheaa
open Go.RowKit
set_option maxRecDepth 100000

set_option maxHeartbeats 4000000 in
theorem rflags_TB (xs ds : Array Value) (slot dslot t : Int) (w : World) (hxs : xs.size = 1957) (hds : ds.size = 100) (hx1 : ∀ v ∈ xs, v.oneCell' = true)
    (f33 : xs[33]? = some (.int .u64 slot)) (g33 : 0 ≤ slot ∧ slot ≤ 18446744073709551615)
    (d0 : ds[0]? = some (.int .u64 dslot)) (b0 : 0 ≤ dslot ∧ dslot ≤ 18446744073709551615) (d67 : ds[67]? = some (.int .u64 t)) (_hlt : dslot < slot) (ht : 0 ≤ t) (ht4 : 4 * t ≤ 18446744073709551615) (hnow : (t == slot / 4) = true)
    (ff : ∀ o, o = 993 ∨ o = 1026 → fits ((List.range 33).map fun j => (ckK j).lk) (cellsAt xs o 33)) (fg : fits ((List.range 33).map fun j => (ckK j).lk) (cellsAt ds 34 33))
    (hsrc : eqCells (cellsAt xs 1026 33) (cellsAt ds 34 33) = false)
    (fr : fits ((List.range 32).map fun j => (u8K j).lk) (cellsAt ds 68 32)) (fb : fits ((List.range 32).map fun j => (u8K j).lk) (cellsAt ds 2 32)) (rc : Int → Array Value) (re : Int → Int) (hfc : ∀ k, fits ((List.range 32).map fun j => (u8K j).lk) (rc k).toList) (hrc : ∀ k, (rc k).size = 32 ∧ (rc k).all (·.oneCell') = true)
    (hroot : ∀ k w, 0 ≤ k → k ≤ 18446744073709551615 → Calls Try.prog 22 #[.agg xs, .int .u64 k] w fun e w' => e = .returned (.tuple #[.agg (rc k), .int .i64 (re k)]) ∧ Below w.heap.size w w') :
    Calls Try.prog 13 #[.agg xs, .agg ds] w fun e w' => e = .returned (.tuple #[.agg #[.bool false, .bool false, .bool false], .int .i64 33]) ∧ Below w.heap.size w w' := by
  have l0 := Lib.hid (cellsAt_length xs 993 33 (by omega))
  have l1 := Lib.hid (cellsAt_length xs 1026 33 (by omega))
  have sz1 := Lib.hid (show (cellsAt xs 1026 33).toArray.size = 33 from l1.out)
  have l2 := Lib.hid (cellsAt_length ds 34 33 (by omega))
  have l3 := Lib.hid (cellsAt_length ds 68 32 (by omega))
  have l4 := Lib.hid (cellsAt_length ds 2 32 (by omega))
  have o0 := Lib.hid (cellsAt_one hx1 993 33)
  have o1 := Lib.hid (cellsAt_one hx1 1026 33)
  have hsrc' := Lib.hid (show eqCells (cellsAt ds 34 33) (cellsAt xs 1026 33) = false by rw [eqCells_comm]; exact hsrc)
  have ff' := Lib.hid (ff 1026 (Or.inr rfl))
  have fg' := Lib.hid fg
  have fr' := Lib.hid fr
  have fb' := Lib.hid fb
  have hfc' := Lib.hid hfc
  have hxs' := Lib.hid hxs
  have hrc' := Lib.hid hrc
  have hE := Lib.hid (fun w => epoch13_any xs slot w f33 g33)
  have hr1 := Lib.hid (fun w => hroot (4 * t) w (by omega) ht4)
  have hr2 := Lib.hid (fun w => hroot dslot w b0.1 b0.2)
  have hw4 : IntKind.u64.wrap (4 * t) = 4 * t := IntWalk.u64_in _ (by omega)
  have hw4' : IntKind.u64.wrap (t * 4) = 4 * t := by rw [Int.mul_comm]; exact hw4
  have hz42 := Lib.hid rowT_42'
  clear ff fg hsrc hxs hds hx1 hroot hrc fr fb hfc
  go_enter Try.func13, Try.ntmps13
  go_wp2_with (first
    | ((with_reducible refine at_load 42 ?_); refine wpList_value (by rfl) _ (run_load_rows _ 42 _ (by rfl) w.heap.size 993 (by rfl) (cellsAt xs 993 33) _ (rangeAt_cells (heap_past _ _ _ _ (heap_past _ _ _ _ (heap_alloc_last w _))) 993 33) Try.underlying42 rfl (by rw [row_size rowT_42, l0.out])) ?_)
    | ((with_reducible refine at_alloc 42 ?_); (refine wpList_alloc_store rfl rfl 42 6 _ rfl rfl rfl (cellsAt xs 993 33).toArray rfl rfl (zeroOf Try.prog 42) (by rw [List.size_toArray, l0.out]; exact (row_zero rowT_42).1) (by rw [hz42.out, List.size_toArray, l0.out]) o0.out ?_)))
  simp only [World.size_alloc]
  refine gen_world (fun W => Below w.heap.size w W ∧ W.heap.size = w.heap.size + 1 + 1 + 1 + 1 ∧ W.heap[w.heap.size]? = some (.cells xs 49 (0, 0)) ∧ W.heap[w.heap.size + 1]? = some (.cells ds 51 (0, 0)) ∧ W.cell? ⟨w.heap.size + 1 + 1, 0, none⟩ = some (.bool false) ∧ W.cell? ⟨w.heap.size + 1 + 1, 1, none⟩ = some (.bool false) ∧ W.cell? ⟨w.heap.size + 1 + 1, 2, none⟩ = some (.bool false) ∧ W.frozen? ⟨w.heap.size + 1 + 1, 0, none⟩ = false ∧ W.frozen? ⟨w.heap.size + 1 + 1, 1, none⟩ = false ∧ W.frozen? ⟨w.heap.size + 1 + 1, 2, none⟩ = false ∧ W.heap[w.heap.size + 1 + 1 + 1]? = some (.cells (cellsAt xs 993 33).toArray 42 (0, 0)) ∧ W.there (w.heap.size + 1 + 1 + 1) 0 33) ?_ ?_
  · exact ⟨((((Below.refl _ _).alloc (Nat.le_refl _) _).alloc (by simp) _).alloc (by simp; omega) _).alloc (by simp; omega) _, by simp, heap_past _ _ _ _ (heap_past _ _ _ _ (heap_past _ _ _ _ (heap_alloc_last w _))), heap_past _ _ _ _ (heap_past _ _ _ _ (heap_alloc2_new w _ _)), by simp [go_sem], by simp [go_sem], by simp [go_sem], by simp [go_sem], by simp [go_sem], by simp [go_sem], by
    have h := heap_alloc_last (((w.alloc (.cells xs 49)).alloc (.cells ds 51)).alloc (.cells #[.bool false, .bool false, .bool false] 53)) (.cells (cellsAt xs 993 33).toArray 42)
    simp only [World.size_alloc] at h
    exact h, by
    have h := there_new (((w.alloc (.cells xs 49)).alloc (.cells ds 51)).alloc (.cells #[.bool false, .bool false, .bool false] 53)) (cellsAt xs 993 33).toArray 42
    simp only [World.size_alloc, List.size_toArray, l0.out] at h
    exact h⟩
  rintro W ⟨hW, hWs, hX, hD, v0, v1, v2, z0, z1, z2, hC, hTh⟩
  refine wp_region_held (S := Apart W.heap.size W) (by kernel_rfl) ?_
  have hS := Apart.begin W.heap.size W
  have hX' := Lib.hid hX
  have hD' := Lib.hid hD
  have hC' := Lib.hid hC
  have cd67 := (cell_of_row W _ 67 ds _ _ hD).trans d67
  have cd0 := (cell_of_row W _ 0 ds _ _ hD).trans d0
  have cx := (cell_of_row W _ 33 xs _ _ hX).trans f33
  clear hX hD hC
  refine takeL (i := 0) (v := (.pointer (some ⟨w.heap.size + 1, 67, none⟩))) rfl (by kernel_rfl) (by kernel_rfl) (by kernel_rfl) (fun _ _ _ h => h) rfl (by assumption) (fun w' hS' => by go_simp) ?_
  simp only [Act.put, List.setIfInBounds_toArray, List.set_cons_zero, List.set_cons_succ]
  refine takeL (i := 1) (v := (.pointer (some ⟨w.heap.size + 1, 67, none⟩))) rfl (by kernel_rfl) (by kernel_rfl) (by kernel_rfl) (fun _ _ _ h => h) rfl (by assumption) (fun w' hS' => by go_simp) ?_
  simp only [Act.put, List.setIfInBounds_toArray, List.set_cons_zero, List.set_cons_succ]
  refine takeL (i := 2) (v := (.int .u64 t)) rfl (by kernel_rfl) (by kernel_rfl) (by kernel_rfl) (fun _ _ _ h => h) rfl (by assumption) (fun w' hs => run_load_cell w' _ _ (by rfl) _ (by rfl) _ (by rw [hs.cell (by simp only; omega) (by simp only; omega)]; exact cd67) _ Try.underlying22 rfl) ?_
  simp only [Act.put, List.setIfInBounds_toArray, List.set_cons_zero, List.set_cons_succ]
  refine takeL (i := 3) (v := (.agg xs)) rfl (by kernel_rfl) (by kernel_rfl) (by kernel_rfl) (fun _ _ _ h => h) rfl (by assumption) (fun w' hs => run_load_box w' _ _ (by rfl) w.heap.size (by rfl) _ xs (0, 0) _ (by rw [hs.block _ (by omega) (by omega)]; exact hX'.out) Try.underlying49 rfl (by rw [row_size rowT_49, hxs'.out])) ?_
  simp only [Act.put, List.setIfInBounds_toArray, List.set_cons_zero, List.set_cons_succ]
  refine oneL (i := 4) rfl (by kernel_rfl) rfl (wp_call 20 #[.agg xs] (by go_simp) _ _ (hE.out _) ?_)
  rintro w1 rfl
  have hS1 := hS.alloc (.cells xs 49)
  refine ⟨hS1, ?_⟩
  clear hS
  simp only [Act.put, List.setIfInBounds_toArray, List.set_cons_zero, List.set_cons_succ]
  refine takeL (i := 5) (v := (.bool (t == slot / 4))) rfl (by kernel_rfl) (by kernel_rfl) (by kernel_rfl) (fun _ _ _ h => h) rfl (by assumption) (fun w' hS' => by go_simp) ?_
  simp only [Act.put, List.setIfInBounds_toArray, List.set_cons_zero, List.set_cons_succ]
  rw [hnow]
  refine wpAnyH_done (by kernel_rfl) ?_ _
  have hO2 : OwnF w.heap.size w xs ds 49 51 (({ W with drawn := W.drawn + 1 } : World).alloc (.cells xs 49)) := ⟨hS1.below hW (by omega) (by omega), by simp only [World.size_alloc]; omega, by rw [hS1.block _ (by omega) (by omega)]; exact hX'.out, by rw [hS1.block _ (by omega) (by omega)]; exact hD'.out, by rw [hS1.cell (by simp only; omega) (by simp only; omega)]; exact v0, by rw [hS1.cell (by simp only; omega) (by simp only; omega)]; exact v1, by rw [hS1.cell (by simp only; omega) (by simp only; omega)]; exact v2, by rw [hS1.frozen (by simp only; omega) (by simp only; omega)]; exact z0, by rw [hS1.frozen (by simp only; omega) (by simp only; omega)]; exact z1, by rw [hS1.frozen (by simp only; omega) (by simp only; omega)]; exact z2⟩
  refine gen_q (fun W2 => OwnF w.heap.size w xs ds 49 51 W2 ∧ W2.rangeAt (w.heap.size + 1 + 1 + 1) 0 (cellsAt xs 993 33) ∧ W2.there (w.heap.size + 1 + 1 + 1) 0 33) ?_ ?_
  · exact ⟨hO2, range_block (range_whole hC'.out) (hS1.block _ (by omega) (by omega)), there_block hTh (hS1.block _ (by omega) (by omega))⟩
  clear v0 v1 v2 z0 z1 z2 hTh hS1 cx cd0 cd67 hX' hD' hC' hnow hO2 hW hWs
  rintro W2 ⟨hO2, hRg2, hTh2⟩
  have hRg2' := Lib.hid hRg2
  have hTh2' := Lib.hid hTh2
  clear hRg2 hTh2
  go_wp2_with (first
    | ((with_reducible refine at_load 42 ?_); refine wpList_value (by rfl) _ (run_load_rows _ 42 _ (by rfl) w.heap.size 1026 (by rfl) (cellsAt xs 1026 33) _ (rangeAt_cells hO2.hX 1026 33) Try.underlying42 rfl (by rw [row_size rowT_42, l1.out])) ?_)
    | ((with_reducible refine at_store 42 ?_); go_loud (refine wpList_store_mid rfl 42 _ _ rfl (w.heap.size + 1 + 1 + 1) 0 (cellsAt xs 1026 33).toArray rfl rfl (by rw [sz1.out]; exact hTh2'.out) (by rw [row_size rowT_42, sz1.out]) o1.out ?_)
       go_loud (refine gen_l (fun W3 => OwnF w.heap.size w xs ds 49 51 W3 ∧ W3.rangeAt (w.heap.size + 1 + 1 + 1) 0 (cellsAt xs 1026 33)) ⟨hO2.setCells _ _ _ (Nat.le_refl _), World.rangeAt_setCells_same _ _ _ _ (by rw [l1.out]; exact hTh2'.out)⟩ ?_)
       rintro W3 ⟨hO3, hRg3⟩
       have hRg3' := Lib.hid hRg3
       clear hRg3
       have hs3 := hO3.size
       have hp3 : w.heap.size < W3.heap.size := by omega
       have hq3 : w.heap.size + 1 < W3.heap.size := by omega
       have hr3q : w.heap.size + 1 + 1 < W3.heap.size := by omega
       have cx3 := (cell_of_row W3 _ 33 xs _ _ hO3.hX).trans f33
       have cd3 := (cell_of_row W3 _ 0 ds _ _ hO3.hD).trans d0
       have ce3 := (cell_of_row W3 _ 67 ds _ _ hO3.hD).trans d67
       have u03 := hO3.v0
       have u13 := hO3.v1
       have u23 := hO3.v2
       have t03 := hO3.z0
       have t13 := hO3.z1
       have t23 := hO3.z2)
    | ((with_reducible refine at_load 42 ?_); refine wpList_value (by rfl) _ (run_load_rows _ 42 _ (by rfl) (w.heap.size + 1) 34 (by rfl) (cellsAt ds 34 33) _ (rangeAt_cells hO3.hD 34 33) Try.underlying42 rfl (by rw [row_size rowT_42, l2.out])) ?_)
    | ((with_reducible refine at_load 42 ?_); refine wpList_value (by rfl) _ (run_load_rows _ 42 _ (by rfl) (w.heap.size + 1 + 1 + 1) 0 (by rfl) (cellsAt xs 1026 33) _ hRg3'.out Try.underlying42 rfl (by rw [row_size rowT_42, l1.out])) ?_)
    | ((with_reducible refine at_bin .neq 42 ?_); refine wpList_value (by rfl) _ (run_neq_agg _ 42 _ _ _ (by rfl) (cellsAt ds 34 33) (cellsAt xs 1026 33) (by rfl) (by rfl) asVal_ck guard_ck 10 _ leafs_ck (by decide) fg'.out ff'.out) ?_; rw [hsrc'.out]))
  refine ret_mid_tmp rfl (w.heap.size + 1 + 1) 0 [.bool false, .bool false, .bool false] _ rfl (range3 (by simp [go_sem, *]) (by simp [go_sem, *]) (by simp [go_sem, *])) Try.underlying53 rfl (by rw [row_size rowT_53]; rfl) rfl ?_
  exact ⟨rfl, ((hO3.below.setCell (by simp only; omega) _).setCell (by simp only; omega) _).setCell (by simp only; omega) _⟩
set_option maxHeartbeats 4000000 in
theorem rflags_FB (xs ds : Array Value) (slot dslot t : Int) (w : World) (hxs : xs.size = 1957) (hds : ds.size = 100) (hx1 : ∀ v ∈ xs, v.oneCell' = true)
    (f33 : xs[33]? = some (.int .u64 slot)) (g33 : 0 ≤ slot ∧ slot ≤ 18446744073709551615)
    (d0 : ds[0]? = some (.int .u64 dslot)) (b0 : 0 ≤ dslot ∧ dslot ≤ 18446744073709551615) (d67 : ds[67]? = some (.int .u64 t)) (_hlt : dslot < slot) (ht : 0 ≤ t) (ht4 : 4 * t ≤ 18446744073709551615) (hnow : (t == slot / 4) = false)
    (ff : ∀ o, o = 993 ∨ o = 1026 → fits ((List.range 33).map fun j => (ckK j).lk) (cellsAt xs o 33)) (fg : fits ((List.range 33).map fun j => (ckK j).lk) (cellsAt ds 34 33))
    (hsrc : eqCells (cellsAt xs 993 33) (cellsAt ds 34 33) = false)
    (fr : fits ((List.range 32).map fun j => (u8K j).lk) (cellsAt ds 68 32)) (fb : fits ((List.range 32).map fun j => (u8K j).lk) (cellsAt ds 2 32)) (rc : Int → Array Value) (re : Int → Int) (hfc : ∀ k, fits ((List.range 32).map fun j => (u8K j).lk) (rc k).toList) (hrc : ∀ k, (rc k).size = 32 ∧ (rc k).all (·.oneCell') = true)
    (hroot : ∀ k w, 0 ≤ k → k ≤ 18446744073709551615 → Calls Try.prog 22 #[.agg xs, .int .u64 k] w fun e w' => e = .returned (.tuple #[.agg (rc k), .int .i64 (re k)]) ∧ Below w.heap.size w w') :
    Calls Try.prog 13 #[.agg xs, .agg ds] w fun e w' => e = .returned (.tuple #[.agg #[.bool false, .bool false, .bool false], .int .i64 33]) ∧ Below w.heap.size w w' := by
  have l0 := Lib.hid (cellsAt_length xs 993 33 (by omega))
  have l1 := Lib.hid (cellsAt_length xs 993 33 (by omega))
  have sz1 := Lib.hid (show (cellsAt xs 993 33).toArray.size = 33 from l1.out)
  have l2 := Lib.hid (cellsAt_length ds 34 33 (by omega))
  have l3 := Lib.hid (cellsAt_length ds 68 32 (by omega))
  have l4 := Lib.hid (cellsAt_length ds 2 32 (by omega))
  have o0 := Lib.hid (cellsAt_one hx1 993 33)
  have o1 := Lib.hid (cellsAt_one hx1 993 33)
  have hsrc' := Lib.hid (show eqCells (cellsAt ds 34 33) (cellsAt xs 993 33) = false by rw [eqCells_comm]; exact hsrc)
  have ff' := Lib.hid (ff 993 (Or.inl rfl))
  have fg' := Lib.hid fg
  have fr' := Lib.hid fr
  have fb' := Lib.hid fb
  have hfc' := Lib.hid hfc
  have hxs' := Lib.hid hxs
  have hrc' := Lib.hid hrc
  have hE := Lib.hid (fun w => epoch13_any xs slot w f33 g33)
  have hr1 := Lib.hid (fun w => hroot (4 * t) w (by omega) ht4)
  have hr2 := Lib.hid (fun w => hroot dslot w b0.1 b0.2)
  have hw4 : IntKind.u64.wrap (4 * t) = 4 * t := IntWalk.u64_in _ (by omega)
  have hw4' : IntKind.u64.wrap (t * 4) = 4 * t := by rw [Int.mul_comm]; exact hw4
  have hz42 := Lib.hid rowT_42'
  clear ff fg hsrc hxs hds hx1 hroot hrc fr fb hfc
  go_enter Try.func13, Try.ntmps13
  go_wp2_with (first
    | ((with_reducible refine at_load 42 ?_); refine wpList_value (by rfl) _ (run_load_rows _ 42 _ (by rfl) w.heap.size 993 (by rfl) (cellsAt xs 993 33) _ (rangeAt_cells (heap_past _ _ _ _ (heap_past _ _ _ _ (heap_alloc_last w _))) 993 33) Try.underlying42 rfl (by rw [row_size rowT_42, l0.out])) ?_)
    | ((with_reducible refine at_alloc 42 ?_); (refine wpList_alloc_store rfl rfl 42 6 _ rfl rfl rfl (cellsAt xs 993 33).toArray rfl rfl (zeroOf Try.prog 42) (by rw [List.size_toArray, l0.out]; exact (row_zero rowT_42).1) (by rw [hz42.out, List.size_toArray, l0.out]) o0.out ?_)))
  simp only [World.size_alloc]
  refine gen_world (fun W => Below w.heap.size w W ∧ W.heap.size = w.heap.size + 1 + 1 + 1 + 1 ∧ W.heap[w.heap.size]? = some (.cells xs 49 (0, 0)) ∧ W.heap[w.heap.size + 1]? = some (.cells ds 51 (0, 0)) ∧ W.cell? ⟨w.heap.size + 1 + 1, 0, none⟩ = some (.bool false) ∧ W.cell? ⟨w.heap.size + 1 + 1, 1, none⟩ = some (.bool false) ∧ W.cell? ⟨w.heap.size + 1 + 1, 2, none⟩ = some (.bool false) ∧ W.frozen? ⟨w.heap.size + 1 + 1, 0, none⟩ = false ∧ W.frozen? ⟨w.heap.size + 1 + 1, 1, none⟩ = false ∧ W.frozen? ⟨w.heap.size + 1 + 1, 2, none⟩ = false ∧ W.heap[w.heap.size + 1 + 1 + 1]? = some (.cells (cellsAt xs 993 33).toArray 42 (0, 0)) ∧ W.there (w.heap.size + 1 + 1 + 1) 0 33) ?_ ?_
  · exact ⟨((((Below.refl _ _).alloc (Nat.le_refl _) _).alloc (by simp) _).alloc (by simp; omega) _).alloc (by simp; omega) _, by simp, heap_past _ _ _ _ (heap_past _ _ _ _ (heap_past _ _ _ _ (heap_alloc_last w _))), heap_past _ _ _ _ (heap_past _ _ _ _ (heap_alloc2_new w _ _)), by simp [go_sem], by simp [go_sem], by simp [go_sem], by simp [go_sem], by simp [go_sem], by simp [go_sem], by
    have h := heap_alloc_last (((w.alloc (.cells xs 49)).alloc (.cells ds 51)).alloc (.cells #[.bool false, .bool false, .bool false] 53)) (.cells (cellsAt xs 993 33).toArray 42)
    simp only [World.size_alloc] at h
    exact h, by
    have h := there_new (((w.alloc (.cells xs 49)).alloc (.cells ds 51)).alloc (.cells #[.bool false, .bool false, .bool false] 53)) (cellsAt xs 993 33).toArray 42
    simp only [World.size_alloc, List.size_toArray, l0.out] at h
    exact h⟩
  rintro W ⟨hW, hWs, hX, hD, v0, v1, v2, z0, z1, z2, hC, hTh⟩
  refine wp_region_held (S := Apart W.heap.size W) (by kernel_rfl) ?_
  have hS := Apart.begin W.heap.size W
  have hX' := Lib.hid hX
  have hD' := Lib.hid hD
  have hC' := Lib.hid hC
  have cd67 := (cell_of_row W _ 67 ds _ _ hD).trans d67
  have cd0 := (cell_of_row W _ 0 ds _ _ hD).trans d0
  have cx := (cell_of_row W _ 33 xs _ _ hX).trans f33
  clear hX hD hC
  refine takeL (i := 0) (v := (.pointer (some ⟨w.heap.size + 1, 67, none⟩))) rfl (by kernel_rfl) (by kernel_rfl) (by kernel_rfl) (fun _ _ _ h => h) rfl (by assumption) (fun w' hS' => by go_simp) ?_
  simp only [Act.put, List.setIfInBounds_toArray, List.set_cons_zero, List.set_cons_succ]
  refine takeL (i := 1) (v := (.pointer (some ⟨w.heap.size + 1, 67, none⟩))) rfl (by kernel_rfl) (by kernel_rfl) (by kernel_rfl) (fun _ _ _ h => h) rfl (by assumption) (fun w' hS' => by go_simp) ?_
  simp only [Act.put, List.setIfInBounds_toArray, List.set_cons_zero, List.set_cons_succ]
  refine takeL (i := 2) (v := (.int .u64 t)) rfl (by kernel_rfl) (by kernel_rfl) (by kernel_rfl) (fun _ _ _ h => h) rfl (by assumption) (fun w' hs => run_load_cell w' _ _ (by rfl) _ (by rfl) _ (by rw [hs.cell (by simp only; omega) (by simp only; omega)]; exact cd67) _ Try.underlying22 rfl) ?_
  simp only [Act.put, List.setIfInBounds_toArray, List.set_cons_zero, List.set_cons_succ]
  refine takeL (i := 3) (v := (.agg xs)) rfl (by kernel_rfl) (by kernel_rfl) (by kernel_rfl) (fun _ _ _ h => h) rfl (by assumption) (fun w' hs => run_load_box w' _ _ (by rfl) w.heap.size (by rfl) _ xs (0, 0) _ (by rw [hs.block _ (by omega) (by omega)]; exact hX'.out) Try.underlying49 rfl (by rw [row_size rowT_49, hxs'.out])) ?_
  simp only [Act.put, List.setIfInBounds_toArray, List.set_cons_zero, List.set_cons_succ]
  refine oneL (i := 4) rfl (by kernel_rfl) rfl (wp_call 20 #[.agg xs] (by go_simp) _ _ (hE.out _) ?_)
  rintro w1 rfl
  have hS1 := hS.alloc (.cells xs 49)
  refine ⟨hS1, ?_⟩
  clear hS
  simp only [Act.put, List.setIfInBounds_toArray, List.set_cons_zero, List.set_cons_succ]
  refine takeL (i := 5) (v := (.bool (t == slot / 4))) rfl (by kernel_rfl) (by kernel_rfl) (by kernel_rfl) (fun _ _ _ h => h) rfl (by assumption) (fun w' hS' => by go_simp) ?_
  simp only [Act.put, List.setIfInBounds_toArray, List.set_cons_zero, List.set_cons_succ]
  rw [hnow]
  refine wpAnyH_done (by kernel_rfl) ?_ _
  have hO2 : OwnF w.heap.size w xs ds 49 51 (({ W with drawn := W.drawn + 1 } : World).alloc (.cells xs 49)) := ⟨hS1.below hW (by omega) (by omega), by simp only [World.size_alloc]; omega, by rw [hS1.block _ (by omega) (by omega)]; exact hX'.out, by rw [hS1.block _ (by omega) (by omega)]; exact hD'.out, by rw [hS1.cell (by simp only; omega) (by simp only; omega)]; exact v0, by rw [hS1.cell (by simp only; omega) (by simp only; omega)]; exact v1, by rw [hS1.cell (by simp only; omega) (by simp only; omega)]; exact v2, by rw [hS1.frozen (by simp only; omega) (by simp only; omega)]; exact z0, by rw [hS1.frozen (by simp only; omega) (by simp only; omega)]; exact z1, by rw [hS1.frozen (by simp only; omega) (by simp only; omega)]; exact z2⟩
  refine gen_q (fun W2 => OwnF w.heap.size w xs ds 49 51 W2 ∧ W2.rangeAt (w.heap.size + 1 + 1 + 1) 0 (cellsAt xs 993 33) ∧ W2.there (w.heap.size + 1 + 1 + 1) 0 33) ?_ ?_
  · exact ⟨hO2, range_block (range_whole hC'.out) (hS1.block _ (by omega) (by omega)), there_block hTh (hS1.block _ (by omega) (by omega))⟩
  clear v0 v1 v2 z0 z1 z2 hTh hS1 cx cd0 cd67 hX' hD' hC' hnow hO2 hW hWs
  rintro W2 ⟨hO2, hRg2, hTh2⟩
  have hRg2' := Lib.hid hRg2
  have hTh2' := Lib.hid hTh2
  clear hRg2 hTh2
  obtain ⟨W3, rfl⟩ : ∃ W3 : World, W3 = W2 := ⟨_, rfl⟩
  have hO3 := hO2
  have hRg3' := hRg2'
  have hs3 := hO3.size
  have hp3 : w.heap.size < W3.heap.size := by omega
  have hq3 : w.heap.size + 1 < W3.heap.size := by omega
  have hr3q : w.heap.size + 1 + 1 < W3.heap.size := by omega
  have cx3 := (cell_of_row W3 _ 33 xs _ _ hO3.hX).trans f33
  have cd3 := (cell_of_row W3 _ 0 ds _ _ hO3.hD).trans d0
  have ce3 := (cell_of_row W3 _ 67 ds _ _ hO3.hD).trans d67
  have u03 := hO3.v0
  have u13 := hO3.v1
  have u23 := hO3.v2
  have t03 := hO3.z0
  have t13 := hO3.z1
  have t23 := hO3.z2
  go_wp2_with (first
    | ((with_reducible refine at_load 42 ?_); refine wpList_value (by rfl) _ (run_load_rows _ 42 _ (by rfl) (w.heap.size + 1) 34 (by rfl) (cellsAt ds 34 33) _ (rangeAt_cells hO3.hD 34 33) Try.underlying42 rfl (by rw [row_size rowT_42, l2.out])) ?_)
    | ((with_reducible refine at_load 42 ?_); refine wpList_value (by rfl) _ (run_load_rows _ 42 _ (by rfl) (w.heap.size + 1 + 1 + 1) 0 (by rfl) (cellsAt xs 993 33) _ hRg3'.out Try.underlying42 rfl (by rw [row_size rowT_42, l1.out])) ?_)
    | ((with_reducible refine at_bin .neq 42 ?_); refine wpList_value (by rfl) _ (run_neq_agg _ 42 _ _ _ (by rfl) (cellsAt ds 34 33) (cellsAt xs 993 33) (by rfl) (by rfl) asVal_ck guard_ck 10 _ leafs_ck (by decide) fg'.out ff'.out) ?_; rw [hsrc'.out]))
  refine ret_mid_tmp rfl (w.heap.size + 1 + 1) 0 [.bool false, .bool false, .bool false] _ rfl (range3 (by simp [go_sem, *]) (by simp [go_sem, *]) (by simp [go_sem, *])) Try.underlying53 rfl (by rw [row_size rowT_53]; rfl) rfl ?_
  exact ⟨rfl, ((hO3.below.setCell (by simp only; omega) _).setCell (by simp only; omega) _).setCell (by simp only; omega) _⟩
end Go.Proofs.Ytbfmbgeibhkheaa
