/- flags of the reference. -/
import Derived.Test.YtbfmbgeibhkheaaWorthF
import Derived.Test.YtbfmbgeibhkheaaWorthB
import Derived.OwnWalk

namespace Go.Proofs.Ytbfmbgeibhkheaa
open Go.RowKit
set_option maxRecDepth 100000

theorem rowT_42' : (zeroOf Try.prog 42).size = 33 := (row_zero rowT_42).2
theorem at_bin {P : Program} {ops : Array Oper} {rest : List Oper} {a : Act} {w : World} {Q : Exit → Act → World → Prop} {d : Option Tmp} {ty : TypeId} {pos : String} {af : Array Edge} {g : Option (Nat × Bool)} (b : BinOp) (t : TypeId) {x y : Operand} {t' : TypeId} (h : wpList P ops Q (⟨d, .binOp b t x y t', ty, pos, af, g⟩ :: rest) a w) : wpList P ops Q (⟨d, .binOp b t x y t', ty, pos, af, g⟩ :: rest) a w := h
set_option maxHeartbeats 4000000 in
theorem rflags_T (xs ds : Array Value) (slot dslot t : Int) (w : World) (hxs : xs.size = 1957) (hds : ds.size = 100) (hx1 : ∀ v ∈ xs, v.oneCell' = true)
    (f33 : xs[33]? = some (.int .u64 slot)) (g33 : 0 ≤ slot ∧ slot ≤ 18446744073709551615)
    (d0 : ds[0]? = some (.int .u64 dslot)) (b0 : 0 ≤ dslot ∧ dslot ≤ 18446744073709551615) (d67 : ds[67]? = some (.int .u64 t)) (hlt : dslot < slot) (ht : 0 ≤ t) (ht4 : 4 * t ≤ 18446744073709551615) (hnow : (t == slot / 4) = true)
    (ff : ∀ o, o = 993 ∨ o = 1026 → fits ((List.range 33).map fun j => (ckK j).lk) (cellsAt xs o 33)) (fg : fits ((List.range 33).map fun j => (ckK j).lk) (cellsAt ds 34 33))
    (hsrc : eqCells (cellsAt xs 1026 33) (cellsAt ds 34 33) = true)
    (fr : fits ((List.range 32).map fun j => (u8K j).lk) (cellsAt ds 68 32)) (fb : fits ((List.range 32).map fun j => (u8K j).lk) (cellsAt ds 2 32)) (rc : Int → Array Value) (re : Int → Int) (hfc : ∀ k, fits ((List.range 32).map fun j => (u8K j).lk) (rc k).toList) (hrc : ∀ k, (rc k).size = 32 ∧ (rc k).all (·.oneCell') = true)
    (hroot : ∀ k w, 0 ≤ k → k ≤ 18446744073709551615 → Calls Try.prog 22 #[.agg xs, .int .u64 k] w fun e w' => e = .returned (.tuple #[.agg (rc k), .int .i64 (re k)]) ∧ Below w.heap.size w w') :
    Calls Try.prog 13 #[.agg xs, .agg ds] w fun e w' => e = .returned (.tuple #[.agg #[.bool (decide (slot - dslot ≤ 2)), .bool (eqCells (rc (4 * t)).toList (cellsAt ds 68 32)), .bool (eqCells (rc (4 * t)).toList (cellsAt ds 68 32) && (eqCells (rc dslot).toList (cellsAt ds 2 32) && (slot - dslot == 1)))], .int .i64 0]) ∧ Below w.heap.size w w' := by
  have l0 := Lib.hid (cellsAt_length xs 993 33 (by omega))
  have l1 := Lib.hid (cellsAt_length xs 1026 33 (by omega))
  have sz1 := Lib.hid (show (cellsAt xs 1026 33).toArray.size = 33 from l1.out)
  have l2 := Lib.hid (cellsAt_length ds 34 33 (by omega))
  have l3 := Lib.hid (cellsAt_length ds 68 32 (by omega))
  have l4 := Lib.hid (cellsAt_length ds 2 32 (by omega))
  have o0 := Lib.hid (cellsAt_one hx1 993 33)
  have o1 := Lib.hid (cellsAt_one hx1 1026 33)
  have hsrc' := Lib.hid (show eqCells (cellsAt ds 34 33) (cellsAt xs 1026 33) = true by rw [eqCells_comm]; exact hsrc)
  have ff' := Lib.hid (ff 1026 (Or.inr rfl))
  have fg' := Lib.hid fg
  have fr' := Lib.hid fr
  have fb' := Lib.hid fb
  have hfc' := Lib.hid hfc
  have hxs' := Lib.hid hxs
  have hrc' := Lib.hid hrc
  have hE := Lib.hid (fun w => epoch13_any xs slot w f33 g33)
  have hr1 := Lib.hid (fun w => hroot (4 * t) w (by omega) ht4)
  have hr2 := Lib.hid (fun w => hroot dslot w b0.1 b0.2)
  have hw4 : IntKind.u64.wrap (4 * t) = 4 * t := IntWalk.u64_in _ (by omega)
  have hw4' : IntKind.u64.wrap (t * 4) = 4 * t := by rw [Int.mul_comm]; exact hw4
  have hz42 := Lib.hid rowT_42'
  clear ff fg hsrc hxs hds hx1 hroot hrc fr fb hfc
  go_enter Try.func13, Try.ntmps13
  go_wp2_with (first
    | ((with_reducible refine at_load 42 ?_); refine wpList_value (by rfl) _ (run_load_rows _ 42 _ (by rfl) w.heap.size 993 (by rfl) (cellsAt xs 993 33) _ (rangeAt_cells (heap_past _ _ _ _ (heap_past _ _ _ _ (heap_alloc_last w _))) 993 33) Try.underlying42 rfl (by rw [row_size rowT_42, l0.out])) ?_)
    | ((with_reducible refine at_alloc 42 ?_); (refine wpList_alloc_store rfl rfl 42 6 _ rfl rfl rfl (cellsAt xs 993 33).toArray rfl rfl (zeroOf Try.prog 42) (by rw [List.size_toArray, l0.out]; exact (row_zero rowT_42).1) (by rw [hz42.out, List.size_toArray, l0.out]) o0.out ?_)))
  simp only [World.size_alloc]
  refine gen_world (fun W => Below w.heap.size w W ∧ W.heap.size = w.heap.size + 1 + 1 + 1 + 1 ∧ W.heap[w.heap.size]? = some (.cells xs 49 (0, 0)) ∧ W.heap[w.heap.size + 1]? = some (.cells ds 51 (0, 0)) ∧ W.cell? ⟨w.heap.size + 1 + 1, 0, none⟩ = some (.bool false) ∧ W.cell? ⟨w.heap.size + 1 + 1, 1, none⟩ = some (.bool false) ∧ W.cell? ⟨w.heap.size + 1 + 1, 2, none⟩ = some (.bool false) ∧ W.frozen? ⟨w.heap.size + 1 + 1, 0, none⟩ = false ∧ W.frozen? ⟨w.heap.size + 1 + 1, 1, none⟩ = false ∧ W.frozen? ⟨w.heap.size + 1 + 1, 2, none⟩ = false ∧ W.heap[w.heap.size + 1 + 1 + 1]? = some (.cells (cellsAt xs 993 33).toArray 42 (0, 0)) ∧ W.there (w.heap.size + 1 + 1 + 1) 0 33) ?_ ?_
  · exact ⟨((((Below.refl _ _).alloc (Nat.le_refl _) _).alloc (by simp) _).alloc (by simp; omega) _).alloc (by simp; omega) _, by simp, heap_past _ _ _ _ (heap_past _ _ _ _ (heap_past _ _ _ _ (heap_alloc_last w _))), heap_past _ _ _ _ (heap_past _ _ _ _ (heap_alloc2_new w _ _)), by simp [go_sem], by simp [go_sem], by simp [go_sem], by simp [go_sem], by simp [go_sem], by simp [go_sem], by
    have h := heap_alloc_last (((w.alloc (.cells xs 49)).alloc (.cells ds 51)).alloc (.cells #[.bool false, .bool false, .bool false] 53)) (.cells (cellsAt xs 993 33).toArray 42)
    simp only [World.size_alloc] at h
    exact h, by
    have h := there_new (((w.alloc (.cells xs 49)).alloc (.cells ds 51)).alloc (.cells #[.bool false, .bool false, .bool false] 53)) (cellsAt xs 993 33).toArray 42
    simp only [World.size_alloc, List.size_toArray, l0.out] at h
    exact h⟩
  rintro W ⟨hW, hWs, hX, hD, v0, v1, v2, z0, z1, z2, hC, hTh⟩
  refine wp_region_held (S := Apart W.heap.size W) (by kernel_rfl) ?_
  have hS := Apart.begin W.heap.size W
  have hX' := Lib.hid hX
  have hD' := Lib.hid hD
  have hC' := Lib.hid hC
  have cd67 := (cell_of_row W _ 67 ds _ _ hD).trans d67
  have cd0 := (cell_of_row W _ 0 ds _ _ hD).trans d0
  have cx := (cell_of_row W _ 33 xs _ _ hX).trans f33
  clear hX hD hC
  refine takeL (i := 0) (v := (.pointer (some ⟨w.heap.size + 1, 67, none⟩))) rfl (by kernel_rfl) (by kernel_rfl) (by kernel_rfl) (fun _ _ _ h => h) rfl (by assumption) (fun w' hS' => by go_simp) ?_
  simp only [Act.put, List.setIfInBounds_toArray, List.set_cons_zero, List.set_cons_succ]
  refine takeL (i := 1) (v := (.pointer (some ⟨w.heap.size + 1, 67, none⟩))) rfl (by kernel_rfl) (by kernel_rfl) (by kernel_rfl) (fun _ _ _ h => h) rfl (by assumption) (fun w' hS' => by go_simp) ?_
  simp only [Act.put, List.setIfInBounds_toArray, List.set_cons_zero, List.set_cons_succ]
  refine takeL (i := 2) (v := (.int .u64 t)) rfl (by kernel_rfl) (by kernel_rfl) (by kernel_rfl) (fun _ _ _ h => h) rfl (by assumption) (fun w' hs => run_load_cell w' _ _ (by rfl) _ (by rfl) _ (by rw [hs.cell (by simp only; omega) (by simp only; omega)]; exact cd67) _ Try.underlying22 rfl) ?_
  simp only [Act.put, List.setIfInBounds_toArray, List.set_cons_zero, List.set_cons_succ]
  refine takeL (i := 3) (v := (.agg xs)) rfl (by kernel_rfl) (by kernel_rfl) (by kernel_rfl) (fun _ _ _ h => h) rfl (by assumption) (fun w' hs => run_load_box w' _ _ (by rfl) w.heap.size (by rfl) _ xs (0, 0) _ (by rw [hs.block _ (by omega) (by omega)]; exact hX'.out) Try.underlying49 rfl (by rw [row_size rowT_49, hxs'.out])) ?_
  simp only [Act.put, List.setIfInBounds_toArray, List.set_cons_zero, List.set_cons_succ]
  refine oneL (i := 4) rfl (by kernel_rfl) rfl (wp_call 20 #[.agg xs] (by go_simp) _ _ (hE.out _) ?_)
  rintro w1 rfl
  have hS1 := hS.alloc (.cells xs 49)
  refine ⟨hS1, ?_⟩
  clear hS
  simp only [Act.put, List.setIfInBounds_toArray, List.set_cons_zero, List.set_cons_succ]
  refine takeL (i := 5) (v := (.bool (t == slot / 4))) rfl (by kernel_rfl) (by kernel_rfl) (by kernel_rfl) (fun _ _ _ h => h) rfl (by assumption) (fun w' hS' => by go_simp) ?_
  simp only [Act.put, List.setIfInBounds_toArray, List.set_cons_zero, List.set_cons_succ]
  rw [hnow]
  refine wpAnyH_done (by kernel_rfl) ?_ _
  have hO2 : OwnF w.heap.size w xs ds 49 51 (({ W with drawn := W.drawn + 1 } : World).alloc (.cells xs 49)) := ⟨hS1.below hW (by omega) (by omega), by simp only [World.size_alloc]; omega, by rw [hS1.block _ (by omega) (by omega)]; exact hX'.out, by rw [hS1.block _ (by omega) (by omega)]; exact hD'.out, by rw [hS1.cell (by simp only; omega) (by simp only; omega)]; exact v0, by rw [hS1.cell (by simp only; omega) (by simp only; omega)]; exact v1, by rw [hS1.cell (by simp only; omega) (by simp only; omega)]; exact v2, by rw [hS1.frozen (by simp only; omega) (by simp only; omega)]; exact z0, by rw [hS1.frozen (by simp only; omega) (by simp only; omega)]; exact z1, by rw [hS1.frozen (by simp only; omega) (by simp only; omega)]; exact z2⟩
  refine gen_q (fun W2 => OwnF w.heap.size w xs ds 49 51 W2 ∧ W2.rangeAt (w.heap.size + 1 + 1 + 1) 0 (cellsAt xs 993 33) ∧ W2.there (w.heap.size + 1 + 1 + 1) 0 33) ?_ ?_
  · exact ⟨hO2, range_block (range_whole hC'.out) (hS1.block _ (by omega) (by omega)), there_block hTh (hS1.block _ (by omega) (by omega))⟩
  clear v0 v1 v2 z0 z1 z2 hTh hS1 cx cd0 cd67 hX' hD' hC' hnow hO2 hW hWs
  rintro W2 ⟨hO2, hRg2, hTh2⟩
  have hRg2' := Lib.hid hRg2
  have hTh2' := Lib.hid hTh2
  clear hRg2 hTh2
  have hrh := Lib.hid (show eqCells (cellsAt ds 68 32) (rc (4 * t)).toList = eqCells (rc (4 * t)).toList (cellsAt ds 68 32) from eqCells_comm _ _)
  have hqh := Lib.hid (show eqCells (cellsAt ds 2 32) (rc dslot).toList = eqCells (rc dslot).toList (cellsAt ds 2 32) from eqCells_comm _ _)
  have hz32 := Lib.hid (row_zero rowT_24).2
  generalize eqCells (rc (4 * t)).toList (cellsAt ds 68 32) = r1 at *
  generalize eqCells (rc dslot).toList (cellsAt ds 2 32) = r2 at *
  cases r1
  · cases r2
    · go_wp2_with (first
        | ((with_reducible refine at_load 42 ?_); refine wpList_value (by rfl) _ (run_load_rows _ 42 _ (by rfl) w.heap.size 1026 (by rfl) (cellsAt xs 1026 33) _ (rangeAt_cells hO2.hX 1026 33) Try.underlying42 rfl (by rw [row_size rowT_42, l1.out])) ?_)
        | ((with_reducible refine at_store 42 ?_); go_loud (refine wpList_store_mid rfl 42 _ _ rfl (w.heap.size + 1 + 1 + 1) 0 (cellsAt xs 1026 33).toArray rfl rfl (by rw [sz1.out]; exact hTh2'.out) (by rw [row_size rowT_42, sz1.out]) o1.out ?_)
           go_loud (refine gen_l (fun W3 => OwnF w.heap.size w xs ds 49 51 W3 ∧ W3.rangeAt (w.heap.size + 1 + 1 + 1) 0 (cellsAt xs 1026 33)) ⟨hO2.setCells _ _ _ (Nat.le_refl _), World.rangeAt_setCells_same _ _ _ _ (by rw [l1.out]; exact hTh2'.out)⟩ ?_)
           rintro W3 ⟨hO3, hRg3⟩
           have hRg3' := Lib.hid hRg3
           clear hRg3
           have hs3 := hO3.size
           have hp3 : w.heap.size < W3.heap.size := by omega
           have hq3 : w.heap.size + 1 < W3.heap.size := by omega
           have hr3q : w.heap.size + 1 + 1 < W3.heap.size := by omega
           have cx3 := (cell_of_row W3 _ 33 xs _ _ hO3.hX).trans f33
           have cd3 := (cell_of_row W3 _ 0 ds _ _ hO3.hD).trans d0
           have ce3 := (cell_of_row W3 _ 67 ds _ _ hO3.hD).trans d67
           have u03 := hO3.v0
           have u13 := hO3.v1
           have u23 := hO3.v2
           have t03 := hO3.z0
           have t13 := hO3.z1
           have t23 := hO3.z2)
        | ((with_reducible refine at_load 42 ?_); refine wpList_value (by rfl) _ (run_load_rows _ 42 _ (by rfl) (w.heap.size + 1) 34 (by rfl) (cellsAt ds 34 33) _ (rangeAt_cells hO3.hD 34 33) Try.underlying42 rfl (by rw [row_size rowT_42, l2.out])) ?_)
        | ((with_reducible refine at_load 42 ?_); refine wpList_value (by rfl) _ (run_load_rows _ 42 _ (by rfl) (w.heap.size + 1 + 1 + 1) 0 (by rfl) (cellsAt xs 1026 33) _ hRg3'.out Try.underlying42 rfl (by rw [row_size rowT_42, l1.out])) ?_)
        | ((with_reducible refine at_bin .neq 42 ?_); refine wpList_value (by rfl) _ (run_neq_agg _ 42 _ _ _ (by rfl) (cellsAt ds 34 33) (cellsAt xs 1026 33) (by rfl) (by rfl) asVal_ck guard_ck 10 _ leafs_ck (by decide) fg'.out ff'.out) ?_; rw [hsrc'.out])
        | ((with_reducible refine at_load 49 ?_); refine wpList_value (by rfl) _ (run_load_box _ 49 _ (by rfl) w.heap.size (by rfl) _ xs (0, 0) _ (by first | exact hO3.hX | exact heap_past _ _ _ _ hO4.hX) Try.underlying49 rfl (by rw [row_size rowT_49, hxs'.out])) ?_)
        | ((with_reducible refine (hr1.out _).mono ?_); rintro e W4 ⟨rfl, hb4⟩
           have hO4 := hO3.call (by omega) hb4
           have hs4 := hO4.size
           have hp4 : w.heap.size < W4.heap.size := by omega
           have hq4 : w.heap.size + 1 < W4.heap.size := by omega
           have hr4q : w.heap.size + 1 + 1 < W4.heap.size := by omega
           have cx4 := (cell_of_row W4 _ 33 xs _ _ hO4.hX).trans f33
           have cd4 := (cell_of_row W4 _ 0 ds _ _ hO4.hD).trans d0
           have ce4 := (cell_of_row W4 _ 67 ds _ _ hO4.hD).trans d67
           have u04 := hO4.v0
           have u14 := hO4.v1
           have u24 := hO4.v2
           have t04 := hO4.z0
           have t14 := hO4.z1
           have t24 := hO4.z2)
        | ((with_reducible refine (hr2.out _).mono ?_); rintro e W5 ⟨rfl, hb5⟩
           have hO5 := (hO4.alloc (by omega) (.cells (rc (4 * t)) 24)).call (by simp only [World.size_alloc]; omega) hb5
           have hRg5 := Lib.hid (range_block (range_whole (heap_alloc_last W4 (.cells (rc (4 * t)).toList.toArray 24))) (hb5.block W4.heap.size (by simp)))
           have hs5 := hO5.size
           have hp5 : w.heap.size < W5.heap.size := by omega
           have hq5 : w.heap.size + 1 < W5.heap.size := by omega
           have hr5q : w.heap.size + 1 + 1 < W5.heap.size := by omega
           have cx5 := (cell_of_row W5 _ 33 xs _ _ hO5.hX).trans f33
           have cd5 := (cell_of_row W5 _ 0 ds _ _ hO5.hD).trans d0
           have ce5 := (cell_of_row W5 _ 67 ds _ _ hO5.hD).trans d67
           have u05 := hO5.v0
           have u15 := hO5.v1
           have u25 := hO5.v2
           have t05 := hO5.z0
           have t15 := hO5.z1
           have t25 := hO5.z2)
        | ((with_reducible refine at_alloc 24 ?_); refine wpList_alloc_store rfl rfl 24 8 _ rfl rfl rfl (rc (4 * t)) rfl rfl (zeroOf Try.prog 24) (by rw [(hrc'.out _).1]; exact (row_zero rowT_24).1) (by rw [hz32.out, (hrc'.out _).1]) (hrc'.out _).2 ?_)
        | ((with_reducible refine at_alloc 24 ?_); refine wpList_alloc_store rfl rfl 24 10 _ rfl rfl rfl (rc dslot) rfl rfl (zeroOf Try.prog 24) (by rw [(hrc'.out _).1]; exact (row_zero rowT_24).1) (by rw [hz32.out, (hrc'.out _).1]) (hrc'.out _).2 ?_)
        | ((with_reducible refine at_load 24 ?_); refine wpList_value (by rfl) _ (run_load_rows _ 24 _ (by rfl) (w.heap.size + 1) 68 (by rfl) (cellsAt ds 68 32) _ (rangeAt_cells (heap_past _ _ _ _ hO5.hD) 68 32) Try.underlying24 rfl (by rw [row_size rowT_24, l3.out])) ?_)
        | ((with_reducible refine at_load 24 ?_); refine wpList_value (by rfl) _ (run_load_rows _ 24 _ (by rfl) (w.heap.size + 1) 2 (by rfl) (cellsAt ds 2 32) _ (rangeAt_cells (heap_past _ _ _ _ hO5.hD) 2 32) Try.underlying24 rfl (by rw [row_size rowT_24, l4.out])) ?_)
        | ((with_reducible refine at_load 24 ?_); refine wpList_value (by rfl) _ (run_load_rows _ 24 _ (by rfl) W4.heap.size 0 (by rfl) (rc (4 * t)).toList _ (World.rangeAt_alloc hRg5.out _) Try.underlying24 rfl (by rw [row_size rowT_24, Array.length_toList, (hrc'.out _).1])) ?_)
        | ((with_reducible refine at_load 24 ?_); refine wpList_value (by rfl) _ (run_load_rows _ 24 _ (by rfl) W5.heap.size 0 (by rfl) (rc dslot).toList _ (range_whole (heap_alloc_last W5 (.cells (rc dslot).toList.toArray 24))) Try.underlying24 rfl (by rw [row_size rowT_24, Array.length_toList, (hrc'.out _).1])) ?_)
        | ((with_reducible refine at_bin .eql 24 ?_); refine wpList_value (by rfl) _ (run_eql_agg _ 24 _ _ _ (by rfl) (cellsAt ds 68 32) (rc (4 * t)).toList (by rfl) (by rfl) asVal_root guard_root 10 _ leafs_root (by decide) fr'.out (hfc'.out _)) ?_; rw [hrh.out])
        | ((with_reducible refine at_bin .eql 24 ?_); refine wpList_value (by rfl) _ (run_eql_agg _ 24 _ _ _ (by rfl) (cellsAt ds 2 32) (rc dslot).toList (by rfl) (by rfl) asVal_root guard_root 10 _ leafs_root (by decide) fb'.out (hfc'.out _)) ?_; rw [hqh.out]))
      refine ret_mid_tmp rfl (w.heap.size + 1 + 1) 0 [.bool (decide (slot - dslot ≤ 2)), .bool false, .bool (false)] _ rfl (range3 (by simp [go_sem, *]) (by simp [go_sem, *]) (by simp [go_sem, *])) Try.underlying53 rfl (by rw [row_size rowT_53]; rfl) rfl ?_
      exact ⟨by rw [eqCells_comm (rc (4 * t)).toList, hrh.out, eqCells_comm (rc dslot).toList, hqh.out]; simp, (((hO5.below.setCell (by simp only; omega) _).setCell (by simp only; omega) _).setCell (by simp only; omega) _).alloc (by simp; omega) _⟩
    · go_wp2_with (first
        | ((with_reducible refine at_load 42 ?_); refine wpList_value (by rfl) _ (run_load_rows _ 42 _ (by rfl) w.heap.size 1026 (by rfl) (cellsAt xs 1026 33) _ (rangeAt_cells hO2.hX 1026 33) Try.underlying42 rfl (by rw [row_size rowT_42, l1.out])) ?_)
        | ((with_reducible refine at_store 42 ?_); go_loud (refine wpList_store_mid rfl 42 _ _ rfl (w.heap.size + 1 + 1 + 1) 0 (cellsAt xs 1026 33).toArray rfl rfl (by rw [sz1.out]; exact hTh2'.out) (by rw [row_size rowT_42, sz1.out]) o1.out ?_)
           go_loud (refine gen_l (fun W3 => OwnF w.heap.size w xs ds 49 51 W3 ∧ W3.rangeAt (w.heap.size + 1 + 1 + 1) 0 (cellsAt xs 1026 33)) ⟨hO2.setCells _ _ _ (Nat.le_refl _), World.rangeAt_setCells_same _ _ _ _ (by rw [l1.out]; exact hTh2'.out)⟩ ?_)
           rintro W3 ⟨hO3, hRg3⟩
           have hRg3' := Lib.hid hRg3
           clear hRg3
           have hs3 := hO3.size
           have hp3 : w.heap.size < W3.heap.size := by omega
           have hq3 : w.heap.size + 1 < W3.heap.size := by omega
           have hr3q : w.heap.size + 1 + 1 < W3.heap.size := by omega
           have cx3 := (cell_of_row W3 _ 33 xs _ _ hO3.hX).trans f33
           have cd3 := (cell_of_row W3 _ 0 ds _ _ hO3.hD).trans d0
           have ce3 := (cell_of_row W3 _ 67 ds _ _ hO3.hD).trans d67
           have u03 := hO3.v0
           have u13 := hO3.v1
           have u23 := hO3.v2
           have t03 := hO3.z0
           have t13 := hO3.z1
           have t23 := hO3.z2)
        | ((with_reducible refine at_load 42 ?_); refine wpList_value (by rfl) _ (run_load_rows _ 42 _ (by rfl) (w.heap.size + 1) 34 (by rfl) (cellsAt ds 34 33) _ (rangeAt_cells hO3.hD 34 33) Try.underlying42 rfl (by rw [row_size rowT_42, l2.out])) ?_)
        | ((with_reducible refine at_load 42 ?_); refine wpList_value (by rfl) _ (run_load_rows _ 42 _ (by rfl) (w.heap.size + 1 + 1 + 1) 0 (by rfl) (cellsAt xs 1026 33) _ hRg3'.out Try.underlying42 rfl (by rw [row_size rowT_42, l1.out])) ?_)
        | ((with_reducible refine at_bin .neq 42 ?_); refine wpList_value (by rfl) _ (run_neq_agg _ 42 _ _ _ (by rfl) (cellsAt ds 34 33) (cellsAt xs 1026 33) (by rfl) (by rfl) asVal_ck guard_ck 10 _ leafs_ck (by decide) fg'.out ff'.out) ?_; rw [hsrc'.out])
        | ((with_reducible refine at_load 49 ?_); refine wpList_value (by rfl) _ (run_load_box _ 49 _ (by rfl) w.heap.size (by rfl) _ xs (0, 0) _ (by first | exact hO3.hX | exact heap_past _ _ _ _ hO4.hX) Try.underlying49 rfl (by rw [row_size rowT_49, hxs'.out])) ?_)
        | ((with_reducible refine (hr1.out _).mono ?_); rintro e W4 ⟨rfl, hb4⟩
           have hO4 := hO3.call (by omega) hb4
           have hs4 := hO4.size
           have hp4 : w.heap.size < W4.heap.size := by omega
           have hq4 : w.heap.size + 1 < W4.heap.size := by omega
           have hr4q : w.heap.size + 1 + 1 < W4.heap.size := by omega
           have cx4 := (cell_of_row W4 _ 33 xs _ _ hO4.hX).trans f33
           have cd4 := (cell_of_row W4 _ 0 ds _ _ hO4.hD).trans d0
           have ce4 := (cell_of_row W4 _ 67 ds _ _ hO4.hD).trans d67
           have u04 := hO4.v0
           have u14 := hO4.v1
           have u24 := hO4.v2
           have t04 := hO4.z0
           have t14 := hO4.z1
           have t24 := hO4.z2)
        | ((with_reducible refine (hr2.out _).mono ?_); rintro e W5 ⟨rfl, hb5⟩
           have hO5 := (hO4.alloc (by omega) (.cells (rc (4 * t)) 24)).call (by simp only [World.size_alloc]; omega) hb5
           have hRg5 := Lib.hid (range_block (range_whole (heap_alloc_last W4 (.cells (rc (4 * t)).toList.toArray 24))) (hb5.block W4.heap.size (by simp)))
           have hs5 := hO5.size
           have hp5 : w.heap.size < W5.heap.size := by omega
           have hq5 : w.heap.size + 1 < W5.heap.size := by omega
           have hr5q : w.heap.size + 1 + 1 < W5.heap.size := by omega
           have cx5 := (cell_of_row W5 _ 33 xs _ _ hO5.hX).trans f33
           have cd5 := (cell_of_row W5 _ 0 ds _ _ hO5.hD).trans d0
           have ce5 := (cell_of_row W5 _ 67 ds _ _ hO5.hD).trans d67
           have u05 := hO5.v0
           have u15 := hO5.v1
           have u25 := hO5.v2
           have t05 := hO5.z0
           have t15 := hO5.z1
           have t25 := hO5.z2)
        | ((with_reducible refine at_alloc 24 ?_); refine wpList_alloc_store rfl rfl 24 8 _ rfl rfl rfl (rc (4 * t)) rfl rfl (zeroOf Try.prog 24) (by rw [(hrc'.out _).1]; exact (row_zero rowT_24).1) (by rw [hz32.out, (hrc'.out _).1]) (hrc'.out _).2 ?_)
        | ((with_reducible refine at_alloc 24 ?_); refine wpList_alloc_store rfl rfl 24 10 _ rfl rfl rfl (rc dslot) rfl rfl (zeroOf Try.prog 24) (by rw [(hrc'.out _).1]; exact (row_zero rowT_24).1) (by rw [hz32.out, (hrc'.out _).1]) (hrc'.out _).2 ?_)
        | ((with_reducible refine at_load 24 ?_); refine wpList_value (by rfl) _ (run_load_rows _ 24 _ (by rfl) (w.heap.size + 1) 68 (by rfl) (cellsAt ds 68 32) _ (rangeAt_cells (heap_past _ _ _ _ hO5.hD) 68 32) Try.underlying24 rfl (by rw [row_size rowT_24, l3.out])) ?_)
        | ((with_reducible refine at_load 24 ?_); refine wpList_value (by rfl) _ (run_load_rows _ 24 _ (by rfl) (w.heap.size + 1) 2 (by rfl) (cellsAt ds 2 32) _ (rangeAt_cells (heap_past _ _ _ _ hO5.hD) 2 32) Try.underlying24 rfl (by rw [row_size rowT_24, l4.out])) ?_)
        | ((with_reducible refine at_load 24 ?_); refine wpList_value (by rfl) _ (run_load_rows _ 24 _ (by rfl) W4.heap.size 0 (by rfl) (rc (4 * t)).toList _ (World.rangeAt_alloc hRg5.out _) Try.underlying24 rfl (by rw [row_size rowT_24, Array.length_toList, (hrc'.out _).1])) ?_)
        | ((with_reducible refine at_load 24 ?_); refine wpList_value (by rfl) _ (run_load_rows _ 24 _ (by rfl) W5.heap.size 0 (by rfl) (rc dslot).toList _ (range_whole (heap_alloc_last W5 (.cells (rc dslot).toList.toArray 24))) Try.underlying24 rfl (by rw [row_size rowT_24, Array.length_toList, (hrc'.out _).1])) ?_)
        | ((with_reducible refine at_bin .eql 24 ?_); refine wpList_value (by rfl) _ (run_eql_agg _ 24 _ _ _ (by rfl) (cellsAt ds 68 32) (rc (4 * t)).toList (by rfl) (by rfl) asVal_root guard_root 10 _ leafs_root (by decide) fr'.out (hfc'.out _)) ?_; rw [hrh.out])
        | ((with_reducible refine at_bin .eql 24 ?_); refine wpList_value (by rfl) _ (run_eql_agg _ 24 _ _ _ (by rfl) (cellsAt ds 2 32) (rc dslot).toList (by rfl) (by rfl) asVal_root guard_root 10 _ leafs_root (by decide) fb'.out (hfc'.out _)) ?_; rw [hqh.out]))
      refine ret_mid_tmp rfl (w.heap.size + 1 + 1) 0 [.bool (decide (slot - dslot ≤ 2)), .bool false, .bool (false)] _ rfl (range3 (by simp [go_sem, *]) (by simp [go_sem, *]) (by simp [go_sem, *])) Try.underlying53 rfl (by rw [row_size rowT_53]; rfl) rfl ?_
      exact ⟨by rw [eqCells_comm (rc (4 * t)).toList, hrh.out, eqCells_comm (rc dslot).toList, hqh.out]; simp, (((hO5.below.setCell (by simp only; omega) _).setCell (by simp only; omega) _).setCell (by simp only; omega) _).alloc (by simp; omega) _⟩
  · cases r2
    · go_wp2_with (first
        | ((with_reducible refine at_load 42 ?_); refine wpList_value (by rfl) _ (run_load_rows _ 42 _ (by rfl) w.heap.size 1026 (by rfl) (cellsAt xs 1026 33) _ (rangeAt_cells hO2.hX 1026 33) Try.underlying42 rfl (by rw [row_size rowT_42, l1.out])) ?_)
        | ((with_reducible refine at_store 42 ?_); go_loud (refine wpList_store_mid rfl 42 _ _ rfl (w.heap.size + 1 + 1 + 1) 0 (cellsAt xs 1026 33).toArray rfl rfl (by rw [sz1.out]; exact hTh2'.out) (by rw [row_size rowT_42, sz1.out]) o1.out ?_)
           go_loud (refine gen_l (fun W3 => OwnF w.heap.size w xs ds 49 51 W3 ∧ W3.rangeAt (w.heap.size + 1 + 1 + 1) 0 (cellsAt xs 1026 33)) ⟨hO2.setCells _ _ _ (Nat.le_refl _), World.rangeAt_setCells_same _ _ _ _ (by rw [l1.out]; exact hTh2'.out)⟩ ?_)
           rintro W3 ⟨hO3, hRg3⟩
           have hRg3' := Lib.hid hRg3
           clear hRg3
           have hs3 := hO3.size
           have hp3 : w.heap.size < W3.heap.size := by omega
           have hq3 : w.heap.size + 1 < W3.heap.size := by omega
           have hr3q : w.heap.size + 1 + 1 < W3.heap.size := by omega
           have cx3 := (cell_of_row W3 _ 33 xs _ _ hO3.hX).trans f33
           have cd3 := (cell_of_row W3 _ 0 ds _ _ hO3.hD).trans d0
           have ce3 := (cell_of_row W3 _ 67 ds _ _ hO3.hD).trans d67
           have u03 := hO3.v0
           have u13 := hO3.v1
           have u23 := hO3.v2
           have t03 := hO3.z0
           have t13 := hO3.z1
           have t23 := hO3.z2)
        | ((with_reducible refine at_load 42 ?_); refine wpList_value (by rfl) _ (run_load_rows _ 42 _ (by rfl) (w.heap.size + 1) 34 (by rfl) (cellsAt ds 34 33) _ (rangeAt_cells hO3.hD 34 33) Try.underlying42 rfl (by rw [row_size rowT_42, l2.out])) ?_)
        | ((with_reducible refine at_load 42 ?_); refine wpList_value (by rfl) _ (run_load_rows _ 42 _ (by rfl) (w.heap.size + 1 + 1 + 1) 0 (by rfl) (cellsAt xs 1026 33) _ hRg3'.out Try.underlying42 rfl (by rw [row_size rowT_42, l1.out])) ?_)
        | ((with_reducible refine at_bin .neq 42 ?_); refine wpList_value (by rfl) _ (run_neq_agg _ 42 _ _ _ (by rfl) (cellsAt ds 34 33) (cellsAt xs 1026 33) (by rfl) (by rfl) asVal_ck guard_ck 10 _ leafs_ck (by decide) fg'.out ff'.out) ?_; rw [hsrc'.out])
        | ((with_reducible refine at_load 49 ?_); refine wpList_value (by rfl) _ (run_load_box _ 49 _ (by rfl) w.heap.size (by rfl) _ xs (0, 0) _ (by first | exact hO3.hX | exact heap_past _ _ _ _ hO4.hX) Try.underlying49 rfl (by rw [row_size rowT_49, hxs'.out])) ?_)
        | ((with_reducible refine (hr1.out _).mono ?_); rintro e W4 ⟨rfl, hb4⟩
           have hO4 := hO3.call (by omega) hb4
           have hs4 := hO4.size
           have hp4 : w.heap.size < W4.heap.size := by omega
           have hq4 : w.heap.size + 1 < W4.heap.size := by omega
           have hr4q : w.heap.size + 1 + 1 < W4.heap.size := by omega
           have cx4 := (cell_of_row W4 _ 33 xs _ _ hO4.hX).trans f33
           have cd4 := (cell_of_row W4 _ 0 ds _ _ hO4.hD).trans d0
           have ce4 := (cell_of_row W4 _ 67 ds _ _ hO4.hD).trans d67
           have u04 := hO4.v0
           have u14 := hO4.v1
           have u24 := hO4.v2
           have t04 := hO4.z0
           have t14 := hO4.z1
           have t24 := hO4.z2)
        | ((with_reducible refine (hr2.out _).mono ?_); rintro e W5 ⟨rfl, hb5⟩
           have hO5 := (hO4.alloc (by omega) (.cells (rc (4 * t)) 24)).call (by simp only [World.size_alloc]; omega) hb5
           have hRg5 := Lib.hid (range_block (range_whole (heap_alloc_last W4 (.cells (rc (4 * t)).toList.toArray 24))) (hb5.block W4.heap.size (by simp)))
           have hs5 := hO5.size
           have hp5 : w.heap.size < W5.heap.size := by omega
           have hq5 : w.heap.size + 1 < W5.heap.size := by omega
           have hr5q : w.heap.size + 1 + 1 < W5.heap.size := by omega
           have cx5 := (cell_of_row W5 _ 33 xs _ _ hO5.hX).trans f33
           have cd5 := (cell_of_row W5 _ 0 ds _ _ hO5.hD).trans d0
           have ce5 := (cell_of_row W5 _ 67 ds _ _ hO5.hD).trans d67
           have u05 := hO5.v0
           have u15 := hO5.v1
           have u25 := hO5.v2
           have t05 := hO5.z0
           have t15 := hO5.z1
           have t25 := hO5.z2)
        | ((with_reducible refine at_alloc 24 ?_); refine wpList_alloc_store rfl rfl 24 8 _ rfl rfl rfl (rc (4 * t)) rfl rfl (zeroOf Try.prog 24) (by rw [(hrc'.out _).1]; exact (row_zero rowT_24).1) (by rw [hz32.out, (hrc'.out _).1]) (hrc'.out _).2 ?_)
        | ((with_reducible refine at_alloc 24 ?_); refine wpList_alloc_store rfl rfl 24 10 _ rfl rfl rfl (rc dslot) rfl rfl (zeroOf Try.prog 24) (by rw [(hrc'.out _).1]; exact (row_zero rowT_24).1) (by rw [hz32.out, (hrc'.out _).1]) (hrc'.out _).2 ?_)
        | ((with_reducible refine at_load 24 ?_); refine wpList_value (by rfl) _ (run_load_rows _ 24 _ (by rfl) (w.heap.size + 1) 68 (by rfl) (cellsAt ds 68 32) _ (rangeAt_cells (heap_past _ _ _ _ hO5.hD) 68 32) Try.underlying24 rfl (by rw [row_size rowT_24, l3.out])) ?_)
        | ((with_reducible refine at_load 24 ?_); refine wpList_value (by rfl) _ (run_load_rows _ 24 _ (by rfl) (w.heap.size + 1) 2 (by rfl) (cellsAt ds 2 32) _ (rangeAt_cells (heap_past _ _ _ _ hO5.hD) 2 32) Try.underlying24 rfl (by rw [row_size rowT_24, l4.out])) ?_)
        | ((with_reducible refine at_load 24 ?_); refine wpList_value (by rfl) _ (run_load_rows _ 24 _ (by rfl) W4.heap.size 0 (by rfl) (rc (4 * t)).toList _ (World.rangeAt_alloc hRg5.out _) Try.underlying24 rfl (by rw [row_size rowT_24, Array.length_toList, (hrc'.out _).1])) ?_)
        | ((with_reducible refine at_load 24 ?_); refine wpList_value (by rfl) _ (run_load_rows _ 24 _ (by rfl) W5.heap.size 0 (by rfl) (rc dslot).toList _ (range_whole (heap_alloc_last W5 (.cells (rc dslot).toList.toArray 24))) Try.underlying24 rfl (by rw [row_size rowT_24, Array.length_toList, (hrc'.out _).1])) ?_)
        | ((with_reducible refine at_bin .eql 24 ?_); refine wpList_value (by rfl) _ (run_eql_agg _ 24 _ _ _ (by rfl) (cellsAt ds 68 32) (rc (4 * t)).toList (by rfl) (by rfl) asVal_root guard_root 10 _ leafs_root (by decide) fr'.out (hfc'.out _)) ?_; rw [hrh.out])
        | ((with_reducible refine at_bin .eql 24 ?_); refine wpList_value (by rfl) _ (run_eql_agg _ 24 _ _ _ (by rfl) (cellsAt ds 2 32) (rc dslot).toList (by rfl) (by rfl) asVal_root guard_root 10 _ leafs_root (by decide) fb'.out (hfc'.out _)) ?_; rw [hqh.out]))
      refine ret_mid_tmp rfl (w.heap.size + 1 + 1) 0 [.bool (decide (slot - dslot ≤ 2)), .bool true, .bool (false)] _ rfl (range3 (by simp [go_sem, *]) (by simp [go_sem, *]) (by simp [go_sem, *])) Try.underlying53 rfl (by rw [row_size rowT_53]; rfl) rfl ?_
      exact ⟨by rw [eqCells_comm (rc (4 * t)).toList, hrh.out, eqCells_comm (rc dslot).toList, hqh.out]; simp, (((hO5.below.setCell (by simp only; omega) _).setCell (by simp only; omega) _).setCell (by simp only; omega) _).alloc (by simp; omega) _⟩
    · go_wp2_with (first
        | ((with_reducible refine at_load 42 ?_); refine wpList_value (by rfl) _ (run_load_rows _ 42 _ (by rfl) w.heap.size 1026 (by rfl) (cellsAt xs 1026 33) _ (rangeAt_cells hO2.hX 1026 33) Try.underlying42 rfl (by rw [row_size rowT_42, l1.out])) ?_)
        | ((with_reducible refine at_store 42 ?_); go_loud (refine wpList_store_mid rfl 42 _ _ rfl (w.heap.size + 1 + 1 + 1) 0 (cellsAt xs 1026 33).toArray rfl rfl (by rw [sz1.out]; exact hTh2'.out) (by rw [row_size rowT_42, sz1.out]) o1.out ?_)
           go_loud (refine gen_l (fun W3 => OwnF w.heap.size w xs ds 49 51 W3 ∧ W3.rangeAt (w.heap.size + 1 + 1 + 1) 0 (cellsAt xs 1026 33)) ⟨hO2.setCells _ _ _ (Nat.le_refl _), World.rangeAt_setCells_same _ _ _ _ (by rw [l1.out]; exact hTh2'.out)⟩ ?_)
           rintro W3 ⟨hO3, hRg3⟩
           have hRg3' := Lib.hid hRg3
           clear hRg3
           have hs3 := hO3.size
           have hp3 : w.heap.size < W3.heap.size := by omega
           have hq3 : w.heap.size + 1 < W3.heap.size := by omega
           have hr3q : w.heap.size + 1 + 1 < W3.heap.size := by omega
           have cx3 := (cell_of_row W3 _ 33 xs _ _ hO3.hX).trans f33
           have cd3 := (cell_of_row W3 _ 0 ds _ _ hO3.hD).trans d0
           have ce3 := (cell_of_row W3 _ 67 ds _ _ hO3.hD).trans d67
           have u03 := hO3.v0
           have u13 := hO3.v1
           have u23 := hO3.v2
           have t03 := hO3.z0
           have t13 := hO3.z1
           have t23 := hO3.z2)
        | ((with_reducible refine at_load 42 ?_); refine wpList_value (by rfl) _ (run_load_rows _ 42 _ (by rfl) (w.heap.size + 1) 34 (by rfl) (cellsAt ds 34 33) _ (rangeAt_cells hO3.hD 34 33) Try.underlying42 rfl (by rw [row_size rowT_42, l2.out])) ?_)
        | ((with_reducible refine at_load 42 ?_); refine wpList_value (by rfl) _ (run_load_rows _ 42 _ (by rfl) (w.heap.size + 1 + 1 + 1) 0 (by rfl) (cellsAt xs 1026 33) _ hRg3'.out Try.underlying42 rfl (by rw [row_size rowT_42, l1.out])) ?_)
        | ((with_reducible refine at_bin .neq 42 ?_); refine wpList_value (by rfl) _ (run_neq_agg _ 42 _ _ _ (by rfl) (cellsAt ds 34 33) (cellsAt xs 1026 33) (by rfl) (by rfl) asVal_ck guard_ck 10 _ leafs_ck (by decide) fg'.out ff'.out) ?_; rw [hsrc'.out])
        | ((with_reducible refine at_load 49 ?_); refine wpList_value (by rfl) _ (run_load_box _ 49 _ (by rfl) w.heap.size (by rfl) _ xs (0, 0) _ (by first | exact hO3.hX | exact heap_past _ _ _ _ hO4.hX) Try.underlying49 rfl (by rw [row_size rowT_49, hxs'.out])) ?_)
        | ((with_reducible refine (hr1.out _).mono ?_); rintro e W4 ⟨rfl, hb4⟩
           have hO4 := hO3.call (by omega) hb4
           have hs4 := hO4.size
           have hp4 : w.heap.size < W4.heap.size := by omega
           have hq4 : w.heap.size + 1 < W4.heap.size := by omega
           have hr4q : w.heap.size + 1 + 1 < W4.heap.size := by omega
           have cx4 := (cell_of_row W4 _ 33 xs _ _ hO4.hX).trans f33
           have cd4 := (cell_of_row W4 _ 0 ds _ _ hO4.hD).trans d0
           have ce4 := (cell_of_row W4 _ 67 ds _ _ hO4.hD).trans d67
           have u04 := hO4.v0
           have u14 := hO4.v1
           have u24 := hO4.v2
           have t04 := hO4.z0
           have t14 := hO4.z1
           have t24 := hO4.z2)
        | ((with_reducible refine (hr2.out _).mono ?_); rintro e W5 ⟨rfl, hb5⟩
           have hO5 := (hO4.alloc (by omega) (.cells (rc (4 * t)) 24)).call (by simp only [World.size_alloc]; omega) hb5
           have hRg5 := Lib.hid (range_block (range_whole (heap_alloc_last W4 (.cells (rc (4 * t)).toList.toArray 24))) (hb5.block W4.heap.size (by simp)))
           have hs5 := hO5.size
           have hp5 : w.heap.size < W5.heap.size := by omega
           have hq5 : w.heap.size + 1 < W5.heap.size := by omega
           have hr5q : w.heap.size + 1 + 1 < W5.heap.size := by omega
           have cx5 := (cell_of_row W5 _ 33 xs _ _ hO5.hX).trans f33
           have cd5 := (cell_of_row W5 _ 0 ds _ _ hO5.hD).trans d0
           have ce5 := (cell_of_row W5 _ 67 ds _ _ hO5.hD).trans d67
           have u05 := hO5.v0
           have u15 := hO5.v1
           have u25 := hO5.v2
           have t05 := hO5.z0
           have t15 := hO5.z1
           have t25 := hO5.z2)
        | ((with_reducible refine at_alloc 24 ?_); refine wpList_alloc_store rfl rfl 24 8 _ rfl rfl rfl (rc (4 * t)) rfl rfl (zeroOf Try.prog 24) (by rw [(hrc'.out _).1]; exact (row_zero rowT_24).1) (by rw [hz32.out, (hrc'.out _).1]) (hrc'.out _).2 ?_)
        | ((with_reducible refine at_alloc 24 ?_); refine wpList_alloc_store rfl rfl 24 10 _ rfl rfl rfl (rc dslot) rfl rfl (zeroOf Try.prog 24) (by rw [(hrc'.out _).1]; exact (row_zero rowT_24).1) (by rw [hz32.out, (hrc'.out _).1]) (hrc'.out _).2 ?_)
        | ((with_reducible refine at_load 24 ?_); refine wpList_value (by rfl) _ (run_load_rows _ 24 _ (by rfl) (w.heap.size + 1) 68 (by rfl) (cellsAt ds 68 32) _ (rangeAt_cells (heap_past _ _ _ _ hO5.hD) 68 32) Try.underlying24 rfl (by rw [row_size rowT_24, l3.out])) ?_)
        | ((with_reducible refine at_load 24 ?_); refine wpList_value (by rfl) _ (run_load_rows _ 24 _ (by rfl) (w.heap.size + 1) 2 (by rfl) (cellsAt ds 2 32) _ (rangeAt_cells (heap_past _ _ _ _ hO5.hD) 2 32) Try.underlying24 rfl (by rw [row_size rowT_24, l4.out])) ?_)
        | ((with_reducible refine at_load 24 ?_); refine wpList_value (by rfl) _ (run_load_rows _ 24 _ (by rfl) W4.heap.size 0 (by rfl) (rc (4 * t)).toList _ (World.rangeAt_alloc hRg5.out _) Try.underlying24 rfl (by rw [row_size rowT_24, Array.length_toList, (hrc'.out _).1])) ?_)
        | ((with_reducible refine at_load 24 ?_); refine wpList_value (by rfl) _ (run_load_rows _ 24 _ (by rfl) W5.heap.size 0 (by rfl) (rc dslot).toList _ (range_whole (heap_alloc_last W5 (.cells (rc dslot).toList.toArray 24))) Try.underlying24 rfl (by rw [row_size rowT_24, Array.length_toList, (hrc'.out _).1])) ?_)
        | ((with_reducible refine at_bin .eql 24 ?_); refine wpList_value (by rfl) _ (run_eql_agg _ 24 _ _ _ (by rfl) (cellsAt ds 68 32) (rc (4 * t)).toList (by rfl) (by rfl) asVal_root guard_root 10 _ leafs_root (by decide) fr'.out (hfc'.out _)) ?_; rw [hrh.out])
        | ((with_reducible refine at_bin .eql 24 ?_); refine wpList_value (by rfl) _ (run_eql_agg _ 24 _ _ _ (by rfl) (cellsAt ds 2 32) (rc dslot).toList (by rfl) (by rfl) asVal_root guard_root 10 _ leafs_root (by decide) fb'.out (hfc'.out _)) ?_; rw [hqh.out]))
      refine ret_mid_tmp rfl (w.heap.size + 1 + 1) 0 [.bool (decide (slot - dslot ≤ 2)), .bool true, .bool (slot - dslot == 1)] _ rfl (range3 (by simp [go_sem, *]) (by simp [go_sem, *]) (by simp [go_sem, *])) Try.underlying53 rfl (by rw [row_size rowT_53]; rfl) rfl ?_
      exact ⟨by rw [eqCells_comm (rc (4 * t)).toList, hrh.out, eqCells_comm (rc dslot).toList, hqh.out]; simp, (((hO5.below.setCell (by simp only; omega) _).setCell (by simp only; omega) _).setCell (by simp only; omega) _).alloc (by simp; omega) _⟩
end Go.Proofs.Ytbfmbgeibhkheaa
