/- worth of the program, of the epoch before. -/
import Derived.Test.YtbfmbgeibhkheaaWorth
namespace Go.Proofs.Ytbfmbgeibhkheaa
open Go.RowKit BigFrame
set_option maxRecDepth 100000

set_option maxHeartbeats 4000000 in
theorem worth_goodF (bx bd : Nat) (xs ds : Array Value) (fx fd : Nat × Nat) (slot dslot t : Int) (w : World) (hX : w.heap[bx]? = some (.cells xs 49 fx)) (hD : w.heap[bd]? = some (.cells ds 51 fd))
    (hxs : xs.size = 1957) (hds : ds.size = 100)
    (f33 : xs[33]? = some (.int .u64 slot)) (g33 : 0 ≤ slot ∧ slot ≤ 18446744073709551615)
    (d0 : ds[0]? = some (.int .u64 dslot)) (b0 : 0 ≤ dslot ∧ dslot ≤ 18446744073709551615) (d67 : ds[67]? = some (.int .u64 t)) (hlt : dslot < slot) (ht : 0 ≤ t) (ht4 : 4 * t ≤ 18446744073709551615)
    (ff : ∀ o, o = 993 ∨ o = 1026 → fits ((List.range 33).map fun j => (ckK j).lk) (cellsAt xs o 33)) (fg : fits ((List.range 33).map fun j => (ckK j).lk) (cellsAt ds 34 33))
    (hsrc : eqCells (cellsAt xs 993 33) (cellsAt ds 34 33) = true)
    (fr : fits ((List.range 32).map fun j => (u8K j).lk) (cellsAt ds 68 32)) (fb : fits ((List.range 32).map fun j => (u8K j).lk) (cellsAt ds 2 32)) (rc : Int → Array Value) (re : Int → Int) (hfc : ∀ k, fits ((List.range 32).map fun j => (u8K j).lk) (rc k).toList) (hrc : ∀ k, (rc k).size = 32 ∧ (rc k).all (·.oneCell') = true) (hroot : ∀ k w, 0 ≤ k → k ≤ 18446744073709551615 → Calls Try.prog 19 #[.agg xs, .int .u64 k] w fun e w' => e = .returned (.tuple #[.agg (rc k), .int .i64 (re k)]) ∧ Below w.heap.size w w') :
    Calls Try.prog 11 #[.pointer (some ⟨bx, 0, none⟩), .pointer (some ⟨bd, 0, none⟩), .bool false] w fun e w' => e = .returned (.tuple #[.agg #[.bool (decide (slot - dslot ≤ 2)), .bool (eqCells (rc (4 * t)).toList (cellsAt ds 68 32)), .bool (eqCells (rc (4 * t)).toList (cellsAt ds 68 32) && (eqCells (rc dslot).toList (cellsAt ds 2 32) && (slot - dslot == 1)))], .int .i64 0]) ∧ Below w.heap.size w w' := by
  have l1 := Lib.hid (cellsAt_length xs 993 33 (by omega))
  have l3 := Lib.hid (cellsAt_length ds 68 32 (by omega))
  have l4 := Lib.hid (cellsAt_length ds 2 32 (by omega))
  have fr' := Lib.hid fr
  have fb' := Lib.hid fb
  have hfc' := Lib.hid hfc
  have l2 := Lib.hid (cellsAt_length ds 34 33 (by omega))
  have hsrc' := Lib.hid hsrc
  have ff' := Lib.hid (ff 993 (Or.inl rfl))
  have fg' := Lib.hid fg
  have hX' := Lib.hid hX
  have hD' := Lib.hid hD
  have cx := (cell_of_row w bx 33 xs _ _ hX).trans f33
  have cd0 := (cell_of_row w bd 0 ds _ _ hD).trans d0
  have cd67 := (cell_of_row w bd 67 ds _ _ hD).trans d67
  have hbx := block_lt_of_cell cx
  have hbd := block_lt_of_cell cd0
  simp only at hbx hbd
  have hxs' := Lib.hid hxs
  have hload : ∀ w' : World, w'.heap[bx]? = some (.cells xs 49 fx) → (Instr.loadAt 49 (.pointer (some ⟨bx, 0, none⟩))).run Try.prog w' = .ok (.agg xs) w' := fun w' hh => by
    simp only [Instr.loadAt, Instr.sureAddr, Sem.run_bind, Sem.run_pure, Result.andThen_ok, run_loadVar_row w' bx _ _ xs _ _ hh Try.underlying49 rfl (by rw [row_size rowT_49, hxs])]
  have hr1 := Lib.hid (fun w => hroot (4 * t) w (by omega) ht4)
  have hr2 := Lib.hid (fun w => hroot dslot w b0.1 b0.2)
  have hrc' := Lib.hid hrc
  have hz32 := Lib.hid (row_zero rowT_24).2
  have hw4 : IntKind.u64.wrap (4 * t) = 4 * t := IntWalk.u64_in _ (by omega)
  clear ff fg hsrc hxs hds hX hD f33 d0 d67 hroot hrc fr fb hfc
  go_enter Try.func11, Try.ntmps11
  go_wp2
  refine wp_region_quiet_lit (by kernel_rfl) (by kernel_rfl) ?_
  repeat (first
    | go_big_quiet_skip
    | (go_big_quiet_want; first | ((first
    | ((with_reducible refine quiet_at_load 42 ?_); refine quiet_value _ (fun w' hw' => run_load_rows w' 42 _ rfl bx 993 rfl (cellsAt xs 993 33) _ (by obtain ⟨n, rfl⟩ := hw'; exact rangeAt_cells (heap_past _ _ _ _ hX'.out) 993 33) Try.underlying42 rfl (by rw [row_size rowT_42, l1.out])) ?_)
    | ((with_reducible refine quiet_at_load 42 ?_); refine quiet_value _ (fun w' hw' => run_load_rows w' 42 _ rfl bd 34 rfl (cellsAt ds 34 33) _ (by obtain ⟨n, rfl⟩ := hw'; exact rangeAt_cells (heap_past _ _ _ _ hD'.out) 34 33) Try.underlying42 rfl (by rw [row_size rowT_42, l2.out])) ?_)
    | ((with_reducible refine quiet_at_bin .neq 42 ?_); refine quiet_value _ (fun w' hw' => run_neq_agg w' 42 _ _ _ rfl (cellsAt xs 993 33) (cellsAt ds 34 33) rfl rfl asVal_ck guard_ck 10 _ leafs_ck (by decide) ff'.out fg'.out) ?_; rw [hsrc'.out])); (simp only [Act.put, List.setIfInBounds_toArray, List.set_cons_zero, List.set_cons_succ]); go_big_quiet_on) | (go_big_quiet_op; go_big_quiet_on)))
  refine wpQuiet_nil ?_
  intro _ hw'
  obtain ⟨nq, hw''⟩ := hw'
  subst hw''
  go_wp2
  refine wp_region_quiet_lit (by kernel_rfl) (by kernel_rfl) ?_
  repeat (first
    | go_big_quiet_skip
    | (go_big_quiet_want; first | ((fail); (simp only [Act.put, List.setIfInBounds_toArray, List.set_cons_zero, List.set_cons_succ]); go_big_quiet_on) | (go_big_quiet_op; go_big_quiet_on)))
  refine wpQuiet_nil ?_
  intro _ hw'
  obtain ⟨nq, hw''⟩ := hw'
  subst hw''
  go_wp2_with ((with_reducible refine (two_any _).mono ?_); rintro e w' ⟨rfl, rfl⟩)
  refine gen_world (fun W => Below w.heap.size w W ∧ W.heap.size = w.heap.size + 1 ∧ W.cell? ⟨w.heap.size, 0, none⟩ = some (.bool (decide (slot - dslot ≤ 2))) ∧ W.cell? ⟨w.heap.size, 1, none⟩ = some (.bool false) ∧ W.cell? ⟨w.heap.size, 2, none⟩ = some (.bool false) ∧ W.frozen? ⟨w.heap.size, 0, none⟩ = false ∧ W.frozen? ⟨w.heap.size, 1, none⟩ = false ∧ W.frozen? ⟨w.heap.size, 2, none⟩ = false) ?_ ?_
  · exact ⟨(((Below.refl _ _).alloc (Nat.le_refl _) _).trans ((drewN_below _ _).mono (by simp))).setCell (Nat.le_refl _) _, by simp, by simp [go_sem], by simp [go_sem], by simp [go_sem], by simp [go_sem], by simp [go_sem], by simp [go_sem]⟩
  rintro W ⟨hW, hWs, v0, v1, v2, z0, z1, z2⟩
  refine wp_region_held (S := Apart W.heap.size W) (by kernel_rfl) ?_
  have hS := Apart.begin W.heap.size W
  refine takeL (i := 0) (v := (.pointer (some ⟨bx, 0, none⟩))) rfl (by kernel_rfl) (by kernel_rfl) (by kernel_rfl) (fun _ _ _ h => h) rfl (by assumption) (fun w' _ => run_move1 _ (by rfl) _ (by rfl) w') ?_
  simp only [Act.put, List.setIfInBounds_toArray, List.set_cons_zero, List.set_cons_succ]
  refine takeL (i := 1) (v := (.pointer (some ⟨bx, 0, none⟩))) rfl (by kernel_rfl) (by kernel_rfl) (by kernel_rfl) (fun _ _ _ h => h) rfl (by assumption) (fun w' _ => run_nilCheck _ (by rfl) _ (by rfl) w') ?_
  simp only [Act.put, List.setIfInBounds_toArray, List.set_cons_zero, List.set_cons_succ]
  refine takeL (i := 2) (v := (.agg xs)) rfl (by kernel_rfl) (by kernel_rfl) (by kernel_rfl) (fun _ _ _ h => h) rfl (by assumption) (fun w' hs => run_load_box w' _ _ (by rfl) bx (by rfl) _ xs fx _ (by rw [hs.block bx (by omega) (by omega), hW.block bx hbx]; exact hX'.out) Try.underlying49 rfl (by rw [row_size rowT_49, hxs'.out])) ?_
  simp only [Act.put, List.setIfInBounds_toArray, List.set_cons_zero, List.set_cons_succ]
  refine takeL (i := 3) (v := (.pointer (some ⟨bd, 0, none⟩))) rfl (by kernel_rfl) (by kernel_rfl) (by kernel_rfl) (fun _ _ _ h => h) rfl (by assumption) (fun w' _ => run_move1 _ (by rfl) _ (by rfl) w') ?_
  simp only [Act.put, List.setIfInBounds_toArray, List.set_cons_zero, List.set_cons_succ]
  refine takeL (i := 4) (v := (.pointer (some ⟨bd, 0, none⟩))) rfl (by kernel_rfl) (by kernel_rfl) (by kernel_rfl) (fun _ _ _ h => h) rfl (by assumption) (fun w' _ => run_nilCheck _ (by rfl) _ (by rfl) w') ?_
  simp only [Act.put, List.setIfInBounds_toArray, List.set_cons_zero, List.set_cons_succ]
  refine takeL (i := 5) (v := (.pointer (some ⟨bd, 67, none⟩))) rfl (by kernel_rfl) (by kernel_rfl) (by kernel_rfl) (fun _ _ _ h => h) rfl (by assumption) (fun w' hS' => by go_simp) ?_
  simp only [Act.put, List.setIfInBounds_toArray, List.set_cons_zero, List.set_cons_succ]
  refine takeL (i := 6) (v := (.pointer (some ⟨bd, 67, none⟩))) rfl (by kernel_rfl) (by kernel_rfl) (by kernel_rfl) (fun _ _ _ h => h) rfl (by assumption) (fun w' hS' => by go_simp) ?_
  simp only [Act.put, List.setIfInBounds_toArray, List.set_cons_zero, List.set_cons_succ]
  refine takeL (i := 7) (v := (.int .u64 t)) rfl (by kernel_rfl) (by kernel_rfl) (by kernel_rfl) (fun _ _ _ h => h) rfl (by assumption) (fun w' hs => run_load_cell w' _ _ (by rfl) _ (by rfl) _ (by rw [hs.cell (by simp only; omega) (by simp only; omega), hW.cell (by exact hbd)]; exact cd67) _ Try.underlying22 rfl) ?_
  simp only [Act.put, List.setIfInBounds_toArray, List.set_cons_zero, List.set_cons_succ]
  refine takeL (i := 8) (v := (.int .u64 (4 * t))) rfl (by kernel_rfl) (by kernel_rfl) (by kernel_rfl) (fun _ _ _ h => h) rfl (by assumption) (fun w' hS' => by go_simp) ?_
  simp only [Act.put, List.setIfInBounds_toArray, List.set_cons_zero, List.set_cons_succ]
  refine twoL (i := 9) (k := 13) rfl rfl (by kernel_rfl) rfl rfl ?_ ?_
  refine wp_call 19 #[.agg xs, .int .u64 (4 * t)] (by go_simp) _ _ (hr1.out _) ?_
  intro w1 hb1
  have hS1 := hS.call hb1
  refine ⟨hS1, ?_⟩
  clear hS
  simp only [Act.put, List.setIfInBounds_toArray, List.set_cons_zero, List.set_cons_succ]
  refine takeL (i := 10) (v := (.tuple #[.agg (rc (4 * t)), .int .i64 (re (4 * t))])) rfl (by kernel_rfl) (by kernel_rfl) (by kernel_rfl) (fun _ _ _ h => h) rfl (by assumption) (fun w' _ => run_move1 _ (by rfl) _ (by rfl) w') ?_
  simp only [Act.put, List.setIfInBounds_toArray, List.set_cons_zero, List.set_cons_succ]
  refine takeL (i := 11) (v := (.agg (rc (4 * t)))) rfl (by kernel_rfl) (by kernel_rfl) (by kernel_rfl) (fun _ _ _ h => h) rfl (by assumption) (fun w' _ => run_extract _ 0 (by rfl) _ (by rfl) _ (by rfl) w') ?_
  simp only [Act.put, List.setIfInBounds_toArray, List.set_cons_zero, List.set_cons_succ]
  refine takeL (i := 12) (v := (.int .i64 (re (4 * t)))) rfl (by kernel_rfl) (by kernel_rfl) (by kernel_rfl) (fun _ _ _ h => h) rfl (by assumption) (fun w' _ => run_extract _ 1 (by rfl) _ (by rfl) _ (by rfl) w') ?_
  simp only [Act.put, List.setIfInBounds_toArray, List.set_cons_zero, List.set_cons_succ]
  refine oneL (i := 13) rfl (by kernel_rfl) rfl (wp_alloc_row 24 rfl 10 rfl (zeroOf Try.prog 24) 32 (row_zero rowT_24).1 ?_)
  have hS2 := hS1.alloc (.cells (zeroOf Try.prog 24) 24)
  refine ⟨hS2, ?_⟩
  have hth := there_new w1 (zeroOf Try.prog 24) 24
  rw [hz32.out] at hth
  simp only [Act.put, List.setIfInBounds_toArray, List.set_cons_zero, List.set_cons_succ]
  refine oneL (i := 14) rfl (by kernel_rfl) rfl (wp_store_mid 24 _ _ rfl w1.heap.size 0 (rc (4 * t)) rfl rfl (by rw [(hrc'.out _).1]; exact hth) (by rw [row_size rowT_24, (hrc'.out _).1]) (hrc'.out _).2 ?_)
  have hS3 := hS2.setCells w1.heap.size 0 (rc (4 * t)).toList (Or.inr hS1.size)
  refine ⟨hS3, ?_⟩
  simp only [Act.put]
  refine takeL (i := 15) (v := (.int .i64 (re (4 * t)))) rfl (by kernel_rfl) (by kernel_rfl) (by kernel_rfl) (fun _ _ _ h => h) rfl (by assumption) (fun w' _ => run_assign1 _ (by rfl) _ (by rfl) w') ?_
  simp only [Act.put, List.setIfInBounds_toArray, List.set_cons_zero, List.set_cons_succ]
  refine wpAnyH_done (by kernel_rfl) ?_ _
  refine gen_q (fun W2 => Below w.heap.size w W2 ∧ w1.heap.size < W2.heap.size ∧ w.heap.size < w1.heap.size ∧ W2.there w1.heap.size 0 32 ∧ W2.rangeAt w1.heap.size 0 (rc (4 * t)).toList ∧ W2.cell? ⟨w.heap.size, 0, none⟩ = some (.bool (decide (slot - dslot ≤ 2))) ∧ W2.cell? ⟨w.heap.size, 1, none⟩ = some (.bool false) ∧ W2.cell? ⟨w.heap.size, 2, none⟩ = some (.bool false) ∧ W2.frozen? ⟨w.heap.size, 0, none⟩ = false ∧ W2.frozen? ⟨w.heap.size, 1, none⟩ = false ∧ W2.frozen? ⟨w.heap.size, 2, none⟩ = false) (by
    have hsz := hS1.size
    exact ⟨hS3.below hW (by omega) (by omega), by rw [(block_setCells _ _ _ _).1]; simp, by omega, World.there_setCells hth _ _ _, World.rangeAt_setCells_same _ _ _ _ (by rw [Array.length_toList, (hrc'.out _).1]; exact hth), by rw [hS3.cell (by simp only; omega) (by simp only; omega)]; exact v0, by rw [hS3.cell (by simp only; omega) (by simp only; omega)]; exact v1, by rw [hS3.cell (by simp only; omega) (by simp only; omega)]; exact v2, by rw [hS3.frozen (by simp only; omega) (by simp only; omega)]; exact z0, by rw [hS3.frozen (by simp only; omega) (by simp only; omega)]; exact z1, by rw [hS3.frozen (by simp only; omega) (by simp only; omega)]; exact z2⟩
    ) ?_
  generalize w1.heap.size = B
  rotate_left
  refine wp_alloc_row 24 rfl 10 rfl (zeroOf Try.prog 24) 32 (row_zero rowT_24).1 ?_
  have hS2 := hS.alloc (.cells (zeroOf Try.prog 24) 24)
  refine ⟨hS2, ?_⟩
  have hth0 := there_new { W with drawn := W.drawn + 1 } (zeroOf Try.prog 24) 24
  rw [hz32.out] at hth0
  simp only [Act.put, List.setIfInBounds_toArray, List.set_cons_zero, List.set_cons_succ]
  refine oneL (i := 9) rfl (by kernel_rfl) rfl (wp_call 19 #[.agg xs, .int .u64 (4 * t)] (by go_simp) _ _ (hr1.out _) ?_)
  intro w1 hb1
  have hS1 := hS2.call hb1
  have hth := there_later hth0 (by simp) hb1
  have hsz1 := hb1.size
  simp only [World.size_alloc] at hsz1
  refine ⟨hS1, ?_⟩
  clear hS hS2 hth0
  simp only [Act.put, List.setIfInBounds_toArray, List.set_cons_zero, List.set_cons_succ]
  refine takeL (i := 10) (v := (.tuple #[.agg (rc (4 * t)), .int .i64 (re (4 * t))])) rfl (by kernel_rfl) (by kernel_rfl) (by kernel_rfl) (fun _ _ _ h => h) rfl (by assumption) (fun w' _ => run_move1 _ (by rfl) _ (by rfl) w') ?_
  simp only [Act.put, List.setIfInBounds_toArray, List.set_cons_zero, List.set_cons_succ]
  refine takeL (i := 11) (v := (.agg (rc (4 * t)))) rfl (by kernel_rfl) (by kernel_rfl) (by kernel_rfl) (fun _ _ _ h => h) rfl (by assumption) (fun w' _ => run_extract _ 0 (by rfl) _ (by rfl) _ (by rfl) w') ?_
  simp only [Act.put, List.setIfInBounds_toArray, List.set_cons_zero, List.set_cons_succ]
  refine takeL (i := 12) (v := (.int .i64 (re (4 * t)))) rfl (by kernel_rfl) (by kernel_rfl) (by kernel_rfl) (fun _ _ _ h => h) rfl (by assumption) (fun w' _ => run_extract _ 1 (by rfl) _ (by rfl) _ (by rfl) w') ?_
  simp only [Act.put, List.setIfInBounds_toArray, List.set_cons_zero, List.set_cons_succ]
  refine oneL (i := 14) rfl (by kernel_rfl) rfl (wp_store_mid 24 _ _ rfl W.heap.size 0 (rc (4 * t)) rfl rfl (by rw [(hrc'.out _).1]; exact hth) (by rw [row_size rowT_24, (hrc'.out _).1]) (hrc'.out _).2 ?_)
  have hS3 := hS1.setCells W.heap.size 0 (rc (4 * t)).toList (Or.inl rfl)
  refine ⟨hS3, ?_⟩
  simp only [Act.put]
  refine takeL (i := 15) (v := (.int .i64 (re (4 * t)))) rfl (by kernel_rfl) (by kernel_rfl) (by kernel_rfl) (fun _ _ _ h => h) rfl (by assumption) (fun w' _ => run_assign1 _ (by rfl) _ (by rfl) w') ?_
  simp only [Act.put, List.setIfInBounds_toArray, List.set_cons_zero, List.set_cons_succ]
  refine wpAnyH_done (by kernel_rfl) ?_ _
  refine gen_q (fun W2 => Below w.heap.size w W2 ∧ W.heap.size < W2.heap.size ∧ w.heap.size < W.heap.size ∧ W2.there W.heap.size 0 32 ∧ W2.rangeAt W.heap.size 0 (rc (4 * t)).toList ∧ W2.cell? ⟨w.heap.size, 0, none⟩ = some (.bool (decide (slot - dslot ≤ 2))) ∧ W2.cell? ⟨w.heap.size, 1, none⟩ = some (.bool false) ∧ W2.cell? ⟨w.heap.size, 2, none⟩ = some (.bool false) ∧ W2.frozen? ⟨w.heap.size, 0, none⟩ = false ∧ W2.frozen? ⟨w.heap.size, 1, none⟩ = false ∧ W2.frozen? ⟨w.heap.size, 2, none⟩ = false) (by
    exact ⟨hS3.below hW (by omega) (by omega), by rw [(block_setCells _ _ _ _).1]; omega, by omega, World.there_setCells hth _ _ _, World.rangeAt_setCells_same _ _ _ _ (by rw [Array.length_toList, (hrc'.out _).1]; exact hth), by rw [hS3.cell (by simp only; omega) (by simp only; omega)]; exact v0, by rw [hS3.cell (by simp only; omega) (by simp only; omega)]; exact v1, by rw [hS3.cell (by simp only; omega) (by simp only; omega)]; exact v2, by rw [hS3.frozen (by simp only; omega) (by simp only; omega)]; exact z0, by rw [hS3.frozen (by simp only; omega) (by simp only; omega)]; exact z1, by rw [hS3.frozen (by simp only; omega) (by simp only; omega)]; exact z2⟩
    ) ?_
  generalize W.heap.size = B
  all_goals
    rintro W2 ⟨hW2, hB2, hB1, th, rg, v0', v1', v2', z0', z1', z2'⟩
    clear v0 v1 v2 z0 z1 z2 hW hWs
    have rg' := Lib.hid rg
    have th' := Lib.hid th
    clear rg th
    go_wp2
    cases hr : eqCells (rc (4 * t)).toList (cellsAt ds 68 32)
    · have hrh := Lib.hid hr
      clear hr
      refine wp_region_quiet_lit (by kernel_rfl) (by kernel_rfl) ?_
      repeat (first
        | go_big_quiet_skip
        | (go_big_quiet_want; first | ((first
        | ((with_reducible refine quiet_at_load 24 ?_); refine quiet_value _ (fun w' hw' => run_load_rows w' 24 _ rfl B 0 rfl (rc (4 * t)).toList _ (by obtain ⟨n, rfl⟩ := hw'; exact rg'.out) Try.underlying24 rfl (by rw [row_size rowT_24, Array.length_toList, (hrc'.out _).1])) ?_; simp only [Array.toArray_toList])
        | ((with_reducible refine quiet_at_load 24 ?_); refine quiet_value _ (fun w' hw' => run_load_rows w' 24 _ rfl bd 68 rfl (cellsAt ds 68 32) _ (by obtain ⟨n, rfl⟩ := hw'; exact rangeAt_cells ((hW2.block bd hbd).trans hD'.out) 68 32) Try.underlying24 rfl (by rw [row_size rowT_24, l3.out])) ?_)
        | ((with_reducible refine quiet_at_bin .neq 24 ?_); refine quiet_value _ (fun w' hw' => run_neq_agg w' 24 _ _ _ rfl (rc (4 * t)).toList (cellsAt ds 68 32) (by simp [Act.eval]) rfl asVal_root guard_root 10 _ leafs_root (by decide) (hfc'.out _) fr'.out) ?_; rw [hrh.out])); (simp only [Act.put, List.setIfInBounds_toArray, List.set_cons_zero, List.set_cons_succ]); go_big_quiet_on) | (go_big_quiet_op; go_big_quiet_on)))
      refine wpQuiet_nil ?_
      intro _ hw'
      obtain ⟨nq, hw''⟩ := hw'
      subst hw''
      go_wp2
      refine ret_mid_tmp rfl w.heap.size 0 [.bool (decide (slot - dslot ≤ 2)), .bool false, .bool false] _ rfl ?_ Try.underlying53 rfl (by rw [row_size rowT_53]; rfl) rfl ?_
      · exact range3 (by simp [go_sem, *]) (by simp [go_sem, *]) (by simp [go_sem, *])
      · exact ⟨by rw [hrh.out]; rfl, (((hW2.trans ((drewN_below _ _).mono hW2.size)).setCell (Nat.le_refl _) _).setCell (Nat.le_refl _) _).setCell (Nat.le_refl _) _⟩
    · have hrh := Lib.hid hr
      clear hr
      refine wp_region_quiet_lit (by kernel_rfl) (by kernel_rfl) ?_
      repeat (first
        | go_big_quiet_skip
        | (go_big_quiet_want; first | ((first
        | ((with_reducible refine quiet_at_load 24 ?_); refine quiet_value _ (fun w' hw' => run_load_rows w' 24 _ rfl B 0 rfl (rc (4 * t)).toList _ (by obtain ⟨n, rfl⟩ := hw'; exact rg'.out) Try.underlying24 rfl (by rw [row_size rowT_24, Array.length_toList, (hrc'.out _).1])) ?_; simp only [Array.toArray_toList])
        | ((with_reducible refine quiet_at_load 24 ?_); refine quiet_value _ (fun w' hw' => run_load_rows w' 24 _ rfl bd 68 rfl (cellsAt ds 68 32) _ (by obtain ⟨n, rfl⟩ := hw'; exact rangeAt_cells ((hW2.block bd hbd).trans hD'.out) 68 32) Try.underlying24 rfl (by rw [row_size rowT_24, l3.out])) ?_)
        | ((with_reducible refine quiet_at_bin .neq 24 ?_); refine quiet_value _ (fun w' hw' => run_neq_agg w' 24 _ _ _ rfl (rc (4 * t)).toList (cellsAt ds 68 32) (by simp [Act.eval]) rfl asVal_root guard_root 10 _ leafs_root (by decide) (hfc'.out _) fr'.out) ?_; rw [hrh.out])); (simp only [Act.put, List.setIfInBounds_toArray, List.set_cons_zero, List.set_cons_succ]); go_big_quiet_on) | (go_big_quiet_op; go_big_quiet_on)))
      refine wpQuiet_nil ?_
      intro _ hw'
      obtain ⟨nq, hw''⟩ := hw'
      subst hw''
      go_wp2
      refine gen_world (fun Wx => Below w.heap.size w Wx ∧ B < Wx.heap.size ∧ Wx.there B 0 32 ∧ Wx.cell? ⟨w.heap.size, 0, none⟩ = some (.bool (decide (slot - dslot ≤ 2))) ∧ Wx.cell? ⟨w.heap.size, 1, none⟩ = some (.bool true) ∧ Wx.cell? ⟨w.heap.size, 2, none⟩ = some (.bool false) ∧ Wx.frozen? ⟨w.heap.size, 0, none⟩ = false ∧ Wx.frozen? ⟨w.heap.size, 1, none⟩ = false ∧ Wx.frozen? ⟨w.heap.size, 2, none⟩ = false) ?_ ?_
      · have hb := Below.heap_setCell (W2.drewN nq) ⟨w.heap.size, 1, none⟩ (.bool true) B (by simp only; omega)
        exact ⟨((hW2.trans ((drewN_below _ _).mono hW2.size))).setCell (Nat.le_refl _) _, by simpa using hB2, there_block th'.out hb, by simp [go_sem, *], by simp [go_sem, *], by simp [go_sem, *], by simp [go_sem, *], by simp [go_sem, *], by simp [go_sem, *]⟩
      clear v0' v1' v2' z0' z1' z2' hB2
      rintro W3 ⟨hW3, hB3, th3, v0, v1, v2, z0, z1, z2⟩
      have hsz3 := hW3.size
      refine wp_region_held (S := Apart B W3) (by kernel_rfl) ?_
      have hS := Apart.begin B W3
      have th3' := Lib.hid (there_block (w' := { W3 with drawn := W3.drawn + 1 }) th3 rfl)
      clear th3
      refine takeL (i := 0) (v := (.pointer (some ⟨bx, 0, none⟩))) rfl (by kernel_rfl) (by kernel_rfl) (by kernel_rfl) (fun _ _ _ h => h) rfl (by assumption) (fun w' _ => run_move1 _ (by rfl) _ (by rfl) w') ?_
      simp only [Act.put, List.setIfInBounds_toArray, List.set_cons_zero, List.set_cons_succ]
      refine takeL (i := 1) (v := (.pointer (some ⟨bx, 0, none⟩))) rfl (by kernel_rfl) (by kernel_rfl) (by kernel_rfl) (fun _ _ _ h => h) rfl (by assumption) (fun w' _ => run_nilCheck _ (by rfl) _ (by rfl) w') ?_
      simp only [Act.put, List.setIfInBounds_toArray, List.set_cons_zero, List.set_cons_succ]
      refine takeL (i := 2) (v := (.agg xs)) rfl (by kernel_rfl) (by kernel_rfl) (by kernel_rfl) (fun _ _ _ h => h) rfl (by assumption) (fun w' hs => run_load_box w' _ _ (by rfl) bx (by rfl) _ xs fx _ (by rw [hs.block bx (by omega) (by omega), hW3.block bx hbx]; exact hX'.out) Try.underlying49 rfl (by rw [row_size rowT_49, hxs'.out])) ?_
      simp only [Act.put, List.setIfInBounds_toArray, List.set_cons_zero, List.set_cons_succ]
      refine takeL (i := 3) (v := (.pointer (some ⟨bd, 0, none⟩))) rfl (by kernel_rfl) (by kernel_rfl) (by kernel_rfl) (fun _ _ _ h => h) rfl (by assumption) (fun w' _ => run_move1 _ (by rfl) _ (by rfl) w') ?_
      simp only [Act.put, List.setIfInBounds_toArray, List.set_cons_zero, List.set_cons_succ]
      refine takeL (i := 4) (v := (.pointer (some ⟨bd, 0, none⟩))) rfl (by kernel_rfl) (by kernel_rfl) (by kernel_rfl) (fun _ _ _ h => h) rfl (by assumption) (fun w' _ => run_nilCheck _ (by rfl) _ (by rfl) w') ?_
      simp only [Act.put, List.setIfInBounds_toArray, List.set_cons_zero, List.set_cons_succ]
      refine takeL (i := 5) (v := (.pointer (some ⟨bd, 0, none⟩))) rfl (by kernel_rfl) (by kernel_rfl) (by kernel_rfl) (fun _ _ _ h => h) rfl (by assumption) (fun w' hS' => by go_simp) ?_
      simp only [Act.put, List.setIfInBounds_toArray, List.set_cons_zero, List.set_cons_succ]
      refine takeL (i := 6) (v := (.int .u64 dslot)) rfl (by kernel_rfl) (by kernel_rfl) (by kernel_rfl) (fun _ _ _ h => h) rfl (by assumption) (fun w' hs => run_load_cell w' _ _ (by rfl) _ (by rfl) _ (by rw [hs.cell (by simp only; omega) (by simp only; omega), hW3.cell (by exact hbd)]; exact cd0) _ Try.underlying22 rfl) ?_
      simp only [Act.put, List.setIfInBounds_toArray, List.set_cons_zero, List.set_cons_succ]
      refine oneL (i := 7) rfl (by kernel_rfl) rfl (wp_call 19 #[.agg xs, .int .u64 dslot] (by go_simp) _ _ (hr2.out _) ?_)
      intro w1 hb1
      have hS1 := hS.call hb1
      have hth := there_later th3'.out (by exact hB3) hb1
      refine ⟨hS1, ?_⟩
      clear hS
      simp only [Act.put, List.setIfInBounds_toArray, List.set_cons_zero, List.set_cons_succ]
      refine takeL (i := 8) (v := (.tuple #[.agg (rc dslot), .int .i64 (re dslot)])) rfl (by kernel_rfl) (by kernel_rfl) (by kernel_rfl) (fun _ _ _ h => h) rfl (by assumption) (fun w' _ => run_move1 _ (by rfl) _ (by rfl) w') ?_
      simp only [Act.put, List.setIfInBounds_toArray, List.set_cons_zero, List.set_cons_succ]
      refine takeL (i := 9) (v := (.agg (rc dslot))) rfl (by kernel_rfl) (by kernel_rfl) (by kernel_rfl) (fun _ _ _ h => h) rfl (by assumption) (fun w' _ => run_extract _ 0 (by rfl) _ (by rfl) _ (by rfl) w') ?_
      simp only [Act.put, List.setIfInBounds_toArray, List.set_cons_zero, List.set_cons_succ]
      refine takeL (i := 10) (v := (.int .i64 (re dslot))) rfl (by kernel_rfl) (by kernel_rfl) (by kernel_rfl) (fun _ _ _ h => h) rfl (by assumption) (fun w' _ => run_extract _ 1 (by rfl) _ (by rfl) _ (by rfl) w') ?_
      simp only [Act.put, List.setIfInBounds_toArray, List.set_cons_zero, List.set_cons_succ]
      refine oneL (i := 11) rfl (by kernel_rfl) rfl (wp_store_mid 24 _ _ rfl B 0 (rc dslot) rfl rfl (by rw [(hrc'.out _).1]; exact hth) (by rw [row_size rowT_24, (hrc'.out _).1]) (hrc'.out _).2 ?_)
      have hS3 := hS1.setCells B 0 (rc dslot).toList (Or.inl rfl)
      refine ⟨hS3, ?_⟩
      simp only [Act.put]
      refine wpAnyH_done (by kernel_rfl) ?_ _
      refine gen_q (fun Wx => Below w.heap.size w Wx ∧ B < Wx.heap.size ∧ Wx.rangeAt B 0 (rc dslot).toList ∧ Wx.cell? ⟨w.heap.size, 0, none⟩ = some (.bool (decide (slot - dslot ≤ 2))) ∧ Wx.cell? ⟨w.heap.size, 1, none⟩ = some (.bool true) ∧ Wx.cell? ⟨w.heap.size, 2, none⟩ = some (.bool false) ∧ Wx.frozen? ⟨w.heap.size, 0, none⟩ = false ∧ Wx.frozen? ⟨w.heap.size, 1, none⟩ = false ∧ Wx.frozen? ⟨w.heap.size, 2, none⟩ = false) ?_ ?_
      · exact ⟨hS3.below hW3 (by omega) hsz3, by have := hS3.size; omega, World.rangeAt_setCells_same _ _ _ _ (by rw [Array.length_toList, (hrc'.out _).1]; exact hth), by rw [hS3.cell (by simp only; omega) (by simp only; omega)]; exact v0, by rw [hS3.cell (by simp only; omega) (by simp only; omega)]; exact v1, by rw [hS3.cell (by simp only; omega) (by simp only; omega)]; exact v2, by rw [hS3.frozen (by simp only; omega) (by simp only; omega)]; exact z0, by rw [hS3.frozen (by simp only; omega) (by simp only; omega)]; exact z1, by rw [hS3.frozen (by simp only; omega) (by simp only; omega)]; exact z2⟩
      clear v0 v1 v2 z0 z1 z2 hB3 th3' hth hS1 hS3 hb1
      rintro W4 ⟨hW4, hB4, rg4, v0, v1, v2, z0, z1, z2⟩
      have hsz4 := hW4.size
      have rg4' := Lib.hid rg4
      clear rg4
      go_wp2
      cases hq : eqCells (rc dslot).toList (cellsAt ds 2 32)
      · have hqh := Lib.hid hq
        clear hq
        refine wp_region_held (S := Apart w.heap.size W4) (by kernel_rfl) ?_
        have hS := Apart.begin w.heap.size W4
        refine takeL (i := 0) (v := (.agg (rc dslot).toList.toArray)) rfl (by kernel_rfl) (by kernel_rfl) (by kernel_rfl) (fun _ _ _ h => h) rfl (by assumption) (fun w' hs => run_load_rows w' _ _ (by rfl) B 0 (by rfl) (rc dslot).toList _ (range_block rg4'.out (hs.block B hB4 (by omega))) Try.underlying24 rfl (by rw [row_size rowT_24, Array.length_toList, (hrc'.out _).1])) ?_
        simp only [Act.put, List.setIfInBounds_toArray, List.set_cons_zero, List.set_cons_succ]
        refine takeL (i := 1) (v := (.pointer (some ⟨bd, 0, none⟩))) rfl (by kernel_rfl) (by kernel_rfl) (by kernel_rfl) (fun _ _ _ h => h) rfl (by assumption) (fun w' _ => run_move1 _ (by rfl) _ (by rfl) w') ?_
        simp only [Act.put, List.setIfInBounds_toArray, List.set_cons_zero, List.set_cons_succ]
        refine takeL (i := 2) (v := (.pointer (some ⟨bd, 0, none⟩))) rfl (by kernel_rfl) (by kernel_rfl) (by kernel_rfl) (fun _ _ _ h => h) rfl (by assumption) (fun w' _ => run_nilCheck _ (by rfl) _ (by rfl) w') ?_
        simp only [Act.put, List.setIfInBounds_toArray, List.set_cons_zero, List.set_cons_succ]
        refine takeL (i := 3) (v := (.pointer (some ⟨bd, 2, none⟩))) rfl (by kernel_rfl) (by kernel_rfl) (by kernel_rfl) (fun _ _ _ h => h) rfl (by assumption) (fun w' hS' => by go_simp) ?_
        simp only [Act.put, List.setIfInBounds_toArray, List.set_cons_zero, List.set_cons_succ]
        refine takeL (i := 4) (v := (.agg (cellsAt ds 2 32).toArray)) rfl (by kernel_rfl) (by kernel_rfl) (by kernel_rfl) (fun _ _ _ h => h) rfl (by assumption) (fun w' hs => run_load_rows w' _ _ (by rfl) bd 2 (by rfl) (cellsAt ds 2 32) _ (rangeAt_cells ((hs.block bd (by omega) (by omega)).trans ((hW4.block bd hbd).trans hD'.out)) 2 32) Try.underlying24 rfl (by rw [row_size rowT_24, l4.out])) ?_
        simp only [Act.put, List.setIfInBounds_toArray, List.set_cons_zero, List.set_cons_succ]
        refine takeL (i := 5) (v := (.bool (eqCells (rc dslot).toList (cellsAt ds 2 32)))) rfl (by kernel_rfl) (by kernel_rfl) (by kernel_rfl) (fun _ _ _ h => h) rfl (by assumption) (fun w' _ => run_eql_agg w' 24 _ _ _ (by rfl) (rc dslot).toList (cellsAt ds 2 32) (by rfl) (by rfl) asVal_root guard_root 10 _ leafs_root (by decide) (hfc'.out _) fb'.out) ?_
        simp only [Act.put, List.setIfInBounds_toArray, List.set_cons_zero, List.set_cons_succ]
        rw [hqh.out]
        refine takeL (i := 6) (v := (.bool false)) rfl (by kernel_rfl) (by kernel_rfl) (by kernel_rfl) (fun _ _ _ h => h) rfl (by assumption) (fun w' _ => run_move1 _ (by rfl) _ (by rfl) w') ?_
        simp only [Act.put, List.setIfInBounds_toArray, List.set_cons_zero, List.set_cons_succ]
        refine skipL (i := 7) rfl (by kernel_rfl) (by kernel_rfl) (by kernel_rfl) (fun _ _ _ h => h) rfl (by assumption) ?_
        simp only [Act.put, List.setIfInBounds_toArray, List.set_cons_zero, List.set_cons_succ]
        refine skipL (i := 8) rfl (by kernel_rfl) (by kernel_rfl) (by kernel_rfl) (fun _ _ _ h => h) rfl (by assumption) ?_
        simp only [Act.put, List.setIfInBounds_toArray, List.set_cons_zero, List.set_cons_succ]
        refine takeL (i := 9) (v := (.bool false)) rfl (by kernel_rfl) (by kernel_rfl) (by kernel_rfl) (fun _ _ _ h => h) rfl (by assumption) (fun w' hS' => by go_simp) ?_
        simp only [Act.put, List.setIfInBounds_toArray, List.set_cons_zero, List.set_cons_succ]
        refine takeL (i := 10) (v := (.pointer (some ⟨w.heap.size, 2, none⟩))) rfl (by kernel_rfl) (by kernel_rfl) (by kernel_rfl) (fun _ _ _ h => h) rfl (by assumption) (fun w' hS' => by go_simp) ?_
        simp only [Act.put, List.setIfInBounds_toArray, List.set_cons_zero, List.set_cons_succ]
        refine oneL (i := 11) rfl (by kernel_rfl) rfl (wp_store_bool 4 _ _ rfl ⟨w.heap.size, 2, none⟩ rfl (false) rfl rfl (.bool false) (by exact v2) (by exact z2) ?_)
        have hS1 := hS.setCell 2 (.bool (false))
        refine ⟨hS1, ?_⟩
        simp only [Act.put]
        refine wpAnyH_done (by kernel_rfl) ?_ _
        rw [show ({ W4 with drawn := W4.drawn + 1 } : World) = W4.drew from rfl]
        refine gen_q (fun Wx => Below w.heap.size w Wx ∧ Wx.cell? ⟨w.heap.size, 0, none⟩ = some (.bool (decide (slot - dslot ≤ 2))) ∧ Wx.cell? ⟨w.heap.size, 1, none⟩ = some (.bool true) ∧ Wx.cell? ⟨w.heap.size, 2, none⟩ = some (.bool false) ∧ Wx.frozen? ⟨w.heap.size, 0, none⟩ = false ∧ Wx.frozen? ⟨w.heap.size, 1, none⟩ = false ∧ Wx.frozen? ⟨w.heap.size, 2, none⟩ = false) ?_ ?_
        · exact ⟨hW4.drew.setCell (Nat.le_refl _) _, by simp [go_sem, *], by simp [go_sem, *], by simp [go_sem, *], by simp [go_sem, *], by simp [go_sem, *], by simp [go_sem, *]⟩
        clear v0 v1 v2 z0 z1 z2 hS hS1 hW4
        rintro W5 ⟨hW5, v0, v1, v2, z0, z1, z2⟩
        go_wp2
        refine ret_mid_tmp rfl w.heap.size 0 [.bool (decide (slot - dslot ≤ 2)), .bool true, .bool (false)] _ rfl ?_ Try.underlying53 rfl (by rw [row_size rowT_53]; rfl) rfl ?_
        · exact range3 (by simp [go_sem, *]) (by simp [go_sem, *]) (by simp [go_sem, *])
        · exact ⟨by rw [hrh.out, hqh.out]; simp, ((hW5.setCell (Nat.le_refl _) _).setCell (Nat.le_refl _) _).setCell (Nat.le_refl _) _⟩
      · have hqh := Lib.hid hq
        clear hq
        refine wp_region_held (S := Apart w.heap.size W4) (by kernel_rfl) ?_
        have hS := Apart.begin w.heap.size W4
        refine takeL (i := 0) (v := (.agg (rc dslot).toList.toArray)) rfl (by kernel_rfl) (by kernel_rfl) (by kernel_rfl) (fun _ _ _ h => h) rfl (by assumption) (fun w' hs => run_load_rows w' _ _ (by rfl) B 0 (by rfl) (rc dslot).toList _ (range_block rg4'.out (hs.block B hB4 (by omega))) Try.underlying24 rfl (by rw [row_size rowT_24, Array.length_toList, (hrc'.out _).1])) ?_
        simp only [Act.put, List.setIfInBounds_toArray, List.set_cons_zero, List.set_cons_succ]
        refine takeL (i := 1) (v := (.pointer (some ⟨bd, 0, none⟩))) rfl (by kernel_rfl) (by kernel_rfl) (by kernel_rfl) (fun _ _ _ h => h) rfl (by assumption) (fun w' _ => run_move1 _ (by rfl) _ (by rfl) w') ?_
        simp only [Act.put, List.setIfInBounds_toArray, List.set_cons_zero, List.set_cons_succ]
        refine takeL (i := 2) (v := (.pointer (some ⟨bd, 0, none⟩))) rfl (by kernel_rfl) (by kernel_rfl) (by kernel_rfl) (fun _ _ _ h => h) rfl (by assumption) (fun w' _ => run_nilCheck _ (by rfl) _ (by rfl) w') ?_
        simp only [Act.put, List.setIfInBounds_toArray, List.set_cons_zero, List.set_cons_succ]
        refine takeL (i := 3) (v := (.pointer (some ⟨bd, 2, none⟩))) rfl (by kernel_rfl) (by kernel_rfl) (by kernel_rfl) (fun _ _ _ h => h) rfl (by assumption) (fun w' hS' => by go_simp) ?_
        simp only [Act.put, List.setIfInBounds_toArray, List.set_cons_zero, List.set_cons_succ]
        refine takeL (i := 4) (v := (.agg (cellsAt ds 2 32).toArray)) rfl (by kernel_rfl) (by kernel_rfl) (by kernel_rfl) (fun _ _ _ h => h) rfl (by assumption) (fun w' hs => run_load_rows w' _ _ (by rfl) bd 2 (by rfl) (cellsAt ds 2 32) _ (rangeAt_cells ((hs.block bd (by omega) (by omega)).trans ((hW4.block bd hbd).trans hD'.out)) 2 32) Try.underlying24 rfl (by rw [row_size rowT_24, l4.out])) ?_
        simp only [Act.put, List.setIfInBounds_toArray, List.set_cons_zero, List.set_cons_succ]
        refine takeL (i := 5) (v := (.bool (eqCells (rc dslot).toList (cellsAt ds 2 32)))) rfl (by kernel_rfl) (by kernel_rfl) (by kernel_rfl) (fun _ _ _ h => h) rfl (by assumption) (fun w' _ => run_eql_agg w' 24 _ _ _ (by rfl) (rc dslot).toList (cellsAt ds 2 32) (by rfl) (by rfl) asVal_root guard_root 10 _ leafs_root (by decide) (hfc'.out _) fb'.out) ?_
        simp only [Act.put, List.setIfInBounds_toArray, List.set_cons_zero, List.set_cons_succ]
        rw [hqh.out]
        refine takeL (i := 6) (v := (.bool true)) rfl (by kernel_rfl) (by kernel_rfl) (by kernel_rfl) (fun _ _ _ h => h) rfl (by assumption) (fun w' _ => run_move1 _ (by rfl) _ (by rfl) w') ?_
        simp only [Act.put, List.setIfInBounds_toArray, List.set_cons_zero, List.set_cons_succ]
        refine takeL (i := 7) (v := (.int .u64 (slot - dslot))) rfl (by kernel_rfl) (by kernel_rfl) (by kernel_rfl) (fun _ _ _ h => h) rfl (by assumption) (fun w' _ => run_move1 _ (by rfl) _ (by rfl) w') ?_
        simp only [Act.put, List.setIfInBounds_toArray, List.set_cons_zero, List.set_cons_succ]
        refine takeL (i := 8) (v := (.bool (slot - dslot == 1))) rfl (by kernel_rfl) (by kernel_rfl) (by kernel_rfl) (fun _ _ _ h => h) rfl (by assumption) (fun w' hS' => by go_simp) ?_
        simp only [Act.put, List.setIfInBounds_toArray, List.set_cons_zero, List.set_cons_succ]
        refine takeL (i := 9) (v := (.bool (slot - dslot == 1))) rfl (by kernel_rfl) (by kernel_rfl) (by kernel_rfl) (fun _ _ _ h => h) rfl (by assumption) (fun w' hS' => by go_simp) ?_
        simp only [Act.put, List.setIfInBounds_toArray, List.set_cons_zero, List.set_cons_succ]
        refine takeL (i := 10) (v := (.pointer (some ⟨w.heap.size, 2, none⟩))) rfl (by kernel_rfl) (by kernel_rfl) (by kernel_rfl) (fun _ _ _ h => h) rfl (by assumption) (fun w' hS' => by go_simp) ?_
        simp only [Act.put, List.setIfInBounds_toArray, List.set_cons_zero, List.set_cons_succ]
        refine oneL (i := 11) rfl (by kernel_rfl) rfl (wp_store_bool 4 _ _ rfl ⟨w.heap.size, 2, none⟩ rfl (slot - dslot == 1) rfl rfl (.bool false) (by exact v2) (by exact z2) ?_)
        have hS1 := hS.setCell 2 (.bool (slot - dslot == 1))
        refine ⟨hS1, ?_⟩
        simp only [Act.put]
        refine wpAnyH_done (by kernel_rfl) ?_ _
        rw [show ({ W4 with drawn := W4.drawn + 1 } : World) = W4.drew from rfl]
        refine gen_q (fun Wx => Below w.heap.size w Wx ∧ Wx.cell? ⟨w.heap.size, 0, none⟩ = some (.bool (decide (slot - dslot ≤ 2))) ∧ Wx.cell? ⟨w.heap.size, 1, none⟩ = some (.bool true) ∧ Wx.cell? ⟨w.heap.size, 2, none⟩ = some (.bool (slot - dslot == 1)) ∧ Wx.frozen? ⟨w.heap.size, 0, none⟩ = false ∧ Wx.frozen? ⟨w.heap.size, 1, none⟩ = false ∧ Wx.frozen? ⟨w.heap.size, 2, none⟩ = false) ?_ ?_
        · exact ⟨hW4.drew.setCell (Nat.le_refl _) _, by simp [go_sem, *], by simp [go_sem, *], by simp [go_sem, *], by simp [go_sem, *], by simp [go_sem, *], by simp [go_sem, *]⟩
        clear v0 v1 v2 z0 z1 z2 hS hS1 hW4
        rintro W5 ⟨hW5, v0, v1, v2, z0, z1, z2⟩
        go_wp2
        refine ret_mid_tmp rfl w.heap.size 0 [.bool (decide (slot - dslot ≤ 2)), .bool true, .bool (slot - dslot == 1)] _ rfl ?_ Try.underlying53 rfl (by rw [row_size rowT_53]; rfl) rfl ?_
        · exact range3 (by simp [go_sem, *]) (by simp [go_sem, *]) (by simp [go_sem, *])
        · exact ⟨by rw [hrh.out, hqh.out]; simp, ((hW5.setCell (Nat.le_refl _) _).setCell (Nat.le_refl _) _).setCell (Nat.le_refl _) _⟩
end Go.Proofs.Ytbfmbgeibhkheaa
