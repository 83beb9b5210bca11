/- worth of the program, where the source is another. -/
import Derived.Test.YtbfmbgeibhkheaaWorth
namespace Go.Proofs.Ytbfmbgeibhkheaa
open Go.RowKit BigFrame
set_option maxRecDepth 100000

set_option maxHeartbeats 4000000 in
theorem worth_bad (bx bd : Nat) (xs ds : Array Value) (fx fd : Nat × Nat) (w : World) (hX : w.heap[bx]? = some (.cells xs 49 fx)) (hD : w.heap[bd]? = some (.cells ds 51 fd))
    (hxs : xs.size = 1957) (hds : ds.size = 100)
    (ff : ∀ o, o = 993 ∨ o = 1026 → fits ((List.range 33).map fun j => (ckK j).lk) (cellsAt xs o 33)) (fg : fits ((List.range 33).map fun j => (ckK j).lk) (cellsAt ds 34 33))
    (hsrc : eqCells (cellsAt xs 1026 33) (cellsAt ds 34 33) = false) :
    Calls Try.prog 11 #[.pointer (some ⟨bx, 0, none⟩), .pointer (some ⟨bd, 0, none⟩), .bool true] w fun e w' => e = .returned (.tuple #[.agg #[.bool false, .bool false, .bool false], .int .i64 33]) ∧ Below w.heap.size w w' := by
  have l1 := Lib.hid (cellsAt_length xs 1026 33 (by omega))
  have l2 := Lib.hid (cellsAt_length ds 34 33 (by omega))
  have hsrc' := Lib.hid hsrc
  have ff' := Lib.hid (ff 1026 (Or.inr rfl))
  have fg' := Lib.hid fg
  have hX' := Lib.hid hX
  have hD' := Lib.hid hD
  clear ff fg hsrc hxs hds hX hD
  go_enter Try.func11, Try.ntmps11
  go_wp2
  refine wp_region_quiet_lit (by kernel_rfl) (by kernel_rfl) ?_
  repeat (first
    | go_big_quiet_skip
    | (go_big_quiet_want; first | ((first
    | ((with_reducible refine quiet_at_load 42 ?_); refine quiet_value _ (fun w' hw' => run_load_rows w' 42 _ rfl bx 1026 rfl (cellsAt xs 1026 33) _ (by obtain ⟨n, rfl⟩ := hw'; exact rangeAt_cells (heap_past _ _ _ _ hX'.out) 1026 33) Try.underlying42 rfl (by rw [row_size rowT_42, l1.out])) ?_)
    | ((with_reducible refine quiet_at_load 42 ?_); refine quiet_value _ (fun w' hw' => run_load_rows w' 42 _ rfl bd 34 rfl (cellsAt ds 34 33) _ (by obtain ⟨n, rfl⟩ := hw'; exact rangeAt_cells (heap_past _ _ _ _ hD'.out) 34 33) Try.underlying42 rfl (by rw [row_size rowT_42, l2.out])) ?_)
    | ((with_reducible refine quiet_at_bin .neq 42 ?_); refine quiet_value _ (fun w' hw' => run_neq_agg w' 42 _ _ _ rfl (cellsAt xs 1026 33) (cellsAt ds 34 33) rfl rfl asVal_ck guard_ck 10 _ leafs_ck (by decide) ff'.out fg'.out) ?_; rw [hsrc'.out])); (simp only [Act.put, List.setIfInBounds_toArray, List.set_cons_zero, List.set_cons_succ]); go_big_quiet_on) | (go_big_quiet_op; go_big_quiet_on)))
  refine wpQuiet_nil ?_
  intro _ hw'
  obtain ⟨nq, hw''⟩ := hw'
  subst hw''
  go_wp2
  refine ret_mid_tmp rfl w.heap.size 0 [.bool false, .bool false, .bool false] _ rfl ?_ Try.underlying53 rfl (by rw [row_size rowT_53]; rfl) rfl ?_
  · exact range3 (by simp [go_sem]) (by simp [go_sem]) (by simp [go_sem])
  · exact ⟨rfl, (((((Below.refl _ _).alloc (Nat.le_refl _) _).trans ((drewN_below _ _).mono (by simp))).setCell (Nat.le_refl _) _).setCell (Nat.le_refl _) _).setCell (Nat.le_refl _) _⟩
set_option maxHeartbeats 4000000 in
theorem worth_badF (bx bd : Nat) (xs ds : Array Value) (fx fd : Nat × Nat) (w : World) (hX : w.heap[bx]? = some (.cells xs 49 fx)) (hD : w.heap[bd]? = some (.cells ds 51 fd))
    (hxs : xs.size = 1957) (hds : ds.size = 100)
    (ff : ∀ o, o = 993 ∨ o = 1026 → fits ((List.range 33).map fun j => (ckK j).lk) (cellsAt xs o 33)) (fg : fits ((List.range 33).map fun j => (ckK j).lk) (cellsAt ds 34 33))
    (hsrc : eqCells (cellsAt xs 993 33) (cellsAt ds 34 33) = false) :
    Calls Try.prog 11 #[.pointer (some ⟨bx, 0, none⟩), .pointer (some ⟨bd, 0, none⟩), .bool false] w fun e w' => e = .returned (.tuple #[.agg #[.bool false, .bool false, .bool false], .int .i64 33]) ∧ Below w.heap.size w w' := by
  have l1 := Lib.hid (cellsAt_length xs 993 33 (by omega))
  have l2 := Lib.hid (cellsAt_length ds 34 33 (by omega))
  have hsrc' := Lib.hid hsrc
  have ff' := Lib.hid (ff 993 (Or.inl rfl))
  have fg' := Lib.hid fg
  have hX' := Lib.hid hX
  have hD' := Lib.hid hD
  clear ff fg hsrc hxs hds hX hD
  go_enter Try.func11, Try.ntmps11
  go_wp2
  refine wp_region_quiet_lit (by kernel_rfl) (by kernel_rfl) ?_
  repeat (first
    | go_big_quiet_skip
    | (go_big_quiet_want; first | ((first
    | ((with_reducible refine quiet_at_load 42 ?_); refine quiet_value _ (fun w' hw' => run_load_rows w' 42 _ rfl bx 993 rfl (cellsAt xs 993 33) _ (by obtain ⟨n, rfl⟩ := hw'; exact rangeAt_cells (heap_past _ _ _ _ hX'.out) 993 33) Try.underlying42 rfl (by rw [row_size rowT_42, l1.out])) ?_)
    | ((with_reducible refine quiet_at_load 42 ?_); refine quiet_value _ (fun w' hw' => run_load_rows w' 42 _ rfl bd 34 rfl (cellsAt ds 34 33) _ (by obtain ⟨n, rfl⟩ := hw'; exact rangeAt_cells (heap_past _ _ _ _ hD'.out) 34 33) Try.underlying42 rfl (by rw [row_size rowT_42, l2.out])) ?_)
    | ((with_reducible refine quiet_at_bin .neq 42 ?_); refine quiet_value _ (fun w' hw' => run_neq_agg w' 42 _ _ _ rfl (cellsAt xs 993 33) (cellsAt ds 34 33) rfl rfl asVal_ck guard_ck 10 _ leafs_ck (by decide) ff'.out fg'.out) ?_; rw [hsrc'.out])); (simp only [Act.put, List.setIfInBounds_toArray, List.set_cons_zero, List.set_cons_succ]); go_big_quiet_on) | (go_big_quiet_op; go_big_quiet_on)))
  refine wpQuiet_nil ?_
  intro _ hw'
  obtain ⟨nq, hw''⟩ := hw'
  subst hw''
  go_wp2
  refine ret_mid_tmp rfl w.heap.size 0 [.bool false, .bool false, .bool false] _ rfl ?_ Try.underlying53 rfl (by rw [row_size rowT_53]; rfl) rfl ?_
  · exact range3 (by simp [go_sem]) (by simp [go_sem]) (by simp [go_sem])
  · exact ⟨rfl, (((((Below.refl _ _).alloc (Nat.le_refl _) _).trans ((drewN_below _ _).mono (by simp))).setCell (Nat.le_refl _) _).setCell (Nat.le_refl _) _).setCell (Nat.le_refl _) _⟩
end Go.Proofs.Ytbfmbgeibhkheaa
