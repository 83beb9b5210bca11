/- VoteLater: the walks. -/
import Derived.Test.YtbfmbgeibhkheaaAwake
import Derived.Lib.SmallJoins
namespace Go.Proofs.Ytbfmbgeibhkheaa
open Go.RowKit
set_option maxRecDepth 100000


set_option maxHeartbeats 4000000 in
theorem law4_no (xs ds : Array Value) (w : World) (x0 x1 x2 : Bool) (ec slot : Int) (hxs : xs.size = 1957) (hone : xs.all (·.oneCell') = true) (hds : ds.size = 100) (f33 : xs[33]? = some (.int .u64 slot)) (_g33 : 0 ≤ slot ∧ slot ≤ 18446744073709551615)
    (he : (ec != 0) = true)
    (hA : ∀ W, Below w.heap.size w W → Calls Try.prog 6 #[.agg xs, .agg ds] W fun e w' => e = .returned (.tuple #[.agg #[.bool x0, .bool x1, .bool x2], .int .i64 ec]) ∧ Below W.heap.size W w') :
    Calls Try.prog 4 #[.agg xs, .agg ds] w fun e w' => e = .returned (.bool true) ∧ Below w.heap.size w w' := by
  have hi := Lib.hid (show (Try.prog.info? 49).map (·.size) = some xs.size by rw [hxs]; exact row_size rowT_49)
  have hiz := Lib.hid (show (Try.prog.info? 49).map (fun i => (i.zero, i.size)) = some (some (.agg (zeroOf Try.prog 49)), xs.size) by rw [hxs]; exact (row_zero rowT_49).1)
  have hzz := Lib.hid (show (zeroOf Try.prog 49).size = xs.size by rw [hxs]; exact (row_zero rowT_49).2)
  have hj := Lib.hid (show (Try.prog.info? 51).map (·.size) = some ds.size by rw [hds]; exact row_size rowT_51)
  have ho := Lib.hid hone
  have hb0 : Below w.heap.size w ((w.alloc (.cells xs 49)).alloc (.cells ds 51)) := ((Below.refl _ _).alloc (Nat.le_refl _) _).alloc (by simp) _
  have hX0 := heap_past _ (.cells ds 51) _ _ (heap_alloc_last w (.cells xs 49))
  have hD0 : ((w.alloc (.cells xs 49)).alloc (.cells ds 51)).heap[w.heap.size + 1]? = some (.cells ds 51 (0, 0)) := heap_alloc2_new w _ _
  have h0 := Lib.hid awake_any
  have h1 := Lib.hid hA
  clear hA hxs hds hone
  go_enter Try.func4, Try.ntmps4
  go_wp2_with (first
    | ((with_reducible refine at_alloc 53 ?_); refine wpList_alloc_store rfl rfl 53 5 _ rfl rfl rfl #[.bool x0, .bool x1, .bool x2] rfl rfl (zeroOf Try.prog 53) (info_b3 _ _ _) (zsz_b3 _ _ _) rfl ?_)
    | ((with_reducible refine at_alloc 49 ?_); refine wpList_alloc_store rfl rfl 49 7 _ rfl rfl rfl xs rfl rfl (zeroOf Try.prog 49) hiz.out hzz.out ho.out ?_; simp only [World.size_alloc])
    | ((with_reducible refine at_load 49 ?_); refine wpList_value (by rfl) _ (run_load_box _ 49 _ (by rfl) w.heap.size (by rfl) _ xs (0, 0) _ (by first | exact hXa | exact hXb) Try.underlying49 rfl hi.out) ?_)
    | ((with_reducible refine at_load 51 ?_); refine wpList_value (by rfl) _ (run_load_box _ 51 _ (by rfl) (w.heap.size + 1) (by rfl) _ ds (0, 0) _ (by first | exact hDa | exact hDc) Try.underlying51 rfl hj.out) ?_)
    | ((with_reducible refine (h0.out _).mono ?_); rintro e W0 ⟨rfl, hbA⟩
       have hs0 := hbA.size
       simp only [World.size_alloc] at hs0
       have hXa := (hbA.block _ (by simp only [World.size_alloc]; omega)).trans hX0
       have hDa := (hbA.block _ (by simp only [World.size_alloc]; omega)).trans hD0
       have bA : Below w.heap.size w W0 := hb0.trans (hbA.mono (by simp only [World.size_alloc]; omega)))
    | ((with_reducible refine (h1.out _ bA).mono ?_); rintro e W1 ⟨rfl, hb1⟩
       have hs1 := hb1.size
       have hXc := (hb1.block _ (by omega)).trans hXa
       have hXb : (W1.alloc (.cells #[.bool x0, .bool x1, .bool x2] 53)).heap[w.heap.size]? = some (.cells xs 49 (0, 0)) := heap_past _ _ _ _ hXc
       have hD1 := (hb1.block _ (by omega)).trans hDa
       have cx1 := (cell_of_row W1 _ 33 xs _ _ hXc).trans f33
       have bB : Below w.heap.size w W1 := bA.trans (hb1.mono (by omega))
       have hp1 : w.heap.size < W1.heap.size := by omega)
    )
  go_ret
  exact ⟨rfl, (bB.alloc (by omega) _).alloc (by simp only [World.size_alloc]; omega) _⟩
theorem bump_size (xs : Array Value) (v : Value) : (xs.setIfInBounds 33 v).size = xs.size := by simp
theorem bump_get (xs : Array Value) (v : Value) (h : 33 < xs.size) : (xs.setIfInBounds 33 v)[33]? = some v := by simp [h]
set_option maxHeartbeats 4000000 in
theorem law4_epoch
    (xs ds : Array Value) (w : World) (x0 x1 x2 : Bool) (slot : Int) (hxs : xs.size = 1957) (hone : xs.all (·.oneCell') = true) (hds : ds.size = 100) (f33 : xs[33]? = some (.int .u64 slot)) (g33 : 0 ≤ slot ∧ slot ≤ 1099511627776)
    (hA : ∀ W, Below w.heap.size w W → Calls Try.prog 6 #[.agg xs, .agg ds] W fun e w' => e = .returned (.tuple #[.agg #[.bool x0, .bool x1, .bool x2], .int .i64 0]) ∧ Below W.heap.size W w')
    (hq : ((slot + 1) / 4 != slot / 4) = true) :
    Calls Try.prog 4 #[.agg xs, .agg ds] w fun e w' => e = .returned (.bool true) ∧ Below w.heap.size w w' := by
  have h33 := Lib.hid (show 33 < xs.size by omega)
  have hi := Lib.hid (show (Try.prog.info? 49).map (·.size) = some xs.size by rw [hxs]; exact row_size rowT_49)
  have hiz := Lib.hid (show (Try.prog.info? 49).map (fun i => (i.zero, i.size)) = some (some (.agg (zeroOf Try.prog 49)), xs.size) by rw [hxs]; exact (row_zero rowT_49).1)
  have hzz := Lib.hid (show (zeroOf Try.prog 49).size = xs.size by rw [hxs]; exact (row_zero rowT_49).2)
  have hj := Lib.hid (show (Try.prog.info? 51).map (·.size) = some ds.size by rw [hds]; exact row_size rowT_51)
  have ho := Lib.hid hone
  have hb0 : Below w.heap.size w ((w.alloc (.cells xs 49)).alloc (.cells ds 51)) := ((Below.refl _ _).alloc (Nat.le_refl _) _).alloc (by simp) _
  have hX0 := heap_past _ (.cells ds 51) _ _ (heap_alloc_last w (.cells xs 49))
  have hD0 : ((w.alloc (.cells xs 49)).alloc (.cells ds 51)).heap[w.heap.size + 1]? = some (.cells ds 51 (0, 0)) := heap_alloc2_new w _ _
  have h0 := Lib.hid awake_any
  have h1 := Lib.hid hA
  clear hA hxs hds hone
  go_enter Try.func4, Try.ntmps4
  go_wp2_with (first
    | ((with_reducible refine (h1.out _ bA).mono ?_); rintro e W1 ⟨rfl, hb1⟩
       have hs1 := hb1.size
       have hXc := (hb1.block _ (by omega)).trans hXa
       have hXb : (W1.alloc (.cells #[.bool x0, .bool x1, .bool x2] 53)).heap[w.heap.size]? = some (.cells xs 49 (0, 0)) := heap_past _ _ _ _ hXc
       have hD1 := (hb1.block _ (by omega)).trans hDa
       have cx1 := (cell_of_row W1 _ 33 xs _ _ hXc).trans f33
       have bB : Below w.heap.size w W1 := bA.trans (hb1.mono (by omega))
       have hp1 : w.heap.size < W1.heap.size := by omega
       have bC : Below w.heap.size w ((W1.alloc (.cells #[.bool x0, .bool x1, .bool x2] 53)).alloc (.cells (xs.setIfInBounds 33 (.int .u64 (slot + 1))) 49)) := (bB.alloc (by omega) _).alloc (by simp only [World.size_alloc]; omega) _
       have hYa : ((W1.alloc (.cells #[.bool x0, .bool x1, .bool x2] 53)).alloc (.cells (xs.setIfInBounds 33 (.int .u64 (slot + 1))) 49)).heap[W1.heap.size + 1]? = some (.cells (xs.setIfInBounds 33 (.int .u64 (slot + 1))) 49 (0, 0)) := heap_alloc2_new W1 _ _
       have hcY := (cell_of_row _ _ 33 _ _ _ hYa).trans (bump_get xs (.int .u64 (slot + 1)) h33.out)
       have hDd : ((W1.alloc (.cells #[.bool x0, .bool x1, .bool x2] 53)).alloc (.cells (xs.setIfInBounds 33 (.int .u64 (slot + 1))) 49)).heap[w.heap.size + 1]? = some (.cells ds 51 (0, 0)) := heap_past _ _ _ _ (heap_past _ _ _ _ hD1)
       have hFa : ((W1.alloc (.cells #[.bool x0, .bool x1, .bool x2] 53)).alloc (.cells (xs.setIfInBounds 33 (.int .u64 (slot + 1))) 49)).heap[W1.heap.size]? = some (.cells #[.bool x0, .bool x1, .bool x2] 53 (0, 0)) := heap_past _ _ _ _ (heap_alloc_last W1 _))
    | ((with_reducible refine at_alloc 53 ?_); refine wpList_alloc_store rfl rfl 53 5 _ rfl rfl rfl #[.bool x0, .bool x1, .bool x2] rfl rfl (zeroOf Try.prog 53) (info_b3 _ _ _) (zsz_b3 _ _ _) rfl ?_)
    | ((with_reducible refine at_alloc 49 ?_); refine wpList_alloc_store rfl rfl 49 7 _ rfl rfl rfl xs rfl rfl (zeroOf Try.prog 49) hiz.out hzz.out ho.out ?_; simp only [World.size_alloc])
    | ((with_reducible refine at_load 49 ?_); refine wpList_value (by rfl) _ (run_load_box _ 49 _ (by rfl) w.heap.size (by rfl) _ xs (0, 0) _ (by first | exact hXa | exact hXb) Try.underlying49 rfl hi.out) ?_)
    | ((with_reducible refine at_load 51 ?_); refine wpList_value (by rfl) _ (run_load_box _ 51 _ (by rfl) (w.heap.size + 1) (by rfl) _ ds (0, 0) _ (by first | exact hDa | exact hDc) Try.underlying51 rfl hj.out) ?_)
    | ((with_reducible refine (h0.out _).mono ?_); rintro e W0 ⟨rfl, hbA⟩
       have hs0 := hbA.size
       simp only [World.size_alloc] at hs0
       have hXa := (hbA.block _ (by simp only [World.size_alloc]; omega)).trans hX0
       have hDa := (hbA.block _ (by simp only [World.size_alloc]; omega)).trans hD0
       have bA : Below w.heap.size w W0 := hb0.trans (hbA.mono (by simp only [World.size_alloc]; omega)))
    | ((with_reducible refine (h1.out _ bA).mono ?_); rintro e W1 ⟨rfl, hb1⟩
       have hs1 := hb1.size
       have hXc := (hb1.block _ (by omega)).trans hXa
       have hXb : (W1.alloc (.cells #[.bool x0, .bool x1, .bool x2] 53)).heap[w.heap.size]? = some (.cells xs 49 (0, 0)) := heap_past _ _ _ _ hXc
       have hD1 := (hb1.block _ (by omega)).trans hDa
       have cx1 := (cell_of_row W1 _ 33 xs _ _ hXc).trans f33
       have bB : Below w.heap.size w W1 := bA.trans (hb1.mono (by omega))
       have hp1 : w.heap.size < W1.heap.size := by omega)
    | ((with_reducible refine at_load 22 ?_); refine wpList_value (by rfl) _ (run_load_cell _ 22 _ (by rfl) ⟨W1.heap.size + 1, 33, none⟩ (by rfl) (.int .u64 (slot + 1)) hcY _ Try.underlying22 rfl) ?_)
    )
  go_ret
  exact ⟨rfl, bC⟩
set_option maxHeartbeats 4000000 in
theorem law4_wrong
    (xs ds : Array Value) (w : World) (x0 x1 x2 : Bool) (slot : Int) (hxs : xs.size = 1957) (hone : xs.all (·.oneCell') = true) (hds : ds.size = 100) (f33 : xs[33]? = some (.int .u64 slot)) (g33 : 0 ≤ slot ∧ slot ≤ 1099511627776)
    (hA : ∀ W, Below w.heap.size w W → Calls Try.prog 6 #[.agg xs, .agg ds] W fun e w' => e = .returned (.tuple #[.agg #[.bool x0, .bool x1, .bool x2], .int .i64 0]) ∧ Below W.heap.size W w')
    (hq : ((slot + 1) / 4 != slot / 4) = false)
    (hR : ∀ W, Below w.heap.size w W → Calls Try.prog 8 #[.agg (xs.setIfInBounds 33 (.int .u64 (slot + 1)))] W fun e w' => e = .returned (.bool false) ∧ Below W.heap.size W w') :
    Calls Try.prog 4 #[.agg xs, .agg ds] w fun e w' => e = .returned (.bool true) ∧ Below w.heap.size w w' := by
  have h33 := Lib.hid (show 33 < xs.size by omega)
  have h2 := Lib.hid hR
  clear hR
  have hi := Lib.hid (show (Try.prog.info? 49).map (·.size) = some xs.size by rw [hxs]; exact row_size rowT_49)
  have hiz := Lib.hid (show (Try.prog.info? 49).map (fun i => (i.zero, i.size)) = some (some (.agg (zeroOf Try.prog 49)), xs.size) by rw [hxs]; exact (row_zero rowT_49).1)
  have hzz := Lib.hid (show (zeroOf Try.prog 49).size = xs.size by rw [hxs]; exact (row_zero rowT_49).2)
  have hj := Lib.hid (show (Try.prog.info? 51).map (·.size) = some ds.size by rw [hds]; exact row_size rowT_51)
  have ho := Lib.hid hone
  have hb0 : Below w.heap.size w ((w.alloc (.cells xs 49)).alloc (.cells ds 51)) := ((Below.refl _ _).alloc (Nat.le_refl _) _).alloc (by simp) _
  have hX0 := heap_past _ (.cells ds 51) _ _ (heap_alloc_last w (.cells xs 49))
  have hD0 : ((w.alloc (.cells xs 49)).alloc (.cells ds 51)).heap[w.heap.size + 1]? = some (.cells ds 51 (0, 0)) := heap_alloc2_new w _ _
  have h0 := Lib.hid awake_any
  have h1 := Lib.hid hA
  clear hA hxs hds hone
  go_enter Try.func4, Try.ntmps4
  go_wp2_with (first
    | ((with_reducible refine (h1.out _ bA).mono ?_); rintro e W1 ⟨rfl, hb1⟩
       have hs1 := hb1.size
       have hXc := (hb1.block _ (by omega)).trans hXa
       have hXb : (W1.alloc (.cells #[.bool x0, .bool x1, .bool x2] 53)).heap[w.heap.size]? = some (.cells xs 49 (0, 0)) := heap_past _ _ _ _ hXc
       have hD1 := (hb1.block _ (by omega)).trans hDa
       have cx1 := (cell_of_row W1 _ 33 xs _ _ hXc).trans f33
       have bB : Below w.heap.size w W1 := bA.trans (hb1.mono (by omega))
       have hp1 : w.heap.size < W1.heap.size := by omega
       have bC : Below w.heap.size w ((W1.alloc (.cells #[.bool x0, .bool x1, .bool x2] 53)).alloc (.cells (xs.setIfInBounds 33 (.int .u64 (slot + 1))) 49)) := (bB.alloc (by omega) _).alloc (by simp only [World.size_alloc]; omega) _
       have hYa : ((W1.alloc (.cells #[.bool x0, .bool x1, .bool x2] 53)).alloc (.cells (xs.setIfInBounds 33 (.int .u64 (slot + 1))) 49)).heap[W1.heap.size + 1]? = some (.cells (xs.setIfInBounds 33 (.int .u64 (slot + 1))) 49 (0, 0)) := heap_alloc2_new W1 _ _
       have hcY := (cell_of_row _ _ 33 _ _ _ hYa).trans (bump_get xs (.int .u64 (slot + 1)) h33.out)
       have hDd : ((W1.alloc (.cells #[.bool x0, .bool x1, .bool x2] 53)).alloc (.cells (xs.setIfInBounds 33 (.int .u64 (slot + 1))) 49)).heap[w.heap.size + 1]? = some (.cells ds 51 (0, 0)) := heap_past _ _ _ _ (heap_past _ _ _ _ hD1)
       have hFa : ((W1.alloc (.cells #[.bool x0, .bool x1, .bool x2] 53)).alloc (.cells (xs.setIfInBounds 33 (.int .u64 (slot + 1))) 49)).heap[W1.heap.size]? = some (.cells #[.bool x0, .bool x1, .bool x2] 53 (0, 0)) := heap_past _ _ _ _ (heap_alloc_last W1 _))
    | ((with_reducible refine at_alloc 53 ?_); refine wpList_alloc_store rfl rfl 53 5 _ rfl rfl rfl #[.bool x0, .bool x1, .bool x2] rfl rfl (zeroOf Try.prog 53) (info_b3 _ _ _) (zsz_b3 _ _ _) rfl ?_)
    | ((with_reducible refine at_alloc 49 ?_); refine wpList_alloc_store rfl rfl 49 7 _ rfl rfl rfl xs rfl rfl (zeroOf Try.prog 49) hiz.out hzz.out ho.out ?_; simp only [World.size_alloc])
    | ((with_reducible refine at_load 49 ?_); refine wpList_value (by rfl) _ (run_load_box _ 49 _ (by rfl) w.heap.size (by rfl) _ xs (0, 0) _ (by first | exact hXa | exact hXb) Try.underlying49 rfl hi.out) ?_)
    | ((with_reducible refine at_load 51 ?_); refine wpList_value (by rfl) _ (run_load_box _ 51 _ (by rfl) (w.heap.size + 1) (by rfl) _ ds (0, 0) _ (by first | exact hDa | exact hDc) Try.underlying51 rfl hj.out) ?_)
    | ((with_reducible refine (h0.out _).mono ?_); rintro e W0 ⟨rfl, hbA⟩
       have hs0 := hbA.size
       simp only [World.size_alloc] at hs0
       have hXa := (hbA.block _ (by simp only [World.size_alloc]; omega)).trans hX0
       have hDa := (hbA.block _ (by simp only [World.size_alloc]; omega)).trans hD0
       have bA : Below w.heap.size w W0 := hb0.trans (hbA.mono (by simp only [World.size_alloc]; omega)))
    | ((with_reducible refine (h1.out _ bA).mono ?_); rintro e W1 ⟨rfl, hb1⟩
       have hs1 := hb1.size
       have hXc := (hb1.block _ (by omega)).trans hXa
       have hXb : (W1.alloc (.cells #[.bool x0, .bool x1, .bool x2] 53)).heap[w.heap.size]? = some (.cells xs 49 (0, 0)) := heap_past _ _ _ _ hXc
       have hD1 := (hb1.block _ (by omega)).trans hDa
       have cx1 := (cell_of_row W1 _ 33 xs _ _ hXc).trans f33
       have bB : Below w.heap.size w W1 := bA.trans (hb1.mono (by omega))
       have hp1 : w.heap.size < W1.heap.size := by omega)
    | ((with_reducible refine at_load 49 ?_); refine wpList_value (by rfl) _ (run_load_box _ 49 _ (by rfl) (W1.heap.size + 1) (by rfl) _ (xs.setIfInBounds 33 (.int .u64 (slot + 1))) (0, 0) _ hYa Try.underlying49 rfl (by rw [bump_size]; exact hi.out)) ?_)
    | ((with_reducible refine at_load 22 ?_); refine wpList_value (by rfl) _ (run_load_cell _ 22 _ (by rfl) ⟨W1.heap.size + 1, 33, none⟩ (by rfl) (.int .u64 (slot + 1)) hcY _ Try.underlying22 rfl) ?_)
    | ((with_reducible refine (h2.out _ bC).mono ?_); rintro e W2 ⟨rfl, hb2⟩
       have bD : Below w.heap.size w W2 := bC.trans (hb2.mono (by simp only [World.size_alloc]; omega)))
    )
  go_ret
  exact ⟨rfl, bD⟩
set_option maxHeartbeats 4000000 in
theorem law4_late
    (xs ds : Array Value) (w : World) (x0 x1 x2 : Bool) (slot : Int) (hxs : xs.size = 1957) (hone : xs.all (·.oneCell') = true) (hds : ds.size = 100) (f33 : xs[33]? = some (.int .u64 slot)) (g33 : 0 ≤ slot ∧ slot ≤ 1099511627776)
    (hA : ∀ W, Below w.heap.size w W → Calls Try.prog 6 #[.agg xs, .agg ds] W fun e w' => e = .returned (.tuple #[.agg #[.bool x0, .bool x1, .bool x2], .int .i64 0]) ∧ Below W.heap.size W w')
    (hq : ((slot + 1) / 4 != slot / 4) = false) (y0 y1 y2 : Bool) (hc : Int) (hh : hc = 31)
    (hR : ∀ W, Below w.heap.size w W → Calls Try.prog 8 #[.agg (xs.setIfInBounds 33 (.int .u64 (slot + 1)))] W fun e w' => e = .returned (.bool true) ∧ Below W.heap.size W w')
    (hG : ∀ W, Below w.heap.size w W → Calls Try.prog 6 #[.agg (xs.setIfInBounds 33 (.int .u64 (slot + 1))), .agg ds] W fun e w' => e = .returned (.tuple #[.agg #[.bool y0, .bool y1, .bool y2], .int .i64 hc]) ∧ Below W.heap.size W w')
    (dslot : Int) (fd0 : ds[0]? = some (.int .u64 dslot))
    (hd1 : 0 ≤ dslot) (hd2 : 4 < slot + 1 - dslot) :
    Calls Try.prog 4 #[.agg xs, .agg ds] w fun e w' => e = .returned (.bool true) ∧ Below w.heap.size w w' := by
  subst hh
  have h33 := Lib.hid (show 33 < xs.size by omega)
  have h2 := Lib.hid hR
  have h3 := Lib.hid hG
  clear hR hG
  have hi := Lib.hid (show (Try.prog.info? 49).map (·.size) = some xs.size by rw [hxs]; exact row_size rowT_49)
  have hiz := Lib.hid (show (Try.prog.info? 49).map (fun i => (i.zero, i.size)) = some (some (.agg (zeroOf Try.prog 49)), xs.size) by rw [hxs]; exact (row_zero rowT_49).1)
  have hzz := Lib.hid (show (zeroOf Try.prog 49).size = xs.size by rw [hxs]; exact (row_zero rowT_49).2)
  have hj := Lib.hid (show (Try.prog.info? 51).map (·.size) = some ds.size by rw [hds]; exact row_size rowT_51)
  have ho := Lib.hid hone
  have hb0 : Below w.heap.size w ((w.alloc (.cells xs 49)).alloc (.cells ds 51)) := ((Below.refl _ _).alloc (Nat.le_refl _) _).alloc (by simp) _
  have hX0 := heap_past _ (.cells ds 51) _ _ (heap_alloc_last w (.cells xs 49))
  have hD0 : ((w.alloc (.cells xs 49)).alloc (.cells ds 51)).heap[w.heap.size + 1]? = some (.cells ds 51 (0, 0)) := heap_alloc2_new w _ _
  have h0 := Lib.hid awake_any
  have h1 := Lib.hid hA
  clear hA hxs hds hone
  have hgt : decide (4 < slot + 1 - dslot) = true := by simpa using hd2
  go_enter Try.func4, Try.ntmps4
  go_wp2_with (first
    | ((with_reducible refine (h1.out _ bA).mono ?_); rintro e W1 ⟨rfl, hb1⟩
       have hs1 := hb1.size
       have hXc := (hb1.block _ (by omega)).trans hXa
       have hXb : (W1.alloc (.cells #[.bool x0, .bool x1, .bool x2] 53)).heap[w.heap.size]? = some (.cells xs 49 (0, 0)) := heap_past _ _ _ _ hXc
       have hD1 := (hb1.block _ (by omega)).trans hDa
       have cx1 := (cell_of_row W1 _ 33 xs _ _ hXc).trans f33
       have bB : Below w.heap.size w W1 := bA.trans (hb1.mono (by omega))
       have hp1 : w.heap.size < W1.heap.size := by omega
       have bC : Below w.heap.size w ((W1.alloc (.cells #[.bool x0, .bool x1, .bool x2] 53)).alloc (.cells (xs.setIfInBounds 33 (.int .u64 (slot + 1))) 49)) := (bB.alloc (by omega) _).alloc (by simp only [World.size_alloc]; omega) _
       have hYa : ((W1.alloc (.cells #[.bool x0, .bool x1, .bool x2] 53)).alloc (.cells (xs.setIfInBounds 33 (.int .u64 (slot + 1))) 49)).heap[W1.heap.size + 1]? = some (.cells (xs.setIfInBounds 33 (.int .u64 (slot + 1))) 49 (0, 0)) := heap_alloc2_new W1 _ _
       have hcY := (cell_of_row _ _ 33 _ _ _ hYa).trans (bump_get xs (.int .u64 (slot + 1)) h33.out)
       have hDd : ((W1.alloc (.cells #[.bool x0, .bool x1, .bool x2] 53)).alloc (.cells (xs.setIfInBounds 33 (.int .u64 (slot + 1))) 49)).heap[w.heap.size + 1]? = some (.cells ds 51 (0, 0)) := heap_past _ _ _ _ (heap_past _ _ _ _ hD1)
       have hFa : ((W1.alloc (.cells #[.bool x0, .bool x1, .bool x2] 53)).alloc (.cells (xs.setIfInBounds 33 (.int .u64 (slot + 1))) 49)).heap[W1.heap.size]? = some (.cells #[.bool x0, .bool x1, .bool x2] 53 (0, 0)) := heap_past _ _ _ _ (heap_alloc_last W1 _))
    | ((with_reducible refine at_alloc 53 ?_); refine wpList_alloc_store rfl rfl 53 5 _ rfl rfl rfl #[.bool x0, .bool x1, .bool x2] rfl rfl (zeroOf Try.prog 53) (info_b3 _ _ _) (zsz_b3 _ _ _) rfl ?_)
    | ((with_reducible refine at_alloc 49 ?_); refine wpList_alloc_store rfl rfl 49 7 _ rfl rfl rfl xs rfl rfl (zeroOf Try.prog 49) hiz.out hzz.out ho.out ?_; simp only [World.size_alloc])
    | ((with_reducible refine at_load 49 ?_); refine wpList_value (by rfl) _ (run_load_box _ 49 _ (by rfl) w.heap.size (by rfl) _ xs (0, 0) _ (by first | exact hXa | exact hXb) Try.underlying49 rfl hi.out) ?_)
    | ((with_reducible refine at_load 51 ?_); refine wpList_value (by rfl) _ (run_load_box _ 51 _ (by rfl) (w.heap.size + 1) (by rfl) _ ds (0, 0) _ (by first | exact hDa | exact hDc) Try.underlying51 rfl hj.out) ?_)
    | ((with_reducible refine (h0.out _).mono ?_); rintro e W0 ⟨rfl, hbA⟩
       have hs0 := hbA.size
       simp only [World.size_alloc] at hs0
       have hXa := (hbA.block _ (by simp only [World.size_alloc]; omega)).trans hX0
       have hDa := (hbA.block _ (by simp only [World.size_alloc]; omega)).trans hD0
       have bA : Below w.heap.size w W0 := hb0.trans (hbA.mono (by simp only [World.size_alloc]; omega)))
    | ((with_reducible refine (h1.out _ bA).mono ?_); rintro e W1 ⟨rfl, hb1⟩
       have hs1 := hb1.size
       have hXc := (hb1.block _ (by omega)).trans hXa
       have hXb : (W1.alloc (.cells #[.bool x0, .bool x1, .bool x2] 53)).heap[w.heap.size]? = some (.cells xs 49 (0, 0)) := heap_past _ _ _ _ hXc
       have hD1 := (hb1.block _ (by omega)).trans hDa
       have cx1 := (cell_of_row W1 _ 33 xs _ _ hXc).trans f33
       have bB : Below w.heap.size w W1 := bA.trans (hb1.mono (by omega))
       have hp1 : w.heap.size < W1.heap.size := by omega)
    | ((with_reducible refine at_load 49 ?_); refine wpList_value (by rfl) _ (run_load_box _ 49 _ (by rfl) (W1.heap.size + 1) (by rfl) _ (xs.setIfInBounds 33 (.int .u64 (slot + 1))) (0, 0) _ (by first | exact hYa | exact hYb) Try.underlying49 rfl (by rw [bump_size]; exact hi.out)) ?_)
    | ((with_reducible refine at_load 22 ?_); refine wpList_value (by rfl) _ (run_load_cell _ 22 _ (by rfl) ⟨W1.heap.size + 1, 33, none⟩ (by rfl) (.int .u64 (slot + 1)) (by first | exact hcY | exact hcY3) _ Try.underlying22 rfl) ?_)
    | ((with_reducible refine (h2.out _ bC).mono ?_); rintro e W2 ⟨rfl, hb2⟩
       have hs2 := hb2.size
       simp only [World.size_alloc] at hs2
       have hYb := (hb2.block _ (by simp only [World.size_alloc]; omega)).trans hYa
       have hDc := (hb2.block _ (by simp only [World.size_alloc]; omega)).trans hDd
       have bD : Below w.heap.size w W2 := bC.trans (hb2.mono (by simp only [World.size_alloc]; omega)))
    | ((with_reducible refine (h3.out _ bD).mono ?_); rintro e W3 ⟨rfl, hb3⟩
       have hs3 := hb3.size
       have hp3 : W1.heap.size < W3.heap.size := by omega
       have hp4 : W1.heap.size + 1 < W3.heap.size := by omega
       have hp5 : w.heap.size + 1 < W3.heap.size := by omega
       have hcD3 := (cell_of_row W3 _ 0 ds _ _ ((hb3.block _ (by omega)).trans hDc)).trans fd0
       have hYc := (hb3.block _ (by omega)).trans hYb
       have hcY3 : (W3.alloc (.cells #[.bool y0, .bool y1, .bool y2] 53)).cell? ⟨W1.heap.size + 1, 33, none⟩ = some (.int .u64 (slot + 1)) := (cell_of_row _ _ 33 _ _ _ (heap_past _ _ _ _ hYc)).trans (bump_get _ _ h33.out)
       have hF3 : W3.heap[W1.heap.size]? = some (.cells #[.bool x0, .bool x1, .bool x2] 53 (0, 0)) := (hb3.block _ (by omega)).trans ((hb2.block _ (by simp only [World.size_alloc]; omega)).trans hFa)
       have cf0 : W3.cell? ⟨W1.heap.size, 0, none⟩ = some (.bool x0) := cell_of_row W3 _ 0 _ _ _ hF3
       have cf1 : W3.cell? ⟨W1.heap.size, 1, none⟩ = some (.bool x1) := cell_of_row W3 _ 1 _ _ _ hF3
       have bE : Below w.heap.size w W3 := bD.trans (hb3.mono (by omega)))
    | ((with_reducible refine at_alloc 53 ?_); refine wpList_alloc_store rfl rfl 53 8 _ rfl rfl rfl #[.bool y0, .bool y1, .bool y2] rfl rfl (zeroOf Try.prog 53) (info_b3 _ _ _) (zsz_b3 _ _ _) rfl ?_)
    )
  go_ret
  exact ⟨rfl, bE.alloc (by omega) _⟩
set_option maxHeartbeats 4000000 in
theorem law4_low
    (xs ds : Array Value) (w : World) (x0 x1 x2 : Bool) (slot : Int) (hxs : xs.size = 1957) (hone : xs.all (·.oneCell') = true) (hds : ds.size = 100) (f33 : xs[33]? = some (.int .u64 slot)) (g33 : 0 ≤ slot ∧ slot ≤ 1099511627776)
    (hA : ∀ W, Below w.heap.size w W → Calls Try.prog 6 #[.agg xs, .agg ds] W fun e w' => e = .returned (.tuple #[.agg #[.bool x0, .bool x1, .bool x2], .int .i64 0]) ∧ Below W.heap.size W w')
    (hq : ((slot + 1) / 4 != slot / 4) = false)
    (hR : ∀ W, Below w.heap.size w W → Calls Try.prog 8 #[.agg (xs.setIfInBounds 33 (.int .u64 (slot + 1)))] W fun e w' => e = .returned (.bool true) ∧ Below W.heap.size W w')
    (hG : ∀ W, Below w.heap.size w W → Calls Try.prog 6 #[.agg (xs.setIfInBounds 33 (.int .u64 (slot + 1))), .agg ds] W fun e w' => e = .returned (.tuple #[.agg #[.bool false, .bool x1, .bool false], .int .i64 0]) ∧ Below W.heap.size W w')
    (dslot : Int) (fd0 : ds[0]? = some (.int .u64 dslot))
    :
    Calls Try.prog 4 #[.agg xs, .agg ds] w fun e w' => e = .returned (.bool true) ∧ Below w.heap.size w w' := by
  have h33 := Lib.hid (show 33 < xs.size by omega)
  have h2 := Lib.hid hR
  have h3 := Lib.hid hG
  clear hR hG
  have hi := Lib.hid (show (Try.prog.info? 49).map (·.size) = some xs.size by rw [hxs]; exact row_size rowT_49)
  have hiz := Lib.hid (show (Try.prog.info? 49).map (fun i => (i.zero, i.size)) = some (some (.agg (zeroOf Try.prog 49)), xs.size) by rw [hxs]; exact (row_zero rowT_49).1)
  have hzz := Lib.hid (show (zeroOf Try.prog 49).size = xs.size by rw [hxs]; exact (row_zero rowT_49).2)
  have hj := Lib.hid (show (Try.prog.info? 51).map (·.size) = some ds.size by rw [hds]; exact row_size rowT_51)
  have ho := Lib.hid hone
  have hb0 : Below w.heap.size w ((w.alloc (.cells xs 49)).alloc (.cells ds 51)) := ((Below.refl _ _).alloc (Nat.le_refl _) _).alloc (by simp) _
  have hX0 := heap_past _ (.cells ds 51) _ _ (heap_alloc_last w (.cells xs 49))
  have hD0 : ((w.alloc (.cells xs 49)).alloc (.cells ds 51)).heap[w.heap.size + 1]? = some (.cells ds 51 (0, 0)) := heap_alloc2_new w _ _
  have h0 := Lib.hid awake_any
  have h1 := Lib.hid hA
  clear hA hxs hds hone
  go_enter Try.func4, Try.ntmps4
  go_wp2_with (first
    | ((with_reducible refine (h1.out _ bA).mono ?_); rintro e W1 ⟨rfl, hb1⟩
       have hs1 := hb1.size
       have hXc := (hb1.block _ (by omega)).trans hXa
       have hXb : (W1.alloc (.cells #[.bool x0, .bool x1, .bool x2] 53)).heap[w.heap.size]? = some (.cells xs 49 (0, 0)) := heap_past _ _ _ _ hXc
       have hD1 := (hb1.block _ (by omega)).trans hDa
       have cx1 := (cell_of_row W1 _ 33 xs _ _ hXc).trans f33
       have bB : Below w.heap.size w W1 := bA.trans (hb1.mono (by omega))
       have hp1 : w.heap.size < W1.heap.size := by omega
       have bC : Below w.heap.size w ((W1.alloc (.cells #[.bool x0, .bool x1, .bool x2] 53)).alloc (.cells (xs.setIfInBounds 33 (.int .u64 (slot + 1))) 49)) := (bB.alloc (by omega) _).alloc (by simp only [World.size_alloc]; omega) _
       have hYa : ((W1.alloc (.cells #[.bool x0, .bool x1, .bool x2] 53)).alloc (.cells (xs.setIfInBounds 33 (.int .u64 (slot + 1))) 49)).heap[W1.heap.size + 1]? = some (.cells (xs.setIfInBounds 33 (.int .u64 (slot + 1))) 49 (0, 0)) := heap_alloc2_new W1 _ _
       have hcY := (cell_of_row _ _ 33 _ _ _ hYa).trans (bump_get xs (.int .u64 (slot + 1)) h33.out)
       have hDd : ((W1.alloc (.cells #[.bool x0, .bool x1, .bool x2] 53)).alloc (.cells (xs.setIfInBounds 33 (.int .u64 (slot + 1))) 49)).heap[w.heap.size + 1]? = some (.cells ds 51 (0, 0)) := heap_past _ _ _ _ (heap_past _ _ _ _ hD1)
       have hFa : ((W1.alloc (.cells #[.bool x0, .bool x1, .bool x2] 53)).alloc (.cells (xs.setIfInBounds 33 (.int .u64 (slot + 1))) 49)).heap[W1.heap.size]? = some (.cells #[.bool x0, .bool x1, .bool x2] 53 (0, 0)) := heap_past _ _ _ _ (heap_alloc_last W1 _))
    | ((with_reducible refine at_alloc 53 ?_); refine wpList_alloc_store rfl rfl 53 5 _ rfl rfl rfl #[.bool x0, .bool x1, .bool x2] rfl rfl (zeroOf Try.prog 53) (info_b3 _ _ _) (zsz_b3 _ _ _) rfl ?_)
    | ((with_reducible refine at_alloc 49 ?_); refine wpList_alloc_store rfl rfl 49 7 _ rfl rfl rfl xs rfl rfl (zeroOf Try.prog 49) hiz.out hzz.out ho.out ?_; simp only [World.size_alloc])
    | ((with_reducible refine at_load 49 ?_); refine wpList_value (by rfl) _ (run_load_box _ 49 _ (by rfl) w.heap.size (by rfl) _ xs (0, 0) _ (by first | exact hXa | exact hXb) Try.underlying49 rfl hi.out) ?_)
    | ((with_reducible refine at_load 51 ?_); refine wpList_value (by rfl) _ (run_load_box _ 51 _ (by rfl) (w.heap.size + 1) (by rfl) _ ds (0, 0) _ (by first | exact hDa | exact hDc) Try.underlying51 rfl hj.out) ?_)
    | ((with_reducible refine (h0.out _).mono ?_); rintro e W0 ⟨rfl, hbA⟩
       have hs0 := hbA.size
       simp only [World.size_alloc] at hs0
       have hXa := (hbA.block _ (by simp only [World.size_alloc]; omega)).trans hX0
       have hDa := (hbA.block _ (by simp only [World.size_alloc]; omega)).trans hD0
       have bA : Below w.heap.size w W0 := hb0.trans (hbA.mono (by simp only [World.size_alloc]; omega)))
    | ((with_reducible refine (h1.out _ bA).mono ?_); rintro e W1 ⟨rfl, hb1⟩
       have hs1 := hb1.size
       have hXc := (hb1.block _ (by omega)).trans hXa
       have hXb : (W1.alloc (.cells #[.bool x0, .bool x1, .bool x2] 53)).heap[w.heap.size]? = some (.cells xs 49 (0, 0)) := heap_past _ _ _ _ hXc
       have hD1 := (hb1.block _ (by omega)).trans hDa
       have cx1 := (cell_of_row W1 _ 33 xs _ _ hXc).trans f33
       have bB : Below w.heap.size w W1 := bA.trans (hb1.mono (by omega))
       have hp1 : w.heap.size < W1.heap.size := by omega)
    | ((with_reducible refine at_load 49 ?_); refine wpList_value (by rfl) _ (run_load_box _ 49 _ (by rfl) (W1.heap.size + 1) (by rfl) _ (xs.setIfInBounds 33 (.int .u64 (slot + 1))) (0, 0) _ (by first | exact hYa | exact hYb) Try.underlying49 rfl (by rw [bump_size]; exact hi.out)) ?_)
    | ((with_reducible refine at_load 22 ?_); refine wpList_value (by rfl) _ (run_load_cell _ 22 _ (by rfl) ⟨W1.heap.size + 1, 33, none⟩ (by rfl) (.int .u64 (slot + 1)) (by first | exact hcY | exact hcY3) _ Try.underlying22 rfl) ?_)
    | ((with_reducible refine (h2.out _ bC).mono ?_); rintro e W2 ⟨rfl, hb2⟩
       have hs2 := hb2.size
       simp only [World.size_alloc] at hs2
       have hYb := (hb2.block _ (by simp only [World.size_alloc]; omega)).trans hYa
       have hDc := (hb2.block _ (by simp only [World.size_alloc]; omega)).trans hDd
       have bD : Below w.heap.size w W2 := bC.trans (hb2.mono (by simp only [World.size_alloc]; omega)))
    | ((with_reducible refine (h3.out _ bD).mono ?_); rintro e W3 ⟨rfl, hb3⟩
       have hs3 := hb3.size
       have hp3 : W1.heap.size < W3.heap.size := by omega
       have hp4 : W1.heap.size + 1 < W3.heap.size := by omega
       have hp5 : w.heap.size + 1 < W3.heap.size := by omega
       have hcD3 := (cell_of_row W3 _ 0 ds _ _ ((hb3.block _ (by omega)).trans hDc)).trans fd0
       have hYc := (hb3.block _ (by omega)).trans hYb
       have hcY3 : (W3.alloc (.cells #[.bool false, .bool x1, .bool false] 53)).cell? ⟨W1.heap.size + 1, 33, none⟩ = some (.int .u64 (slot + 1)) := (cell_of_row _ _ 33 _ _ _ (heap_past _ _ _ _ hYc)).trans (bump_get _ _ h33.out)
       have hF3 : W3.heap[W1.heap.size]? = some (.cells #[.bool x0, .bool x1, .bool x2] 53 (0, 0)) := (hb3.block _ (by omega)).trans ((hb2.block _ (by simp only [World.size_alloc]; omega)).trans hFa)
       have cf0 : W3.cell? ⟨W1.heap.size, 0, none⟩ = some (.bool x0) := cell_of_row W3 _ 0 _ _ _ hF3
       have cf1 : W3.cell? ⟨W1.heap.size, 1, none⟩ = some (.bool x1) := cell_of_row W3 _ 1 _ _ _ hF3
       have bE : Below w.heap.size w W3 := bD.trans (hb3.mono (by omega)))
    | ((with_reducible refine at_alloc 53 ?_); refine wpList_alloc_store rfl rfl 53 8 _ rfl rfl rfl #[.bool false, .bool x1, .bool false] rfl rfl (zeroOf Try.prog 53) (info_b3 _ _ _) (zsz_b3 _ _ _) rfl ?_)
    )
  go_ret
  exact ⟨rfl, bE.alloc (by omega) _⟩
set_option maxHeartbeats 4000000 in
theorem law4_high
    (xs ds : Array Value) (w : World) (x1 x2 : Bool) (slot : Int) (hxs : xs.size = 1957) (hone : xs.all (·.oneCell') = true) (hds : ds.size = 100) (f33 : xs[33]? = some (.int .u64 slot)) (g33 : 0 ≤ slot ∧ slot ≤ 1099511627776)
    (hA : ∀ W, Below w.heap.size w W → Calls Try.prog 6 #[.agg xs, .agg ds] W fun e w' => e = .returned (.tuple #[.agg #[.bool true, .bool x1, .bool x2], .int .i64 0]) ∧ Below W.heap.size W w')
    (hq : ((slot + 1) / 4 != slot / 4) = false)
    (hR : ∀ W, Below w.heap.size w W → Calls Try.prog 8 #[.agg (xs.setIfInBounds 33 (.int .u64 (slot + 1)))] W fun e w' => e = .returned (.bool true) ∧ Below W.heap.size W w')
    (hG : ∀ W, Below w.heap.size w W → Calls Try.prog 6 #[.agg (xs.setIfInBounds 33 (.int .u64 (slot + 1))), .agg ds] W fun e w' => e = .returned (.tuple #[.agg #[.bool true, .bool x1, .bool false], .int .i64 0]) ∧ Below W.heap.size W w')
    (dslot : Int) (fd0 : ds[0]? = some (.int .u64 dslot))
    :
    Calls Try.prog 4 #[.agg xs, .agg ds] w fun e w' => e = .returned (.bool true) ∧ Below w.heap.size w w' := by
  have h33 := Lib.hid (show 33 < xs.size by omega)
  have h2 := Lib.hid hR
  have h3 := Lib.hid hG
  clear hR hG
  have hi := Lib.hid (show (Try.prog.info? 49).map (·.size) = some xs.size by rw [hxs]; exact row_size rowT_49)
  have hiz := Lib.hid (show (Try.prog.info? 49).map (fun i => (i.zero, i.size)) = some (some (.agg (zeroOf Try.prog 49)), xs.size) by rw [hxs]; exact (row_zero rowT_49).1)
  have hzz := Lib.hid (show (zeroOf Try.prog 49).size = xs.size by rw [hxs]; exact (row_zero rowT_49).2)
  have hj := Lib.hid (show (Try.prog.info? 51).map (·.size) = some ds.size by rw [hds]; exact row_size rowT_51)
  have ho := Lib.hid hone
  have hb0 : Below w.heap.size w ((w.alloc (.cells xs 49)).alloc (.cells ds 51)) := ((Below.refl _ _).alloc (Nat.le_refl _) _).alloc (by simp) _
  have hX0 := heap_past _ (.cells ds 51) _ _ (heap_alloc_last w (.cells xs 49))
  have hD0 : ((w.alloc (.cells xs 49)).alloc (.cells ds 51)).heap[w.heap.size + 1]? = some (.cells ds 51 (0, 0)) := heap_alloc2_new w _ _
  have h0 := Lib.hid awake_any
  have h1 := Lib.hid hA
  clear hA hxs hds hone
  go_enter Try.func4, Try.ntmps4
  go_wp2_with (first
    | ((with_reducible refine (h1.out _ bA).mono ?_); rintro e W1 ⟨rfl, hb1⟩
       have hs1 := hb1.size
       have hXc := (hb1.block _ (by omega)).trans hXa
       have hXb : (W1.alloc (.cells #[.bool true, .bool x1, .bool x2] 53)).heap[w.heap.size]? = some (.cells xs 49 (0, 0)) := heap_past _ _ _ _ hXc
       have hD1 := (hb1.block _ (by omega)).trans hDa
       have cx1 := (cell_of_row W1 _ 33 xs _ _ hXc).trans f33
       have bB : Below w.heap.size w W1 := bA.trans (hb1.mono (by omega))
       have hp1 : w.heap.size < W1.heap.size := by omega
       have bC : Below w.heap.size w ((W1.alloc (.cells #[.bool true, .bool x1, .bool x2] 53)).alloc (.cells (xs.setIfInBounds 33 (.int .u64 (slot + 1))) 49)) := (bB.alloc (by omega) _).alloc (by simp only [World.size_alloc]; omega) _
       have hYa : ((W1.alloc (.cells #[.bool true, .bool x1, .bool x2] 53)).alloc (.cells (xs.setIfInBounds 33 (.int .u64 (slot + 1))) 49)).heap[W1.heap.size + 1]? = some (.cells (xs.setIfInBounds 33 (.int .u64 (slot + 1))) 49 (0, 0)) := heap_alloc2_new W1 _ _
       have hcY := (cell_of_row _ _ 33 _ _ _ hYa).trans (bump_get xs (.int .u64 (slot + 1)) h33.out)
       have hDd : ((W1.alloc (.cells #[.bool true, .bool x1, .bool x2] 53)).alloc (.cells (xs.setIfInBounds 33 (.int .u64 (slot + 1))) 49)).heap[w.heap.size + 1]? = some (.cells ds 51 (0, 0)) := heap_past _ _ _ _ (heap_past _ _ _ _ hD1)
       have hFa : ((W1.alloc (.cells #[.bool true, .bool x1, .bool x2] 53)).alloc (.cells (xs.setIfInBounds 33 (.int .u64 (slot + 1))) 49)).heap[W1.heap.size]? = some (.cells #[.bool true, .bool x1, .bool x2] 53 (0, 0)) := heap_past _ _ _ _ (heap_alloc_last W1 _))
    | ((with_reducible refine at_alloc 53 ?_); refine wpList_alloc_store rfl rfl 53 5 _ rfl rfl rfl #[.bool true, .bool x1, .bool x2] rfl rfl (zeroOf Try.prog 53) (info_b3 _ _ _) (zsz_b3 _ _ _) rfl ?_)
    | ((with_reducible refine at_alloc 49 ?_); refine wpList_alloc_store rfl rfl 49 7 _ rfl rfl rfl xs rfl rfl (zeroOf Try.prog 49) hiz.out hzz.out ho.out ?_; simp only [World.size_alloc])
    | ((with_reducible refine at_load 49 ?_); refine wpList_value (by rfl) _ (run_load_box _ 49 _ (by rfl) w.heap.size (by rfl) _ xs (0, 0) _ (by first | exact hXa | exact hXb) Try.underlying49 rfl hi.out) ?_)
    | ((with_reducible refine at_load 51 ?_); refine wpList_value (by rfl) _ (run_load_box _ 51 _ (by rfl) (w.heap.size + 1) (by rfl) _ ds (0, 0) _ (by first | exact hDa | exact hDc) Try.underlying51 rfl hj.out) ?_)
    | ((with_reducible refine (h0.out _).mono ?_); rintro e W0 ⟨rfl, hbA⟩
       have hs0 := hbA.size
       simp only [World.size_alloc] at hs0
       have hXa := (hbA.block _ (by simp only [World.size_alloc]; omega)).trans hX0
       have hDa := (hbA.block _ (by simp only [World.size_alloc]; omega)).trans hD0
       have bA : Below w.heap.size w W0 := hb0.trans (hbA.mono (by simp only [World.size_alloc]; omega)))
    | ((with_reducible refine (h1.out _ bA).mono ?_); rintro e W1 ⟨rfl, hb1⟩
       have hs1 := hb1.size
       have hXc := (hb1.block _ (by omega)).trans hXa
       have hXb : (W1.alloc (.cells #[.bool true, .bool x1, .bool x2] 53)).heap[w.heap.size]? = some (.cells xs 49 (0, 0)) := heap_past _ _ _ _ hXc
       have hD1 := (hb1.block _ (by omega)).trans hDa
       have cx1 := (cell_of_row W1 _ 33 xs _ _ hXc).trans f33
       have bB : Below w.heap.size w W1 := bA.trans (hb1.mono (by omega))
       have hp1 : w.heap.size < W1.heap.size := by omega)
    | ((with_reducible refine at_load 49 ?_); refine wpList_value (by rfl) _ (run_load_box _ 49 _ (by rfl) (W1.heap.size + 1) (by rfl) _ (xs.setIfInBounds 33 (.int .u64 (slot + 1))) (0, 0) _ (by first | exact hYa | exact hYb) Try.underlying49 rfl (by rw [bump_size]; exact hi.out)) ?_)
    | ((with_reducible refine at_load 22 ?_); refine wpList_value (by rfl) _ (run_load_cell _ 22 _ (by rfl) ⟨W1.heap.size + 1, 33, none⟩ (by rfl) (.int .u64 (slot + 1)) (by first | exact hcY | exact hcY3) _ Try.underlying22 rfl) ?_)
    | ((with_reducible refine (h2.out _ bC).mono ?_); rintro e W2 ⟨rfl, hb2⟩
       have hs2 := hb2.size
       simp only [World.size_alloc] at hs2
       have hYb := (hb2.block _ (by simp only [World.size_alloc]; omega)).trans hYa
       have hDc := (hb2.block _ (by simp only [World.size_alloc]; omega)).trans hDd
       have bD : Below w.heap.size w W2 := bC.trans (hb2.mono (by simp only [World.size_alloc]; omega)))
    | ((with_reducible refine (h3.out _ bD).mono ?_); rintro e W3 ⟨rfl, hb3⟩
       have hs3 := hb3.size
       have hp3 : W1.heap.size < W3.heap.size := by omega
       have hp4 : W1.heap.size + 1 < W3.heap.size := by omega
       have hp5 : w.heap.size + 1 < W3.heap.size := by omega
       have hcD3 := (cell_of_row W3 _ 0 ds _ _ ((hb3.block _ (by omega)).trans hDc)).trans fd0
       have hYc := (hb3.block _ (by omega)).trans hYb
       have hcY3 : (W3.alloc (.cells #[.bool true, .bool x1, .bool false] 53)).cell? ⟨W1.heap.size + 1, 33, none⟩ = some (.int .u64 (slot + 1)) := (cell_of_row _ _ 33 _ _ _ (heap_past _ _ _ _ hYc)).trans (bump_get _ _ h33.out)
       have hF3 : W3.heap[W1.heap.size]? = some (.cells #[.bool true, .bool x1, .bool x2] 53 (0, 0)) := (hb3.block _ (by omega)).trans ((hb2.block _ (by simp only [World.size_alloc]; omega)).trans hFa)
       have cf0 : W3.cell? ⟨W1.heap.size, 0, none⟩ = some (.bool true) := cell_of_row W3 _ 0 _ _ _ hF3
       have cf1 : W3.cell? ⟨W1.heap.size, 1, none⟩ = some (.bool x1) := cell_of_row W3 _ 1 _ _ _ hF3
       have bE : Below w.heap.size w W3 := bD.trans (hb3.mono (by omega)))
    | ((with_reducible refine at_alloc 53 ?_); refine wpList_alloc_store rfl rfl 53 8 _ rfl rfl rfl #[.bool true, .bool x1, .bool false] rfl rfl (zeroOf Try.prog 53) (info_b3 _ _ _) (zsz_b3 _ _ _) rfl ?_)
    )
  go_ret
  exact ⟨rfl, bE.alloc (by omega) _⟩
end Go.Proofs.Ytbfmbgeibhkheaa
