/- Flags of the program: right states. -/
import Derived.Test.YtbfmbgeibhkheaaVote1
namespace Go.Proofs.Ytbfmbgeibhkheaa
open Go.RowKit
set_option maxRecDepth 100000

set_option maxHeartbeats 4000000 in
theorem flags_late (xs ds : Array Value) (s : Sx) (d : Nat → Int) (w : World) (hs : StRep w xs s) (hd : FRep 100 dtK ds d) (hw : s.rightB = true) (ht : timesE (s.n 33) (d 0) (d 67) ≠ 0) :
    Calls Try.prog 6 #[.agg xs, .agg ds] w fun e w' => e = .returned (.tuple #[.agg noFlags, .int .i64 (timesE (s.n 33) (d 0) (d 67))]) ∧ Below w.heap.size w w' := by
  have hxs' := Lib.hid hs.size
  have hO := own_begin w xs ds
  have hR := Lib.hid (right_any xs s _ (hs.later hO.below))
  rw [hw] at hR
  have f33 := hs.u64 33 rfl
  have g33 := hs.u64b 33 rfl
  have d0 : ds[0]? = some (.int .u64 (d 0)) := (hd.flat 0 (by omega)).1
  have b0 : 0 ≤ d 0 ∧ d 0 ≤ 18446744073709551615 := (hd.flat 0 (by omega)).2
  have d67 : ds[67]? = some (.int .u64 (d 67)) := (hd.flat 67 (by omega)).1
  have hT := Lib.hid (fun w' a b c => timed_any w.heap.size (w.heap.size + 1) (s.n 33) (d 0) (d 67) w' a g33 b b0 c)
  generalize timesE (s.n 33) (d 0) (d 67) = E at *
  have hE : (E == 0) = false := by simp [ht]
  have hE2 : (E != 0) = true := by simp [ht]
  rw [hE] at hT
  clear hs hd hw ht
  go_enter Try.func6, Try.ntmps6
  go_wp2_with (first
    | ((with_reducible refine at_load 49 ?_); refine wpList_value (by rfl) _ (run_load_box _ 49 _ (by rfl) w.heap.size (by rfl) _ xs (0, 0) _ hO.hX Try.underlying49 rfl (by rw [row_size rowT_49, hxs'.out])) ?_)
    | ((with_reducible refine hR.out.mono ?_); rintro e W1 ⟨rfl, hb1⟩
       have hO1 := hO.call (by simp; omega) hb1
       have hs1 := hO1.size
       have hp1 : w.heap.size < W1.heap.size := by omega
       have hq1 : w.heap.size + 1 < W1.heap.size := by omega
       have hr1q : w.heap.size + 1 + 1 < W1.heap.size := by omega
       have cx1 := (cell_of_row W1 _ 33 xs _ _ hO1.hX).trans f33
       have cd1 := (cell_of_row W1 _ 0 ds _ _ hO1.hD).trans d0
       have ce1 := (cell_of_row W1 _ 67 ds _ _ hO1.hD).trans d67
       have u01 := hO1.v0
       have u11 := hO1.v1
       have u21 := hO1.v2
       have t01 := hO1.z0
       have t11 := hO1.z1
       have t21 := hO1.z2)
    | ((with_reducible refine (hT.out W1 cx1 cd1 ce1).mono ?_); rintro e W2 ⟨rfl, hb2⟩
       have hO2 := hO1.call (by omega) hb2
       have hs2 := hO2.size
       have hp2 : w.heap.size < W2.heap.size := by omega
       have hq2 : w.heap.size + 1 < W2.heap.size := by omega
       have hr2q : w.heap.size + 1 + 1 < W2.heap.size := by omega
       have cx2 := (cell_of_row W2 _ 33 xs _ _ hO2.hX).trans f33
       have cd2 := (cell_of_row W2 _ 0 ds _ _ hO2.hD).trans d0
       have ce2 := (cell_of_row W2 _ 67 ds _ _ hO2.hD).trans d67
       have u02 := hO2.v0
       have u12 := hO2.v1
       have u22 := hO2.v2
       have t02 := hO2.z0
       have t12 := hO2.z1
       have t22 := hO2.z2))
  refine ret_mid_tmp rfl (w.heap.size + 1 + 1) 0 [.bool false, .bool false, .bool false] _ rfl (range3 (by simp [go_sem, *]) (by simp [go_sem, *]) (by simp [go_sem, *])) Try.underlying53 rfl (by rw [row_size rowT_53]; rfl) rfl ?_
  exact ⟨rfl, ((hO2.below.setCell (by simp only; omega) _).setCell (by simp only; omega) _).setCell (by simp only; omega) _⟩
end Go.Proofs.Ytbfmbgeibhkheaa
