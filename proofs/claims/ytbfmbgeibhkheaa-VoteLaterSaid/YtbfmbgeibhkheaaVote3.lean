/- Flags of the program: in time. -/
import Derived.Test.YtbfmbgeibhkheaaVote2
namespace Go.Proofs.Ytbfmbgeibhkheaa
open Go.RowKit
set_option maxRecDepth 100000

/-- RootAt, in whatever world: the contract asks only for the flat cells. -/
theorem root_all {w0 : World} {xs : Array Value} {s : Sx} (h : StRep w0 xs s) (k : Int) (w : World) (h0 : 0 ≤ k) (h1 : k ≤ 18446744073709551615) :
    Calls Try.prog 19 #[.agg xs, .int .u64 k] w fun e w' => e = .returned (.tuple #[.agg (rootCells xs s k), .int .i64 (if s.rootOk k then 0 else 1)]) ∧ Below w.heap.size w w' := by
  by_cases c : k < s.n 33 ∧ s.n 33 - k ≤ 8
  · have e : s.rootOk k = true := by simp [Sx.rootOk, c]
    simp only [rootCells, e, if_true]
    exact root_ok xs (s.n 33) k w h.size h.one (h.u64 33 rfl) (h.u64b 33 rfl) h0 h1 c.1 c.2
  · have e : s.rootOk k = false := by simp [Sx.rootOk]; omega
    simp only [rootCells, e, Bool.false_eq_true, if_false]
    exact root_bad xs (s.n 33) k w (h.u64 33 rfl) (h.u64b 33 rfl) h0 h1 c
set_option maxHeartbeats 4000000 in
theorem flags_worth (xs ds : Array Value) (s : Sx) (d : Nat → Int) (w : World) (hs : StRep w xs s) (hd : FRep 100 dtK ds d) (hw : s.rightB = true) (ht : timesE (s.n 33) (d 0) (d 67) = 0) (x0 x1 x2 : Bool) (ec : Int)
    (hwv : ∀ w', w'.heap[w.heap.size]? = some (.cells xs 49 (0, 0)) → w'.heap[w.heap.size + 1]? = some (.cells ds 51 (0, 0)) → Calls Try.prog 11 #[.pointer (some ⟨w.heap.size, 0, none⟩), .pointer (some ⟨w.heap.size + 1, 0, none⟩), .bool (d 67 == s.n 33 / 4)] w' fun e w'' => e = .returned (.tuple #[.agg #[.bool x0, .bool x1, .bool x2], .int .i64 ec]) ∧ Below w'.heap.size w' w'') :
    Calls Try.prog 6 #[.agg xs, .agg ds] w fun e w' => e = .returned (.tuple #[.agg #[.bool x0, .bool x1, .bool x2], .int .i64 ec]) ∧ Below w.heap.size w w' := by
  have hxs' := Lib.hid hs.size
  have hO := own_begin w xs ds
  have hR := Lib.hid (right_any xs s _ (hs.later hO.below))
  rw [hw] at hR
  have f33 := hs.u64 33 rfl
  have g33 := hs.u64b 33 rfl
  have d0 : ds[0]? = some (.int .u64 (d 0)) := (hd.flat 0 (by omega)).1
  have b0 : 0 ≤ d 0 ∧ d 0 ≤ 18446744073709551615 := (hd.flat 0 (by omega)).2
  have d67 : ds[67]? = some (.int .u64 (d 67)) := (hd.flat 67 (by omega)).1
  have hT := Lib.hid (fun w' a b c => timed_any w.heap.size (w.heap.size + 1) (s.n 33) (d 0) (d 67) w' a g33 b b0 c)
  rw [ht] at hT
  have hE : ((0 : Int) == 0) = true := rfl
  rw [hE, Bool.true_and] at hT
  have hV := Lib.hid hwv
  generalize (d 67 == s.n 33 / 4) = now at *
  clear hs hd hw ht hwv
  go_enter Try.func6, Try.ntmps6
  go_wp2_with (first
    | ((with_reducible refine at_load 49 ?_); refine wpList_value (by rfl) _ (run_load_box _ 49 _ (by rfl) w.heap.size (by rfl) _ xs (0, 0) _ hO.hX Try.underlying49 rfl (by rw [row_size rowT_49, hxs'.out])) ?_)
    | ((with_reducible refine hR.out.mono ?_); rintro e W1 ⟨rfl, hb1⟩
       have hO1 := hO.call (by simp; omega) hb1
       have hs1 := hO1.size
       have hp1 : w.heap.size < W1.heap.size := by omega
       have hq1 : w.heap.size + 1 < W1.heap.size := by omega
       have hr1q : w.heap.size + 1 + 1 < W1.heap.size := by omega
       have cx1 := (cell_of_row W1 _ 33 xs _ _ hO1.hX).trans f33
       have cd1 := (cell_of_row W1 _ 0 ds _ _ hO1.hD).trans d0
       have ce1 := (cell_of_row W1 _ 67 ds _ _ hO1.hD).trans d67
       have u01 := hO1.v0
       have u11 := hO1.v1
       have u21 := hO1.v2
       have t01 := hO1.z0
       have t11 := hO1.z1
       have t21 := hO1.z2)
    | ((with_reducible refine (hT.out W1 cx1 cd1 ce1).mono ?_); rintro e W2 ⟨rfl, hb2⟩
       have hO2 := hO1.call (by omega) hb2
       have hs2 := hO2.size
       have hp2 : w.heap.size < W2.heap.size := by omega
       have hq2 : w.heap.size + 1 < W2.heap.size := by omega
       have hr2q : w.heap.size + 1 + 1 < W2.heap.size := by omega
       have cx2 := (cell_of_row W2 _ 33 xs _ _ hO2.hX).trans f33
       have cd2 := (cell_of_row W2 _ 0 ds _ _ hO2.hD).trans d0
       have ce2 := (cell_of_row W2 _ 67 ds _ _ hO2.hD).trans d67
       have u02 := hO2.v0
       have u12 := hO2.v1
       have u22 := hO2.v2
       have t02 := hO2.z0
       have t12 := hO2.z1
       have t22 := hO2.z2)
    | ((with_reducible refine (hV.out W2 hO2.hX hO2.hD).mono ?_); rintro e W3 ⟨rfl, hb3⟩
       have hO3 := hO2.call (by omega) hb3
       have hs3 := hO3.size
       have hp3 : w.heap.size < W3.heap.size := by omega
       have hq3 : w.heap.size + 1 < W3.heap.size := by omega
       have hr3q : w.heap.size + 1 + 1 < W3.heap.size := by omega
       have cx3 := (cell_of_row W3 _ 33 xs _ _ hO3.hX).trans f33
       have cd3 := (cell_of_row W3 _ 0 ds _ _ hO3.hD).trans d0
       have ce3 := (cell_of_row W3 _ 67 ds _ _ hO3.hD).trans d67
       have u03 := hO3.v0
       have u13 := hO3.v1
       have u23 := hO3.v2
       have t03 := hO3.z0
       have t13 := hO3.z1
       have t23 := hO3.z2))
  refine ret_mid_tmp rfl (w.heap.size + 1 + 1) 0 [.bool x0, .bool x1, .bool x2] _ rfl (range3 (by simp [go_sem, *]) (by simp [go_sem, *]) (by simp [go_sem, *])) Try.underlying53 rfl (by rw [row_size rowT_53]; rfl) rfl ?_
  exact ⟨rfl, ((hO3.below.setCell (by simp only; omega) _).setCell (by simp only; omega) _).setCell (by simp only; omega) _⟩

/-- Flags of the program: what a vote is worth. -/
theorem flags_any (xs ds : Array Value) (s : Sx) (d : Nat → Int) (w : World) (hs : StRep w xs s) (hd : FRep 100 dtK ds d) :
    Calls Try.prog 6 #[.agg xs, .agg ds] w fun e w' => e = .returned (voteV xs ds s d) ∧ Below w.heap.size w w' := by
  unfold voteV
  by_cases hw : s.rightB = false
  · rw [if_pos hw]
    exact flags_wrong xs ds s d w hs hd hw
  rw [if_neg hw]
  have hw' : s.rightB = true := by simpa using hw
  by_cases ht : timesE (s.n 33) (d 0) (d 67) = 0
  · rw [if_neg (by simpa using ht)]
    have hv := fun w' (hX : w'.heap[w.heap.size]? = some (.cells xs 49 (0, 0))) (hD : w'.heap[w.heap.size + 1]? = some (.cells ds 51 (0, 0))) =>
      worth_any w.heap.size (w.heap.size + 1) xs ds (0, 0) (0, 0) s d w' hs hd hX hD ht (fun k w' h0 h1 => root_all hs k w' h0 h1) (d 67 == s.n 33 / 4)
    cases hq : srcB xs ds (d 67 == s.n 33 / 4)
    · rw [hq] at hv
      exact flags_worth xs ds s d w hs hd hw' ht _ _ _ _ hv
    · rw [hq] at hv
      exact flags_worth xs ds s d w hs hd hw' ht _ _ _ _ hv
  · rw [if_pos (by simpa using ht)]
    exact flags_late xs ds s d w hs hd hw' ht
end Go.Proofs.Ytbfmbgeibhkheaa
