/- Flags of the program. -/
import Derived.Test.YtbfmbgeibhkheaaFits
import Derived.Test.YtbfmbgeibhkheaaRight2
namespace Go.Proofs.Ytbfmbgeibhkheaa
open Go.RowKit
set_option maxRecDepth 100000

/-- What Flags keeps: its two boxes, its answer's three cells. -/
structure OwnV (n : Nat) (w : World) (xs ds : Array Value) (tx td : TypeId) (W : World) : Prop where
  below : Below n w W
  size : n + 1 + 1 + 1 ≤ W.heap.size
  hX : W.heap[n]? = some (.cells xs tx (0, 0))
  hD : W.heap[n + 1]? = some (.cells ds td (0, 0))
  v0 : W.cell? ⟨n + 1 + 1, 0, none⟩ = some (.bool false)
  v1 : W.cell? ⟨n + 1 + 1, 1, none⟩ = some (.bool false)
  v2 : W.cell? ⟨n + 1 + 1, 2, none⟩ = some (.bool false)
  z0 : W.frozen? ⟨n + 1 + 1, 0, none⟩ = false
  z1 : W.frozen? ⟨n + 1 + 1, 1, none⟩ = false
  z2 : W.frozen? ⟨n + 1 + 1, 2, none⟩ = false
theorem OwnV.keep {n : Nat} {w : World} {xs ds : Array Value} {tx td : TypeId} {W W' : World} (h : OwnV n w xs ds tx td W) (hb : Below n w W') (hs : W.heap.size ≤ W'.heap.size) (he : ∀ b, b < n + 1 + 1 + 1 → W'.heap[b]? = W.heap[b]?) : OwnV n w xs ds tx td W' := by
  have e := he (n + 1 + 1) (by omega)
  have c := fun k => World.cell?_of_block (w := W) (w' := W') (a := ⟨n + 1 + 1, k, none⟩) e
  have f := fun k => World.frozen?_of_block (w := W) (w' := W') (a := ⟨n + 1 + 1, k, none⟩) e
  exact ⟨hb, Nat.le_trans h.size hs, (he n (by omega)).trans h.hX, (he (n + 1) (by omega)).trans h.hD, (c 0).trans h.v0, (c 1).trans h.v1, (c 2).trans h.v2, (f 0).trans h.z0, (f 1).trans h.z1, (f 2).trans h.z2⟩
theorem OwnV.call {n : Nat} {w : World} {xs ds : Array Value} {tx td : TypeId} {W W' : World} (h : OwnV n w xs ds tx td W) (hn : n ≤ W.heap.size) (hb : Below W.heap.size W W') : OwnV n w xs ds tx td W' :=
  h.keep (h.below.trans (hb.mono hn)) hb.size (fun b hl => hb.block b (by have := h.size; omega))
theorem OwnV.alloc {n : Nat} {w : World} {xs ds : Array Value} {tx td : TypeId} {W : World} (h : OwnV n w xs ds tx td W) (hn : n ≤ W.heap.size) (o : Obj) : OwnV n w xs ds tx td (W.alloc o) :=
  h.call hn ((Below.refl _ _).alloc (Nat.le_refl _) _)

theorem own_begin (w : World) (xs ds : Array Value) : OwnV w.heap.size w xs ds 49 51 (((w.alloc (.cells xs 49)).alloc (.cells ds 51)).alloc (.cells #[.bool false, .bool false, .bool false] 53)) :=
  ⟨(((Below.refl _ _).alloc (Nat.le_refl _) _).alloc (by simp) _).alloc (by simp; omega) _, by simp, heap_past _ _ _ _ (heap_past _ _ _ _ (heap_alloc_last w _)), heap_past _ _ _ _ (heap_alloc2_new w _ _), by simp [go_sem], by simp [go_sem], by simp [go_sem], by simp [go_sem], by simp [go_sem], by simp [go_sem]⟩
set_option maxHeartbeats 4000000 in
theorem flags_wrong (xs ds : Array Value) (s : Sx) (d : Nat → Int) (w : World) (hs : StRep w xs s) (hd : FRep 100 dtK ds d) (hw : s.rightB = false) :
    Calls Try.prog 6 #[.agg xs, .agg ds] w fun e w' => e = .returned (.tuple #[.agg noFlags, .int .i64 1]) ∧ Below w.heap.size w w' := by
  have hxs' := Lib.hid hs.size
  have hO := own_begin w xs ds
  have hR := Lib.hid (right_any xs s _ (hs.later hO.below))
  rw [hw] at hR
  have f33 := hs.u64 33 rfl
  have d0 : ds[0]? = some (.int .u64 (d 0)) := (hd.flat 0 (by omega)).1
  have d67 : ds[67]? = some (.int .u64 (d 67)) := (hd.flat 67 (by omega)).1
  clear hs hd hw
  go_enter Try.func6, Try.ntmps6
  go_wp2_with (first
    | ((with_reducible refine at_load 49 ?_); refine wpList_value (by rfl) _ (run_load_box _ 49 _ (by rfl) w.heap.size (by rfl) _ xs (0, 0) _ hO.hX Try.underlying49 rfl (by rw [row_size rowT_49, hxs'.out])) ?_)
    | ((with_reducible refine hR.out.mono ?_); rintro e W1 ⟨rfl, hb1⟩
       have hO1 := hO.call (by simp; omega) hb1
       have hs1 := hO1.size
       have hp1 : w.heap.size < W1.heap.size := by omega
       have hq1 : w.heap.size + 1 < W1.heap.size := by omega
       have hr1q : w.heap.size + 1 + 1 < W1.heap.size := by omega
       have cx1 := (cell_of_row W1 _ 33 xs _ _ hO1.hX).trans f33
       have cd1 := (cell_of_row W1 _ 0 ds _ _ hO1.hD).trans d0
       have ce1 := (cell_of_row W1 _ 67 ds _ _ hO1.hD).trans d67
       have u01 := hO1.v0
       have u11 := hO1.v1
       have u21 := hO1.v2
       have t01 := hO1.z0
       have t11 := hO1.z1
       have t21 := hO1.z2))
  refine ret_mid_tmp rfl (w.heap.size + 1 + 1) 0 [.bool false, .bool false, .bool false] _ rfl (range3 (by simp [go_sem, *]) (by simp [go_sem, *]) (by simp [go_sem, *])) Try.underlying53 rfl (by rw [row_size rowT_53]; rfl) rfl ?_
  exact ⟨rfl, ((hO1.below.setCell (by simp only; omega) _).setCell (by simp only; omega) _).setCell (by simp only; omega) _⟩
end Go.Proofs.Ytbfmbgeibhkheaa
