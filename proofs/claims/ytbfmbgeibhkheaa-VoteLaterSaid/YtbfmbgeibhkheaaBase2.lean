/- More plain words on cells: a range of an array's cells behind a name that the walk doesn't open. -/
import Derived.Test.YtbfmbgeibhkheaaBase
namespace Go.Proofs.Ytbfmbgeibhkheaa
open Go.RowKit
/-- The n cells from place o on. -/
def cellsAt (xs : Array Value) (o n : Nat) : List Value := (xs.toList.drop o).take n
theorem cellsAt_length (xs : Array Value) (o n : Nat) (h : o + n ≤ xs.size) : (cellsAt xs o n).length = n := by
  simp [cellsAt]; omega
theorem cellsAt_get (xs : Array Value) (o n j : Nat) (h : j < n) : (cellsAt xs o n)[j]? = xs[o + j]? := by
  simp [cellsAt, h]
theorem cellsAt_app (xs : Array Value) (o n m : Nat) : cellsAt xs o n ++ cellsAt xs (o + n) m = cellsAt xs o (n + m) := by
  unfold cellsAt
  rw [List.take_add, List.drop_drop]
theorem cellsAt_one {xs : Array Value} (hone : ∀ v ∈ xs, v.oneCell' = true) (o n : Nat) : (cellsAt xs o n).toArray.all (·.oneCell') = true := by
  rw [Array.all_eq_true_iff_forall_mem]
  intro v hv
  have hv' : v ∈ cellsAt xs o n := by simpa using hv
  exact hone _ (by simpa using List.mem_of_mem_drop (List.mem_of_mem_take hv'))
theorem cellsAt_extract (xs : Array Value) (o n a m : Nat) (h : a + m ≤ n) : (cellsAt xs o n).toArray.extract a (a + m) = (cellsAt xs (o + a) m).toArray := by
  apply Array.toList_inj.1
  rw [extract_list]
  simp only [cellsAt]
  rw [List.drop_take, List.take_take, List.drop_drop, Nat.min_eq_left (by omega)]
theorem rangeAt_cells {w : World} {b : Nat} {C : Array Value} {t : TypeId} {fr : Nat × Nat} (hb : w.heap[b]? = some (.cells C t fr)) (o n : Nat) : w.rangeAt b o (cellsAt C o n) := by
  unfold cellsAt
  rw [← extract_list]
  exact World.rangeAt_of_block hb o n
end Go.Proofs.Ytbfmbgeibhkheaa
namespace Go.Proofs.Ytbfmbgeibhkheaa
open Go.RowKit
/-- What stood keeps standing. -/
theorem keep_cell {w w' : World} (h : Below w.heap.size w w') {p : Addr} {v : Value} (hp : w.cell? p = some v) : w'.cell? p = some v :=
  (h.cell (block_lt_of_cell hp)).trans hp
theorem below_box {w wr : World} {o : Obj} (h : Below (w.heap.size + 1) (w.alloc o) wr) : Below w.heap.size w wr :=
  ((Below.refl _ _).alloc (Nat.le_refl _) _).trans (h.mono (by omega))
theorem box_cell {w wr : World} {xs : Array Value} {t : TypeId} (h : Below (w.heap.size + 1) (w.alloc (.cells xs t)) wr) (j : Nat) : wr.cell? ⟨w.heap.size, j, none⟩ = xs[j]? := by
  rw [h.cell (by simp)]
  exact cell_of_row _ _ _ _ _ _ (heap_alloc_last w _)
theorem box_heap {w wr : World} {xs : Array Value} {t : TypeId} (h : Below (w.heap.size + 1) (w.alloc (.cells xs t)) wr) : wr.heap[w.heap.size]? = some (.cells xs t) := by
  rw [h.block _ (by omega)]
  exact heap_alloc_last w _
/-- An element of one cell out of an array value. -/
theorem run_index_one {P : Program} (w : World) (t e n : Nat) (hu : P.underlying t = some (.array n e)) {d : TypeDesc} (he : P.underlying e = some d) (hd : d.isRow = false) (hs : (P.info? e).map (·.size) = some 1)
    (cs : Array Value) (k : IntKind) (i : Nat) (hi : i < n) (v : Value) (hv : cs[i]? = some v) : (Instr.index t (.agg cs) (.int k i)).run P w = .ok v w := by
  cases hq : P.info? e with
  | none => simp [hq] at hs
  | some j =>
    have hj : j.size = 1 := by simpa [hq] using hs
    have hagg : (isAgg e).run P w = .ok false w := by
      unfold isAgg
      rw [Sem.run_bind, run_underlying he w]
      cases d <;> simp_all
    simp [Instr.index, asIntOf, Sem.run_bind, run_underlying hu, Result.andThen, sizeOf, typeInfo, hq, hj, part, hagg, hi, hv]
end Go.Proofs.Ytbfmbgeibhkheaa
