/- Epoch, Before and times of the reference; timed of the program. -/
import Derived.Test.YtbfmbgeibhkheaaRoot
import Derived.Test.YtbfmbgeibhkheaaFlat
namespace Go.Proofs.Ytbfmbgeibhkheaa
open Go.RowKit
set_option maxRecDepth 100000

theorem wpList_load_rowG {P : Program} {ops : Array Oper} {rest : List Oper} {o : Oper} {a : Act} {w : World} {Q : Exit → Act → World → Prop} (hw : Region.wanted o (yielded ops a.tmps) = true) (ty : TypeId) (x : Operand) (ho : o.op = .load ty x)
    (g : Nat) (hx : a.eval x = .pointer (some ⟨g, 0, none⟩)) (t : TypeId) (cs : Array Value) (fr : Nat × Nat) (d : TypeDesc) (hg : w.heap[g]? = some (.cells cs t fr))
    (hu : P.underlying ty = some d) (hd : (match d with | .struct _ | .array _ _ => true | _ => false) = true) (hi : (P.info? ty).map (·.size) = some cs.size)
    (h : wpList P ops Q rest (a.put o.dst (.agg cs)) w) : wpList P ops Q (o :: rest) a w := by
  unfold wpList
  rw [if_pos hw]
  exact .inl (wp_load_row ty x ho g hx t cs fr d hg hu hd hi h)
theorem heap_past (w : World) (o p : Obj) (k : Nat) (h : w.heap[k]? = some p) : (w.alloc o).heap[k]? = some p := by
  rw [Below.heap_alloc w o k (by
    by_cases hlt : k < w.heap.size
    · exact hlt
    · simp [Array.getElem?_eq_none (Nat.le_of_not_lt hlt)] at h)]
  exact h

theorem epoch13_any (xs : Array Value) (slot : Int) (w : World) (f33 : xs[33]? = some (.int .u64 slot)) (g33 : 0 ≤ slot ∧ slot ≤ 18446744073709551615) :
    Calls Try.prog 20 #[.agg xs] w fun e w' => e = .returned (.int .u64 (slot / 4)) ∧ w.alloc (.cells xs 49) = w' := by
  go_enter Try.func20, Try.ntmps20
  go_wp2
  go_ret
  exact ⟨rfl, rfl⟩
/-- The epoch before. -/
def beforeI (slot : Int) : Int := if slot / 4 ≤ 1 then 0 else slot / 4 - 1
theorem rowT_49 : rowB Try.prog 49 1957 = true := by kernel_rfl
theorem rowT_51 : rowB Try.prog 51 100 = true := by kernel_rfl
theorem before13_any (xs : Array Value) (slot : Int) (w : World) (hs : xs.size = 1957) (f33 : xs[33]? = some (.int .u64 slot)) (g33 : 0 ≤ slot ∧ slot ≤ 18446744073709551615) :
    Calls Try.prog 21 #[.agg xs] w fun e w' => e = .returned (.int .u64 (beforeI slot)) ∧ (w.alloc (.cells xs 49)).alloc (.cells xs 49) = w' := by
  have hE := Lib.hid (fun w => epoch13_any xs slot w f33 g33)
  have hL := Lib.hid (fun w => rless_any (slot / 4) 1 w (by omega) (by omega) (by omega) (by omega))
  have hs' := Lib.hid hs
  clear hs
  have hd : Hid (beforeI slot = if slot / 4 ≤ 1 then 0 else slot / 4 - 1) := Lib.hid rfl
  generalize hq : (if slot / 4 ≤ 1 then 0 else slot / 4 - 1) = q at *
  have hq' := Lib.hid hq
  clear hq
  go_enter Try.func21, Try.ntmps21
  go_wp2_with (first
    | ((with_reducible refine at_load 49 ?_); refine wpList_load_rowG rfl 49 _ rfl w.heap.size rfl 49 xs _ _ (heap_alloc_last w _) Try.underlying49 rfl (by rw [row_size rowT_49, hs'.out]) ?_)
    | ((with_reducible refine (hE.out _).mono ?_); rintro e w' ⟨rfl, rfl⟩)
    | ((with_reducible refine (hL.out _).mono ?_); rintro e w' ⟨rfl, rfl⟩))
  go_ret
  exact ⟨by rw [hd.out]; rfl, rfl⟩

/-- Epoch and delay: 29 BadEpoch, 31 BadDelay. -/
def timesE (slot dslot t : Int) : Int := if (t ≠ slot / 4 ∧ t ≠ beforeI slot) ∨ t ≠ dslot / 4 then 29 else if slot ≤ dslot ∨ 4 < slot - dslot then 31 else 0

theorem times_any (xs ds : Array Value) (slot dslot t : Int) (w : World) (hs : xs.size = 1957) (f33 : xs[33]? = some (.int .u64 slot)) (g33 : 0 ≤ slot ∧ slot ≤ 18446744073709551615)
    (d0 : ds[0]? = some (.int .u64 dslot)) (b0 : 0 ≤ dslot ∧ dslot ≤ 18446744073709551615) (d67 : ds[67]? = some (.int .u64 t)) :
    Calls Try.prog 12 #[.agg xs, .agg ds] w fun e w' => e = .returned (.int .i64 (timesE slot dslot t)) ∧ Below w.heap.size w w' := by
  have hE := Lib.hid (fun w => epoch13_any xs slot w f33 g33)
  have hB := Lib.hid (fun w => before13_any xs slot w hs f33 g33)
  have hs' := Lib.hid hs
  clear hs
  have hT := Lib.hid (show timesE slot dslot t = if (t ≠ slot / 4 ∧ t ≠ beforeI slot) ∨ t ≠ dslot / 4 then 29 else if slot ≤ dslot ∨ 4 < slot - dslot then 31 else 0 from rfl)
  generalize timesE slot dslot t = E at *
  generalize beforeI slot = q at *
  cases t1 : (t != slot / 4)
  · cases t3 : (t != dslot / 4)
    · by_cases c4 : slot ≤ dslot
      · have hT' : Hid (E = 31) := Lib.hid (by rw [hT.out]; simp at t1 t3; split <;> first | omega | (split <;> omega))
        clear hT
        go_enter Try.func12, Try.ntmps12
        go_wp2_with (first
          | ((with_reducible refine at_load 49 ?_); refine wpList_load_rowG rfl 49 _ rfl w.heap.size rfl 49 xs _ _ (by first | exact heap_past _ _ _ _ (heap_alloc_last w _) | exact heap_past _ _ _ _ (heap_past _ _ _ _ (heap_alloc_last w _))) Try.underlying49 rfl (by rw [row_size rowT_49, hs'.out]) ?_)
          | ((with_reducible refine (hE.out _).mono ?_); rintro e w' ⟨rfl, rfl⟩)
          | ((with_reducible refine (hB.out _).mono ?_); rintro e w' ⟨rfl, rfl⟩))
        go_ret
        exact ⟨by rw [hT'.out]; rfl, ((((Below.refl _ _).alloc (Nat.le_refl _) _).alloc (by simp) _).alloc (by simp; omega) _)⟩
      · by_cases c5 : 4 < slot - dslot
        · have hT' : Hid (E = 31) := Lib.hid (by rw [hT.out]; simp at t1 t3; split <;> first | omega | (split <;> omega))
          clear hT
          go_enter Try.func12, Try.ntmps12
          go_wp2_with (first
            | ((with_reducible refine at_load 49 ?_); refine wpList_load_rowG rfl 49 _ rfl w.heap.size rfl 49 xs _ _ (by first | exact heap_past _ _ _ _ (heap_alloc_last w _) | exact heap_past _ _ _ _ (heap_past _ _ _ _ (heap_alloc_last w _))) Try.underlying49 rfl (by rw [row_size rowT_49, hs'.out]) ?_)
            | ((with_reducible refine (hE.out _).mono ?_); rintro e w' ⟨rfl, rfl⟩)
            | ((with_reducible refine (hB.out _).mono ?_); rintro e w' ⟨rfl, rfl⟩))
          go_ret
          exact ⟨by rw [hT'.out]; rfl, ((((Below.refl _ _).alloc (Nat.le_refl _) _).alloc (by simp) _).alloc (by simp; omega) _)⟩
        · have hT' : Hid (E = 0) := Lib.hid (by rw [hT.out]; simp at t1 t3; split <;> first | omega | (split <;> omega))
          clear hT
          go_enter Try.func12, Try.ntmps12
          go_wp2_with (first
            | ((with_reducible refine at_load 49 ?_); refine wpList_load_rowG rfl 49 _ rfl w.heap.size rfl 49 xs _ _ (by first | exact heap_past _ _ _ _ (heap_alloc_last w _) | exact heap_past _ _ _ _ (heap_past _ _ _ _ (heap_alloc_last w _))) Try.underlying49 rfl (by rw [row_size rowT_49, hs'.out]) ?_)
            | ((with_reducible refine (hE.out _).mono ?_); rintro e w' ⟨rfl, rfl⟩)
            | ((with_reducible refine (hB.out _).mono ?_); rintro e w' ⟨rfl, rfl⟩))
          go_ret
          exact ⟨by rw [hT'.out]; rfl, ((((Below.refl _ _).alloc (Nat.le_refl _) _).alloc (by simp) _).alloc (by simp; omega) _)⟩
    · have hT' : Hid (E = 29) := Lib.hid (by rw [hT.out]; simp at t1 t3; split <;> first | omega | (split <;> omega))
      clear hT
      go_enter Try.func12, Try.ntmps12
      go_wp2_with (first
        | ((with_reducible refine at_load 49 ?_); refine wpList_load_rowG rfl 49 _ rfl w.heap.size rfl 49 xs _ _ (by first | exact heap_past _ _ _ _ (heap_alloc_last w _) | exact heap_past _ _ _ _ (heap_past _ _ _ _ (heap_alloc_last w _))) Try.underlying49 rfl (by rw [row_size rowT_49, hs'.out]) ?_)
        | ((with_reducible refine (hE.out _).mono ?_); rintro e w' ⟨rfl, rfl⟩)
        | ((with_reducible refine (hB.out _).mono ?_); rintro e w' ⟨rfl, rfl⟩))
      go_ret
      exact ⟨by rw [hT'.out]; rfl, ((((Below.refl _ _).alloc (Nat.le_refl _) _).alloc (by simp) _).alloc (by simp; omega) _)⟩
  · cases t2 : (t != q)
    · cases t3 : (t != dslot / 4)
      · by_cases c4 : slot ≤ dslot
        · have hT' : Hid (E = 31) := Lib.hid (by rw [hT.out]; simp at t1 t2 t3; split <;> first | omega | (split <;> omega))
          clear hT
          go_enter Try.func12, Try.ntmps12
          go_wp2_with (first
            | ((with_reducible refine at_load 49 ?_); refine wpList_load_rowG rfl 49 _ rfl w.heap.size rfl 49 xs _ _ (by first | exact heap_past _ _ _ _ (heap_alloc_last w _) | exact heap_past _ _ _ _ (heap_past _ _ _ _ (heap_alloc_last w _))) Try.underlying49 rfl (by rw [row_size rowT_49, hs'.out]) ?_)
            | ((with_reducible refine (hE.out _).mono ?_); rintro e w' ⟨rfl, rfl⟩)
            | ((with_reducible refine (hB.out _).mono ?_); rintro e w' ⟨rfl, rfl⟩))
          go_ret
          exact ⟨by rw [hT'.out]; rfl, ((((((Below.refl _ _).alloc (Nat.le_refl _) _).alloc (by simp) _).alloc (by simp; omega) _).alloc (by simp; omega) _).alloc (by simp; omega) _)⟩
        · by_cases c5 : 4 < slot - dslot
          · have hT' : Hid (E = 31) := Lib.hid (by rw [hT.out]; simp at t1 t2 t3; split <;> first | omega | (split <;> omega))
            clear hT
            go_enter Try.func12, Try.ntmps12
            go_wp2_with (first
              | ((with_reducible refine at_load 49 ?_); refine wpList_load_rowG rfl 49 _ rfl w.heap.size rfl 49 xs _ _ (by first | exact heap_past _ _ _ _ (heap_alloc_last w _) | exact heap_past _ _ _ _ (heap_past _ _ _ _ (heap_alloc_last w _))) Try.underlying49 rfl (by rw [row_size rowT_49, hs'.out]) ?_)
              | ((with_reducible refine (hE.out _).mono ?_); rintro e w' ⟨rfl, rfl⟩)
              | ((with_reducible refine (hB.out _).mono ?_); rintro e w' ⟨rfl, rfl⟩))
            go_ret
            exact ⟨by rw [hT'.out]; rfl, ((((((Below.refl _ _).alloc (Nat.le_refl _) _).alloc (by simp) _).alloc (by simp; omega) _).alloc (by simp; omega) _).alloc (by simp; omega) _)⟩
          · have hT' : Hid (E = 0) := Lib.hid (by rw [hT.out]; simp at t1 t2 t3; split <;> first | omega | (split <;> omega))
            clear hT
            go_enter Try.func12, Try.ntmps12
            go_wp2_with (first
              | ((with_reducible refine at_load 49 ?_); refine wpList_load_rowG rfl 49 _ rfl w.heap.size rfl 49 xs _ _ (by first | exact heap_past _ _ _ _ (heap_alloc_last w _) | exact heap_past _ _ _ _ (heap_past _ _ _ _ (heap_alloc_last w _))) Try.underlying49 rfl (by rw [row_size rowT_49, hs'.out]) ?_)
              | ((with_reducible refine (hE.out _).mono ?_); rintro e w' ⟨rfl, rfl⟩)
              | ((with_reducible refine (hB.out _).mono ?_); rintro e w' ⟨rfl, rfl⟩))
            go_ret
            exact ⟨by rw [hT'.out]; rfl, ((((((Below.refl _ _).alloc (Nat.le_refl _) _).alloc (by simp) _).alloc (by simp; omega) _).alloc (by simp; omega) _).alloc (by simp; omega) _)⟩
      · have hT' : Hid (E = 29) := Lib.hid (by rw [hT.out]; simp at t1 t2 t3; split <;> first | omega | (split <;> omega))
        clear hT
        go_enter Try.func12, Try.ntmps12
        go_wp2_with (first
          | ((with_reducible refine at_load 49 ?_); refine wpList_load_rowG rfl 49 _ rfl w.heap.size rfl 49 xs _ _ (by first | exact heap_past _ _ _ _ (heap_alloc_last w _) | exact heap_past _ _ _ _ (heap_past _ _ _ _ (heap_alloc_last w _))) Try.underlying49 rfl (by rw [row_size rowT_49, hs'.out]) ?_)
          | ((with_reducible refine (hE.out _).mono ?_); rintro e w' ⟨rfl, rfl⟩)
          | ((with_reducible refine (hB.out _).mono ?_); rintro e w' ⟨rfl, rfl⟩))
        go_ret
        exact ⟨by rw [hT'.out]; rfl, ((((((Below.refl _ _).alloc (Nat.le_refl _) _).alloc (by simp) _).alloc (by simp; omega) _).alloc (by simp; omega) _).alloc (by simp; omega) _)⟩
    · have hT' : Hid (E = 29) := Lib.hid (by rw [hT.out]; simp at t1 t2; split <;> first | omega | (split <;> omega))
      clear hT
      go_enter Try.func12, Try.ntmps12
      go_wp2_with (first
        | ((with_reducible refine at_load 49 ?_); refine wpList_load_rowG rfl 49 _ rfl w.heap.size rfl 49 xs _ _ (by first | exact heap_past _ _ _ _ (heap_alloc_last w _) | exact heap_past _ _ _ _ (heap_past _ _ _ _ (heap_alloc_last w _))) Try.underlying49 rfl (by rw [row_size rowT_49, hs'.out]) ?_)
        | ((with_reducible refine (hE.out _).mono ?_); rintro e w' ⟨rfl, rfl⟩)
        | ((with_reducible refine (hB.out _).mono ?_); rintro e w' ⟨rfl, rfl⟩))
      go_ret
      exact ⟨by rw [hT'.out]; rfl, ((((((Below.refl _ _).alloc (Nat.le_refl _) _).alloc (by simp) _).alloc (by simp; omega) _).alloc (by simp; omega) _).alloc (by simp; omega) _)⟩
end Go.Proofs.Ytbfmbgeibhkheaa
