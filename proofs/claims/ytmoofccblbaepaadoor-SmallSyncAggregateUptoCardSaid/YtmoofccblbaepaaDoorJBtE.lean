import Derived.Test.YtmoofccblbaepaaDoorJRqS
set_option linter.unusedVariables false
set_option linter.unusedSimpArgs false
set_option linter.unnecessarySimpa false
/- Eight bits in a byte: the reference's and the program's writing. -/
namespace Go.Proofs.YtmoofccblbaepaaDoor
open Go.RowKit BigFrame
set_option maxRecDepth 100000
/-- The byte of the first k bits. -/
def bitN (l : List Int) : Nat → Int
  | 0 => 0
  | k + 1 => bitN l k + (if l.getD k 0 = 0 then 0 else 2 ^ k)
theorem eight {k : Nat} (h : k < 8) : k = 0 ∨ k = 1 ∨ k = 2 ∨ k = 3 ∨ k = 4 ∨ k = 5 ∨ k = 6 ∨ k = 7 := by omega
theorem bitN_lt (l : List Int) : ∀ k, 0 ≤ bitN l k ∧ bitN l k < 2 ^ k
  | 0 => by simp [bitN]
  | k + 1 => by
    have h := bitN_lt l k
    have e : (2 : Int) ^ (k + 1) = 2 ^ k + 2 ^ k := by rw [Int.pow_succ]; omega
    simp only [bitN]
    split <;> omega
theorem sz_u8z : (Tryd.prog.info? 5).map (fun i => (i.zero, i.size, i.bytes)) = some (some (.int .u8 0), 1, 1) := by kernel_rfl
set_option maxHeartbeats 8000000 in
theorem rvector_any (l : List Int) (va : Option Addr) (c : Nat) (w : World) (hl0 : Row w va .bool l) (hlow0 : ∀ b o, va = some ⟨b, o, none⟩ → b < w.heap.size) (h8 : l.length = 8) :
    Calls Tryd.prog 112 #[.slice va 8 c] w fun e w' => e = .returned (.slice (some ⟨w.heap.size, 0, none⟩) 1 1) ∧ w'.heap[w.heap.size]? = some (.cells #[.int .u8 (bitN l 8)] 5 (0, 0)) ∧ Below w.heap.size w w' := by
  have hl := Lib.hid hl0
  have hlow := Lib.hid hlow0
  clear hl0 hlow0
  obtain ⟨i0, hi, hz0, hz1, hz2⟩ := info_parts sz_u8z
  have hmk : ∀ u : World, (Instr.makeSlice 25 (.int .i64 1) (.int .i64 1)).run Tryd.prog u = .ok (.slice (some ⟨u.heap.size, 0, none⟩) 1 1) (u.alloc (.cells #[.int .u8 0] 5)) := fun u => by
    have h := run_make (P := Tryd.prog) u 25 5 i0 (.int .u8 0) Tryd.underlying25 hi hz0 .i64 .i64 1 1 (by omega) (Int.le_refl _) (by rw [hz2]; omega) (by omega)
    have e : madeCells #[Value.int .u8 0] 1 = #[.int .u8 0] := by kernel_rfl
    simpa [hz1, Value.cells, e] using h
  go_enter Tryd.func112, Tryd.ntmps112
  go_wp2
  refine gen_world (fun W => W.heap[w.heap.size]? = some (.cells #[.int .u8 (bitN l 0)] 5 (0, 0)) ∧ Below w.heap.size w W) ⟨heap_new _ _ _ _ rfl, (Below.refl _ _).alloc (Nat.le_refl _) _⟩ ?_
  rintro W0 ⟨hC0, hB0⟩
  go_loopw [4] (fun i wr => ∃ k : Nat, k ≤ 8 ∧ i = .int .i64 (k : Int) ∧ wr.heap[w.heap.size]? = some (.cells #[.int .u8 (bitN l k)] 5 (0, 0)) ∧ Below w.heap.size w wr) (fun i _ => 8 - (intOf i).toNat)
  case atStart => exact ⟨0, by omega, rfl, hC0, hB0⟩
  case round =>
    obtain ⟨k, hk, rfl, hC1, hB1⟩ := hrel
    clear hC0 hB0
    have hC := Lib.hid hC1
    have hB := Lib.hid hB1
    clear hC1 hB1
    by_cases hlt : k < 8
    · obtain ⟨b, o, e0, hcell0⟩ := (hl.out.later hB.out).cell k (by omega)
      subst e0
      have hcell := Lib.hid hcell0
      clear hcell0
      have hlt2 := bitN_lt l k
      obtain ⟨x, hx⟩ : ∃ x, x = bitN l k := ⟨_, rfl⟩
      rw [← hx] at hC hlt2
      obtain ⟨hx0, hx1⟩ := hlt2
      by_cases hz : l.getD k 0 = 0
      · have hst := Lib.hid (show bitN l (k + 1) = x by simp only [bitN]; rw [if_pos hz, Int.add_zero, ← hx])
        have hbit : CK.mk .bool (l.getD k 0) = .bool false := by rw [hz]; rfl
        rw [hbit] at hcell
        clear hbit hz hx hx0 hx1
        rcases eight hlt with rfl | rfl | rfl | rfl | rfl | rfl | rfl | rfl
        all_goals go_wp2_with (first
          | ((with_reducible refine at_iaddr 184 ?_); go_loud (refine wpList_value (by rfl) _ (run_index_slice _ 184 4 _ _ rfl Tryd.underlying184 1 sz_bool b o 8 c rfl .i64 _ rfl (by decide) _ rfl) ?_))
          | ((with_reducible refine at_load 4 ?_); go_loud (refine wpList_value (by rfl) _ (run_load_cell _ 4 _ (by rfl) _ rfl _ hcell.out _ Tryd.underlying4 rfl) ?_)))
        all_goals first
          | exact ⟨⟨_, by decide, rfl, by rw [hst.out]; exact hC.out, hB.out⟩, by decide⟩
          | exact ⟨⟨_, _, _, _, _, _, _, _, _, _, _, _, _, _, _, _, _, _, _, _, _, ⟨_, by decide, rfl, by rw [hst.out]; exact hC.out, hB.out⟩, rfl⟩, by decide⟩
          | (refine ⟨?_, by decide⟩
             (repeat apply Exists.intro)
             exact ⟨⟨_, by decide, rfl, by rw [hst.out]; exact hC.out, hB.out⟩, rfl⟩)
      · have hst := Lib.hid (show bitN l (k + 1) = x + 2 ^ k by simp only [bitN]; rw [if_neg hz, ← hx])
        have hbit : CK.mk .bool (l.getD k 0) = .bool true := by simp only [CK.mk]; rw [decide_eq_true hz]
        rw [hbit] at hcell
        clear hbit hz hx
        rcases eight hlt with rfl | rfl | rfl | rfl | rfl | rfl | rfl | rfl
        all_goals go_wp2_with (first
          | ((with_reducible refine at_iaddr 184 ?_); go_loud (refine wpList_value (by rfl) _ (run_index_slice _ 184 4 _ _ rfl Tryd.underlying184 1 sz_bool b o 8 c rfl .i64 _ rfl (by decide) _ rfl) ?_))
          | ((with_reducible refine at_load 4 ?_); go_loud (refine wpList_value (by rfl) _ (run_load_cell _ 4 _ (by rfl) _ rfl _ hcell.out _ Tryd.underlying4 rfl) ?_))
          | ((with_reducible refine at_load 5 ?_); go_loud (refine wpList_value (by rfl) _ (run_load_cell _ 5 _ (by rfl) ⟨w.heap.size, 0, none⟩ rfl (.int .u8 x) ((cell_of_row wr _ 0 _ _ _ hC.out).trans rfl) _ Tryd.underlying5 rfl) ?_))
          | ((with_reducible refine at_store 5 ?_); refine wpList_store_apart 5 _ _ rfl rfl w.heap.size 0 rfl .u8 _ rfl (by kernel_rfl) _ 5 hC.out (by simp) (fun W3 hC3 hA3 => ?_)
             have hC4 := Lib.hid hC3
             have hB4 := Lib.hid (hA3.below hB.out (Nat.le_refl _) hB.out.size)
             clear hC3 hA3))
        all_goals have hC5 := hC4.out
        all_goals simp only [List.setIfInBounds_toArray, List.set_cons_zero] at hC5
        all_goals first
          | exact ⟨⟨_, by decide, rfl, by rw [hst.out]; exact hC5, hB4.out⟩, by decide⟩
          | (refine ⟨?_, by decide⟩
             (repeat apply Exists.intro)
             exact ⟨⟨_, by decide, rfl, by rw [hst.out]; exact hC5, hB4.out⟩, rfl⟩)
    · have e : k = 8 := by omega
      subst e
      clear hlt hk
      go_wp2
      exact ret_t1 rfl _ rfl rfl ⟨rfl, hC.out, hB.out⟩
end Go.Proofs.YtmoofccblbaepaaDoor
/- Eight bits in a byte: the program's set. -/
namespace Go.Proofs.YtmoofccblbaepaaDoor
open Go.RowKit BigFrame
set_option maxRecDepth 100000
set_option maxHeartbeats 8000000 in
theorem set_0 (g : Nat) (x : Int) (w : World) (hC0 : w.heap[g]? = some (.cells #[.int .u8 x] 5 (0, 0))) (hx0 : 0 ≤ x) (hx1 : x < 1) :
    Calls Tryd.prog 134 #[.slice (some ⟨g, 0, none⟩) 1 1, .int .i64 0] w fun e w' => e = .returned (.tuple #[]) ∧ w'.heap[g]? = some (.cells #[.int .u8 (x + 1)] 5 (0, 0)) ∧ Below g w w' := by
  have hC := Lib.hid hC0
  clear hC0
  have hgs := block_lt hC.out
  have hb6 : bits BinOp.and IntKind.i64 0 7 = 0 := by decide +kernel
  have hb7 : IntKind.u8.wrap 1 = 1 := by decide +kernel
  have hb8 : bits BinOp.or IntKind.u8 x 1 = x + 1 := by
    have h : ∀ n : Fin 1, bits BinOp.or IntKind.u8 ((n : Nat) : Int) 1 = ((n : Nat) : Int) + 1 := by decide +kernel
    have h2 := h ⟨x.toNat, by omega⟩
    rw [show ((x.toNat : Nat) : Int) = x by omega] at h2
    exact h2
  go_enter Tryd.func134, Tryd.ntmps134
  go_wp2
  refine wp_region_held (S := fun _ => True) (by kernel_rfl) ?_
  have hTT : True := trivial
  refine takeL (i := 0) (v := (.slice (some ⟨g, 0, none⟩) 1 1)) rfl (by kernel_rfl) (by kernel_rfl) (by kernel_rfl) (fun _ _ _ h => h) rfl (by assumption) (fun w' hS' => by go_simp) ?_
  simp only [Act.put, List.setIfInBounds_toArray, List.set_cons_zero, List.set_cons_succ]
  refine takeL (i := 1) (v := (.int .i64 0)) rfl (by kernel_rfl) (by kernel_rfl) (by kernel_rfl) (fun _ _ _ h => h) rfl (by assumption) (fun w' hS' => by go_simp) ?_
  simp only [Act.put, List.setIfInBounds_toArray, List.set_cons_zero, List.set_cons_succ]
  refine takeL (i := 2) (v := (.int .i64 0)) rfl (by kernel_rfl) (by kernel_rfl) (by kernel_rfl) (fun _ _ _ h => h) rfl (by assumption) (fun w' hS' => by go_simp) ?_
  simp only [Act.put, List.setIfInBounds_toArray, List.set_cons_zero, List.set_cons_succ]
  refine takeL (i := 3) (v := (.pointer (some ⟨g, 0, none⟩))) rfl (by kernel_rfl) (by kernel_rfl) (by kernel_rfl) (fun _ _ _ h => h) rfl (by assumption) (fun w' _ => run_index_slice w' 25 5 _ _ (by rfl) Tryd.underlying25 1 sz_u8 g 0 1 1 (by rfl) .i64 0 (by rfl) (by decide) _ (by decide)) ?_
  simp only [Act.put, List.setIfInBounds_toArray, List.set_cons_zero, List.set_cons_succ]
  refine takeL (i := 5) (v := (.int .i64 0)) rfl (by kernel_rfl) (by kernel_rfl) (by kernel_rfl) (fun _ _ _ h => h) rfl (by assumption) (fun w' hS' => by go_simp) ?_
  simp only [Act.put, List.setIfInBounds_toArray, List.set_cons_zero, List.set_cons_succ]
  refine takeL (i := 6) (v := (.int .i64 0)) rfl (by kernel_rfl) (by kernel_rfl) (by kernel_rfl) (fun _ _ _ h => h) rfl (by assumption) (fun w' hS' => by go_simp) ?_
  simp only [Act.put, List.setIfInBounds_toArray, List.set_cons_zero, List.set_cons_succ]
  refine takeL (i := 7) (v := (.int .u8 1)) rfl (by kernel_rfl) (by kernel_rfl) (by kernel_rfl) (fun _ _ _ h => h) rfl (by assumption) (fun w' hS' => by go_simp) ?_
  simp only [Act.put, List.setIfInBounds_toArray, List.set_cons_zero, List.set_cons_succ]
  refine oneL (i := 4) rfl (by kernel_rfl) rfl (wp_ran _ (run_load_cell _ 5 _ (by rfl) ⟨g, 0, none⟩ (by rfl) (.int .u8 x) ((cell_of_row { w with drawn := w.drawn + 1 } g 0 _ _ _ hC.out).trans rfl) _ Tryd.underlying5 rfl) ⟨trivial, ?_⟩)
  simp only [Act.put, List.setIfInBounds_toArray, List.set_cons_zero, List.set_cons_succ]
  refine takeL (i := 8) (v := (.int .u8 (x + 1))) rfl (by kernel_rfl) (by kernel_rfl) (by kernel_rfl) (fun _ _ _ h => h) rfl (by assumption) (fun w' hS' => by go_simp) ?_
  simp only [Act.put, List.setIfInBounds_toArray, List.set_cons_zero, List.set_cons_succ]
  refine takeL (i := 9) (v := (.pointer (some ⟨g, 0, none⟩))) rfl (by kernel_rfl) (by kernel_rfl) (by kernel_rfl) (fun _ _ _ h => h) rfl (by assumption) (fun w' _ => run_index_slice w' 25 5 _ _ (by rfl) Tryd.underlying25 1 sz_u8 g 0 1 1 (by rfl) .i64 0 (by rfl) (by decide) _ (by decide)) ?_
  simp only [Act.put, List.setIfInBounds_toArray, List.set_cons_zero, List.set_cons_succ]
  refine oneL (i := 10) rfl (by kernel_rfl) rfl (wp_store1 5 _ _ rfl g 0 rfl (.int .u8 (x + 1)) rfl rfl sz_u8 _ 5 hC.out (by simp) (fun W1 hC1 hA1 => ⟨trivial, ?_⟩))
  simp only [Act.put, List.setIfInBounds_toArray, List.set_cons_zero, List.set_cons_succ] at hC1 ⊢
  refine wpAnyH_done (by kernel_rfl) ?_ _
  exact ret_none rfl rfl ⟨rfl, hC1, hA1.below (⟨rfl, rfl, rfl, Nat.le_refl _, fun _ _ => rfl⟩ : Below g w { w with drawn := w.drawn + 1 }) (Nat.le_refl _) (Nat.le_of_lt hgs)⟩
set_option maxHeartbeats 8000000 in
theorem set_1 (g : Nat) (x : Int) (w : World) (hC0 : w.heap[g]? = some (.cells #[.int .u8 x] 5 (0, 0))) (hx0 : 0 ≤ x) (hx1 : x < 2) :
    Calls Tryd.prog 134 #[.slice (some ⟨g, 0, none⟩) 1 1, .int .i64 1] w fun e w' => e = .returned (.tuple #[]) ∧ w'.heap[g]? = some (.cells #[.int .u8 (x + 2)] 5 (0, 0)) ∧ Below g w w' := by
  have hC := Lib.hid hC0
  clear hC0
  have hgs := block_lt hC.out
  have hb6 : bits BinOp.and IntKind.i64 1 7 = 1 := by decide +kernel
  have hb7 : IntKind.u8.wrap 2 = 2 := by decide +kernel
  have hb8 : bits BinOp.or IntKind.u8 x 2 = x + 2 := by
    have h : ∀ n : Fin 2, bits BinOp.or IntKind.u8 ((n : Nat) : Int) 2 = ((n : Nat) : Int) + 2 := by decide +kernel
    have h2 := h ⟨x.toNat, by omega⟩
    rw [show ((x.toNat : Nat) : Int) = x by omega] at h2
    exact h2
  go_enter Tryd.func134, Tryd.ntmps134
  go_wp2
  refine wp_region_held (S := fun _ => True) (by kernel_rfl) ?_
  have hTT : True := trivial
  refine takeL (i := 0) (v := (.slice (some ⟨g, 0, none⟩) 1 1)) rfl (by kernel_rfl) (by kernel_rfl) (by kernel_rfl) (fun _ _ _ h => h) rfl (by assumption) (fun w' hS' => by go_simp) ?_
  simp only [Act.put, List.setIfInBounds_toArray, List.set_cons_zero, List.set_cons_succ]
  refine takeL (i := 1) (v := (.int .i64 1)) rfl (by kernel_rfl) (by kernel_rfl) (by kernel_rfl) (fun _ _ _ h => h) rfl (by assumption) (fun w' hS' => by go_simp) ?_
  simp only [Act.put, List.setIfInBounds_toArray, List.set_cons_zero, List.set_cons_succ]
  refine takeL (i := 2) (v := (.int .i64 0)) rfl (by kernel_rfl) (by kernel_rfl) (by kernel_rfl) (fun _ _ _ h => h) rfl (by assumption) (fun w' hS' => by go_simp) ?_
  simp only [Act.put, List.setIfInBounds_toArray, List.set_cons_zero, List.set_cons_succ]
  refine takeL (i := 3) (v := (.pointer (some ⟨g, 0, none⟩))) rfl (by kernel_rfl) (by kernel_rfl) (by kernel_rfl) (fun _ _ _ h => h) rfl (by assumption) (fun w' _ => run_index_slice w' 25 5 _ _ (by rfl) Tryd.underlying25 1 sz_u8 g 0 1 1 (by rfl) .i64 0 (by rfl) (by decide) _ (by decide)) ?_
  simp only [Act.put, List.setIfInBounds_toArray, List.set_cons_zero, List.set_cons_succ]
  refine takeL (i := 5) (v := (.int .i64 1)) rfl (by kernel_rfl) (by kernel_rfl) (by kernel_rfl) (fun _ _ _ h => h) rfl (by assumption) (fun w' hS' => by go_simp) ?_
  simp only [Act.put, List.setIfInBounds_toArray, List.set_cons_zero, List.set_cons_succ]
  refine takeL (i := 6) (v := (.int .i64 1)) rfl (by kernel_rfl) (by kernel_rfl) (by kernel_rfl) (fun _ _ _ h => h) rfl (by assumption) (fun w' hS' => by go_simp) ?_
  simp only [Act.put, List.setIfInBounds_toArray, List.set_cons_zero, List.set_cons_succ]
  refine takeL (i := 7) (v := (.int .u8 2)) rfl (by kernel_rfl) (by kernel_rfl) (by kernel_rfl) (fun _ _ _ h => h) rfl (by assumption) (fun w' hS' => by go_simp) ?_
  simp only [Act.put, List.setIfInBounds_toArray, List.set_cons_zero, List.set_cons_succ]
  refine oneL (i := 4) rfl (by kernel_rfl) rfl (wp_ran _ (run_load_cell _ 5 _ (by rfl) ⟨g, 0, none⟩ (by rfl) (.int .u8 x) ((cell_of_row { w with drawn := w.drawn + 1 } g 0 _ _ _ hC.out).trans rfl) _ Tryd.underlying5 rfl) ⟨trivial, ?_⟩)
  simp only [Act.put, List.setIfInBounds_toArray, List.set_cons_zero, List.set_cons_succ]
  refine takeL (i := 8) (v := (.int .u8 (x + 2))) rfl (by kernel_rfl) (by kernel_rfl) (by kernel_rfl) (fun _ _ _ h => h) rfl (by assumption) (fun w' hS' => by go_simp) ?_
  simp only [Act.put, List.setIfInBounds_toArray, List.set_cons_zero, List.set_cons_succ]
  refine takeL (i := 9) (v := (.pointer (some ⟨g, 0, none⟩))) rfl (by kernel_rfl) (by kernel_rfl) (by kernel_rfl) (fun _ _ _ h => h) rfl (by assumption) (fun w' _ => run_index_slice w' 25 5 _ _ (by rfl) Tryd.underlying25 1 sz_u8 g 0 1 1 (by rfl) .i64 0 (by rfl) (by decide) _ (by decide)) ?_
  simp only [Act.put, List.setIfInBounds_toArray, List.set_cons_zero, List.set_cons_succ]
  refine oneL (i := 10) rfl (by kernel_rfl) rfl (wp_store1 5 _ _ rfl g 0 rfl (.int .u8 (x + 2)) rfl rfl sz_u8 _ 5 hC.out (by simp) (fun W1 hC1 hA1 => ⟨trivial, ?_⟩))
  simp only [Act.put, List.setIfInBounds_toArray, List.set_cons_zero, List.set_cons_succ] at hC1 ⊢
  refine wpAnyH_done (by kernel_rfl) ?_ _
  exact ret_none rfl rfl ⟨rfl, hC1, hA1.below (⟨rfl, rfl, rfl, Nat.le_refl _, fun _ _ => rfl⟩ : Below g w { w with drawn := w.drawn + 1 }) (Nat.le_refl _) (Nat.le_of_lt hgs)⟩
set_option maxHeartbeats 8000000 in
theorem set_2 (g : Nat) (x : Int) (w : World) (hC0 : w.heap[g]? = some (.cells #[.int .u8 x] 5 (0, 0))) (hx0 : 0 ≤ x) (hx1 : x < 4) :
    Calls Tryd.prog 134 #[.slice (some ⟨g, 0, none⟩) 1 1, .int .i64 2] w fun e w' => e = .returned (.tuple #[]) ∧ w'.heap[g]? = some (.cells #[.int .u8 (x + 4)] 5 (0, 0)) ∧ Below g w w' := by
  have hC := Lib.hid hC0
  clear hC0
  have hgs := block_lt hC.out
  have hb6 : bits BinOp.and IntKind.i64 2 7 = 2 := by decide +kernel
  have hb7 : IntKind.u8.wrap 4 = 4 := by decide +kernel
  have hb8 : bits BinOp.or IntKind.u8 x 4 = x + 4 := by
    have h : ∀ n : Fin 4, bits BinOp.or IntKind.u8 ((n : Nat) : Int) 4 = ((n : Nat) : Int) + 4 := by decide +kernel
    have h2 := h ⟨x.toNat, by omega⟩
    rw [show ((x.toNat : Nat) : Int) = x by omega] at h2
    exact h2
  go_enter Tryd.func134, Tryd.ntmps134
  go_wp2
  refine wp_region_held (S := fun _ => True) (by kernel_rfl) ?_
  have hTT : True := trivial
  refine takeL (i := 0) (v := (.slice (some ⟨g, 0, none⟩) 1 1)) rfl (by kernel_rfl) (by kernel_rfl) (by kernel_rfl) (fun _ _ _ h => h) rfl (by assumption) (fun w' hS' => by go_simp) ?_
  simp only [Act.put, List.setIfInBounds_toArray, List.set_cons_zero, List.set_cons_succ]
  refine takeL (i := 1) (v := (.int .i64 2)) rfl (by kernel_rfl) (by kernel_rfl) (by kernel_rfl) (fun _ _ _ h => h) rfl (by assumption) (fun w' hS' => by go_simp) ?_
  simp only [Act.put, List.setIfInBounds_toArray, List.set_cons_zero, List.set_cons_succ]
  refine takeL (i := 2) (v := (.int .i64 0)) rfl (by kernel_rfl) (by kernel_rfl) (by kernel_rfl) (fun _ _ _ h => h) rfl (by assumption) (fun w' hS' => by go_simp) ?_
  simp only [Act.put, List.setIfInBounds_toArray, List.set_cons_zero, List.set_cons_succ]
  refine takeL (i := 3) (v := (.pointer (some ⟨g, 0, none⟩))) rfl (by kernel_rfl) (by kernel_rfl) (by kernel_rfl) (fun _ _ _ h => h) rfl (by assumption) (fun w' _ => run_index_slice w' 25 5 _ _ (by rfl) Tryd.underlying25 1 sz_u8 g 0 1 1 (by rfl) .i64 0 (by rfl) (by decide) _ (by decide)) ?_
  simp only [Act.put, List.setIfInBounds_toArray, List.set_cons_zero, List.set_cons_succ]
  refine takeL (i := 5) (v := (.int .i64 2)) rfl (by kernel_rfl) (by kernel_rfl) (by kernel_rfl) (fun _ _ _ h => h) rfl (by assumption) (fun w' hS' => by go_simp) ?_
  simp only [Act.put, List.setIfInBounds_toArray, List.set_cons_zero, List.set_cons_succ]
  refine takeL (i := 6) (v := (.int .i64 2)) rfl (by kernel_rfl) (by kernel_rfl) (by kernel_rfl) (fun _ _ _ h => h) rfl (by assumption) (fun w' hS' => by go_simp) ?_
  simp only [Act.put, List.setIfInBounds_toArray, List.set_cons_zero, List.set_cons_succ]
  refine takeL (i := 7) (v := (.int .u8 4)) rfl (by kernel_rfl) (by kernel_rfl) (by kernel_rfl) (fun _ _ _ h => h) rfl (by assumption) (fun w' hS' => by go_simp) ?_
  simp only [Act.put, List.setIfInBounds_toArray, List.set_cons_zero, List.set_cons_succ]
  refine oneL (i := 4) rfl (by kernel_rfl) rfl (wp_ran _ (run_load_cell _ 5 _ (by rfl) ⟨g, 0, none⟩ (by rfl) (.int .u8 x) ((cell_of_row { w with drawn := w.drawn + 1 } g 0 _ _ _ hC.out).trans rfl) _ Tryd.underlying5 rfl) ⟨trivial, ?_⟩)
  simp only [Act.put, List.setIfInBounds_toArray, List.set_cons_zero, List.set_cons_succ]
  refine takeL (i := 8) (v := (.int .u8 (x + 4))) rfl (by kernel_rfl) (by kernel_rfl) (by kernel_rfl) (fun _ _ _ h => h) rfl (by assumption) (fun w' hS' => by go_simp) ?_
  simp only [Act.put, List.setIfInBounds_toArray, List.set_cons_zero, List.set_cons_succ]
  refine takeL (i := 9) (v := (.pointer (some ⟨g, 0, none⟩))) rfl (by kernel_rfl) (by kernel_rfl) (by kernel_rfl) (fun _ _ _ h => h) rfl (by assumption) (fun w' _ => run_index_slice w' 25 5 _ _ (by rfl) Tryd.underlying25 1 sz_u8 g 0 1 1 (by rfl) .i64 0 (by rfl) (by decide) _ (by decide)) ?_
  simp only [Act.put, List.setIfInBounds_toArray, List.set_cons_zero, List.set_cons_succ]
  refine oneL (i := 10) rfl (by kernel_rfl) rfl (wp_store1 5 _ _ rfl g 0 rfl (.int .u8 (x + 4)) rfl rfl sz_u8 _ 5 hC.out (by simp) (fun W1 hC1 hA1 => ⟨trivial, ?_⟩))
  simp only [Act.put, List.setIfInBounds_toArray, List.set_cons_zero, List.set_cons_succ] at hC1 ⊢
  refine wpAnyH_done (by kernel_rfl) ?_ _
  exact ret_none rfl rfl ⟨rfl, hC1, hA1.below (⟨rfl, rfl, rfl, Nat.le_refl _, fun _ _ => rfl⟩ : Below g w { w with drawn := w.drawn + 1 }) (Nat.le_refl _) (Nat.le_of_lt hgs)⟩
set_option maxHeartbeats 8000000 in
theorem set_3 (g : Nat) (x : Int) (w : World) (hC0 : w.heap[g]? = some (.cells #[.int .u8 x] 5 (0, 0))) (hx0 : 0 ≤ x) (hx1 : x < 8) :
    Calls Tryd.prog 134 #[.slice (some ⟨g, 0, none⟩) 1 1, .int .i64 3] w fun e w' => e = .returned (.tuple #[]) ∧ w'.heap[g]? = some (.cells #[.int .u8 (x + 8)] 5 (0, 0)) ∧ Below g w w' := by
  have hC := Lib.hid hC0
  clear hC0
  have hgs := block_lt hC.out
  have hb6 : bits BinOp.and IntKind.i64 3 7 = 3 := by decide +kernel
  have hb7 : IntKind.u8.wrap 8 = 8 := by decide +kernel
  have hb8 : bits BinOp.or IntKind.u8 x 8 = x + 8 := by
    have h : ∀ n : Fin 8, bits BinOp.or IntKind.u8 ((n : Nat) : Int) 8 = ((n : Nat) : Int) + 8 := by decide +kernel
    have h2 := h ⟨x.toNat, by omega⟩
    rw [show ((x.toNat : Nat) : Int) = x by omega] at h2
    exact h2
  go_enter Tryd.func134, Tryd.ntmps134
  go_wp2
  refine wp_region_held (S := fun _ => True) (by kernel_rfl) ?_
  have hTT : True := trivial
  refine takeL (i := 0) (v := (.slice (some ⟨g, 0, none⟩) 1 1)) rfl (by kernel_rfl) (by kernel_rfl) (by kernel_rfl) (fun _ _ _ h => h) rfl (by assumption) (fun w' hS' => by go_simp) ?_
  simp only [Act.put, List.setIfInBounds_toArray, List.set_cons_zero, List.set_cons_succ]
  refine takeL (i := 1) (v := (.int .i64 3)) rfl (by kernel_rfl) (by kernel_rfl) (by kernel_rfl) (fun _ _ _ h => h) rfl (by assumption) (fun w' hS' => by go_simp) ?_
  simp only [Act.put, List.setIfInBounds_toArray, List.set_cons_zero, List.set_cons_succ]
  refine takeL (i := 2) (v := (.int .i64 0)) rfl (by kernel_rfl) (by kernel_rfl) (by kernel_rfl) (fun _ _ _ h => h) rfl (by assumption) (fun w' hS' => by go_simp) ?_
  simp only [Act.put, List.setIfInBounds_toArray, List.set_cons_zero, List.set_cons_succ]
  refine takeL (i := 3) (v := (.pointer (some ⟨g, 0, none⟩))) rfl (by kernel_rfl) (by kernel_rfl) (by kernel_rfl) (fun _ _ _ h => h) rfl (by assumption) (fun w' _ => run_index_slice w' 25 5 _ _ (by rfl) Tryd.underlying25 1 sz_u8 g 0 1 1 (by rfl) .i64 0 (by rfl) (by decide) _ (by decide)) ?_
  simp only [Act.put, List.setIfInBounds_toArray, List.set_cons_zero, List.set_cons_succ]
  refine takeL (i := 5) (v := (.int .i64 3)) rfl (by kernel_rfl) (by kernel_rfl) (by kernel_rfl) (fun _ _ _ h => h) rfl (by assumption) (fun w' hS' => by go_simp) ?_
  simp only [Act.put, List.setIfInBounds_toArray, List.set_cons_zero, List.set_cons_succ]
  refine takeL (i := 6) (v := (.int .i64 3)) rfl (by kernel_rfl) (by kernel_rfl) (by kernel_rfl) (fun _ _ _ h => h) rfl (by assumption) (fun w' hS' => by go_simp) ?_
  simp only [Act.put, List.setIfInBounds_toArray, List.set_cons_zero, List.set_cons_succ]
  refine takeL (i := 7) (v := (.int .u8 8)) rfl (by kernel_rfl) (by kernel_rfl) (by kernel_rfl) (fun _ _ _ h => h) rfl (by assumption) (fun w' hS' => by go_simp) ?_
  simp only [Act.put, List.setIfInBounds_toArray, List.set_cons_zero, List.set_cons_succ]
  refine oneL (i := 4) rfl (by kernel_rfl) rfl (wp_ran _ (run_load_cell _ 5 _ (by rfl) ⟨g, 0, none⟩ (by rfl) (.int .u8 x) ((cell_of_row { w with drawn := w.drawn + 1 } g 0 _ _ _ hC.out).trans rfl) _ Tryd.underlying5 rfl) ⟨trivial, ?_⟩)
  simp only [Act.put, List.setIfInBounds_toArray, List.set_cons_zero, List.set_cons_succ]
  refine takeL (i := 8) (v := (.int .u8 (x + 8))) rfl (by kernel_rfl) (by kernel_rfl) (by kernel_rfl) (fun _ _ _ h => h) rfl (by assumption) (fun w' hS' => by go_simp) ?_
  simp only [Act.put, List.setIfInBounds_toArray, List.set_cons_zero, List.set_cons_succ]
  refine takeL (i := 9) (v := (.pointer (some ⟨g, 0, none⟩))) rfl (by kernel_rfl) (by kernel_rfl) (by kernel_rfl) (fun _ _ _ h => h) rfl (by assumption) (fun w' _ => run_index_slice w' 25 5 _ _ (by rfl) Tryd.underlying25 1 sz_u8 g 0 1 1 (by rfl) .i64 0 (by rfl) (by decide) _ (by decide)) ?_
  simp only [Act.put, List.setIfInBounds_toArray, List.set_cons_zero, List.set_cons_succ]
  refine oneL (i := 10) rfl (by kernel_rfl) rfl (wp_store1 5 _ _ rfl g 0 rfl (.int .u8 (x + 8)) rfl rfl sz_u8 _ 5 hC.out (by simp) (fun W1 hC1 hA1 => ⟨trivial, ?_⟩))
  simp only [Act.put, List.setIfInBounds_toArray, List.set_cons_zero, List.set_cons_succ] at hC1 ⊢
  refine wpAnyH_done (by kernel_rfl) ?_ _
  exact ret_none rfl rfl ⟨rfl, hC1, hA1.below (⟨rfl, rfl, rfl, Nat.le_refl _, fun _ _ => rfl⟩ : Below g w { w with drawn := w.drawn + 1 }) (Nat.le_refl _) (Nat.le_of_lt hgs)⟩
set_option maxHeartbeats 8000000 in
theorem set_4 (g : Nat) (x : Int) (w : World) (hC0 : w.heap[g]? = some (.cells #[.int .u8 x] 5 (0, 0))) (hx0 : 0 ≤ x) (hx1 : x < 16) :
    Calls Tryd.prog 134 #[.slice (some ⟨g, 0, none⟩) 1 1, .int .i64 4] w fun e w' => e = .returned (.tuple #[]) ∧ w'.heap[g]? = some (.cells #[.int .u8 (x + 16)] 5 (0, 0)) ∧ Below g w w' := by
  have hC := Lib.hid hC0
  clear hC0
  have hgs := block_lt hC.out
  have hb6 : bits BinOp.and IntKind.i64 4 7 = 4 := by decide +kernel
  have hb7 : IntKind.u8.wrap 16 = 16 := by decide +kernel
  have hb8 : bits BinOp.or IntKind.u8 x 16 = x + 16 := by
    have h : ∀ n : Fin 16, bits BinOp.or IntKind.u8 ((n : Nat) : Int) 16 = ((n : Nat) : Int) + 16 := by decide +kernel
    have h2 := h ⟨x.toNat, by omega⟩
    rw [show ((x.toNat : Nat) : Int) = x by omega] at h2
    exact h2
  go_enter Tryd.func134, Tryd.ntmps134
  go_wp2
  refine wp_region_held (S := fun _ => True) (by kernel_rfl) ?_
  have hTT : True := trivial
  refine takeL (i := 0) (v := (.slice (some ⟨g, 0, none⟩) 1 1)) rfl (by kernel_rfl) (by kernel_rfl) (by kernel_rfl) (fun _ _ _ h => h) rfl (by assumption) (fun w' hS' => by go_simp) ?_
  simp only [Act.put, List.setIfInBounds_toArray, List.set_cons_zero, List.set_cons_succ]
  refine takeL (i := 1) (v := (.int .i64 4)) rfl (by kernel_rfl) (by kernel_rfl) (by kernel_rfl) (fun _ _ _ h => h) rfl (by assumption) (fun w' hS' => by go_simp) ?_
  simp only [Act.put, List.setIfInBounds_toArray, List.set_cons_zero, List.set_cons_succ]
  refine takeL (i := 2) (v := (.int .i64 0)) rfl (by kernel_rfl) (by kernel_rfl) (by kernel_rfl) (fun _ _ _ h => h) rfl (by assumption) (fun w' hS' => by go_simp) ?_
  simp only [Act.put, List.setIfInBounds_toArray, List.set_cons_zero, List.set_cons_succ]
  refine takeL (i := 3) (v := (.pointer (some ⟨g, 0, none⟩))) rfl (by kernel_rfl) (by kernel_rfl) (by kernel_rfl) (fun _ _ _ h => h) rfl (by assumption) (fun w' _ => run_index_slice w' 25 5 _ _ (by rfl) Tryd.underlying25 1 sz_u8 g 0 1 1 (by rfl) .i64 0 (by rfl) (by decide) _ (by decide)) ?_
  simp only [Act.put, List.setIfInBounds_toArray, List.set_cons_zero, List.set_cons_succ]
  refine takeL (i := 5) (v := (.int .i64 4)) rfl (by kernel_rfl) (by kernel_rfl) (by kernel_rfl) (fun _ _ _ h => h) rfl (by assumption) (fun w' hS' => by go_simp) ?_
  simp only [Act.put, List.setIfInBounds_toArray, List.set_cons_zero, List.set_cons_succ]
  refine takeL (i := 6) (v := (.int .i64 4)) rfl (by kernel_rfl) (by kernel_rfl) (by kernel_rfl) (fun _ _ _ h => h) rfl (by assumption) (fun w' hS' => by go_simp) ?_
  simp only [Act.put, List.setIfInBounds_toArray, List.set_cons_zero, List.set_cons_succ]
  refine takeL (i := 7) (v := (.int .u8 16)) rfl (by kernel_rfl) (by kernel_rfl) (by kernel_rfl) (fun _ _ _ h => h) rfl (by assumption) (fun w' hS' => by go_simp) ?_
  simp only [Act.put, List.setIfInBounds_toArray, List.set_cons_zero, List.set_cons_succ]
  refine oneL (i := 4) rfl (by kernel_rfl) rfl (wp_ran _ (run_load_cell _ 5 _ (by rfl) ⟨g, 0, none⟩ (by rfl) (.int .u8 x) ((cell_of_row { w with drawn := w.drawn + 1 } g 0 _ _ _ hC.out).trans rfl) _ Tryd.underlying5 rfl) ⟨trivial, ?_⟩)
  simp only [Act.put, List.setIfInBounds_toArray, List.set_cons_zero, List.set_cons_succ]
  refine takeL (i := 8) (v := (.int .u8 (x + 16))) rfl (by kernel_rfl) (by kernel_rfl) (by kernel_rfl) (fun _ _ _ h => h) rfl (by assumption) (fun w' hS' => by go_simp) ?_
  simp only [Act.put, List.setIfInBounds_toArray, List.set_cons_zero, List.set_cons_succ]
  refine takeL (i := 9) (v := (.pointer (some ⟨g, 0, none⟩))) rfl (by kernel_rfl) (by kernel_rfl) (by kernel_rfl) (fun _ _ _ h => h) rfl (by assumption) (fun w' _ => run_index_slice w' 25 5 _ _ (by rfl) Tryd.underlying25 1 sz_u8 g 0 1 1 (by rfl) .i64 0 (by rfl) (by decide) _ (by decide)) ?_
  simp only [Act.put, List.setIfInBounds_toArray, List.set_cons_zero, List.set_cons_succ]
  refine oneL (i := 10) rfl (by kernel_rfl) rfl (wp_store1 5 _ _ rfl g 0 rfl (.int .u8 (x + 16)) rfl rfl sz_u8 _ 5 hC.out (by simp) (fun W1 hC1 hA1 => ⟨trivial, ?_⟩))
  simp only [Act.put, List.setIfInBounds_toArray, List.set_cons_zero, List.set_cons_succ] at hC1 ⊢
  refine wpAnyH_done (by kernel_rfl) ?_ _
  exact ret_none rfl rfl ⟨rfl, hC1, hA1.below (⟨rfl, rfl, rfl, Nat.le_refl _, fun _ _ => rfl⟩ : Below g w { w with drawn := w.drawn + 1 }) (Nat.le_refl _) (Nat.le_of_lt hgs)⟩
set_option maxHeartbeats 8000000 in
theorem set_5 (g : Nat) (x : Int) (w : World) (hC0 : w.heap[g]? = some (.cells #[.int .u8 x] 5 (0, 0))) (hx0 : 0 ≤ x) (hx1 : x < 32) :
    Calls Tryd.prog 134 #[.slice (some ⟨g, 0, none⟩) 1 1, .int .i64 5] w fun e w' => e = .returned (.tuple #[]) ∧ w'.heap[g]? = some (.cells #[.int .u8 (x + 32)] 5 (0, 0)) ∧ Below g w w' := by
  have hC := Lib.hid hC0
  clear hC0
  have hgs := block_lt hC.out
  have hb6 : bits BinOp.and IntKind.i64 5 7 = 5 := by decide +kernel
  have hb7 : IntKind.u8.wrap 32 = 32 := by decide +kernel
  have hb8 : bits BinOp.or IntKind.u8 x 32 = x + 32 := by
    have h : ∀ n : Fin 32, bits BinOp.or IntKind.u8 ((n : Nat) : Int) 32 = ((n : Nat) : Int) + 32 := by decide +kernel
    have h2 := h ⟨x.toNat, by omega⟩
    rw [show ((x.toNat : Nat) : Int) = x by omega] at h2
    exact h2
  go_enter Tryd.func134, Tryd.ntmps134
  go_wp2
  refine wp_region_held (S := fun _ => True) (by kernel_rfl) ?_
  have hTT : True := trivial
  refine takeL (i := 0) (v := (.slice (some ⟨g, 0, none⟩) 1 1)) rfl (by kernel_rfl) (by kernel_rfl) (by kernel_rfl) (fun _ _ _ h => h) rfl (by assumption) (fun w' hS' => by go_simp) ?_
  simp only [Act.put, List.setIfInBounds_toArray, List.set_cons_zero, List.set_cons_succ]
  refine takeL (i := 1) (v := (.int .i64 5)) rfl (by kernel_rfl) (by kernel_rfl) (by kernel_rfl) (fun _ _ _ h => h) rfl (by assumption) (fun w' hS' => by go_simp) ?_
  simp only [Act.put, List.setIfInBounds_toArray, List.set_cons_zero, List.set_cons_succ]
  refine takeL (i := 2) (v := (.int .i64 0)) rfl (by kernel_rfl) (by kernel_rfl) (by kernel_rfl) (fun _ _ _ h => h) rfl (by assumption) (fun w' hS' => by go_simp) ?_
  simp only [Act.put, List.setIfInBounds_toArray, List.set_cons_zero, List.set_cons_succ]
  refine takeL (i := 3) (v := (.pointer (some ⟨g, 0, none⟩))) rfl (by kernel_rfl) (by kernel_rfl) (by kernel_rfl) (fun _ _ _ h => h) rfl (by assumption) (fun w' _ => run_index_slice w' 25 5 _ _ (by rfl) Tryd.underlying25 1 sz_u8 g 0 1 1 (by rfl) .i64 0 (by rfl) (by decide) _ (by decide)) ?_
  simp only [Act.put, List.setIfInBounds_toArray, List.set_cons_zero, List.set_cons_succ]
  refine takeL (i := 5) (v := (.int .i64 5)) rfl (by kernel_rfl) (by kernel_rfl) (by kernel_rfl) (fun _ _ _ h => h) rfl (by assumption) (fun w' hS' => by go_simp) ?_
  simp only [Act.put, List.setIfInBounds_toArray, List.set_cons_zero, List.set_cons_succ]
  refine takeL (i := 6) (v := (.int .i64 5)) rfl (by kernel_rfl) (by kernel_rfl) (by kernel_rfl) (fun _ _ _ h => h) rfl (by assumption) (fun w' hS' => by go_simp) ?_
  simp only [Act.put, List.setIfInBounds_toArray, List.set_cons_zero, List.set_cons_succ]
  refine takeL (i := 7) (v := (.int .u8 32)) rfl (by kernel_rfl) (by kernel_rfl) (by kernel_rfl) (fun _ _ _ h => h) rfl (by assumption) (fun w' hS' => by go_simp) ?_
  simp only [Act.put, List.setIfInBounds_toArray, List.set_cons_zero, List.set_cons_succ]
  refine oneL (i := 4) rfl (by kernel_rfl) rfl (wp_ran _ (run_load_cell _ 5 _ (by rfl) ⟨g, 0, none⟩ (by rfl) (.int .u8 x) ((cell_of_row { w with drawn := w.drawn + 1 } g 0 _ _ _ hC.out).trans rfl) _ Tryd.underlying5 rfl) ⟨trivial, ?_⟩)
  simp only [Act.put, List.setIfInBounds_toArray, List.set_cons_zero, List.set_cons_succ]
  refine takeL (i := 8) (v := (.int .u8 (x + 32))) rfl (by kernel_rfl) (by kernel_rfl) (by kernel_rfl) (fun _ _ _ h => h) rfl (by assumption) (fun w' hS' => by go_simp) ?_
  simp only [Act.put, List.setIfInBounds_toArray, List.set_cons_zero, List.set_cons_succ]
  refine takeL (i := 9) (v := (.pointer (some ⟨g, 0, none⟩))) rfl (by kernel_rfl) (by kernel_rfl) (by kernel_rfl) (fun _ _ _ h => h) rfl (by assumption) (fun w' _ => run_index_slice w' 25 5 _ _ (by rfl) Tryd.underlying25 1 sz_u8 g 0 1 1 (by rfl) .i64 0 (by rfl) (by decide) _ (by decide)) ?_
  simp only [Act.put, List.setIfInBounds_toArray, List.set_cons_zero, List.set_cons_succ]
  refine oneL (i := 10) rfl (by kernel_rfl) rfl (wp_store1 5 _ _ rfl g 0 rfl (.int .u8 (x + 32)) rfl rfl sz_u8 _ 5 hC.out (by simp) (fun W1 hC1 hA1 => ⟨trivial, ?_⟩))
  simp only [Act.put, List.setIfInBounds_toArray, List.set_cons_zero, List.set_cons_succ] at hC1 ⊢
  refine wpAnyH_done (by kernel_rfl) ?_ _
  exact ret_none rfl rfl ⟨rfl, hC1, hA1.below (⟨rfl, rfl, rfl, Nat.le_refl _, fun _ _ => rfl⟩ : Below g w { w with drawn := w.drawn + 1 }) (Nat.le_refl _) (Nat.le_of_lt hgs)⟩
set_option maxHeartbeats 8000000 in
theorem set_6 (g : Nat) (x : Int) (w : World) (hC0 : w.heap[g]? = some (.cells #[.int .u8 x] 5 (0, 0))) (hx0 : 0 ≤ x) (hx1 : x < 64) :
    Calls Tryd.prog 134 #[.slice (some ⟨g, 0, none⟩) 1 1, .int .i64 6] w fun e w' => e = .returned (.tuple #[]) ∧ w'.heap[g]? = some (.cells #[.int .u8 (x + 64)] 5 (0, 0)) ∧ Below g w w' := by
  have hC := Lib.hid hC0
  clear hC0
  have hgs := block_lt hC.out
  have hb6 : bits BinOp.and IntKind.i64 6 7 = 6 := by decide +kernel
  have hb7 : IntKind.u8.wrap 64 = 64 := by decide +kernel
  have hb8 : bits BinOp.or IntKind.u8 x 64 = x + 64 := by
    have h : ∀ n : Fin 64, bits BinOp.or IntKind.u8 ((n : Nat) : Int) 64 = ((n : Nat) : Int) + 64 := by decide +kernel
    have h2 := h ⟨x.toNat, by omega⟩
    rw [show ((x.toNat : Nat) : Int) = x by omega] at h2
    exact h2
  go_enter Tryd.func134, Tryd.ntmps134
  go_wp2
  refine wp_region_held (S := fun _ => True) (by kernel_rfl) ?_
  have hTT : True := trivial
  refine takeL (i := 0) (v := (.slice (some ⟨g, 0, none⟩) 1 1)) rfl (by kernel_rfl) (by kernel_rfl) (by kernel_rfl) (fun _ _ _ h => h) rfl (by assumption) (fun w' hS' => by go_simp) ?_
  simp only [Act.put, List.setIfInBounds_toArray, List.set_cons_zero, List.set_cons_succ]
  refine takeL (i := 1) (v := (.int .i64 6)) rfl (by kernel_rfl) (by kernel_rfl) (by kernel_rfl) (fun _ _ _ h => h) rfl (by assumption) (fun w' hS' => by go_simp) ?_
  simp only [Act.put, List.setIfInBounds_toArray, List.set_cons_zero, List.set_cons_succ]
  refine takeL (i := 2) (v := (.int .i64 0)) rfl (by kernel_rfl) (by kernel_rfl) (by kernel_rfl) (fun _ _ _ h => h) rfl (by assumption) (fun w' hS' => by go_simp) ?_
  simp only [Act.put, List.setIfInBounds_toArray, List.set_cons_zero, List.set_cons_succ]
  refine takeL (i := 3) (v := (.pointer (some ⟨g, 0, none⟩))) rfl (by kernel_rfl) (by kernel_rfl) (by kernel_rfl) (fun _ _ _ h => h) rfl (by assumption) (fun w' _ => run_index_slice w' 25 5 _ _ (by rfl) Tryd.underlying25 1 sz_u8 g 0 1 1 (by rfl) .i64 0 (by rfl) (by decide) _ (by decide)) ?_
  simp only [Act.put, List.setIfInBounds_toArray, List.set_cons_zero, List.set_cons_succ]
  refine takeL (i := 5) (v := (.int .i64 6)) rfl (by kernel_rfl) (by kernel_rfl) (by kernel_rfl) (fun _ _ _ h => h) rfl (by assumption) (fun w' hS' => by go_simp) ?_
  simp only [Act.put, List.setIfInBounds_toArray, List.set_cons_zero, List.set_cons_succ]
  refine takeL (i := 6) (v := (.int .i64 6)) rfl (by kernel_rfl) (by kernel_rfl) (by kernel_rfl) (fun _ _ _ h => h) rfl (by assumption) (fun w' hS' => by go_simp) ?_
  simp only [Act.put, List.setIfInBounds_toArray, List.set_cons_zero, List.set_cons_succ]
  refine takeL (i := 7) (v := (.int .u8 64)) rfl (by kernel_rfl) (by kernel_rfl) (by kernel_rfl) (fun _ _ _ h => h) rfl (by assumption) (fun w' hS' => by go_simp) ?_
  simp only [Act.put, List.setIfInBounds_toArray, List.set_cons_zero, List.set_cons_succ]
  refine oneL (i := 4) rfl (by kernel_rfl) rfl (wp_ran _ (run_load_cell _ 5 _ (by rfl) ⟨g, 0, none⟩ (by rfl) (.int .u8 x) ((cell_of_row { w with drawn := w.drawn + 1 } g 0 _ _ _ hC.out).trans rfl) _ Tryd.underlying5 rfl) ⟨trivial, ?_⟩)
  simp only [Act.put, List.setIfInBounds_toArray, List.set_cons_zero, List.set_cons_succ]
  refine takeL (i := 8) (v := (.int .u8 (x + 64))) rfl (by kernel_rfl) (by kernel_rfl) (by kernel_rfl) (fun _ _ _ h => h) rfl (by assumption) (fun w' hS' => by go_simp) ?_
  simp only [Act.put, List.setIfInBounds_toArray, List.set_cons_zero, List.set_cons_succ]
  refine takeL (i := 9) (v := (.pointer (some ⟨g, 0, none⟩))) rfl (by kernel_rfl) (by kernel_rfl) (by kernel_rfl) (fun _ _ _ h => h) rfl (by assumption) (fun w' _ => run_index_slice w' 25 5 _ _ (by rfl) Tryd.underlying25 1 sz_u8 g 0 1 1 (by rfl) .i64 0 (by rfl) (by decide) _ (by decide)) ?_
  simp only [Act.put, List.setIfInBounds_toArray, List.set_cons_zero, List.set_cons_succ]
  refine oneL (i := 10) rfl (by kernel_rfl) rfl (wp_store1 5 _ _ rfl g 0 rfl (.int .u8 (x + 64)) rfl rfl sz_u8 _ 5 hC.out (by simp) (fun W1 hC1 hA1 => ⟨trivial, ?_⟩))
  simp only [Act.put, List.setIfInBounds_toArray, List.set_cons_zero, List.set_cons_succ] at hC1 ⊢
  refine wpAnyH_done (by kernel_rfl) ?_ _
  exact ret_none rfl rfl ⟨rfl, hC1, hA1.below (⟨rfl, rfl, rfl, Nat.le_refl _, fun _ _ => rfl⟩ : Below g w { w with drawn := w.drawn + 1 }) (Nat.le_refl _) (Nat.le_of_lt hgs)⟩
set_option maxHeartbeats 8000000 in
theorem set_7 (g : Nat) (x : Int) (w : World) (hC0 : w.heap[g]? = some (.cells #[.int .u8 x] 5 (0, 0))) (hx0 : 0 ≤ x) (hx1 : x < 128) :
    Calls Tryd.prog 134 #[.slice (some ⟨g, 0, none⟩) 1 1, .int .i64 7] w fun e w' => e = .returned (.tuple #[]) ∧ w'.heap[g]? = some (.cells #[.int .u8 (x + 128)] 5 (0, 0)) ∧ Below g w w' := by
  have hC := Lib.hid hC0
  clear hC0
  have hgs := block_lt hC.out
  have hb6 : bits BinOp.and IntKind.i64 7 7 = 7 := by decide +kernel
  have hb7 : IntKind.u8.wrap 128 = 128 := by decide +kernel
  have hb8 : bits BinOp.or IntKind.u8 x 128 = x + 128 := by
    have h : ∀ n : Fin 128, bits BinOp.or IntKind.u8 ((n : Nat) : Int) 128 = ((n : Nat) : Int) + 128 := by decide +kernel
    have h2 := h ⟨x.toNat, by omega⟩
    rw [show ((x.toNat : Nat) : Int) = x by omega] at h2
    exact h2
  go_enter Tryd.func134, Tryd.ntmps134
  go_wp2
  refine wp_region_held (S := fun _ => True) (by kernel_rfl) ?_
  have hTT : True := trivial
  refine takeL (i := 0) (v := (.slice (some ⟨g, 0, none⟩) 1 1)) rfl (by kernel_rfl) (by kernel_rfl) (by kernel_rfl) (fun _ _ _ h => h) rfl (by assumption) (fun w' hS' => by go_simp) ?_
  simp only [Act.put, List.setIfInBounds_toArray, List.set_cons_zero, List.set_cons_succ]
  refine takeL (i := 1) (v := (.int .i64 7)) rfl (by kernel_rfl) (by kernel_rfl) (by kernel_rfl) (fun _ _ _ h => h) rfl (by assumption) (fun w' hS' => by go_simp) ?_
  simp only [Act.put, List.setIfInBounds_toArray, List.set_cons_zero, List.set_cons_succ]
  refine takeL (i := 2) (v := (.int .i64 0)) rfl (by kernel_rfl) (by kernel_rfl) (by kernel_rfl) (fun _ _ _ h => h) rfl (by assumption) (fun w' hS' => by go_simp) ?_
  simp only [Act.put, List.setIfInBounds_toArray, List.set_cons_zero, List.set_cons_succ]
  refine takeL (i := 3) (v := (.pointer (some ⟨g, 0, none⟩))) rfl (by kernel_rfl) (by kernel_rfl) (by kernel_rfl) (fun _ _ _ h => h) rfl (by assumption) (fun w' _ => run_index_slice w' 25 5 _ _ (by rfl) Tryd.underlying25 1 sz_u8 g 0 1 1 (by rfl) .i64 0 (by rfl) (by decide) _ (by decide)) ?_
  simp only [Act.put, List.setIfInBounds_toArray, List.set_cons_zero, List.set_cons_succ]
  refine takeL (i := 5) (v := (.int .i64 7)) rfl (by kernel_rfl) (by kernel_rfl) (by kernel_rfl) (fun _ _ _ h => h) rfl (by assumption) (fun w' hS' => by go_simp) ?_
  simp only [Act.put, List.setIfInBounds_toArray, List.set_cons_zero, List.set_cons_succ]
  refine takeL (i := 6) (v := (.int .i64 7)) rfl (by kernel_rfl) (by kernel_rfl) (by kernel_rfl) (fun _ _ _ h => h) rfl (by assumption) (fun w' hS' => by go_simp) ?_
  simp only [Act.put, List.setIfInBounds_toArray, List.set_cons_zero, List.set_cons_succ]
  refine takeL (i := 7) (v := (.int .u8 128)) rfl (by kernel_rfl) (by kernel_rfl) (by kernel_rfl) (fun _ _ _ h => h) rfl (by assumption) (fun w' hS' => by go_simp) ?_
  simp only [Act.put, List.setIfInBounds_toArray, List.set_cons_zero, List.set_cons_succ]
  refine oneL (i := 4) rfl (by kernel_rfl) rfl (wp_ran _ (run_load_cell _ 5 _ (by rfl) ⟨g, 0, none⟩ (by rfl) (.int .u8 x) ((cell_of_row { w with drawn := w.drawn + 1 } g 0 _ _ _ hC.out).trans rfl) _ Tryd.underlying5 rfl) ⟨trivial, ?_⟩)
  simp only [Act.put, List.setIfInBounds_toArray, List.set_cons_zero, List.set_cons_succ]
  refine takeL (i := 8) (v := (.int .u8 (x + 128))) rfl (by kernel_rfl) (by kernel_rfl) (by kernel_rfl) (fun _ _ _ h => h) rfl (by assumption) (fun w' hS' => by go_simp) ?_
  simp only [Act.put, List.setIfInBounds_toArray, List.set_cons_zero, List.set_cons_succ]
  refine takeL (i := 9) (v := (.pointer (some ⟨g, 0, none⟩))) rfl (by kernel_rfl) (by kernel_rfl) (by kernel_rfl) (fun _ _ _ h => h) rfl (by assumption) (fun w' _ => run_index_slice w' 25 5 _ _ (by rfl) Tryd.underlying25 1 sz_u8 g 0 1 1 (by rfl) .i64 0 (by rfl) (by decide) _ (by decide)) ?_
  simp only [Act.put, List.setIfInBounds_toArray, List.set_cons_zero, List.set_cons_succ]
  refine oneL (i := 10) rfl (by kernel_rfl) rfl (wp_store1 5 _ _ rfl g 0 rfl (.int .u8 (x + 128)) rfl rfl sz_u8 _ 5 hC.out (by simp) (fun W1 hC1 hA1 => ⟨trivial, ?_⟩))
  simp only [Act.put, List.setIfInBounds_toArray, List.set_cons_zero, List.set_cons_succ] at hC1 ⊢
  refine wpAnyH_done (by kernel_rfl) ?_ _
  exact ret_none rfl rfl ⟨rfl, hC1, hA1.below (⟨rfl, rfl, rfl, Nat.le_refl _, fun _ _ => rfl⟩ : Below g w { w with drawn := w.drawn + 1 }) (Nat.le_refl _) (Nat.le_of_lt hgs)⟩
end Go.Proofs.YtmoofccblbaepaaDoor
/- Eight bits in a byte: the program's lay and Vector. -/
namespace Go.Proofs.YtmoofccblbaepaaDoor
open Go.RowKit BigFrame
set_option maxRecDepth 100000
set_option maxHeartbeats 8000000 in
theorem lay8_any (g : Nat) (l : List Int) (va : Option Addr) (c : Nat) (w : World) (hg0 : w.heap[g]? = some (.cells #[.int .u8 0] 5 (0, 0))) (hl0 : Row w va .bool l) (hlow0 : ∀ b o, va = some ⟨b, o, none⟩ → b < g) (h8 : l.length = 8) :
    Calls Tryd.prog 126 #[.slice (some ⟨g, 0, none⟩) 1 1, .slice va 8 c] w fun e w' => e = .returned (.slice (some ⟨g, 0, none⟩) 1 1) ∧ w'.heap[g]? = some (.cells #[.int .u8 (bitN l 8)] 5 (0, 0)) ∧ Below g w w' := by
  have hl := Lib.hid hl0
  have hlow := Lib.hid hlow0
  have hg := Lib.hid hg0
  clear hl0 hlow0 hg0
  have hgs := block_lt hg.out
  go_enter Tryd.func126, Tryd.ntmps126
  go_wp2
  go_loopw [9] (fun i wr => ∃ k : Nat, k ≤ 8 ∧ i = .int .i64 (k : Int) ∧ wr.heap[g]? = some (.cells #[.int .u8 (bitN l k)] 5 (0, 0)) ∧ Below g w wr) (fun i _ => 8 - (intOf i).toNat)
  case atStart => exact ⟨0, by omega, rfl, hg.out, Below.refl _ _⟩
  case round =>
    obtain ⟨k, hk, rfl, hC1, hB1⟩ := hrel
    have hC := Lib.hid hC1
    have hB := Lib.hid hB1
    clear hC1 hB1
    by_cases hlt : k < 8
    · obtain ⟨b, o, e0, hcell0⟩ := hl.out.cell k (by omega)
      subst e0
      have hcell := Lib.hid ((hB.out.cell (p := ⟨b, o + k, none⟩) (hlow.out b o rfl)).trans hcell0)
      clear hcell0
      have hlt2 := bitN_lt l k
      obtain ⟨x, hx⟩ : ∃ x, x = bitN l k := ⟨_, rfl⟩
      rw [← hx] at hC hlt2
      obtain ⟨hx0, hx1⟩ := hlt2
      by_cases hz : l.getD k 0 = 0
      · have hst := Lib.hid (show bitN l (k + 1) = x by simp only [bitN]; rw [if_pos hz, Int.add_zero, ← hx])
        have hbit : CK.mk .bool (l.getD k 0) = .bool false := by rw [hz]; rfl
        rw [hbit] at hcell
        clear hbit hz hx hx0 hx1
        rcases eight hlt with rfl | rfl | rfl | rfl | rfl | rfl | rfl | rfl
        all_goals go_wp2_with (first
          | ((with_reducible refine at_iaddr 184 ?_); go_loud (refine wpList_value (by rfl) _ (run_index_slice _ 184 4 _ _ rfl Tryd.underlying184 1 sz_bool b o 8 c rfl .i64 _ rfl (by decide) _ rfl) ?_))
          | ((with_reducible refine at_load 4 ?_); go_loud (refine wpList_value (by rfl) _ (run_load_cell _ 4 _ (by rfl) _ rfl _ hcell.out _ Tryd.underlying4 rfl) ?_)))
        all_goals first
          | exact ⟨⟨_, by decide, rfl, by rw [hst.out]; exact hC.out, hB.out⟩, by decide⟩
          | (refine ⟨?_, by decide⟩
             (repeat apply Exists.intro)
             exact ⟨⟨_, by decide, rfl, by rw [hst.out]; exact hC.out, hB.out⟩, rfl⟩)
      · have hst := Lib.hid (show bitN l (k + 1) = x + 2 ^ k by simp only [bitN]; rw [if_neg hz, ← hx])
        have hbit : CK.mk .bool (l.getD k 0) = .bool true := by simp only [CK.mk]; rw [decide_eq_true hz]
        rw [hbit] at hcell
        clear hbit hz hx
        have hset : ∀ (kk : Int), kk = (k : Int) → Calls Tryd.prog 134 #[.slice (some ⟨g, 0, none⟩) 1 1, .int .i64 kk] wr fun e w' => e = .returned (.tuple #[]) ∧ w'.heap[g]? = some (.cells #[.int .u8 (x + 2 ^ k)] 5 (0, 0)) ∧ Below g wr w' := by
          rintro kk rfl
          rcases eight hlt with rfl | rfl | rfl | rfl | rfl | rfl | rfl | rfl
          · exact set_0 g x wr hC.out hx0 hx1
          · exact set_1 g x wr hC.out hx0 hx1
          · exact set_2 g x wr hC.out hx0 hx1
          · exact set_3 g x wr hC.out hx0 hx1
          · exact set_4 g x wr hC.out hx0 hx1
          · exact set_5 g x wr hC.out hx0 hx1
          · exact set_6 g x wr hC.out hx0 hx1
          · exact set_7 g x wr hC.out hx0 hx1
        have hset' := Lib.hid hset
        have lk : (k : Int) < 8 := by omega
        clear hset hx0 hx1
        go_wp2_with (first
          | ((with_reducible refine at_iaddr 184 ?_); go_loud (refine wpList_value (by rfl) _ (run_index_slice _ 184 4 _ _ rfl Tryd.underlying184 1 sz_bool b o 8 c rfl .i64 k rfl hlt (o + k) (by omega)) ?_))
          | ((with_reducible refine at_load 4 ?_); go_loud (refine wpList_value (by rfl) _ (run_load_cell _ 4 _ (by rfl) _ rfl _ hcell.out _ Tryd.underlying4 rfl) ?_))
          | ((with_reducible refine (hset'.out _ rfl).mono ?_)
             rintro e W ⟨rfl, hC3, hB3⟩
             have hC4 := Lib.hid hC3
             have hB4 := Lib.hid (hB.out.trans hB3)
             clear hC3 hB3))
        first
          | exact ⟨⟨k + 1, by omega, by go_num, by rw [hst.out]; exact hC4.out, hB4.out⟩, by simp [intOf]; omega⟩
          | (refine ⟨?_, by simp [intOf]; omega⟩
             (repeat apply Exists.intro)
             exact ⟨⟨k + 1, by omega, by go_num, by rw [hst.out]; exact hC4.out, hB4.out⟩, rfl⟩)
    · have e : k = 8 := by omega
      subst e
      clear hlt hk
      go_wp2
      exact ret_t1 rfl _ rfl rfl ⟨rfl, hC.out, hB.out⟩
set_option maxHeartbeats 8000000 in
theorem vector_any (l : List Int) (va : Option Addr) (c : Nat) (w : World) (hl0 : Row w va .bool l) (hlow0 : ∀ b o, va = some ⟨b, o, none⟩ → b < w.heap.size) (h8 : l.length = 8) :
    Calls Tryd.prog 111 #[.slice va 8 c] w fun e w' => e = .returned (.slice (some ⟨w.heap.size, 0, none⟩) 1 1) ∧ w'.heap[w.heap.size]? = some (.cells #[.int .u8 (bitN l 8)] 5 (0, 0)) ∧ Below w.heap.size w w' := by
  obtain ⟨i0, hi, hz0, hz1, hz2⟩ := info_parts sz_u8z
  have hmk : ∀ u : World, (Instr.makeSlice 25 (.int .i64 1) (.int .i64 1)).run Tryd.prog u = .ok (.slice (some ⟨u.heap.size, 0, none⟩) 1 1) (u.alloc (.cells #[.int .u8 0] 5)) := fun u => by
    have h := run_make (P := Tryd.prog) u 25 5 i0 (.int .u8 0) Tryd.underlying25 hi hz0 .i64 .i64 1 1 (by omega) (Int.le_refl _) (by rw [hz2]; omega) (by omega)
    have e : madeCells #[Value.int .u8 0] 1 = #[.int .u8 0] := by kernel_rfl
    simpa [hz1, Value.cells, e] using h
  have hb0 : Below w.heap.size w (w.alloc (.cells #[.int .u8 0] 5)) := (Below.refl _ _).alloc (Nat.le_refl _) _
  have hlay := Lib.hid (lay8_any w.heap.size l va c (w.alloc (.cells #[.int .u8 0] 5)) (heap_new _ _ _ _ rfl) (hl0.later hb0) hlow0 h8)
  have hb := Lib.hid hb0
  clear hl0 hlow0 hb0
  go_enter Tryd.func111, Tryd.ntmps111
  go_wp2_with (first
    | ((with_reducible refine hlay.out.mono ?_)
       rintro e W ⟨rfl, hC3, hB3⟩
       have hC := Lib.hid hC3
       have hB := Lib.hid (hb.out.trans hB3)
       clear hC3 hB3))
  exact ret_t1 rfl _ rfl rfl ⟨rfl, hC.out, hB.out⟩
end Go.Proofs.YtmoofccblbaepaaDoor
/- Eight bits in a byte: the program's take. -/
namespace Go.Proofs.YtmoofccblbaepaaDoor
open Go.RowKit BigFrame
set_option maxRecDepth 100000
/-- The bits of a byte. -/
def bitV (y : Int) (j : Nat) : Int := y / 2 ^ j % 2
theorem info_bool : (Tryd.prog.info? 4).map (fun i => (i.zero, i.size, i.bytes)) = some (some (.bool false), 1, 1) := by kernel_rfl
def takeC (y : Int) (k : Nat) : Array Value := (fcells 8 (fun _ => .bool) fun j => if j < k then bitV y j else 0).toArray
theorem made8 : madeCells #[Value.bool false] 8 = (fcells 8 (fun _ => CK.bool) fun _ => 0).toArray := by kernel_rfl
theorem take_zero (y : Int) : madeCells #[Value.bool false] 8 = takeC y 0 := by
  have e : takeC y 0 = (fcells 8 (fun _ => .bool) fun _ => 0).toArray := by
    unfold takeC
    rw [fcells_congr (g := fun _ => 0) fun j _ => if_neg (by omega)]
  rw [e]
  exact made8
theorem take_set (y : Int) (k : Nat) (hk : k < 8) : (takeC y k).setIfInBounds k (.bool (decide (bitV y k = 1))) = takeC y (k + 1) := by
  refine cells_eq (by simp [takeC, fcells]) fun j hj => ?_
  rw [Array.getElem?_setIfInBounds]
  have hb : 0 ≤ bitV y k ∧ bitV y k < 2 := ⟨Int.emod_nonneg _ (by decide), Int.emod_lt_of_pos _ (by decide)⟩
  by_cases e : k = j
  · subst e
    rw [if_pos rfl, if_pos (by simp [takeC, fcells]; exact hj), if_pos (by omega)]
    have h2 : bitV y k = 0 ∨ bitV y k = 1 := by omega
    rcases h2 with h2 | h2 <;> rw [h2] <;> rfl
  · rw [if_neg e]
    unfold takeC
    rw [List.getElem?_toArray, fcells_get _ _ _ _ hj]
    by_cases c : j < k
    · rw [if_pos c, if_pos (by omega)]
    · rw [if_neg c, if_neg (by omega)]
theorem and1 (z : Int) (h0 : 0 ≤ z) (h1 : z ≤ 255) : bits BinOp.and IntKind.u8 z 1 = z % 2 := by
  have h : ∀ n : Fin 256, bits BinOp.and IntKind.u8 ((n : Nat) : Int) 1 = ((n : Nat) : Int) % 2 := by decide +kernel
  have h2 := h ⟨z.toNat, by omega⟩
  rw [show ((z.toNat : Nat) : Int) = z by omega] at h2
  exact h2
theorem take_fit (y : Int) {C D : Array Value} {k : Nat} {b b' : Bool} (h : C.setIfInBounds k (.bool b') = D) (hb : b = b') : C.setIfInBounds k (.bool b) = D := by
  subst hb
  exact h
set_option maxHeartbeats 8000000 in
theorem take8_any (y : Int) (b o c : Nat) (w : World) (hy0 : 0 ≤ y) (hy1 : y ≤ 255) (hcell0 : w.cell? ⟨b, o, none⟩ = some (.int .u8 y)) :
    Calls Tryd.prog 127 #[.slice (some ⟨b, o, none⟩) 1 c, .int .i64 8] w fun e w' => e = .returned (.slice (some ⟨w.heap.size, 0, none⟩) 8 8) ∧ w'.heap[w.heap.size]? = some (.cells (takeC y 8) 4 (0, 0)) ∧ Below w.heap.size w w' := by
  have hbs := block_lt_of_cell hcell0
  have hcell := Lib.hid hcell0
  clear hcell0
  obtain ⟨i0, hi, hz0, hz1, hz2⟩ := info_parts info_bool
  have hmk : ∀ u : World, (Instr.makeSlice 184 (.int .i64 8) (.int .i64 8)).run Tryd.prog u = .ok (.slice (some ⟨u.heap.size, 0, none⟩) 8 8) (u.alloc (.cells (takeC y 0) 4)) := fun u => by
    have h := run_make (P := Tryd.prog) u 184 4 i0 (.bool false) Tryd.underlying184 hi hz0 .i64 .i64 8 8 (by omega) (Int.le_refl _) (by rw [hz2]; omega) (by omega)
    have e := take_zero y
    simpa [hz1, Value.cells, e] using h
  go_enter Tryd.func127, Tryd.ntmps127
  go_wp2
  refine gen_world (fun W => W.heap[w.heap.size]? = some (.cells (takeC y 0) 4 (0, 0)) ∧ Below w.heap.size w W) ⟨heap_new _ _ _ _ rfl, (Below.refl _ _).alloc (Nat.le_refl _) _⟩ ?_
  rintro W0 ⟨hC0, hB0⟩
  go_loopw [11] (fun i wr => ∃ k : Nat, k ≤ 8 ∧ i = .int .i64 (k : Int) ∧ wr.heap[w.heap.size]? = some (.cells (takeC y k) 4 (0, 0)) ∧ Below w.heap.size w wr) (fun i _ => 8 - (intOf i).toNat)
  case atStart => exact ⟨0, by omega, rfl, hC0, hB0⟩
  case round =>
    obtain ⟨k, hk, rfl, hC1, hB1⟩ := hrel
    clear hC0 hB0
    have hC := Lib.hid hC1
    have hB := Lib.hid hB1
    clear hC1 hB1
    by_cases hlt : k < 8
    · have hcy := Lib.hid ((hB.out.cell (p := ⟨b, o, none⟩) hbs).trans hcell.out)
      have hts := Lib.hid (take_set y k hlt)
      have h60 : bits BinOp.and IntKind.i64 0 7 = 0 := by decide +kernel
      have h61 : bits BinOp.and IntKind.i64 1 7 = 1 := by decide +kernel
      have h62 : bits BinOp.and IntKind.i64 2 7 = 2 := by decide +kernel
      have h63 : bits BinOp.and IntKind.i64 3 7 = 3 := by decide +kernel
      have h64 : bits BinOp.and IntKind.i64 4 7 = 4 := by decide +kernel
      have h65 : bits BinOp.and IntKind.i64 5 7 = 5 := by decide +kernel
      have h66 : bits BinOp.and IntKind.i64 6 7 = 6 := by decide +kernel
      have h67 : bits BinOp.and IntKind.i64 7 7 = 7 := by decide +kernel
      rcases eight hlt with rfl | rfl | rfl | rfl | rfl | rfl | rfl | rfl
      all_goals go_wp2_with (first
          | ((with_reducible refine at_iaddr 25 ?_); go_loud (refine wpList_value (by rfl) _ (run_index_slice _ 25 5 _ _ rfl Tryd.underlying25 1 sz_u8 b o 1 c rfl .i64 0 rfl (by decide) o (by omega)) ?_))
          | ((with_reducible refine at_load 5 ?_); go_loud (refine wpList_value (by rfl) _ (run_load_cell _ 5 _ (by rfl) ⟨b, o, none⟩ rfl _ hcy.out _ Tryd.underlying5 rfl) ?_))
          | ((with_reducible refine at_store 4 ?_); go_loud (refine wpList_plain rfl fun K hK => wp_store1 4 _ _ rfl w.heap.size _ rfl _ rfl rfl sz_bool _ 4 hC.out (by simp [takeC, fcells]) (fun W1 hC1 hA1 => hK _ _ ?_)); clear hK K
             have hC2 := Lib.hid hC1
             have hB2 := Lib.hid (hA1.below hB.out (Nat.le_refl _) hB.out.size)
             clear hC1 hA1))
      all_goals have hC3 := hC2.out
      all_goals simp [Act.eval] at hC3
      all_goals rw [and1 _ (by omega) (by omega)] at hC3
      all_goals have hC4 := hC3.trans (congrArg (fun z => some (Obj.cells z 4)) (take_fit y hts.out (by simp [bitV]; rfl)))
      all_goals first
        | exact ⟨⟨_, by decide, rfl, hC4, hB2.out⟩, by decide⟩
        | (refine ⟨?_, by decide⟩
           (repeat apply Exists.intro)
           exact ⟨⟨_, by decide, rfl, hC4, hB2.out⟩, rfl⟩)
    · have e : k = 8 := by omega
      subst e
      clear hlt hk
      go_wp2
      exact ret_t1 rfl _ rfl rfl ⟨rfl, hC.out, hB.out⟩
set_option maxHeartbeats 8000000 in
theorem readVector_any (y : Int) (b o c : Nat) (w : World) (hy0 : 0 ≤ y) (hy1 : y ≤ 255) (hcell0 : w.cell? ⟨b, o, none⟩ = some (.int .u8 y)) :
    Calls Tryd.prog 113 #[.slice (some ⟨b, o, none⟩) 1 c, .int .i64 8] w fun e w' => e = .returned (.tuple #[.slice (some ⟨w.heap.size, 0, none⟩) 8 8, .int .i64 0]) ∧ w'.heap[w.heap.size]? = some (.cells (takeC y 8) 4 (0, 0)) ∧ Below w.heap.size w w' := by
  have ht := Lib.hid (take8_any y b o c w hy0 hy1 hcell0)
  clear hcell0
  go_enter Tryd.func113, Tryd.ntmps113
  go_wp2_with (first
    | ((with_reducible refine ht.out.mono ?_)
       rintro e W ⟨rfl, hC3, hB3⟩
       have hC := Lib.hid hC3
       have hB := Lib.hid hB3
       clear hC3 hB3))
  exact ret_t2 rfl _ _ rfl rfl rfl ⟨rfl, hC.out, hB.out⟩
end Go.Proofs.YtmoofccblbaepaaDoor
/- Eight bits in a byte: the reference's all and ReadVector. -/
namespace Go.Proofs.YtmoofccblbaepaaDoor
open Go.RowKit BigFrame
set_option maxRecDepth 100000
theorem fcells_snoc (k : Nat) (kd : Nat → CK) (f : Nat → Int) : fcells k kd f ++ [(kd k).mk (f k)] = fcells (k + 1) kd f := by simp [fcells, List.range_succ]
theorem bit_mk (y : Int) (k : Nat) (b : Bool) (h : b = decide (bitV y k = 1)) : Value.bool b = CK.mk .bool (bitV y k) := by
  subst h
  have hb : 0 ≤ bitV y k ∧ bitV y k < 2 := ⟨Int.emod_nonneg _ (by decide), Int.emod_lt_of_pos _ (by decide)⟩
  have h2 : bitV y k = 0 ∨ bitV y k = 1 := by omega
  rcases h2 with h2 | h2 <;> rw [h2] <;> rfl
theorem bits_snoc (y : Int) (k : Nat) (b : Bool) (h : b = decide (bitV y k = 1)) : fcells k (fun _ => .bool) (bitV y) ++ [.bool b] = fcells (k + 1) (fun _ => .bool) (bitV y) := by
  rw [bit_mk y k b h]
  exact fcells_snoc k (fun _ => .bool) (bitV y)
theorem own_to {base : Nat} {e : TypeId} {sz n : Nat} {v : Value} {cs ds : List Value} {w : World} (h : w.ownsRow base e sz v n cs) (hc : cs = ds) : w.ownsRow base e sz v n ds := hc ▸ h
set_option maxHeartbeats 8000000 in
theorem rall_any (y : Int) (b o c : Nat) (w : World) (hy0 : 0 ≤ y) (hy1 : y ≤ 255) (hcell0 : w.cell? ⟨b, o, none⟩ = some (.int .u8 y)) :
    Calls Tryd.prog 128 #[.slice (some ⟨b, o, none⟩) 1 c] w fun e w' => (∃ va c', e = .returned (.slice va 8 c') ∧ w'.ownsRow w.heap.size 4 1 (.slice va 8 c') 8 (fcells 8 (fun _ => .bool) (bitV y))) ∧ Below w.heap.size w w' := by
  have hbs := block_lt_of_cell hcell0
  have hcell := Lib.hid hcell0
  clear hcell0
  go_enter Tryd.func128, Tryd.ntmps128
  go_wp2
  go_loopw [3, 4] (fun v i wr => ∃ k : Nat, k ≤ 8 ∧ i = .int .i64 (k : Int) ∧ (∃ va c', v = .slice va k c') ∧ wr.ownsRow w.heap.size 4 1 v k (fcells k (fun _ => .bool) (bitV y)) ∧ Below w.heap.size w wr) (fun _ i _ => 8 - (intOf i).toNat)
  case atStart => exact ⟨0, by omega, rfl, ⟨_, _, rfl⟩, ⟨rfl, Or.inl ⟨rfl, rfl⟩⟩, Below.refl _ _⟩
  case round =>
    obtain ⟨k, hk, rfl, ⟨va, c', rfl⟩, hO1, hB1⟩ := hrel
    have hO := Lib.hid hO1
    have hB := Lib.hid hB1
    clear hO1 hB1
    by_cases hlt : k < 8
    · have hcy := Lib.hid ((hB.out.cell (p := ⟨b, o, none⟩) hbs).trans hcell.out)
      rcases eight hlt with rfl | rfl | rfl | rfl | rfl | rfl | rfl | rfl
      all_goals go_wp2_with (first
          | ((with_reducible refine at_iaddr 25 ?_); go_loud (refine wpList_value (by rfl) _ (run_index_slice _ 25 5 _ _ rfl Tryd.underlying25 1 sz_u8 b o 1 c rfl .i64 0 rfl (by decide) o (by omega)) ?_))
          | ((with_reducible refine at_load 5 ?_); go_loud (refine wpList_value (by rfl) _ (run_load_cell _ 5 _ (by rfl) ⟨b, o, none⟩ rfl _ hcy.out _ Tryd.underlying5 rfl) ?_))
          | ((with_reducible refine at_call_builtin .append ?_); go_loud (refine wpList_plain rfl fun K hK => wp_appS (w0 := wr) (n0 := w.heap.size) (.tmp 12) (.tmp 24) 184 4 rfl Tryd.underlying184 (.bool false) 1 1 info_bool rfl (by decide) w.heap.size _ _ _ rfl (own_later hO.out ((Below.refl _ _).alloc (Nat.le_refl _) _)) ⟨wr.heap.size, 0, none⟩ 1 1 rfl _ rfl (range_whole (heap_new _ _ _ _ rfl)) rfl (by simp [Value.oneCell']) (by omega) (by omega) (by have := hB.out.size; simp; omega) (Nat.le_refl _) (((Below.refl _ _).mono hB.out.size).alloc (by have := hB.out.size; omega) _) (fun v1 W2 h1 b1 z1 o1 q1 => hK _ _ ?_)); clear hK K
             rw [and1 _ (by omega) (by omega)] at h1
             have h2 := own_to h1 (bits_snoc y _ _ (by simp [bitV]; rfl))
             obtain ⟨va2, c2, e2, _⟩ := own_form h2
             subst e2
             have hO2 := Lib.hid h2
             have hB2 := Lib.hid (hB.out.trans b1)
             clear h1 h2 b1 z1 o1 q1))
      all_goals first
        | exact ⟨⟨_, by decide, rfl, ⟨_, _, rfl⟩, hO2.out, hB2.out⟩, by decide⟩
        | (refine ⟨?_, by decide⟩
           (repeat apply Exists.intro)
           exact ⟨⟨_, by decide, rfl, ⟨_, _, rfl⟩, hO2.out, hB2.out⟩, rfl⟩)
    · have e : k = 8 := by omega
      subst e
      clear hlt hk
      go_wp2
      exact ret_t1 rfl _ rfl rfl ⟨⟨va, c', rfl, hO.out⟩, hB.out⟩
/-- A list of eight bits of the call's own. -/
def bitL (y : Int) : List Int := (List.range 8).map (bitV y)
theorem bitL_length (y : Int) : (bitL y).length = 8 := by simp [bitL]
theorem bitV_or (y : Int) (j : Nat) : bitV y j = 0 ∨ bitV y j = 1 := by
  have hb : 0 ≤ bitV y j ∧ bitV y j < 2 := ⟨Int.emod_nonneg _ (by decide), Int.emod_lt_of_pos _ (by decide)⟩
  omega
theorem bitL_ok (y : Int) : ∀ m ∈ bitL y, CK.ok .bool m := fun m hm => by
  obtain ⟨j, _, rfl⟩ := List.mem_map.1 hm
  exact bitV_or y j
theorem bitL_get (y : Int) (j : Nat) (h : j < 8) : (bitL y).getD j 0 = bitV y j := by simp [bitL, List.getD, h]
theorem bits_own {base c : Nat} {va : Option Addr} {y : Int} {w : World} (h : w.ownsRow base 4 1 (.slice va 8 c) 8 (fcells 8 (fun _ => .bool) (bitV y))) : ∃ g, va = some ⟨g, 0, none⟩ ∧ base ≤ g ∧ g < w.heap.size ∧ 8 ≤ c ∧ Row w va .bool (bitL y) := by
  rcases h.2 with ⟨_, h0⟩ | ⟨g, cap, cur, h1, h2, h3, h4, h5, h6, h7⟩
  · exact absurd h0 (by decide)
  · injection h1 with e1 e2 e3
    subst e1
    subst e3
    refine ⟨g, rfl, h2, block_lt h3, h4, ⟨fun i hi => ⟨g, 0, rfl, ?_⟩, bitL_ok y⟩⟩
    rw [bitL_length] at hi
    rw [cell_of_row w g _ _ _ _ h3, Nat.zero_add, bitL_get y i hi]
    have := fcells_get 8 (fun _ => .bool) (bitV y) i hi
    rw [← h7, List.getElem?_take_of_lt (by omega)] at this
    simpa using this
set_option maxHeartbeats 8000000 in
theorem rreadVector_any (y : Int) (b o c : Nat) (w : World) (hy0 : 0 ≤ y) (hy1 : y ≤ 255) (hcell0 : w.cell? ⟨b, o, none⟩ = some (.int .u8 y)) :
    Calls Tryd.prog 114 #[.slice (some ⟨b, o, none⟩) 1 c, .int .i64 8] w fun e w' => (∃ g c', e = .returned (.tuple #[.slice (some ⟨g, 0, none⟩) 8 c', .int .i64 0]) ∧ w.heap.size ≤ g ∧ g < w'.heap.size ∧ 8 ≤ c' ∧ Row w' (some ⟨g, 0, none⟩) .bool (bitL y)) ∧ Below w.heap.size w w' := by
  have ht := Lib.hid (rall_any y b o c w hy0 hy1 hcell0)
  clear hcell0
  go_enter Tryd.func114, Tryd.ntmps114
  go_wp2_with (first
    | ((with_reducible refine ht.out.mono ?_)
       rintro e W ⟨⟨va, c', rfl, hO⟩, hB3⟩
       obtain ⟨g, e1, hg, hgs, h8, hR⟩ := bits_own hO
       subst e1
       have hRr := Lib.hid hR
       have hB := Lib.hid hB3
       clear hO hR hB3))
  go_loopw [7] (fun i wr => i = .int .i64 8 ∧ wr = W) (fun _ _ => 0)
  case atStart => exact ⟨rfl, rfl⟩
  case round =>
    obtain ⟨rfl, rfl⟩ := hrel
    go_wp2_with (first
      | ((with_reducible refine at_slice 184 ?_); refine wpList_value (by rfl) _ (run_slice_to _ 184 4 _ _ rfl Tryd.underlying184 1 sz_bool g 0 8 c' 8 rfl rfl (by omega)) ?_))
    exact ret_t2 rfl _ _ rfl rfl rfl ⟨⟨g, c', rfl, hg, hgs, h8, hRr.out⟩, hB.out⟩
end Go.Proofs.YtmoofccblbaepaaDoor
