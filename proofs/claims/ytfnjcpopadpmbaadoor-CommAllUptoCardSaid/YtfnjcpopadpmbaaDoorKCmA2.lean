/- The digest of the program, of few bytes: New, Copy. -/
import Derived.Test.YtfnjcpopadpmbaaDoorKCmA
set_option linter.unusedVariables false
set_option linter.unusedSimpArgs false
set_option linter.unnecessarySimpa false
namespace Go.Proofs.YtfnjcpopadpmbaaDoor
open Go.RowKit BigFrame
set_option maxRecDepth 100000
set_option maxHeartbeats 1000000 in
theorem new_any (w : World) (hT0 : TabC w) :
    Calls Tryd.prog 33 #[] w fun e w' => e = .returned (.pointer (some ⟨w.heap.size, 0, none⟩)) ∧ w' = w.alloc (.cells (dgC []) 104) := by
  have hT := Lib.hid hT0
  clear hT0
  have hbd0 := build_dg
  have hr0 := fun (W : World) (h : TabC W) => TabC.range h
  have hl0 : (Tryd.prog.info? 100).map (·.size) = some shaIv.cells.length := by kernel_rfl
  obtain ⟨C, hC⟩ : ∃ C, C = dgC [] := ⟨_, rfl⟩
  rw [← hC] at hbd0 ⊢
  clear hC
  generalize shaIv.cells = H at *
  have hbd := Lib.hid hbd0
  have hr := Lib.hid hr0
  have hl := Lib.hid hl0
  clear hbd0 hr0 hl0
  go_enter Tryd.func33, Tryd.ntmps33
  go_wp2_with (first
    | ((with_reducible refine at_load 100 ?_); go_loud (refine wpList_value (by rfl) _ (run_load_rows _ 100 _ (by rfl) 0 0 (by rfl) H _ (hr.out _ hT.out) Tryd.underlying100 rfl hl.out) ?_))
    | ((with_reducible refine at_build 104 ?_); go_loud (refine wpList_value (by rfl) (.agg C) (run_build1 104 0 (.tmp 1) rfl (.agg H.toArray) _ rfl (hbd.out _)) ?_)))
  exact ret_t1 rfl _ rfl rfl ⟨rfl, rfl⟩
set_option maxHeartbeats 1000000 in
theorem dcopy_any (b : Nat) (l : List Int) (w : World) (hd0 : w.heap[b]? = some (.cells (dgC l) 104 (0, 0))) :
    Calls Tryd.prog 44 #[.pointer (some ⟨b, 0, none⟩)] w fun e w' => e = .returned (.pointer (some ⟨w.heap.size, 0, none⟩)) ∧ w'.heap[w.heap.size]? = some (.cells (dgC l) 104 (0, 0)) ∧ Below w.heap.size w w' := by
  have hd := Lib.hid hd0
  clear hd0
  obtain ⟨C, hC⟩ : ∃ C, C = dgC l := ⟨_, rfl⟩
  have h1 : C.all (·.oneCell') = true := by rw [hC]; exact dgA_one _ _ _
  have hsz : C.size = 74 := by rw [hC]; exact dgA_size _ _ _
  rw [← hC] at hd ⊢
  have hi1 : (Tryd.prog.info? 104).map (·.size) = some C.size := by rw [hsz]; exact row_size row_dg
  have hz1 : (Tryd.prog.info? 104).map (fun i => (i.zero, i.size)) = some (some (.agg (zeroOf Tryd.prog 104)), C.size) := by rw [hsz]; exact (row_zero row_dg).1
  have hz2 : (zeroOf Tryd.prog 104).size = C.size := by rw [hsz]; exact (row_zero row_dg).2
  clear hC
  go_enter Tryd.func44, Tryd.ntmps44
  go_wp2_with (first
    | ((with_reducible refine at_load 104 ?_); go_loud (refine wpList_value (by rfl) _ (run_load_box _ 104 _ (by rfl) b (by rfl) _ C (0, 0) _ hd.out Tryd.underlying104 rfl hi1) ?_))
    | ((with_reducible refine at_alloc 104 ?_); go_loud (refine wpList_alloc_store rfl rfl 104 3 _ rfl rfl rfl C rfl rfl (zeroOf Tryd.prog 104) hz1 hz2 h1 ?_)))
  exact ret_t1 rfl _ rfl rfl ⟨rfl, heap_new _ _ _ _ rfl, (Below.refl _ _).alloc (Nat.le_refl _) _⟩
end Go.Proofs.YtfnjcpopadpmbaaDoor
