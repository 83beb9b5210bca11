/- The law for every state and epoch. -/
import Derived.Test.YtfnjcpopadpmbaaDoorKCmQ
set_option linter.unusedVariables false
set_option linter.unusedSimpArgs false
set_option linter.unnecessarySimpa false
namespace Go.Proofs.YtfnjcpopadpmbaaDoor
open Go.RowKit BigFrame
set_option maxRecDepth 100000
set_option maxHeartbeats 4000000 in
theorem law_out1 (hAw0 : AwakeOk) (xs : Array Value) (st : Sx) (E : Int) (w : World) (h : StRep w xs st) (hT0 : TabC w) (hr : st.rightB = false) :
    Calls Tryd.prog 3 #[.agg xs, .int .u64 E] w fun e w' => e = .returned (.bool true) ∧ Below w.heap.size w w' := by
  have hrow := Lib.hid (show (Tryd.prog.info? 49).map (·.size) = some xs.size by rw [h.size]; exact row_size row_state)
  obtain ⟨va, cap, hx721, _, _⟩ := h.vals
  obtain ⟨nv, hnvd⟩ : ∃ nv, nv = st.vals.length := ⟨_, rfl⟩
  have hRt := Lib.hid (fun (W : World) (hb : Below w.heap.size w W) => rright_any xs st W (stRep_later h hb))
  rw [hr] at hRt
  have hTt := Lib.hid (fun (W : World) (hb : Below w.heap.size w W) => hT0.below hT0.size hb)
  have hAw := Lib.hid (show ∀ (W : World), TabC W → Calls Tryd.prog 6 #[] W (fun e w' => e = .returned (.bool true) ∧ Below W.heap.size W w') from hAw0)
  rw [← hnvd] at hx721
  have gx := Lib.hid hx721
  clear h hT0 hr hx721 hAw0
  clear hnvd
  go_enter Tryd.func3, Tryd.ntmps3
  go_wp2_with (first
    | ((with_reducible refine (hAw.out _ ((hTt.out _ ((Below.refl _ _).alloc (Nat.le_refl _) _)))).mono ?_)
       rintro e W1 ⟨rfl, b1⟩
       rw [World.size_alloc] at b1
       have X1 := Lib.hid ((b1.block w.heap.size (by omega)).trans (heap_new w xs 49 _ rfl))
       have B1 := Lib.hid (((Below.refl w.heap.size w).alloc (Nat.le_refl _) (.cells xs 49)).trans (b1.mono (Nat.le_succ _)))
       clear b1)
    | ((with_reducible refine at_load 49 ?_); refine wpList_value (by rfl) _ (run_load_box _ 49 (.tmp 2) rfl w.heap.size rfl _ xs (0, 0) _ X1.out Tryd.underlying49 rfl hrow.out) ?_)
    | ((with_reducible refine (hRt.out _ B1.out).mono ?_)
       rintro e W2 ⟨rfl, b2⟩
       have X2 := Lib.hid ((b2.block w.heap.size (blk_lt X1.out)).trans X1.out)
       have B2 := Lib.hid (B1.out.trans (b2.mono (Nat.le_of_lt (blk_lt X1.out))))
       have cx2 : W2.cell? ⟨w.heap.size, 721, none⟩ = some (.slice va nv cap) := (cell_of_row _ w.heap.size 721 _ _ _ X2.out).trans gx.out
       clear b2))
  exact ret_t1 rfl _ rfl rfl ⟨rfl, B2.out⟩
set_option maxHeartbeats 4000000 in
theorem law_out2 (hAw0 : AwakeOk) (xs : Array Value) (st : Sx) (E : Int) (w : World) (h : StRep w xs st) (hT0 : TabC w) (hr : st.rightB = true) (hEd : decide (2199023255552 ≤ E) = true) :
    Calls Tryd.prog 3 #[.agg xs, .int .u64 E] w fun e w' => e = .returned (.bool true) ∧ Below w.heap.size w w' := by
  have hrow := Lib.hid (show (Tryd.prog.info? 49).map (·.size) = some xs.size by rw [h.size]; exact row_size row_state)
  obtain ⟨va, cap, hx721, _, _⟩ := h.vals
  obtain ⟨nv, hnvd⟩ : ∃ nv, nv = st.vals.length := ⟨_, rfl⟩
  have hRt := Lib.hid (fun (W : World) (hb : Below w.heap.size w W) => rright_any xs st W (stRep_later h hb))
  rw [hr] at hRt
  have hTt := Lib.hid (fun (W : World) (hb : Below w.heap.size w W) => hT0.below hT0.size hb)
  have hAw := Lib.hid (show ∀ (W : World), TabC W → Calls Tryd.prog 6 #[] W (fun e w' => e = .returned (.bool true) ∧ Below W.heap.size W w') from hAw0)
  rw [← hnvd] at hx721
  have gx := Lib.hid hx721
  clear h hT0 hr hx721 hAw0
  clear hnvd
  go_enter Tryd.func3, Tryd.ntmps3
  go_wp2_with (first
    | ((with_reducible refine (hAw.out _ ((hTt.out _ ((Below.refl _ _).alloc (Nat.le_refl _) _)))).mono ?_)
       rintro e W1 ⟨rfl, b1⟩
       rw [World.size_alloc] at b1
       have X1 := Lib.hid ((b1.block w.heap.size (by omega)).trans (heap_new w xs 49 _ rfl))
       have B1 := Lib.hid (((Below.refl w.heap.size w).alloc (Nat.le_refl _) (.cells xs 49)).trans (b1.mono (Nat.le_succ _)))
       clear b1)
    | ((with_reducible refine at_load 49 ?_); refine wpList_value (by rfl) _ (run_load_box _ 49 (.tmp 2) rfl w.heap.size rfl _ xs (0, 0) _ X1.out Tryd.underlying49 rfl hrow.out) ?_)
    | ((with_reducible refine (hRt.out _ B1.out).mono ?_)
       rintro e W2 ⟨rfl, b2⟩
       have X2 := Lib.hid ((b2.block w.heap.size (blk_lt X1.out)).trans X1.out)
       have B2 := Lib.hid (B1.out.trans (b2.mono (Nat.le_of_lt (blk_lt X1.out))))
       have cx2 : W2.cell? ⟨w.heap.size, 721, none⟩ = some (.slice va nv cap) := (cell_of_row _ w.heap.size 721 _ _ _ X2.out).trans gx.out
       clear b2))
  exact ret_t1 rfl _ rfl rfl ⟨rfl, B2.out⟩
set_option maxHeartbeats 4000000 in
theorem law_out3 (hAw0 : AwakeOk) (xs : Array Value) (st : Sx) (E : Int) (w : World) (h : StRep w xs st) (hT0 : TabC w) (hr : st.rightB = true) (hEd : decide (2199023255552 ≤ E) = false) (hnv : 300 < st.vals.length) :
    Calls Tryd.prog 3 #[.agg xs, .int .u64 E] w fun e w' => e = .returned (.bool true) ∧ Below w.heap.size w w' := by
  have hrow := Lib.hid (show (Tryd.prog.info? 49).map (·.size) = some xs.size by rw [h.size]; exact row_size row_state)
  obtain ⟨va, cap, hx721, _, _⟩ := h.vals
  obtain ⟨nv, hnvd⟩ : ∃ nv, nv = st.vals.length := ⟨_, rfl⟩
  have hRt := Lib.hid (fun (W : World) (hb : Below w.heap.size w W) => rright_any xs st W (stRep_later h hb))
  rw [hr] at hRt
  have hTt := Lib.hid (fun (W : World) (hb : Below w.heap.size w W) => hT0.below hT0.size hb)
  have hAw := Lib.hid (show ∀ (W : World), TabC W → Calls Tryd.prog 6 #[] W (fun e w' => e = .returned (.bool true) ∧ Below W.heap.size W w') from hAw0)
  rw [← hnvd] at hx721
  have gx := Lib.hid hx721
  clear h hT0 hr hx721 hAw0
  have hnd : decide ((300 : Int) < (nv : Int)) = true := by simp; omega
  clear hnvd hnv
  go_enter Tryd.func3, Tryd.ntmps3
  go_wp2_with (first
    | ((with_reducible refine (hAw.out _ ((hTt.out _ ((Below.refl _ _).alloc (Nat.le_refl _) _)))).mono ?_)
       rintro e W1 ⟨rfl, b1⟩
       rw [World.size_alloc] at b1
       have X1 := Lib.hid ((b1.block w.heap.size (by omega)).trans (heap_new w xs 49 _ rfl))
       have B1 := Lib.hid (((Below.refl w.heap.size w).alloc (Nat.le_refl _) (.cells xs 49)).trans (b1.mono (Nat.le_succ _)))
       clear b1)
    | ((with_reducible refine at_load 49 ?_); refine wpList_value (by rfl) _ (run_load_box _ 49 (.tmp 2) rfl w.heap.size rfl _ xs (0, 0) _ X1.out Tryd.underlying49 rfl hrow.out) ?_)
    | ((with_reducible refine (hRt.out _ B1.out).mono ?_)
       rintro e W2 ⟨rfl, b2⟩
       have X2 := Lib.hid ((b2.block w.heap.size (blk_lt X1.out)).trans X1.out)
       have B2 := Lib.hid (B1.out.trans (b2.mono (Nat.le_of_lt (blk_lt X1.out))))
       have cx2 : W2.cell? ⟨w.heap.size, 721, none⟩ = some (.slice va nv cap) := (cell_of_row _ w.heap.size 721 _ _ _ X2.out).trans gx.out
       clear b2))
  exact ret_t1 rfl _ rfl rfl ⟨rfl, B2.out⟩
theorem law_any (hAw0 : AwakeOk) (xs : Array Value) (st : Sx) (E : Int) (w : World) (h : StRep w xs st) (hT0 : TabC w) (hE0 : 0 ≤ E) :
    Calls Tryd.prog 3 #[.agg xs, .int .u64 E] w fun e w' => e = .returned (.bool true) ∧ Below w.heap.size w w' := by
  by_cases hr : st.rightB = true
  · by_cases hE : E < 2199023255552
    · by_cases hn : st.vals.length ≤ 300
      · obtain ⟨ep, rfl⟩ := Int.eq_ofNat_of_zero_le hE0
        exact law_main hAw0 xs st ep (by omega) w h hT0 hn hr
      · exact law_out3 hAw0 xs st E w h hT0 hr (by simp; omega) (by omega)
    · exact law_out2 hAw0 xs st E w h hT0 hr (by simp; omega)
  · exact law_out1 hAw0 xs st E w h hT0 (by simpa using hr)
end Go.Proofs.YtfnjcpopadpmbaaDoor
