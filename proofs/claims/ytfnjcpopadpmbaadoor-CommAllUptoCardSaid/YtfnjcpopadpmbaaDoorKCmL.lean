/- A committee. -/
import Derived.Test.YtfnjcpopadpmbaaDoorKCmK
set_option linter.unusedVariables false
set_option linter.unusedSimpArgs false
set_option linter.unnecessarySimpa false
namespace Go.Proofs.YtfnjcpopadpmbaaDoor
open Go.RowKit BigFrame
set_option maxRecDepth 100000
/-- How many committees a slot has. -/
def cntN (n : Nat) : Nat := if n / 8 < 1 then 1 else if 2 < n / 8 then 2 else n / 8
theorem cntN_ge (n : Nat) : 1 ≤ cntN n ∧ cntN n ≤ 2 := by unfold cntN; split <;> (try split) <;> omega
set_option maxHeartbeats 1000000 in
theorem count_any (n : Nat) (hn : n ≤ 1000000) (w : World) :
    Calls Tryd.prog 19 #[.int .i64 (n : Int)] w fun e w' => e = .returned (.int .u64 (cntN n : Nat)) ∧ w = w' := by
  have wn : IntKind.u64.wrap (n : Int) = (n : Int) := by rw [IntKind.wrap_u64]; omega
  obtain ⟨q, hq⟩ : ∃ q, q = n / 8 := ⟨_, rfl⟩
  have hqI : (n : Int) / 8 = (q : Int) := by omega
  by_cases c : q ≤ 1
  · have hc : cntN n = 1 := by unfold cntN; rw [← hq]; split <;> (try split) <;> omega
    rw [hc]
    have h1 : ¬ ((1 : Int) < (q : Int)) := by omega
    clear hq hc c
    go_enter Tryd.func19, Tryd.ntmps19
    go_wp2
    all_goals first
      | exact ret_t1 rfl _ rfl rfl ⟨rfl, rfl⟩
      | (exfalso; omega)
  · have hc : cntN n = 2 := by unfold cntN; rw [← hq]; split <;> (try split) <;> omega
    rw [hc]
    have h1 : (1 : Int) < (q : Int) := by omega
    have h2 : ¬ ((q : Int) < 2) := by omega
    clear hq hc c
    go_enter Tryd.func19, Tryd.ntmps19
    go_wp2
    all_goals first
      | exact ret_t1 rfl _ rfl rfl ⟨rfl, rfl⟩
      | (exfalso; omega)
theorem row_state : rowB Tryd.prog 49 1957 = true := by kernel_rfl
set_option maxHeartbeats 4000000 in
theorem Count_any (xs : Array Value) (vs : List (Nat → Int)) (mx : Nat → Int) (e : Int) (w : World) (h : VsRep w xs vs mx) (hN2 : vs.length ≤ 65536) :
    Calls Tryd.prog 8 #[.agg xs, .int .u64 e] w fun r w' => r = .returned (.int .u64 (cntN (actL vs e).length : Nat)) ∧ Below w.heap.size w w' := by
  have hrow := Lib.hid (show (Tryd.prog.info? 49).map (·.size) = some xs.size by rw [h.size]; exact row_size row_state)
  have hb1 : Below w.heap.size w (w.alloc (.cells xs 49)) := (Below.refl _ _).alloc (Nat.le_refl _) _
  have hac := Lib.hid (actives_any xs vs mx e _ (h.later hb1) vs.length rfl hN2)
  obtain ⟨L, hL⟩ : ∃ L, L = actL vs e := ⟨_, rfl⟩
  have hl : L.length ≤ 1000000 := by rw [hL]; have := actL_length vs e; omega
  rw [← hL] at hac ⊢
  have hB1 := Lib.hid hb1
  clear h hL hb1
  go_enter Tryd.func8, Tryd.ntmps8
  go_wp2_with (first
    | ((with_reducible refine at_load 49 ?_); go_loud (refine wpList_value (by rfl) _ (run_load_box _ 49 (.tmp 2) rfl w.heap.size rfl _ xs (0, 0) _ (heap_new _ _ _ _ rfl) Tryd.underlying49 rfl hrow.out) ?_))
    | ((with_reducible refine hac.out.mono ?_)
       rintro r W1 ⟨v, rfl, hO, _, b1⟩
       obtain ⟨va, cv, rfl, _⟩ := own_form hO
       have B2 := Lib.hid (hB1.out.trans (b1.mono (by simp)))
       clear hO b1)
    | ((with_reducible refine (count_any L.length hl _).mono ?_)
       rintro r W2 ⟨rfl, rfl⟩))
  exact ret_t1 rfl _ rfl rfl ⟨rfl, B2.out⟩
end Go.Proofs.YtfnjcpopadpmbaaDoor
