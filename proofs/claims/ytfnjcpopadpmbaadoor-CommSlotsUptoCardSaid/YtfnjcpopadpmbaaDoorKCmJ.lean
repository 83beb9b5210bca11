/- The actives of an epoch. -/
import Derived.Test.YtfnjcpopadpmbaaDoorKCmI
import Derived.Test.YtfnjcpopadpmbaaDoorKOpenSt
set_option linter.unusedVariables false
set_option linter.unusedSimpArgs false
set_option linter.unnecessarySimpa false
namespace Go.Proofs.YtfnjcpopadpmbaaDoor
open Go.RowKit BigFrame
set_option maxRecDepth 100000
set_option maxHeartbeats 1000000 in
theorem list_nil (sd : Nat → Int) (w : World) :
    Calls Tryd.prog 21 #[.slice none 0 0, .agg (rootV sd)] w fun e w' => e = .returned (.tuple #[.slice none 0 0, .int .i64 0]) ∧ Below w.heap.size w w' := by
  go_enter Tryd.func21, Tryd.ntmps21
  go_wp2
  refine wp_scope_jumps2 0 (fun _ _ => False) (fun _ _ => 0) rfl (fun _ _ h => h.elim) fun _ => ?_
  go_wp2_with (
    ((with_reducible refine (clone_nil _).mono ?_); rintro e W1 ⟨rfl, rfl⟩))
  simp only [Exit.jump]
  exact ret_t2 rfl _ _ rfl rfl rfl ⟨rfl, (Below.refl _ _).alloc (Nat.le_refl _) _⟩
/-- A state of which only the validators and the mixes matter. -/
structure VsRep (w : World) (xs : Array Value) (vs : List (Nat → Int)) (mx : Nat → Int) : Prop where
  size : xs.size = 1957
  one : ∀ v ∈ xs, v.oneCell' = true
  vals : SlS w xs 721 86 valK vs
  mix : ∀ k, k < 256 → xs[723 + k]? = some (.int .u8 (mx k)) ∧ IsB (mx k)
theorem VsRep.later {w w' : World} {xs : Array Value} {vs : List (Nat → Int)} {mx : Nat → Int} (h : VsRep w xs vs mx) (hb : Below w.heap.size w w') : VsRep w' xs vs mx := by
  obtain ⟨va, cap, h1, h2, h3⟩ := h.vals
  exact ⟨h.size, h.one, ⟨va, cap, h1, h2.later hb, h3⟩, h.mix⟩
theorem StRep.vs {w : World} {xs : Array Value} {s : Sx} (h : StRep w xs s) : VsRep w xs s.vals (fun k => s.n (723 + k)) :=
  ⟨h.size, h.one, h.vals, fun k hk => h.flat (723 + k) .u8 (by
    unfold stK
    rw [if_neg (by omega), if_neg (by omega), if_neg (by omega)])⟩
/-- Is this one active? -/
def actB (e : Int) (v : Nat → Int) : Bool := decide (v 83 ≤ e) && decide (e < v 84)
def actL (vs : List (Nat → Int)) (e : Int) : List Int := activesL (fun i => actB e (vs.getD i nil0)) vs.length
theorem actL_length (vs : List (Nat → Int)) (e : Int) : (actL vs e).length ≤ vs.length := activesL_length _ _
theorem OwU.weak {base base' : Nat} {v : Value} {l : List Int} {w : World} (h : OwU base v l w) (hb : base' ≤ base) : OwU base' v l w := by
  refine ⟨h.1, ?_⟩
  rcases h.2 with hn | ⟨g, cap, cur, q1, q2, q3⟩
  · exact Or.inl hn
  · exact Or.inr ⟨g, cap, cur, q1, by omega, q3⟩
theorem info_u64z : (Tryd.prog.info? 22).map (fun i => (i.zero, i.size)) = some (some (.int .u64 0), 1) := by kernel_rfl
theorem row_val : rowB Tryd.prog 59 86 = true := by kernel_rfl
set_option maxHeartbeats 4000000 in
theorem actives_any (xs : Array Value) (vs : List (Nat → Int)) (mx : Nat → Int) (e : Int) (w : World) (h : VsRep w xs vs mx) (N : Nat) (hN : vs.length = N) (hN2 : N ≤ 65536) :
    Calls Tryd.prog 20 #[.agg xs, .int .u64 e] w fun r w' => ∃ v, r = .returned v ∧ OwU w.heap.size v (actL vs e) w' ∧ (actL vs e = [] → v = .slice none 0 0) ∧ Below w.heap.size w w' := by
  obtain ⟨va, cap, hx, hrows, hlen⟩ := h.vals
  have hA : actL vs e = activesL (fun i => actB e (vs.getD i nil0)) N := by unfold actL; rw [hN]
  rw [hA]
  rw [hN] at hx hlen
  have hR := Lib.hid hrows
  have hX := Lib.hid hx
  have hN' := Lib.hid hN
  have hone := Lib.hid h.one
  have hsz := Lib.hid h.size
  obtain ⟨a, ha⟩ : ∃ a : Nat → Bool, a = fun i => actB e (vs.getD i nil0) := ⟨_, rfl⟩
  rw [← ha]
  have ha' := Lib.hid ha
  clear h hx hrows hN ha hA
  obtain ⟨w1, hw1⟩ : ∃ w1, w1 = w.alloc (.cells xs 49) := ⟨_, rfl⟩
  have hw1' := Lib.hid hw1
  have hcx := Lib.hid (fun (wr : World) (hb : Below (w.heap.size + 1) w1 wr) => show wr.cell? ⟨w.heap.size, 721, none⟩ = some (.slice va N cap) from (box_cell (hw1 ▸ hb) 721).trans hX.out)
  clear hw1
  have hNI : (N : Int) ≤ 65536 := by omega
  go_enter Tryd.func20, Tryd.ntmps20
  go_wp2_with (first
    | ((with_reducible refine at_load 36 ?_); go_loud (refine wpList_value (by rfl) _ (run_load_cell _ 36 (.tmp 8) rfl ⟨w.heap.size, 721, none⟩ rfl (.slice va N cap) ((cell_of_row _ w.heap.size 721 _ _ _ (heap_new _ _ _ _ rfl)).trans hX.out) _ Tryd.underlying36 rfl) ?_)))
  refine gen_world (fun W => Below (w.heap.size + 1) w1 W ∧ w.heap.size + 1 ≤ W.heap.size) ⟨by rw [hw1'.out]; exact Below.refl _ _, by simp⟩ ?_
  rintro W0 ⟨hb0, hs0⟩
  go_loopw [5, 11] (fun v i wr => ∃ k : Nat, k ≤ N ∧ i = .int .i64 (k : Int) ∧ OwU (w.heap.size + 1) v (activesL a k) wr ∧ (activesL a k = [] → v = .slice none 0 0) ∧ Below (w.heap.size + 1) w1 wr ∧ w.heap.size + 1 ≤ wr.heap.size) (fun _ i _ => N - (intOf i).toNat)
  case atStart => exact ⟨0, by omega, rfl, OwU.nil _ _, fun _ => rfl, hb0, hs0⟩
  case round =>
    obtain ⟨k, hk, rfl, hO, hZ, hB, hs⟩ := hrel
    have gO := Lib.hid hO
    have gZ := Lib.hid hZ
    have gB := Lib.hid hB
    clear hO hB hZ hb0 hs0
    by_cases hlt : k < N
    · have lk : (k : Int) < (N : Int) := by omega
      have wk : IntKind.u64.wrap (k : Int) = (k : Int) := by rw [IntKind.wrap_u64]; omega
      obtain ⟨b, o, hva, hcell⟩ := hR.out.cell k (by rw [hN'.out]; exact hlt)
      subst hva
      have hbw : ∀ (j : Nat), j < 86 → wr.cell? ⟨b, o + k * 86 + j, none⟩ = some ((valK j).mk (vs.getD k nil0 j)) := fun j hj => by
        have h1 := hcell j hj
        have h2 := block_lt_of_cell h1
        have hb2 : Below w.heap.size w wr := below_box (hw1'.out ▸ gB.out)
        exact (hb2.cell h2).trans h1
      have c83 := hbw 83 (by omega)
      have c84 := hbw 84 (by omega)
      have hact : a k = (decide (vs.getD k nil0 83 ≤ e) && decide (e < vs.getD k nil0 84)) := by rw [ha'.out]; rfl
      obtain ⟨x3, hx3⟩ : ∃ x, x = vs.getD k nil0 83 := ⟨_, rfl⟩
      obtain ⟨x4, hx4⟩ : ∃ x, x = vs.getD k nil0 84 := ⟨_, rfl⟩
      rw [← hx3] at c83 hact
      rw [← hx4] at c84 hact
      have g83 := Lib.hid (show wr.cell? ⟨b, o + k * 86 + 83, none⟩ = some (.int .u64 x3) from c83)
      have g84 := Lib.hid (show wr.cell? ⟨b, o + k * 86 + 84, none⟩ = some (.int .u64 x4) from c84)
      have hsucc : activesL a (k + 1) = if a k then activesL a k ++ [(k : Int)] else activesL a k := rfl
      have hln : (activesL a k).length ≤ k := activesL_length a k
      clear c83 c84 hbw hcell hx3 hx4
      generalize hq : o + k * 86 = q at *
      have hq' := Lib.hid hq
      clear hq
      have hcx1 := Lib.hid (hcx.out wr gB.out)
      have gN := Lib.hid hln
      clear hln

      by_cases c1 : x3 ≤ e
      · have c1I : decide (x3 ≤ e) = true := by simpa using c1
        by_cases c2 : e < x4
        · have c2I : decide (e < x4) = true := by simpa using c2
          rw [c1I, c2I] at hact
          have hsu := Lib.hid (show activesL a (k + 1) = activesL a k ++ [(k : Int)] by rw [hsucc, hact]; rfl)
          clear hact hsucc
          go_wp2_with (first
            | ((with_reducible refine at_load 36 ?_); go_loud (refine wpList_value (by rfl) _ (run_load_cell _ 36 (.tmp 14) rfl ⟨w.heap.size, 721, none⟩ rfl (.slice (some ⟨b, o, none⟩) N cap) hcx1.out _ Tryd.underlying36 rfl) ?_))
            | ((with_reducible refine at_iaddrC 36 ?_); go_loud (refine wpList_value (by rfl) _ (run_index_slice _ 36 59 (.tmp 15) (.tmp 16) rfl Tryd.underlying36 86 (row_size row_val) b o N cap rfl .i64 k rfl hlt q hq'.out) ?_))
            | ((with_reducible refine at_load 22 ?_); refine wpList_value (by rfl) _ (run_load_cell _ 22 (.tmp 20) rfl ⟨b, q + 83, none⟩ rfl (.int .u64 x3) g83.out _ Tryd.underlying22 rfl) ?_)
            | ((with_reducible refine at_load 22 ?_); refine wpList_value (by rfl) _ (run_load_cell _ 22 (.tmp 28) rfl ⟨b, q + 84, none⟩ rfl (.int .u64 x4) g84.out _ Tryd.underlying22 rfl) ?_)
            | ((with_reducible refine at_bslice 37 ?_)
               go_loud (refine wpList_plain rfl fun K hK => wp_ran _ (run_buildSlice _ 37 22 1 _ rfl Tryd.underlying37 (.int .u64 0) 1 info_u64z (by decide) (by decide) [.int .u64 (k : Int)] rfl (by rfl) (fun v hv => by rw [List.mem_singleton.1 hv]; rfl)) (hK _ _ ?_))
               clear hK K
               obtain ⟨g3, hg3⟩ : ∃ g3, g3 = wr.heap.size := ⟨_, rfl⟩
               rw [← hg3]
               refine gen_l (fun W8 => Below wr.heap.size wr W8 ∧ W8.rangeAt g3 0 [.int .u64 (k : Int)] ∧ wr.heap.size + 1 ≤ W8.heap.size) ⟨(Below.refl _ _).alloc (Nat.le_refl _) _, range_whole (heap_new _ _ _ _ hg3), by rw [World.size_alloc]; omega⟩ ?_
               clear hg3
               rintro W8 ⟨h6, h7, h8⟩
               have B8 := Lib.hid h6
               have r8 := Lib.hid h7
               have z8 := Lib.hid h8
               clear h6 h7 h8)
            | ((with_reducible refine at_appC 37 ?_)
               go_loud (refine wpList_plain rfl fun K hK => wp_appS (w0 := w1) (n0 := w.heap.size + 1) (.tmp 32) (.tmp 35) 37 22 rfl Tryd.underlying37 (.int .u64 0) 1 8 info_u64 rfl (by decide) (w.heap.size + 1) (activesL a k).length u5 ((activesL a k).map (Value.int .u64)) rfl (own_later gO.out B8.out) ⟨g3, 0, none⟩ 1 1 rfl [.int .u64 (k : Int)] rfl r8.out rfl (fun u hu => by rw [List.mem_singleton.1 hu]; rfl) (by have := gN.out; omega) (by have := gN.out; omega) (by have := z8.out; omega) (Nat.le_refl _) (gB.out.trans (B8.out.mono (by omega))) (fun v' W9 h1 h2 h3 h4 h5 => hK _ _ ?_))
               clear hK K
               have O9 := Lib.hid (show OwU (w.heap.size + 1) v' (activesL a k ++ [(k : Int)]) W9 by unfold OwU; rw [List.length_append, List.map_append]; exact h1)
               have B9 := Lib.hid h2
               have Z9 := Lib.hid h3
               clear h1 h2 h3 h4 h5))
          exact ⟨⟨k + 1, by omega, by go_num, by rw [hsu.out]; exact O9.out, by rw [hsu.out]; exact fun h => absurd h (by simp), B9.out, Z9.out⟩, by simp [intOf]; omega⟩
        · have c2I : decide (e < x4) = false := by simpa using c2
          rw [c1I, c2I] at hact
          have hsu := Lib.hid (show activesL a (k + 1) = activesL a k by rw [hsucc, hact]; rfl)
          clear hact hsucc
          go_wp2_with (first
            | ((with_reducible refine at_load 36 ?_); go_loud (refine wpList_value (by rfl) _ (run_load_cell _ 36 (.tmp 14) rfl ⟨w.heap.size, 721, none⟩ rfl (.slice (some ⟨b, o, none⟩) N cap) hcx1.out _ Tryd.underlying36 rfl) ?_))
            | ((with_reducible refine at_iaddrC 36 ?_); go_loud (refine wpList_value (by rfl) _ (run_index_slice _ 36 59 (.tmp 15) (.tmp 16) rfl Tryd.underlying36 86 (row_size row_val) b o N cap rfl .i64 k rfl hlt q hq'.out) ?_))
            | ((with_reducible refine at_load 22 ?_); refine wpList_value (by rfl) _ (run_load_cell _ 22 (.tmp 20) rfl ⟨b, q + 83, none⟩ rfl (.int .u64 x3) g83.out _ Tryd.underlying22 rfl) ?_)
            | ((with_reducible refine at_load 22 ?_); refine wpList_value (by rfl) _ (run_load_cell _ 22 (.tmp 28) rfl ⟨b, q + 84, none⟩ rfl (.int .u64 x4) g84.out _ Tryd.underlying22 rfl) ?_)
            | ((with_reducible refine at_bslice 37 ?_)
               go_loud (refine wpList_plain rfl fun K hK => wp_ran _ (run_buildSlice _ 37 22 1 _ rfl Tryd.underlying37 (.int .u64 0) 1 info_u64z (by decide) (by decide) [.int .u64 (k : Int)] rfl (by rfl) (fun v hv => by rw [List.mem_singleton.1 hv]; rfl)) (hK _ _ ?_))
               clear hK K
               obtain ⟨g3, hg3⟩ : ∃ g3, g3 = wr.heap.size := ⟨_, rfl⟩
               rw [← hg3]
               refine gen_l (fun W8 => Below wr.heap.size wr W8 ∧ W8.rangeAt g3 0 [.int .u64 (k : Int)] ∧ wr.heap.size + 1 ≤ W8.heap.size) ⟨(Below.refl _ _).alloc (Nat.le_refl _) _, range_whole (heap_new _ _ _ _ hg3), by rw [World.size_alloc]; omega⟩ ?_
               clear hg3
               rintro W8 ⟨h6, h7, h8⟩
               have B8 := Lib.hid h6
               have r8 := Lib.hid h7
               have z8 := Lib.hid h8
               clear h6 h7 h8)
            | ((with_reducible refine at_appC 37 ?_)
               go_loud (refine wpList_plain rfl fun K hK => wp_appS (w0 := w1) (n0 := w.heap.size + 1) (.tmp 32) (.tmp 35) 37 22 rfl Tryd.underlying37 (.int .u64 0) 1 8 info_u64 rfl (by decide) (w.heap.size + 1) (activesL a k).length u5 ((activesL a k).map (Value.int .u64)) rfl (own_later gO.out B8.out) ⟨g3, 0, none⟩ 1 1 rfl [.int .u64 (k : Int)] rfl r8.out rfl (fun u hu => by rw [List.mem_singleton.1 hu]; rfl) (by have := gN.out; omega) (by have := gN.out; omega) (by have := z8.out; omega) (Nat.le_refl _) (gB.out.trans (B8.out.mono (by omega))) (fun v' W9 h1 h2 h3 h4 h5 => hK _ _ ?_))
               clear hK K
               have O9 := Lib.hid (show OwU (w.heap.size + 1) v' (activesL a k ++ [(k : Int)]) W9 by unfold OwU; rw [List.length_append, List.map_append]; exact h1)
               have B9 := Lib.hid h2
               have Z9 := Lib.hid h3
               clear h1 h2 h3 h4 h5))
          exact ⟨⟨k + 1, by omega, by go_num, by rw [hsu.out]; exact gO.out, by rw [hsu.out]; exact gZ.out, gB.out, hs⟩, by simp [intOf]; omega⟩
      · have c1I : decide (x3 ≤ e) = false := by simpa using c1
        rw [c1I] at hact
        have hsu := Lib.hid (show activesL a (k + 1) = activesL a k by rw [hsucc, hact]; rfl)
        clear hact hsucc
        go_wp2_with (first
          | ((with_reducible refine at_load 36 ?_); go_loud (refine wpList_value (by rfl) _ (run_load_cell _ 36 (.tmp 14) rfl ⟨w.heap.size, 721, none⟩ rfl (.slice (some ⟨b, o, none⟩) N cap) hcx1.out _ Tryd.underlying36 rfl) ?_))
          | ((with_reducible refine at_iaddrC 36 ?_); go_loud (refine wpList_value (by rfl) _ (run_index_slice _ 36 59 (.tmp 15) (.tmp 16) rfl Tryd.underlying36 86 (row_size row_val) b o N cap rfl .i64 k rfl hlt q hq'.out) ?_))
          | ((with_reducible refine at_load 22 ?_); refine wpList_value (by rfl) _ (run_load_cell _ 22 (.tmp 20) rfl ⟨b, q + 83, none⟩ rfl (.int .u64 x3) g83.out _ Tryd.underlying22 rfl) ?_)
          | ((with_reducible refine at_load 22 ?_); refine wpList_value (by rfl) _ (run_load_cell _ 22 (.tmp 28) rfl ⟨b, q + 84, none⟩ rfl (.int .u64 x4) g84.out _ Tryd.underlying22 rfl) ?_)
          | ((with_reducible refine at_bslice 37 ?_)
             go_loud (refine wpList_plain rfl fun K hK => wp_ran _ (run_buildSlice _ 37 22 1 _ rfl Tryd.underlying37 (.int .u64 0) 1 info_u64z (by decide) (by decide) [.int .u64 (k : Int)] rfl (by rfl) (fun v hv => by rw [List.mem_singleton.1 hv]; rfl)) (hK _ _ ?_))
             clear hK K
             obtain ⟨g3, hg3⟩ : ∃ g3, g3 = wr.heap.size := ⟨_, rfl⟩
             rw [← hg3]
             refine gen_l (fun W8 => Below wr.heap.size wr W8 ∧ W8.rangeAt g3 0 [.int .u64 (k : Int)] ∧ wr.heap.size + 1 ≤ W8.heap.size) ⟨(Below.refl _ _).alloc (Nat.le_refl _) _, range_whole (heap_new _ _ _ _ hg3), by rw [World.size_alloc]; omega⟩ ?_
             clear hg3
             rintro W8 ⟨h6, h7, h8⟩
             have B8 := Lib.hid h6
             have r8 := Lib.hid h7
             have z8 := Lib.hid h8
             clear h6 h7 h8)
          | ((with_reducible refine at_appC 37 ?_)
             go_loud (refine wpList_plain rfl fun K hK => wp_appS (w0 := w1) (n0 := w.heap.size + 1) (.tmp 32) (.tmp 35) 37 22 rfl Tryd.underlying37 (.int .u64 0) 1 8 info_u64 rfl (by decide) (w.heap.size + 1) (activesL a k).length u5 ((activesL a k).map (Value.int .u64)) rfl (own_later gO.out B8.out) ⟨g3, 0, none⟩ 1 1 rfl [.int .u64 (k : Int)] rfl r8.out rfl (fun u hu => by rw [List.mem_singleton.1 hu]; rfl) (by have := gN.out; omega) (by have := gN.out; omega) (by have := z8.out; omega) (Nat.le_refl _) (gB.out.trans (B8.out.mono (by omega))) (fun v' W9 h1 h2 h3 h4 h5 => hK _ _ ?_))
             clear hK K
             have O9 := Lib.hid (show OwU (w.heap.size + 1) v' (activesL a k ++ [(k : Int)]) W9 by unfold OwU; rw [List.length_append, List.map_append]; exact h1)
             have B9 := Lib.hid h2
             have Z9 := Lib.hid h3
             clear h1 h2 h3 h4 h5))
        exact ⟨⟨k + 1, by omega, by go_num, by rw [hsu.out]; exact gO.out, by rw [hsu.out]; exact gZ.out, gB.out, hs⟩, by simp [intOf]; omega⟩
    · have e2 : k = N := by omega
      subst e2
      go_wp2
      exact ret_t1 rfl _ rfl rfl ⟨_, rfl, gO.out.weak (Nat.le_succ _), gZ.out, below_box (hw1'.out ▸ gB.out)⟩
end Go.Proofs.YtfnjcpopadpmbaaDoor
