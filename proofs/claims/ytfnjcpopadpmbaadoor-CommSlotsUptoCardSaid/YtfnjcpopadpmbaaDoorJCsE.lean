/- A place behind all rounds of the reference; who is active there. -/
/- Who is active, of the reference; how many committees. -/
import Derived.Test.YtfnjcpopadpmbaaDoorJCsC
import Derived.Test.YtfnjcpopadpmbaaDoorJCmM
set_option linter.unusedVariables false
set_option linter.unusedSimpArgs false
set_option linter.unnecessarySimpa false
namespace Go.Proofs.YtfnjcpopadpmbaaDoor
open Go.RowKit BigFrame
set_option maxRecDepth 100000
set_option maxHeartbeats 8000000 in
theorem place_any (i n : Nat) (sd : Nat → Int) (hi : i < n) (hn : n ≤ 65536) (w : World) (hsd : IsR sd) (hT0 : Tabs w) :
    Calls Tryd.prog 27 #[.int .u64 (i : Int), .int .u64 (n : Int), .agg (rootV sd)] w fun e w' => e = .returned (.tuple #[.int .u64 (plS sd n 6 i : Nat), .int .i64 0]) ∧ Below w.heap.size w w' := by
  obtain ⟨n0, hn0⟩ : ∃ n0, n0 = w.heap.size := ⟨_, rfl⟩
  have gn0 := Lib.hid hn0
  have hT := Lib.hid hT0
  have hT3 := Lib.hid hT0.size
  have gsd := Lib.hid hsd
  obtain ⟨w1, hw1⟩ : ∃ w1, w1 = w.alloc (.cells (rootV sd) 24) := ⟨_, rfl⟩
  have gw1 := Lib.hid hw1
  have l1 : ((n : Int) == 0) = false := by simp; omega
  have l2 : decide ((n : Int) > 4294967296) = false := by simp; omega
  have l3 : decide ((i : Int) ≥ (n : Int)) = false := by simp; omega
  have l4 : decide (n ≤ i) = false := by simp; omega
  have hrow := Lib.hid (show (Tryd.prog.info? 24).map (·.size) = some (rootV sd).size by rw [row_size row_root]; simp [fcells])
  have hbx := Lib.hid (fun (W : World) (hb : Below (n0 + 1) w1 W) => show RdK n0 w sd W from ⟨((Below.refl n0 w).alloc (by rw [hn0]; exact Nat.le_refl _) _).trans (hw1 ▸ hb.mono (Nat.le_succ _)), (hb.block n0 (by omega)).trans (by rw [hw1]; exact heap_new _ _ _ _ hn0)⟩)
  have hz0 := Lib.hid (show n0 + 1 ≤ w1.heap.size by rw [hw1, World.size_alloc, hn0]; exact Nat.le_refl _)
  clear hn0 hw1 hsd hT0
  go_enter Tryd.func27, Tryd.ntmps27
  go_wp2
  rw [← gw1.out, ← gn0.out]
  go_loopw [0, 8] (fun v vr wr => ∃ k : Nat, k ≤ 6 ∧ vr = .int .i64 (k : Int) ∧ v = .int .u64 (plS sd n k i : Nat) ∧ Below (n0 + 1) w1 wr ∧ n0 + 1 ≤ wr.heap.size) (fun _ vr _ => 6 - (intOf vr).toNat)
  case atStart => exact ⟨0, by omega, rfl, rfl, Below.refl _ _, hz0.out⟩
  case round =>
    obtain ⟨k, hk, rfl, rfl, hB, hz⟩ := hrel
    have gB := Lib.hid hB
    have gz := Lib.hid hz
    have kB := Lib.hid (hbx.out wr hB)
    clear hB hz
    have hpl := plS_lt sd k hi
    have hsu := Lib.hid (show plS sd n (k + 1) i = placeR (pvI sd n k).toNat n (fun f => bitF (blkS sd k (f / 256)) f) (plS sd n k i) from rfl)
    obtain ⟨a, ha⟩ : ∃ a, a = plS sd n k i := ⟨_, rfl⟩
    rw [← ha] at hpl hsu ⊢
    by_cases hlt : k < 6
    · have lk : decide ((k : Int) < 6) = true := by simp; omega
      have wk : IntKind.i64.wrap ((k : Int) + 1) = ((k + 1 : Nat) : Int) := by rw [IntKind.wrap_i64]; omega
      have hro := Lib.hid (rround_any k a n sd hlt hpl hn wr gsd.out (hT.out.below (n := n0) (by rw [gn0.out]; exact hT3.out) kB.out.below))
      rw [← hsu.out] at hro
      clear ha hpl
      go_wp2_with (first
        | ((with_reducible refine at_load 24 ?_); refine wpList_value (by rfl) _ (run_load_box _ 24 (.tmp 5) rfl n0 rfl _ (rootV sd) (0, 0) _ kB.out.hs Tryd.underlying24 rfl hrow.out) ?_)
        | ((with_reducible refine hro.out.mono ?_)
           rintro e W1 ⟨rfl, b1⟩
           have B1 := Lib.hid (gB.out.trans (b1.mono gz.out))
           have z1 := Lib.hid (Nat.le_trans gz.out b1.size)
           clear b1))
      exact ⟨⟨k + 1, by omega, by go_num, rfl, B1.out, z1.out⟩, by simp [intOf]; omega⟩
    · have e6 : k = 6 := by omega
      subst e6
      subst ha
      go_wp2
      exact ret_t2 rfl _ _ rfl rfl rfl ⟨rfl, gn0.out ▸ kB.out.below⟩
theorem actB_is (e : Int) (f : Nat → Int) : actB e f = (decide (f 83 ≤ e) && decide (e < f 84)) := rfl
set_option maxHeartbeats 4000000 in
theorem ractive_any (f : Nat → Int) (e : Int) (w : World) :
    Calls Tryd.prog 10 #[.agg (fcells 86 valK f).toArray, .int .u64 e] w fun r w' => r = .returned (.bool (actB e f)) ∧ Below w.heap.size w w' := by
  have hc : ∀ j, j < 86 → (w.alloc (.cells (fcells 86 valK f).toArray 59)).cell? ⟨w.heap.size, j, none⟩ = some ((valK j).mk (f j)) := fun j hj => by
    rw [cell_of_row _ w.heap.size j _ _ _ (heap_new _ _ _ _ rfl), List.getElem?_toArray, fcells_get _ _ _ _ hj]
  have c3 := Lib.hid (hc 83 (by omega))
  have c4 := Lib.hid (hc 84 (by omega))
  rw [actB_is]
  obtain ⟨x3, hx3⟩ : ∃ x, x = f 83 := ⟨_, rfl⟩
  obtain ⟨x4, hx4⟩ : ∃ x, x = f 84 := ⟨_, rfl⟩
  rw [← hx3] at c3 ⊢
  rw [← hx4] at c4 ⊢
  have g3 := Lib.hid (show (w.alloc (.cells (fcells 86 valK f).toArray 59)).cell? ⟨w.heap.size, 83, none⟩ = some (.int .u64 x3) from c3.out)
  have g4 := Lib.hid (show (w.alloc (.cells (fcells 86 valK f).toArray 59)).cell? ⟨w.heap.size, 84, none⟩ = some (.int .u64 x4) from c4.out)
  have gb := Lib.hid (show Below w.heap.size w (w.alloc (.cells (fcells 86 valK f).toArray 59)) from (Below.refl _ _).alloc (Nat.le_refl _) _)
  obtain ⟨Y, hY⟩ : ∃ Y, Y = (fcells 86 valK f).toArray := ⟨_, rfl⟩
  rw [← hY] at g3 g4 gb ⊢
  clear hc c3 c4 hx3 hx4 hY
  cases h1 : decide (x3 ≤ e) with
  | false =>
    go_enter Tryd.func10, Tryd.ntmps10
    go_wp2_with (first
      | ((with_reducible refine at_load 22 ?_); refine wpList_value (by rfl) _ (run_load_cell _ 22 (.tmp 5) rfl ⟨w.heap.size, 83, none⟩ rfl (.int .u64 x3) g3.out _ Tryd.underlying22 rfl) ?_))
    exact ret_t1 rfl _ rfl rfl ⟨rfl, gb.out⟩
  | true =>
    cases h2 : decide (e < x4) with
    | false =>
      go_enter Tryd.func10, Tryd.ntmps10
      go_wp2_with (first
        | ((with_reducible refine at_load 22 ?_); refine wpList_value (by rfl) _ (run_load_cell _ 22 (.tmp 5) rfl ⟨w.heap.size, 83, none⟩ rfl (.int .u64 x3) g3.out _ Tryd.underlying22 rfl) ?_)
        | ((with_reducible refine at_load 22 ?_); refine wpList_value (by rfl) _ (run_load_cell _ 22 (.tmp 11) rfl ⟨w.heap.size, 84, none⟩ rfl (.int .u64 x4) g4.out _ Tryd.underlying22 rfl) ?_))
      exact ret_t1 rfl _ rfl rfl ⟨rfl, gb.out⟩
    | true =>
      go_enter Tryd.func10, Tryd.ntmps10
      go_wp2_with (first
        | ((with_reducible refine at_load 22 ?_); refine wpList_value (by rfl) _ (run_load_cell _ 22 (.tmp 5) rfl ⟨w.heap.size, 83, none⟩ rfl (.int .u64 x3) g3.out _ Tryd.underlying22 rfl) ?_)
        | ((with_reducible refine at_load 22 ?_); refine wpList_value (by rfl) _ (run_load_cell _ 22 (.tmp 11) rfl ⟨w.heap.size, 84, none⟩ rfl (.int .u64 x4) g4.out _ Tryd.underlying22 rfl) ?_))
      exact ret_t1 rfl _ rfl rfl ⟨rfl, gb.out⟩
end Go.Proofs.YtfnjcpopadpmbaaDoor
namespace Go.Proofs.YtfnjcpopadpmbaaDoor
open Go.RowKit BigFrame
set_option maxRecDepth 100000
set_option maxHeartbeats 8000000 in
theorem ractives_any (xs : Array Value) (vs : List (Nat → Int)) (mx : Nat → Int) (e : Int) (w : World) (h : VsRep w xs vs mx) (N : Nat) (hN : vs.length = N) (hN2 : N ≤ 65536) :
    Calls Tryd.prog 25 #[.agg xs, .int .u64 e] w fun r w' => ∃ v, r = .returned v ∧ OwU w.heap.size v (actL vs e) w' ∧ (actL vs e = [] → v = .slice none 0 0) ∧ Below w.heap.size w w' := by
  obtain ⟨va, cap, hx, hrows, hlen⟩ := h.vals
  have hA : actL vs e = activesL (fun i => actB e (vs.getD i nil0)) N := by unfold actL; rw [hN]
  rw [hA]
  rw [hN] at hx hlen
  have hR := Lib.hid hrows
  have hX := Lib.hid hx
  have hN' := Lib.hid hN
  obtain ⟨a, ha⟩ : ∃ a : Nat → Bool, a = fun i => actB e (vs.getD i nil0) := ⟨_, rfl⟩
  rw [← ha]
  have ha' := Lib.hid ha
  clear h hx hrows hN ha hA
  obtain ⟨w1, hw1⟩ : ∃ w1, w1 = w.alloc (.cells xs 49) := ⟨_, rfl⟩
  have hw1' := Lib.hid hw1
  have hcx := Lib.hid (fun (wr : World) (hb : Below (w.heap.size + 1) w1 wr) => show wr.cell? ⟨w.heap.size, 721, none⟩ = some (.slice va N cap) from (box_cell (hw1 ▸ hb) 721).trans hX.out)
  have hz0 : w.heap.size + 1 ≤ w1.heap.size := by rw [hw1, World.size_alloc]; exact Nat.le_refl _
  clear hw1
  have hNI : (N : Int) ≤ 65536 := by omega
  go_enter Tryd.func25, Tryd.ntmps25
  go_wp2
  rw [← hw1'.out]
  go_loopw [5, 6] (fun v i wr => ∃ k : Nat, k ≤ N ∧ i = .int .i64 (k : Int) ∧ OwU (w.heap.size + 1) v (activesL a k) wr ∧ (activesL a k = [] → v = .slice none 0 0) ∧ Below (w.heap.size + 1) w1 wr ∧ w.heap.size + 1 ≤ wr.heap.size) (fun _ i _ => N - (intOf i).toNat)
  case atStart => exact ⟨0, by omega, rfl, OwU.nil _ _, fun _ => rfl, Below.refl _ _, hz0⟩
  case round =>
    obtain ⟨k, hk, rfl, hO, hZ, hB, hs⟩ := hrel
    have gO := Lib.hid hO
    have gZ := Lib.hid hZ
    have gB := Lib.hid hB
    clear hO hB hZ hz0
    have hcx1 := Lib.hid (hcx.out wr gB.out)
    by_cases hlt : k < N
    · have lk : decide ((k : Int) < (N : Int)) = true := by simp; omega
      have wk : IntKind.u64.wrap (k : Int) = (k : Int) := by rw [IntKind.wrap_u64]; omega
      obtain ⟨b, o, hva, hcell⟩ := hR.out.cell k (by rw [hN'.out]; exact hlt)
      subst hva
      have hbw : ∀ (j : Nat), j < 86 → wr.cell? ⟨b, o + k * 86 + j, none⟩ = some ((valK j).mk (vs.getD k nil0 j)) := fun j hj => by
        have h1 := hcell j hj
        have h2 := block_lt_of_cell h1
        have hb2 : Below w.heap.size w wr := below_box (hw1'.out ▸ gB.out)
        exact (hb2.cell h2).trans h1
      have hact : a k = actB e (vs.getD k nil0) := by rw [ha'.out]
      have hsucc : activesL a (k + 1) = if a k then activesL a k ++ [(k : Int)] else activesL a k := rfl
      have hln : (activesL a k).length ≤ k := activesL_length a k
      have hrg : wr.rangeAt b (o + k * 86) (fcells 86 valK (vs.getD k nil0)) := fun j v hv => by
        have hj : j < 86 := by have := (List.getElem?_eq_some_iff.1 hv).1; rwa [fcells_length] at this
        rw [fcells_get _ _ _ _ hj] at hv
        rw [hbw j hj]
        exact hv
      clear hbw hcell
      obtain ⟨vk, hvk⟩ : ∃ f : Nat → Int, f = vs.getD k nil0 := ⟨_, rfl⟩
      rw [← hvk] at hact hrg
      clear hvk
      generalize hq : o + k * 86 = q at *
      have hq' := Lib.hid hq
      have grg := Lib.hid hrg
      clear hq hrg
      have gN := Lib.hid hln
      clear hln
      cases hab : a k with
      | true =>
        rw [hab] at hsucc hact
        have hsu := Lib.hid (show activesL a (k + 1) = activesL a k ++ [(k : Int)] by rw [hsucc]; rfl)
        have hca := Lib.hid (show Calls Tryd.prog 10 #[.agg (fcells 86 valK vk).toArray, .int .u64 e] wr fun r w' => r = .returned (.bool true) ∧ Below wr.heap.size wr w' by rw [hact]; exact ractive_any _ e wr)
        clear hact hsucc hab
        go_wp2_with (first
          | ((with_reducible refine at_load 36 ?_); go_loud (refine wpList_value (by rfl) _ (run_load_cell _ 36 (.tmp 8) rfl ⟨w.heap.size, 721, none⟩ rfl (.slice (some ⟨b, o, none⟩) N cap) hcx1.out _ Tryd.underlying36 rfl) ?_))
          | ((with_reducible refine at_load 36 ?_); go_loud (refine wpList_value (by rfl) _ (run_load_cell _ 36 (.tmp 14) rfl ⟨w.heap.size, 721, none⟩ rfl (.slice (some ⟨b, o, none⟩) N cap) hcx1.out _ Tryd.underlying36 rfl) ?_))
          | ((with_reducible refine at_iaddrC 36 ?_); go_loud (refine wpList_value (by rfl) _ (run_index_slice _ 36 59 (.tmp 15) (.tmp 16) rfl Tryd.underlying36 86 (row_size row_val) b o N cap rfl .i64 k rfl hlt q hq'.out) ?_))
          | ((with_reducible refine at_load 59 ?_); go_loud (refine wpList_value (by rfl) _ (run_load_rows _ 59 _ (by rfl) b q rfl (fcells 86 valK vk) _ grg.out Tryd.underlying59 rfl (by rw [row_size row_val, fcells_length])) ?_))
          | ((with_reducible refine hca.out.mono ?_)
             rintro r W7 ⟨rfl, b7⟩
             have g7 := Lib.hid (own_later gO.out b7)
             have B7 := Lib.hid (gB.out.trans (b7.mono hs))
             have z7 := Lib.hid (Nat.le_trans hs b7.size)
             have hcx7 := Lib.hid (hcx.out W7 B7.out)
             clear b7)
          | ((with_reducible refine at_bslice 37 ?_)
             go_loud (refine wpList_plain rfl fun K hK => wp_ran _ (run_buildSlice _ 37 22 1 _ rfl Tryd.underlying37 (.int .u64 0) 1 info_u64z (by decide) (by decide) [.int .u64 (k : Int)] rfl (by rfl) (fun v hv => by rw [List.mem_singleton.1 hv]; rfl)) (hK _ _ ?_))
             clear hK K
             obtain ⟨g3, hg3⟩ : ∃ g3, g3 = W7.heap.size := ⟨_, rfl⟩
             rw [← hg3]
             refine gen_l (fun W8 => Below W7.heap.size W7 W8 ∧ W8.rangeAt g3 0 [.int .u64 (k : Int)] ∧ W7.heap.size + 1 ≤ W8.heap.size) ⟨(Below.refl _ _).alloc (Nat.le_refl _) _, range_whole (heap_new _ _ _ _ hg3), by rw [World.size_alloc]; omega⟩ ?_
             clear hg3
             rintro W8 ⟨h6, h7, h8⟩
             have B8 := Lib.hid h6
             have r8 := Lib.hid h7
             have z8 := Lib.hid h8
             clear h6 h7 h8)
          | ((with_reducible refine at_appC 37 ?_)
             go_loud (refine wpList_plain rfl fun K hK => wp_appS (w0 := w1) (n0 := w.heap.size + 1) (.tmp 21) (.tmp 24) 37 22 rfl Tryd.underlying37 (.int .u64 0) 1 8 info_u64 rfl (by decide) (w.heap.size + 1) (activesL a k).length u5 ((activesL a k).map (Value.int .u64)) rfl (own_later g7.out B8.out) ⟨g3, 0, none⟩ 1 1 rfl [.int .u64 (k : Int)] rfl r8.out rfl (fun u hu => by rw [List.mem_singleton.1 hu]; rfl) (by have := gN.out; omega) (by have := gN.out; omega) (by have := z8.out; have := z7.out; omega) (Nat.le_refl _) (B7.out.trans (B8.out.mono (by have := z7.out; omega))) (fun v' W9 h1 h2 h3 h4 h5 => hK _ _ ?_))
             clear hK K
             have O9 := Lib.hid (show OwU (w.heap.size + 1) v' (activesL a k ++ [(k : Int)]) W9 by unfold OwU; rw [List.length_append, List.map_append]; exact h1)
             have B9 := Lib.hid h2
             have Z9 := Lib.hid h3
             clear h1 h2 h3 h4 h5))
        exact ⟨⟨k + 1, by omega, by go_num, by rw [hsu.out]; exact O9.out, by rw [hsu.out]; exact fun h => absurd h (by simp), B9.out, Z9.out⟩, by simp [intOf]; omega⟩
      | false =>
        rw [hab] at hsucc hact
        have hsu := Lib.hid (show activesL a (k + 1) = activesL a k by rw [hsucc]; rfl)
        have hca := Lib.hid (show Calls Tryd.prog 10 #[.agg (fcells 86 valK vk).toArray, .int .u64 e] wr fun r w' => r = .returned (.bool false) ∧ Below wr.heap.size wr w' by rw [hact]; exact ractive_any _ e wr)
        clear hact hsucc hab
        go_wp2_with (first
          | ((with_reducible refine at_load 36 ?_); go_loud (refine wpList_value (by rfl) _ (run_load_cell _ 36 (.tmp 8) rfl ⟨w.heap.size, 721, none⟩ rfl (.slice (some ⟨b, o, none⟩) N cap) hcx1.out _ Tryd.underlying36 rfl) ?_))
          | ((with_reducible refine at_load 36 ?_); go_loud (refine wpList_value (by rfl) _ (run_load_cell _ 36 (.tmp 14) rfl ⟨w.heap.size, 721, none⟩ rfl (.slice (some ⟨b, o, none⟩) N cap) hcx1.out _ Tryd.underlying36 rfl) ?_))
          | ((with_reducible refine at_iaddrC 36 ?_); go_loud (refine wpList_value (by rfl) _ (run_index_slice _ 36 59 (.tmp 15) (.tmp 16) rfl Tryd.underlying36 86 (row_size row_val) b o N cap rfl .i64 k rfl hlt q hq'.out) ?_))
          | ((with_reducible refine at_load 59 ?_); go_loud (refine wpList_value (by rfl) _ (run_load_rows _ 59 _ (by rfl) b q rfl (fcells 86 valK vk) _ grg.out Tryd.underlying59 rfl (by rw [row_size row_val, fcells_length])) ?_))
          | ((with_reducible refine hca.out.mono ?_)
             rintro r W7 ⟨rfl, b7⟩
             have g7 := Lib.hid (own_later gO.out b7)
             have B7 := Lib.hid (gB.out.trans (b7.mono hs))
             have z7 := Lib.hid (Nat.le_trans hs b7.size)
             have hcx7 := Lib.hid (hcx.out W7 B7.out)
             clear b7)
          | ((with_reducible refine at_bslice 37 ?_)
             go_loud (refine wpList_plain rfl fun K hK => wp_ran _ (run_buildSlice _ 37 22 1 _ rfl Tryd.underlying37 (.int .u64 0) 1 info_u64z (by decide) (by decide) [.int .u64 (k : Int)] rfl (by rfl) (fun v hv => by rw [List.mem_singleton.1 hv]; rfl)) (hK _ _ ?_))
             clear hK K
             obtain ⟨g3, hg3⟩ : ∃ g3, g3 = W7.heap.size := ⟨_, rfl⟩
             rw [← hg3]
             refine gen_l (fun W8 => Below W7.heap.size W7 W8 ∧ W8.rangeAt g3 0 [.int .u64 (k : Int)] ∧ W7.heap.size + 1 ≤ W8.heap.size) ⟨(Below.refl _ _).alloc (Nat.le_refl _) _, range_whole (heap_new _ _ _ _ hg3), by rw [World.size_alloc]; omega⟩ ?_
             clear hg3
             rintro W8 ⟨h6, h7, h8⟩
             have B8 := Lib.hid h6
             have r8 := Lib.hid h7
             have z8 := Lib.hid h8
             clear h6 h7 h8)
          | ((with_reducible refine at_appC 37 ?_)
             go_loud (refine wpList_plain rfl fun K hK => wp_appS (w0 := w1) (n0 := w.heap.size + 1) (.tmp 21) (.tmp 24) 37 22 rfl Tryd.underlying37 (.int .u64 0) 1 8 info_u64 rfl (by decide) (w.heap.size + 1) (activesL a k).length u5 ((activesL a k).map (Value.int .u64)) rfl (own_later g7.out B8.out) ⟨g3, 0, none⟩ 1 1 rfl [.int .u64 (k : Int)] rfl r8.out rfl (fun u hu => by rw [List.mem_singleton.1 hu]; rfl) (by have := gN.out; omega) (by have := gN.out; omega) (by have := z8.out; have := z7.out; omega) (Nat.le_refl _) (B7.out.trans (B8.out.mono (by have := z7.out; omega))) (fun v' W9 h1 h2 h3 h4 h5 => hK _ _ ?_))
             clear hK K
             have O9 := Lib.hid (show OwU (w.heap.size + 1) v' (activesL a k ++ [(k : Int)]) W9 by unfold OwU; rw [List.length_append, List.map_append]; exact h1)
             have B9 := Lib.hid h2
             have Z9 := Lib.hid h3
             clear h1 h2 h3 h4 h5))
        exact ⟨⟨k + 1, by omega, by go_num, by rw [hsu.out]; exact g7.out, by rw [hsu.out]; exact gZ.out, B7.out, z7.out⟩, by simp [intOf]; omega⟩
    · have e2 : k = N := by omega
      have lk : decide ((k : Int) < (N : Int)) = false := by simp; omega
      subst e2
      go_wp2_with (
        ((with_reducible refine at_load 36 ?_); go_loud (refine wpList_value (by rfl) _ (run_load_cell _ 36 (.tmp 8) rfl ⟨w.heap.size, 721, none⟩ rfl (.slice va k cap) hcx1.out _ Tryd.underlying36 rfl) ?_)))
      exact ret_t1 rfl _ rfl rfl ⟨_, rfl, gO.out.weak (Nat.le_succ _), gZ.out, below_box (hw1'.out ▸ gB.out)⟩
set_option maxHeartbeats 4000000 in
theorem rcount_any (xs : Array Value) (vs : List (Nat → Int)) (mx : Nat → Int) (e : Int) (w : World) (h : VsRep w xs vs mx) (hN2 : vs.length ≤ 65536) :
    Calls Tryd.prog 12 #[.agg xs, .int .u64 e] w fun r w' => r = .returned (.int .u64 (cntN (actL vs e).length : Nat)) ∧ Below w.heap.size w w' := by
  have hrow := Lib.hid (show (Tryd.prog.info? 49).map (·.size) = some xs.size by rw [h.size]; exact row_size row_state)
  have hb1 : Below w.heap.size w (w.alloc (.cells xs 49)) := (Below.refl _ _).alloc (Nat.le_refl _) _
  have hac := Lib.hid (ractives_any xs vs mx e _ (h.later hb1) vs.length rfl hN2)
  have hB1 := Lib.hid hb1
  have hLn : (actL vs e).length ≤ 65536 := by have := actL_length vs e; omega
  obtain ⟨n, hn⟩ : ∃ n, n = (actL vs e).length := ⟨_, rfl⟩
  rw [← hn] at hLn ⊢
  have gn := Lib.hid hn
  obtain ⟨q, hq⟩ : ∃ q, q = n / 8 := ⟨_, rfl⟩
  have hcn := Lib.hid (show cntN n = if q < 1 then 1 else if 2 < q then 2 else q by unfold cntN; rw [hq])
  have hwn : IntKind.u64.wrap (n : Int) = (n : Int) := by rw [IntKind.wrap_u64]; omega
  obtain ⟨q4, hq4⟩ : ∃ q4, q4 = n / 4 := ⟨_, rfl⟩
  have hq4I : (n : Int) / 4 = (q4 : Int) := by omega
  have hqI : (q4 : Int) / 2 = (q : Int) := by omega
  have hq6 : q ≤ 65536 := by omega
  clear h hb1 hn hq hq4
  by_cases c1 : q < 1
  · have l1 : decide ((q : Int) < 1) = true := by simp; omega
    have hr := hcn.out
    rw [if_pos c1] at hr
    rw [hr]
    clear hr
    go_enter Tryd.func12, Tryd.ntmps12
    go_wp2_with (first
      | ((with_reducible refine at_load 49 ?_); refine wpList_value (by rfl) _ (run_load_box _ 49 (.tmp 2) rfl w.heap.size rfl _ xs (0, 0) _ (heap_new _ _ _ _ rfl) Tryd.underlying49 rfl hrow.out) ?_)
      | ((with_reducible refine hac.out.mono ?_)
         rintro r W1 ⟨v, rfl, hO, hZ, b1⟩
         obtain ⟨va, cv, rfl, _⟩ := own_form hO
         rw [← gn.out]
         have B2 := Lib.hid (hB1.out.trans (b1.mono (by simp)))
         clear hO hZ b1))
    exact ret_t1 rfl _ rfl rfl ⟨rfl, B2.out⟩
  · have l1 : decide ((q : Int) < 1) = false := by simp; omega
    by_cases c2 : 2 < q
    · have l2 : decide ((q : Int) > 2) = true := by simp; omega
      have hr := hcn.out
      rw [if_neg c1, if_pos c2] at hr
      rw [hr]
      clear hr
      go_enter Tryd.func12, Tryd.ntmps12
      go_wp2_with (first
        | ((with_reducible refine at_load 49 ?_); refine wpList_value (by rfl) _ (run_load_box _ 49 (.tmp 2) rfl w.heap.size rfl _ xs (0, 0) _ (heap_new _ _ _ _ rfl) Tryd.underlying49 rfl hrow.out) ?_)
        | ((with_reducible refine hac.out.mono ?_)
           rintro r W1 ⟨v, rfl, hO, hZ, b1⟩
           obtain ⟨va, cv, rfl, _⟩ := own_form hO
           rw [← gn.out]
           have B2 := Lib.hid (hB1.out.trans (b1.mono (by simp)))
           clear hO hZ b1))
      exact ret_t1 rfl _ rfl rfl ⟨rfl, B2.out⟩
    · have l2 : decide ((q : Int) > 2) = false := by simp; omega
      have hr := hcn.out
      rw [if_neg c1, if_neg c2] at hr
      rw [hr]
      clear hr
      go_enter Tryd.func12, Tryd.ntmps12
      go_wp2_with (first
        | ((with_reducible refine at_load 49 ?_); refine wpList_value (by rfl) _ (run_load_box _ 49 (.tmp 2) rfl w.heap.size rfl _ xs (0, 0) _ (heap_new _ _ _ _ rfl) Tryd.underlying49 rfl hrow.out) ?_)
        | ((with_reducible refine hac.out.mono ?_)
           rintro r W1 ⟨v, rfl, hO, hZ, b1⟩
           obtain ⟨va, cv, rfl, _⟩ := own_form hO
           rw [← gn.out]
           have B2 := Lib.hid (hB1.out.trans (b1.mono (by simp)))
           clear hO hZ b1))
      exact ret_t1 rfl _ rfl rfl ⟨rfl, B2.out⟩
end Go.Proofs.YtfnjcpopadpmbaaDoor
