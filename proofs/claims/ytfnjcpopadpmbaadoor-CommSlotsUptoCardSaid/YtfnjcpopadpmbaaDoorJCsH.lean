/- Who attests, of the reference: sort.Ints, Who. -/
/- Who attests, of the reference: Who; are two lists the same. -/
import Derived.Test.YtfnjcpopadpmbaaDoorKCsF
import Derived.Sort.OwnSortedInts
import Derived.Test.YtfnjcpopadpmbaaDoorJCbC
set_option linter.unusedVariables false
set_option linter.unusedSimpArgs false
set_option linter.unnecessarySimpa false
namespace Go.Proofs.YtfnjcpopadpmbaaDoor
open Go.RowKit BigFrame
set_option maxRecDepth 100000
def OwI (base : Nat) (v : Value) (l : List Int) (w : World) : Prop := w.ownsRow base 3 1 v l.length (l.map (Value.int .i64))
set_option maxHeartbeats 4000000 in
theorem insI_nil (w : World) :
    Calls Tryd.prog 70 #[.slice none 0 0, .int .i64 0, .int .i64 0] w fun e w' => e = .returned (.tuple #[]) ∧ w' = w := by
  go_enter Tryd.func70, Tryd.ntmps70
  go_wp2
  go_loopw [6] (fun vi wr => vi = .int .i64 1 ∧ wr = w) (fun _ _ => 0)
  case atStart => exact ⟨rfl, rfl⟩
  case round =>
    obtain ⟨rfl, rfl⟩ := hrel
    go_wp2
    exact ret_none rfl rfl ⟨rfl, rfl⟩
set_option maxHeartbeats 4000000 in
theorem pdqI_nil (w : World) :
    Calls Tryd.prog 61 #[.slice none 0 0, .int .i64 0, .int .i64 0, .int .i64 0] w fun e w' => e = .returned (.tuple #[]) ∧ w' = w := by
  have c1 := Lib.hid (insI_nil w)
  go_enter Tryd.func61, Tryd.ntmps61
  go_wp2
  go_loopw [1, 2] (fun va vb wr => va = .int .i64 0 ∧ vb = .int .i64 0 ∧ wr = w) (fun _ _ _ => 0)
  case atStart => exact ⟨rfl, rfl, rfl⟩
  case round =>
    obtain ⟨rfl, rfl, rfl⟩ := hrel
    go_wp2_with (
      ((with_reducible refine c1.out.mono ?_)
       rintro e W1 ⟨rfl, rfl⟩))
    exact ret_none0 rfl rfl ⟨rfl, rfl⟩
set_option maxHeartbeats 4000000 in
theorem sortI_nil (w : World) :
    Calls Tryd.prog 42 #[.slice none 0 0] w fun e w' => e = .returned (.tuple #[]) ∧ w' = w := by
  have c1 := Lib.hid (pdqI_nil w)
  have c2 := Lib.hid (Tryd.bits_Len 0 w (by omega) (by omega))
  have e2 : Lib.bitLen (0 : Int).toNat = 0 := rfl
  rw [e2] at c2
  go_enter Tryd.func42, Tryd.ntmps42
  go_wp2_with (first
    | ((with_reducible refine c1.out.mono ?_)
       rintro e W1 ⟨rfl, rfl⟩)
    | ((with_reducible refine c2.out.mono ?_)
       rintro e W1 ⟨rfl, rfl⟩))
  exact ret_none rfl rfl ⟨rfl, rfl⟩
set_option maxHeartbeats 4000000 in
theorem ints_nil (w : World) :
    Calls Tryd.prog 28 #[.slice none 0 0] w fun e w' => e = .returned (.tuple #[]) ∧ w' = w := by
  have c1 := Lib.hid (sortI_nil w)
  go_enter Tryd.func28, Tryd.ntmps28
  go_wp2_with (
    ((with_reducible refine c1.out.mono ?_)
     rintro e W1 ⟨rfl, rfl⟩))
  exact ret_none rfl rfl ⟨rfl, rfl⟩
theorem sortI_any (base : Nat) (v : Value) (l : List Int) (w : World) (hO : OwI base v l w) (hl : l.length ≤ 1000000) :
    Calls Tryd.prog 28 #[v] w fun e w' => e = .returned (.tuple #[]) ∧ OwI base v (msort l) w' ∧ Below base w w' := by
  rcases hO.2 with ⟨rfl, h2⟩ | ⟨g, cap, cur, rfl, hb, hg, h3, h4, h5, h6⟩
  · have hl0 : l = [] := List.length_eq_zero_iff.1 h2
    subst hl0
    refine (ints_nil w).mono ?_
    rintro e w' ⟨rfl, rfl⟩
    exact ⟨rfl, by rw [show msort [] = [] by simp [msort]]; exact hO, Below.refl _ _⟩
  · have hH := holds_of_blockI hg (by rw [Nat.mul_one] at h6; exact h6)
    refine (Tryd.sort_Ints g 0 cap l w hH (blk_lt hg) (by omega)).mono ?_
    rintro e w' ⟨rfl, n, os, rfl⟩
    refine ⟨rfl, ?_, ?_⟩
    · have h := ownsRow_sortedI (w := w) (n := n) (os := os) (ts := msort l) (msort_length l) hb hg h3 h4 h5
      unfold OwI
      rw [msort_length]
      exact h
    · have h := grownBy_sortedI (w := w) (g := g) (n := n) (os := os) (msort l).toArray
      obtain ⟨a1, a2, a3, a4, a5⟩ := h
      exact ⟨by first | exact a1 | exact a2 | exact a3, by first | exact a1 | exact a2 | exact a3, by first | exact a1 | exact a2 | exact a3, a4, fun b hb' => a5 b (Nat.lt_trans (Nat.lt_of_lt_of_le hb' hb) (blk_lt hg)) (by intro e; cases e; omega)⟩
end Go.Proofs.YtfnjcpopadpmbaaDoor
namespace Go.Proofs.YtfnjcpopadpmbaaDoor
open Go.RowKit BigFrame
set_option maxRecDepth 100000
theorem info_int3 : (Tryd.prog.info? 3).map (fun i => (i.zero, i.size, i.bytes)) = some (some (.int .i64 0), 1, 8) := by kernel_rfl
theorem info_int2 : (Tryd.prog.info? 3).map (fun i => (i.zero, i.size)) = some (some (.int .i64 0), 1) := by kernel_rfl
theorem OwI.later {base : Nat} {v : Value} {l : List Int} {w w' : World} (h : OwI base v l w) (hb : Below w.heap.size w w') : OwI base v l w' := own_later h hb
theorem OwI.nil (base : Nat) (w : World) : OwI base (.slice none 0 0) [] w := ⟨rfl, Or.inl ⟨rfl, rfl⟩⟩
theorem OwI.some_form {base n : Nat} {v : Value} {l : List Int} {w : World} (h : OwI base v l w) (hn : l.length = n) (h0 : 0 < n) : ∃ g cap, v = .slice (some ⟨g, 0, none⟩) n cap ∧ base ≤ g ∧ g < w.heap.size := by
  rcases h.2 with ⟨_, h2⟩ | ⟨g, cap, cur, h1, h2, h3, _⟩
  · omega
  · exact ⟨g, cap, by rw [h1, hn], h2, blk_lt h3⟩
theorem OwI.cell {base g n cap : Nat} {l : List Int} {w : World} (h : OwI base (.slice (some ⟨g, 0, none⟩) n cap) l w) (j : Nat) (hj : j < l.length) : w.cell? ⟨g, j, none⟩ = some (.int .i64 (l.getD j 0)) := by
  rcases h.2 with ⟨h', _⟩ | ⟨g', cap', cur, h', hb, hg, hnc, hcm, hcs, htake⟩
  · cases h'
  · cases h'
    rw [cell_of_row w g j _ _ _ hg]
    have e : (cur.toList.take (l.length * 1))[j]? = some (.int .i64 (l.getD j 0)) := by
      rw [htake]
      simp [List.getD, hj]
    rw [List.getElem?_take_of_lt (by omega)] at e
    simpa using e
set_option maxHeartbeats 4000000 in
theorem rwho_bad (xs : Array Value) (vs : List (Nat → Int)) (mx : Nat → Int) (slot idx : Nat) (bv : Value) (hslot : slot ≤ 18446744073709551615) (w : World) (h : VsRep w xs vs mx) (hN2 : vs.length ≤ 65536) (hT0 : Tabs w) (hix : cntN (actL vs ((slot / 4 : Nat) : Int)).length ≤ idx) :
    Calls Tryd.prog 15 #[.agg xs, .int .u64 (slot : Int), .int .u64 (idx : Int), bv] w fun r w' => r = .returned (.tuple #[.slice none 0 0, .int .i64 30]) ∧ Below w.heap.size w w' := by
  have hrow := Lib.hid (show (Tryd.prog.info? 49).map (·.size) = some xs.size by rw [h.size]; exact row_size row_state)
  have hb1 : Below w.heap.size w (w.alloc (.cells xs 49)) := (Below.refl _ _).alloc (Nat.le_refl _) _
  have hvs := Lib.hid (h.later hb1)
  have hT := Lib.hid (hT0.below hT0.size hb1)
  have hB1 := Lib.hid hb1
  clear hb1
  have c1 := Lib.hid (rof_bad xs vs mx slot idx hslot _ hvs.out hN2 hT.out hix)
  clear h hT0 hix
  go_enter Tryd.func15, Tryd.ntmps15
  go_wp2_with (first
    | ((with_reducible refine at_load 49 ?_); refine wpList_value (by rfl) _ (run_load_box _ 49 (.tmp 4) rfl w.heap.size rfl _ xs (0, 0) _ (heap_new _ _ _ _ rfl) Tryd.underlying49 rfl hrow.out) ?_)
    | ((with_reducible refine c1.out.mono ?_)
       rintro r W1 ⟨rfl, b1⟩
       rw [World.size_alloc] at b1
       have B1 := Lib.hid (hB1.out.trans (b1.mono (Nat.le_succ _)))
       clear b1))
  exact ret_t2 rfl _ _ rfl rfl rfl ⟨rfl, B1.out⟩
set_option maxHeartbeats 4000000 in
theorem rwho_len (xs : Array Value) (vs : List (Nat → Int)) (mx : Nat → Int) (slot idx : Nat) (va : Option Addr) (nb c : Nat) (hslot : slot ≤ 18446744073709551615) (w : World) (h : VsRep w xs vs mx) (hN2 : vs.length ≤ 65536) (hT0 : Tabs w) (hix : idx < cntN (actL vs ((slot / 4 : Nat) : Int)).length) (hnb : nb ≠ (comC vs mx slot idx).length) :
    Calls Tryd.prog 15 #[.agg xs, .int .u64 (slot : Int), .int .u64 (idx : Int), .slice va nb c] w fun r w' => r = .returned (.tuple #[.slice none 0 0, .int .i64 32]) ∧ Below w.heap.size w w' := by
  have hrow := Lib.hid (show (Tryd.prog.info? 49).map (·.size) = some xs.size by rw [h.size]; exact row_size row_state)
  have hb1 : Below w.heap.size w (w.alloc (.cells xs 49)) := (Below.refl _ _).alloc (Nat.le_refl _) _
  have hvs := Lib.hid (h.later hb1)
  have hT := Lib.hid (hT0.below hT0.size hb1)
  have hB1 := Lib.hid hb1
  clear hb1
  have c1 := Lib.hid (rof_good xs vs mx slot idx hslot _ hvs.out hN2 hT.out hix)
  obtain ⟨C, hC⟩ : ∃ C, C = comC vs mx slot idx := ⟨_, rfl⟩
  rw [← hC] at c1 hnb
  obtain ⟨n, hn⟩ : ∃ n, n = C.length := ⟨_, rfl⟩
  rw [← hn] at hnb
  have gn := Lib.hid hn
  have hd2 : ((nb : Int) == (n : Int)) = false := by simp; omega
  clear h hT0 hix hC hn
  go_enter Tryd.func15, Tryd.ntmps15
  go_wp2_with (first
    | ((with_reducible refine at_load 49 ?_); refine wpList_value (by rfl) _ (run_load_box _ 49 (.tmp 4) rfl w.heap.size rfl _ xs (0, 0) _ (heap_new _ _ _ _ rfl) Tryd.underlying49 rfl hrow.out) ?_)
    | ((with_reducible refine c1.out.mono ?_)
       rintro r W1 ⟨v, rfl, o1, b1⟩
       obtain ⟨va', c', rfl, _⟩ := own_form o1
       rw [← gn.out]
       rw [World.size_alloc] at b1
       have B1 := Lib.hid (hB1.out.trans (b1.mono (Nat.le_succ _)))
       clear b1 o1))
  exact ret_t2 rfl _ _ rfl rfl rfl ⟨rfl, B1.out⟩
set_option maxHeartbeats 8000000 in
theorem rwho_ok (xs : Array Value) (vs : List (Nat → Int)) (mx : Nat → Int) (slot idx : Nat) (va : Option Addr) (n c : Nat) (f : Nat → Bool) (hslot : slot ≤ 18446744073709551615) (w : World) (h : VsRep w xs vs mx) (hN2 : vs.length ≤ 65536) (hT0 : Tabs w) (hix : idx < cntN (actL vs ((slot / 4 : Nat) : Int)).length) (hnb : (comC vs mx slot idx).length = n) (hbo : RowBo w va n f) :
    Calls Tryd.prog 15 #[.agg xs, .int .u64 (slot : Int), .int .u64 (idx : Int), .slice va n c] w fun r w' => ∃ v, r = .returned (.tuple #[v, .int .i64 0]) ∧ OwU w.heap.size v (msort (pickK f (comC vs mx slot idx) n)) w' ∧ Below w.heap.size w w' := by
  have hrow := Lib.hid (show (Tryd.prog.info? 49).map (·.size) = some xs.size by rw [h.size]; exact row_size row_state)
  have hb1 : Below w.heap.size w (w.alloc (.cells xs 49)) := (Below.refl _ _).alloc (Nat.le_refl _) _
  have hvs := Lib.hid (h.later hb1)
  have hT := Lib.hid (hT0.below hT0.size hb1)
  have hB1 := Lib.hid hb1
  clear hb1
  have c1 := Lib.hid (rof_good xs vs mx slot idx hslot _ hvs.out hN2 hT.out hix)
  have hCl := comC_length vs mx slot idx
  have hCm := comC_mem vs mx slot idx
  obtain ⟨C, hC⟩ : ∃ C, C = comC vs mx slot idx := ⟨_, rfl⟩
  rw [← hC] at c1 hnb hCl hCm ⊢
  have gn := Lib.hid hnb
  have gCm := Lib.hid (show ∀ m ∈ C, 0 ≤ m ∧ m ≤ 65536 from fun m hm => by obtain ⟨v, e, hv⟩ := hCm m hm; omega)
  have hn6 : n ≤ 65536 := by omega
  have gbo := Lib.hid hbo
  clear h hT0 hix hC hnb hCl hCm hbo
  go_enter Tryd.func15, Tryd.ntmps15
  go_wp2_with (first
    | ((with_reducible refine at_load 49 ?_); refine wpList_value (by rfl) _ (run_load_box _ 49 (.tmp 4) rfl w.heap.size rfl _ xs (0, 0) _ (heap_new _ _ _ _ rfl) Tryd.underlying49 rfl hrow.out) ?_)
    | ((with_reducible refine c1.out.mono ?_)
       rintro r W1 ⟨v, rfl, o1, b1⟩
       obtain ⟨va', c', rfl, _⟩ := own_form o1
       rw [gn.out] at o1 ⊢
       rw [World.size_alloc] at b1 o1
       have B1 := Lib.hid (hB1.out.trans (b1.mono (Nat.le_succ _)))
       have O1 := Lib.hid o1
       clear b1 o1))
  have hs1 : w.heap.size ≤ W1.heap.size := B1.out.size
  go_loopw [12, 13] (fun v i wr => ∃ k : Nat, k ≤ n ∧ i = .int .i64 (k : Int) ∧ OwI W1.heap.size v (pickK f C k) wr ∧ Below W1.heap.size W1 wr) (fun _ i _ => n - (intOf i).toNat)
  case atStart => exact ⟨0, Nat.zero_le _, rfl, OwI.nil _ _, Below.refl _ _⟩
  case round =>
    obtain ⟨k, hk, rfl, hO, hB⟩ := hrel
    have gO := Lib.hid hO
    have gB := Lib.hid hB
    clear hO hB
    by_cases hlt : k < n
    · have lk : decide ((k : Int) < (n : Int)) = true := by simp; omega
      have wk : IntKind.i64.wrap ((k : Int) + 1) = ((k + 1 : Nat) : Int) := by rw [IntKind.wrap_i64]; omega
      obtain ⟨g, cg, hv, hg1, hg2⟩ := O1.out.some_form gn.out (by omega)
      cases hv
      have hcell := O1.out.cell k (by rw [gn.out]; exact hlt)
      have hx0 : wr.cell? ⟨g, k, none⟩ = some (.int .u64 (C.getD k 0)) := (gB.out.cell hg2).trans hcell
      have hxb := gCm.out (C.getD k 0) (by rw [show C.getD k 0 = C[k]'(by rw [gn.out]; exact hlt) by simp [List.getD, show k < C.length by rw [gn.out]; exact hlt]]; exact List.getElem_mem _)
      obtain ⟨b, o, rfl, hf0⟩ := gbo.out k hlt
      have hf1 : wr.cell? ⟨b, o + k, none⟩ = some (.bool (f k)) := (gB.out.cell (Nat.lt_of_lt_of_le (block_lt_of_cell hf0) hs1)).trans ((B1.out.cell (block_lt_of_cell hf0)).trans hf0)
      obtain ⟨x, hx⟩ : ∃ x, x = C.getD k 0 := ⟨_, rfl⟩
      obtain ⟨fk, hfk⟩ : ∃ fk, fk = f k := ⟨_, rfl⟩
      rw [← hx] at hx0 hxb
      rw [← hfk] at hf1
      have wx : IntKind.i64.wrap x = x := by rw [IntKind.wrap_i64]; omega
      have gx := Lib.hid hx0
      have hsu := Lib.hid (show pickK f C (k + 1) = if fk then pickK f C k ++ [x] else pickK f C k by rw [hfk, hx]; rfl)
      have gN := Lib.hid (pickK_length f C k)
      clear hcell hx0 hf0 hx hfk
      cases fk with
      | false =>
        go_wp2_with (first
          | ((with_reducible refine at_iaddrC 61 ?_); go_loud (refine wpList_value (by rfl) _ (run_index_slice _ 61 4 (.tmp 36) (.tmp 37) rfl Tryd.underlying61 1 sz_bool b o n c rfl .i64 k rfl hlt (o + k) (by omega)) ?_))
          | ((with_reducible refine at_iaddrC 37 ?_); go_loud (refine wpList_value (by rfl) _ (run_index_slice _ 37 22 (.tmp 41) (.tmp 42) rfl Tryd.underlying37 1 sz_u64 g 0 n c' rfl .i64 k rfl hlt k (by omega)) ?_))
          | ((with_reducible refine at_load 22 ?_); go_loud (refine wpList_value (by rfl) _ (run_load_cell _ 22 (.tmp 43) rfl ⟨g, k, none⟩ rfl (.int .u64 x) gx.out _ Tryd.underlying22 rfl) ?_))
          )
        exact ⟨⟨k + 1, by omega, by go_num, by rw [hsu.out]; exact gO.out, gB.out⟩, by simp [intOf]; omega⟩
      | true =>
        go_wp2_with (first
          | ((with_reducible refine at_iaddrC 61 ?_); go_loud (refine wpList_value (by rfl) _ (run_index_slice _ 61 4 (.tmp 36) (.tmp 37) rfl Tryd.underlying61 1 sz_bool b o n c rfl .i64 k rfl hlt (o + k) (by omega)) ?_))
          | ((with_reducible refine at_iaddrC 37 ?_); go_loud (refine wpList_value (by rfl) _ (run_index_slice _ 37 22 (.tmp 41) (.tmp 42) rfl Tryd.underlying37 1 sz_u64 g 0 n c' rfl .i64 k rfl hlt k (by omega)) ?_))
          | ((with_reducible refine at_load 22 ?_); go_loud (refine wpList_value (by rfl) _ (run_load_cell _ 22 (.tmp 43) rfl ⟨g, k, none⟩ rfl (.int .u64 x) gx.out _ Tryd.underlying22 rfl) ?_))
          | ((with_reducible refine at_bslice 76 ?_)
             go_loud (refine wpList_plain rfl fun K hK => wp_ran _ (run_buildSlice _ 76 3 1 _ rfl Tryd.underlying76 (.int .i64 0) 1 info_int2 (by decide) (by decide) [.int .i64 x] rfl (by rfl) (fun v hv => by rw [List.mem_singleton.1 hv]; rfl)) (hK _ _ ?_))
             clear hK K
             obtain ⟨g3, hg3⟩ : ∃ g3, g3 = wr.heap.size := ⟨_, rfl⟩
             rw [← hg3]
             refine gen_l (fun W8 => Below wr.heap.size wr W8 ∧ W8.rangeAt g3 0 [.int .i64 x] ∧ wr.heap.size + 1 ≤ W8.heap.size) ⟨(Below.refl _ _).alloc (Nat.le_refl _) _, range_whole (heap_new _ _ _ _ hg3), by rw [World.size_alloc]; omega⟩ ?_
             clear hg3
             rintro W8 ⟨h6, h7, h8⟩
             have B8 := Lib.hid h6
             have r8 := Lib.hid h7
             have z8 := Lib.hid h8
             clear h6 h7 h8)
          | ((with_reducible refine at_appC 76 ?_)
             go_loud (refine wpList_plain rfl fun K hK => wp_appS (w0 := W1) (n0 := W1.heap.size) (.tmp 40) (.tmp 46) 76 3 rfl Tryd.underlying76 (.int .i64 0) 1 8 info_int3 rfl (by decide) W1.heap.size (pickK f C k).length u12 ((pickK f C k).map (Value.int .i64)) rfl (own_later gO.out B8.out) ⟨g3, 0, none⟩ 1 1 rfl [.int .i64 x] rfl r8.out rfl (fun u hu => by rw [List.mem_singleton.1 hu]; rfl) (by have := gN.out; omega) (by have := gN.out; omega) (by have := z8.out; have := gB.out.size; omega) (Nat.le_refl _) (gB.out.trans (B8.out.mono gB.out.size)) (fun v' W9 h1 h2 h3 h4 h5 => hK _ _ ?_))
             clear hK K
             have O9 := Lib.hid (show OwI W1.heap.size v' (pickK f C k ++ [x]) W9 by unfold OwI; rw [List.length_append, List.map_append]; exact h1)
             have B9 := Lib.hid h2
             clear h1 h2 h3 h4 h5))
        exact ⟨⟨k + 1, by omega, by go_num, by rw [hsu.out]; exact O9.out, B9.out⟩, by simp [intOf]; omega⟩
    · have e2 : k = n := by omega
      have lk : decide ((k : Int) < (n : Int)) = false := by simp; omega
      have hso := Lib.hid (sortI_any W1.heap.size u12 (pickK f C k) wr gO.out (by have := pickK_length f C k; omega))
      have hmm := Lib.hid (show ∀ m ∈ msort (pickK f C k), 0 ≤ m ∧ m ≤ 65536 from fun m hm => gCm.out m (List.mem_of_mem_take ((pickK_sub f C k (by rw [gn.out]; exact hk)).mem ((msort_perm _).mem_iff.1 hm))))
      have hTl : (msort (pickK f C k)).length ≤ 65536 := by rw [msort_length]; have := pickK_length f C k; omega
      obtain ⟨va2, cv2, rfl, _⟩ := own_form gO.out
      subst e2
      obtain ⟨T, hTd⟩ : ∃ T, T = msort (pickK f C k) := ⟨_, rfl⟩
      rw [← hTd] at hso hmm hTl
      have hpl : (pickK f C k).length = T.length := by rw [hTd, msort_length]
      rw [hpl] at hso gO ⊢
      obtain ⟨m, hm⟩ : ∃ m, T.length = m := ⟨_, rfl⟩
      rw [hm] at hso hTl gO ⊢
      have gm := Lib.hid hm
      have gTd := Lib.hid hTd
      clear hTd hpl hm
      rename World => wr0
      go_wp2_with (
        ((with_reducible refine hso.out.mono ?_)
         rintro e W2 ⟨rfl, o2, b2⟩
         have O2 := Lib.hid o2
         have B2 := Lib.hid (gB.out.trans b2)
         clear o2 b2))
      have hs2 : W1.heap.size ≤ W2.heap.size := B2.out.size
      go_loopw [14, 15] (fun v i wr => ∃ j : Nat, j ≤ m ∧ i = .int .i64 (j : Int) ∧ OwU W2.heap.size v (T.take j) wr ∧ Below W2.heap.size W2 wr) (fun _ i _ => m - (intOf i).toNat)
      case atStart => exact ⟨0, Nat.zero_le _, rfl, OwU.nil _ _, Below.refl _ _⟩
      case round =>
        obtain ⟨j, hj, rfl, hO, hB⟩ := hrel
        have gO3 := Lib.hid hO
        have gB3 := Lib.hid hB
        clear hO hB
        by_cases hlt2 : j < m
        · have lk2 : decide ((j : Int) < (m : Int)) = true := by simp; omega
          have wj : IntKind.i64.wrap ((j : Int) + 1) = ((j + 1 : Nat) : Int) := by rw [IntKind.wrap_i64]; omega
          obtain ⟨g, cg, hv, hg1, hg2⟩ := O2.out.some_form gm.out (by omega)
          cases hv
          have hjT : j < T.length := by rw [gm.out]; exact hlt2
          have hx0 : wr.cell? ⟨g, j, none⟩ = some (.int .i64 (T.getD j 0)) := (gB3.out.cell hg2).trans (O2.out.cell j hjT)
          have hxb := hmm.out (T.getD j 0) (by rw [show T.getD j 0 = T[j] by simp [List.getD, hjT]]; exact List.getElem_mem _)
          have hsu := Lib.hid (take_snoc T j hjT)
          obtain ⟨x, hx⟩ : ∃ x, x = T.getD j 0 := ⟨_, rfl⟩
          rw [← hx] at hx0 hxb hsu
          have wx : IntKind.u64.wrap x = x := by rw [IntKind.wrap_u64]; omega
          have gx := Lib.hid hx0
          have gN := Lib.hid (show (T.take j).length = j by rw [List.length_take]; omega)
          clear hx0 hx hjT
          go_wp2_with (first
            | ((with_reducible refine at_iaddrC 76 ?_); go_loud (refine wpList_value (by rfl) _ (run_index_slice _ 76 3 (.tmp 57) (.tmp 58) rfl Tryd.underlying76 1 sz_int g 0 m cv2 rfl .i64 j rfl hlt2 j (by omega)) ?_))
            | ((with_reducible refine at_load 3 ?_); go_loud (refine wpList_value (by rfl) _ (run_load_cell _ 3 (.tmp 59) rfl ⟨g, j, none⟩ rfl (.int .i64 x) gx.out _ Tryd.underlying3 rfl) ?_))
            | ((with_reducible refine at_bslice 37 ?_)
               go_loud (refine wpList_plain rfl fun K hK => wp_ran _ (run_buildSlice _ 37 22 1 _ rfl Tryd.underlying37 (.int .u64 0) 1 info_u64z (by decide) (by decide) [.int .u64 x] rfl (by rfl) (fun v hv => by rw [List.mem_singleton.1 hv]; rfl)) (hK _ _ ?_))
               clear hK K
               obtain ⟨g3, hg3⟩ : ∃ g3, g3 = wr.heap.size := ⟨_, rfl⟩
               rw [← hg3]
               refine gen_l (fun W8 => Below wr.heap.size wr W8 ∧ W8.rangeAt g3 0 [.int .u64 x] ∧ wr.heap.size + 1 ≤ W8.heap.size) ⟨(Below.refl _ _).alloc (Nat.le_refl _) _, range_whole (heap_new _ _ _ _ hg3), by rw [World.size_alloc]; omega⟩ ?_
               clear hg3
               rintro W8 ⟨h6, h7, h8⟩
               have B8 := Lib.hid h6
               have r8 := Lib.hid h7
               have z8 := Lib.hid h8
               clear h6 h7 h8)
            | ((with_reducible refine at_appC 37 ?_)
               go_loud (refine wpList_plain rfl fun K hK => wp_appS (w0 := W2) (n0 := W2.heap.size) (.tmp 56) (.tmp 62) 37 22 rfl Tryd.underlying37 (.int .u64 0) 1 8 info_u64 rfl (by decide) W2.heap.size (T.take j).length u14 ((T.take j).map (Value.int .u64)) rfl (own_later gO3.out B8.out) ⟨g3, 0, none⟩ 1 1 rfl [.int .u64 x] rfl r8.out rfl (fun u hu => by rw [List.mem_singleton.1 hu]; rfl) (by rw [gN.out]; omega) (by rw [gN.out]; omega) (by have := z8.out; have := gB3.out.size; omega) (Nat.le_refl _) (gB3.out.trans (B8.out.mono gB3.out.size)) (fun v' W9 h1 h2 h3 h4 h5 => hK _ _ ?_))
               clear hK K
               have O9 := Lib.hid (show OwU W2.heap.size v' (T.take j ++ [x]) W9 by unfold OwU; rw [List.length_append, List.map_append]; exact h1)
               have B9 := Lib.hid h2
               clear h1 h2 h3 h4 h5))
          exact ⟨⟨j + 1, by omega, by go_num, by rw [hsu.out]; exact O9.out, B9.out⟩, by simp [intOf]; omega⟩
        · have e3 : j = m := by omega
          have lk2 : decide ((j : Int) < (m : Int)) = false := by simp; omega
          have hTT := Lib.hid (show T.take j = msort (pickK f C k) by rw [e3, ← gm.out, List.take_length]; exact gTd.out)
          subst e3
          go_wp2
          exact ret_t2 rfl _ _ rfl rfl rfl ⟨_, rfl, by rw [← hTT.out]; exact gO3.out.weak (Nat.le_trans hs1 hs2), B1.out.trans ((B2.out.trans (gB3.out.mono hs2)).mono hs1)⟩
end Go.Proofs.YtfnjcpopadpmbaaDoor
