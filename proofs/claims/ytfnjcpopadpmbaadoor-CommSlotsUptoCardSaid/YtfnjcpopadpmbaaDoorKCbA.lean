/- Who of a committee attests. -/
import Derived.Test.YtfnjcpopadpmbaaDoorJCmM
import Derived.Test.YtfnjcpopadpmbaaDoorJSoS
set_option linter.unusedVariables false
set_option linter.unusedSimpArgs false
set_option linter.unnecessarySimpa false
namespace Go.Proofs.YtfnjcpopadpmbaaDoor
open Go.RowKit BigFrame
set_option maxRecDepth 100000
/-- Those whose bit is set, of the first k. -/
def pickK (f : Nat → Bool) (C : List Int) : Nat → List Int
  | 0 => []
  | k + 1 => if f k then pickK f C k ++ [C.getD k 0] else pickK f C k
theorem pickK_length (f : Nat → Bool) (C : List Int) : ∀ k, (pickK f C k).length ≤ k
  | 0 => Nat.le_refl _
  | k + 1 => by
    have := pickK_length f C k
    unfold pickK
    split
    · simp; omega
    · omega
theorem take_snoc (C : List Int) (k : Nat) (h : k < C.length) : C.take (k + 1) = C.take k ++ [C.getD k 0] := by
  rw [List.take_add_one, List.getElem?_eq_getElem h]
  simp [List.getD, h]
theorem pickK_sub (f : Nat → Bool) (C : List Int) : ∀ k, k ≤ C.length → (pickK f C k).Sublist (C.take k)
  | 0, _ => by simp [pickK]
  | k + 1, h => by
    have ih := pickK_sub f C k (by omega)
    unfold pickK
    rw [take_snoc C k (by omega)]
    split
    · exact ih.append (List.Sublist.refl _)
    · exact ih.trans (List.sublist_append_left _ _)
theorem pickK_dis {f : Nat → Bool} {C : List Int} {k : Nat} (h : k ≤ C.length) (d : Dis C) : Dis (pickK f C k) := ((pickK_sub f C k h).trans (List.take_sublist k C)).nodup d
theorem activesL_asc (a : Nat → Bool) : ∀ k, (activesL a k).Pairwise (· < ·) ∧ ∀ m ∈ activesL a k, m < (k : Int)
  | 0 => ⟨by simp [activesL], by simp [activesL]⟩
  | k + 1 => by
    obtain ⟨h1, h2⟩ := activesL_asc a k
    unfold activesL
    split
    · refine ⟨List.pairwise_append.2 ⟨h1, by simp, fun x hx y hy => ?_⟩, fun m hm => ?_⟩
      · rw [List.mem_singleton.1 hy]
        exact h2 x hx
      · rcases List.mem_append.1 hm with h | h
        · have := h2 m h; omega
        · rw [List.mem_singleton.1 h]; omega
    · exact ⟨h1, fun m hm => by have := h2 m hm; omega⟩
theorem actL_dis (vs : List (Nat → Int)) (e : Int) : Dis (actL vs e) := (activesL_asc _ _).1.imp fun h => by omega
/-- The committee of a slot and an index. -/
def comC (vs : List (Nat → Int)) (mx : Nat → Int) (slot idx : Nat) : List Int :=
  segL (shufL (seedS mx 1 ((slot / 4 : Nat) : Int)) (actL vs ((slot / 4 : Nat) : Int))) (actL vs ((slot / 4 : Nat) : Int)).length (4 * cntN (actL vs ((slot / 4 : Nat) : Int)).length) (slot % 4 * cntN (actL vs ((slot / 4 : Nat) : Int)).length + idx)
theorem shufL_perm (sd : Nat → Int) (l : List Int) : (shufL sd l).Perm l := List.perm_iff_count.2 fun v => by
  exact shufL_count sd l v
theorem comC_sub (vs : List (Nat → Int)) (mx : Nat → Int) (slot idx : Nat) : (comC vs mx slot idx).Sublist (shufL (seedS mx 1 ((slot / 4 : Nat) : Int)) (actL vs ((slot / 4 : Nat) : Int))) := (List.take_sublist _ _).trans (List.drop_sublist _ _)
theorem comC_dis (vs : List (Nat → Int)) (mx : Nat → Int) (slot idx : Nat) : Dis (comC vs mx slot idx) := (comC_sub vs mx slot idx).nodup ((shufL_perm _ _).nodup_iff.2 (actL_dis _ _))
theorem comC_length (vs : List (Nat → Int)) (mx : Nat → Int) (slot idx : Nat) : (comC vs mx slot idx).length ≤ vs.length := by
  have h1 := (comC_sub vs mx slot idx).length_le
  rw [shufL_length] at h1
  exact Nat.le_trans h1 (actL_length _ _)
theorem comC_mem (vs : List (Nat → Int)) (mx : Nat → Int) (slot idx : Nat) (m : Int) (h : m ∈ comC vs mx slot idx) : ∃ v : Nat, m = v ∧ v < vs.length := by
  have h1 := (shufL_perm _ _).mem_iff.1 ((comC_sub vs mx slot idx).mem h)
  obtain ⟨v, e1, e2, _⟩ := activesL_mem _ _ m h1
  exact ⟨v, e1, e2⟩
/-- A slice of bools: what stands there. -/
def RowBo (w : World) (va : Option Addr) (nb : Nat) (f : Nat → Bool) : Prop := ∀ j, j < nb → ∃ b o, va = some ⟨b, o, none⟩ ∧ w.cell? ⟨b, o + j, none⟩ = some (.bool (f j))
theorem RowBo.below {w W : World} {va : Option Addr} {nb n : Nat} {f : Nat → Bool} (h : RowBo w va nb f) (hb : Below n w W) (hn : ∀ b o, va = some ⟨b, o, none⟩ → b < n) : RowBo W va nb f := fun j hj => by
  obtain ⟨b, o, e, hc⟩ := h j hj
  exact ⟨b, o, e, (hb.cell (hn b o e)).trans hc⟩
theorem RowBo.later {w W : World} {va : Option Addr} {nb : Nat} {f : Nat → Bool} (h : RowBo w va nb f) (hb : Below w.heap.size w W) : RowBo W va nb f := fun j hj => by
  obtain ⟨b, o, e, hc⟩ := h j hj
  exact ⟨b, o, e, (hb.cell (block_lt_of_cell hc)).trans hc⟩
theorem sz_bool : (Tryd.prog.info? 4).map (·.size) = some 1 := by kernel_rfl
set_option maxHeartbeats 4000000 in
theorem who_bad (xs : Array Value) (vs : List (Nat → Int)) (mx : Nat → Int) (slot idx : Nat) (bv : Value) (hslot : slot ≤ 18446744073709551615) (w : World) (h : VsRep w xs vs mx) (hN2 : vs.length ≤ 65536) (hT0 : TabC w) (hix : cntN (actL vs ((slot / 4 : Nat) : Int)).length ≤ idx) :
    Calls Tryd.prog 11 #[.agg xs, .int .u64 (slot : Int), .int .u64 (idx : Int), bv] w fun r w' => r = .returned (.tuple #[.slice none 0 0, .int .i64 30]) ∧ Below w.heap.size w w' := by
  have hrow := Lib.hid (show (Tryd.prog.info? 49).map (·.size) = some xs.size by rw [h.size]; exact row_size row_state)
  have hb1 : Below w.heap.size w (w.alloc (.cells xs 49)) := (Below.refl _ _).alloc (Nat.le_refl _) _
  have hvs := Lib.hid (h.later hb1)
  have hT := Lib.hid (hT0.below hT0.size hb1)
  have hB1 := Lib.hid hb1
  clear hb1
  have c1 := Lib.hid (of_bad xs vs mx slot idx _ hslot _ hvs.out hN2 hT.out rfl hix)
  clear h hT0 hix
  go_enter Tryd.func11, Tryd.ntmps11
  go_wp2_with (first
    | ((with_reducible refine at_load 49 ?_); refine wpList_value (by rfl) _ (run_load_box _ 49 (.tmp 4) rfl w.heap.size rfl _ xs (0, 0) _ (heap_new _ _ _ _ rfl) Tryd.underlying49 rfl hrow.out) ?_)
    | ((with_reducible refine c1.out.mono ?_)
       rintro r W1 ⟨rfl, b1⟩
       rw [World.size_alloc] at b1
       have B1 := Lib.hid (hB1.out.trans (b1.mono (Nat.le_succ _)))
       clear b1))
  exact ret_t2 rfl _ _ rfl rfl rfl ⟨rfl, B1.out⟩
set_option maxHeartbeats 4000000 in
theorem who_len (xs : Array Value) (vs : List (Nat → Int)) (mx : Nat → Int) (slot idx : Nat) (va : Option Addr) (nb c : Nat) (hslot : slot ≤ 18446744073709551615) (w : World) (h : VsRep w xs vs mx) (hN2 : vs.length ≤ 65536) (hT0 : TabC w) (hix : idx < cntN (actL vs ((slot / 4 : Nat) : Int)).length) (hnb : nb ≠ (comC vs mx slot idx).length) :
    Calls Tryd.prog 11 #[.agg xs, .int .u64 (slot : Int), .int .u64 (idx : Int), .slice va nb c] w fun r w' => r = .returned (.tuple #[.slice none 0 0, .int .i64 32]) ∧ Below w.heap.size w w' := by
  have hrow := Lib.hid (show (Tryd.prog.info? 49).map (·.size) = some xs.size by rw [h.size]; exact row_size row_state)
  have hb1 : Below w.heap.size w (w.alloc (.cells xs 49)) := (Below.refl _ _).alloc (Nat.le_refl _) _
  have hvs := Lib.hid (h.later hb1)
  have hT := Lib.hid (hT0.below hT0.size hb1)
  have hB1 := Lib.hid hb1
  clear hb1
  have c1 := Lib.hid (show Calls Tryd.prog 9 #[.agg xs, .int .u64 (slot : Int), .int .u64 (idx : Int)] _ fun r w' => ∃ v, r = .returned (.tuple #[v, .int .i64 0]) ∧ OwU _ v (comC vs mx slot idx) w' ∧ Below _ _ w' from of_good xs vs mx slot idx _ hslot _ hvs.out hN2 hT.out rfl hix)
  obtain ⟨C, hC⟩ : ∃ C, C = comC vs mx slot idx := ⟨_, rfl⟩
  rw [← hC] at c1 hnb
  obtain ⟨n, hn⟩ : ∃ n, n = C.length := ⟨_, rfl⟩
  rw [← hn] at hnb
  have gn := Lib.hid hn
  have hd : decide ((nb : Int) = (n : Int)) = false := by simp; omega
  have hd2 : ((nb : Int) == (n : Int)) = false := by simp; omega
  clear h hT0 hix hC hn
  go_enter Tryd.func11, Tryd.ntmps11
  go_wp2_with (first
    | ((with_reducible refine at_load 49 ?_); refine wpList_value (by rfl) _ (run_load_box _ 49 (.tmp 4) rfl w.heap.size rfl _ xs (0, 0) _ (heap_new _ _ _ _ rfl) Tryd.underlying49 rfl hrow.out) ?_)
    | ((with_reducible refine c1.out.mono ?_)
       rintro r W1 ⟨v, rfl, o1, b1⟩
       obtain ⟨va', c', rfl, _⟩ := own_form o1
       rw [← gn.out]
       rw [World.size_alloc] at b1
       have B1 := Lib.hid (hB1.out.trans (b1.mono (Nat.le_succ _)))
       clear b1 o1))
  exact ret_t2 rfl _ _ rfl rfl rfl ⟨rfl, B1.out⟩
set_option maxHeartbeats 8000000 in
theorem who_ok (xs : Array Value) (vs : List (Nat → Int)) (mx : Nat → Int) (slot idx : Nat) (va : Option Addr) (n c : Nat) (f : Nat → Bool) (hslot : slot ≤ 18446744073709551615) (w : World) (h : VsRep w xs vs mx) (hN2 : vs.length ≤ 65536) (hT0 : TabC w) (hix : idx < cntN (actL vs ((slot / 4 : Nat) : Int)).length) (hnb : (comC vs mx slot idx).length = n) (hbo : RowBo w va n f) :
    Calls Tryd.prog 11 #[.agg xs, .int .u64 (slot : Int), .int .u64 (idx : Int), .slice va n c] w fun r w' => ∃ v, r = .returned (.tuple #[v, .int .i64 0]) ∧ OwU w.heap.size v (msort (pickK f (comC vs mx slot idx) n)) w' ∧ Below w.heap.size w w' := by
  have hrow := Lib.hid (show (Tryd.prog.info? 49).map (·.size) = some xs.size by rw [h.size]; exact row_size row_state)
  have hb1 : Below w.heap.size w (w.alloc (.cells xs 49)) := (Below.refl _ _).alloc (Nat.le_refl _) _
  have hvs := Lib.hid (h.later hb1)
  have hT := Lib.hid (hT0.below hT0.size hb1)
  have hB1 := Lib.hid hb1
  clear hb1
  have c1 := Lib.hid (show Calls Tryd.prog 9 #[.agg xs, .int .u64 (slot : Int), .int .u64 (idx : Int)] _ fun r w' => ∃ v, r = .returned (.tuple #[v, .int .i64 0]) ∧ OwU _ v (comC vs mx slot idx) w' ∧ Below _ _ w' from of_good xs vs mx slot idx _ hslot _ hvs.out hN2 hT.out rfl hix)
  have hCd := comC_dis vs mx slot idx
  have hCl := comC_length vs mx slot idx
  obtain ⟨C, hC⟩ : ∃ C, C = comC vs mx slot idx := ⟨_, rfl⟩
  rw [← hC] at c1 hnb hCd hCl ⊢
  have gn := Lib.hid hnb
  have gCd := Lib.hid hCd
  have hn6 : n ≤ 65536 := by omega
  have gbo := Lib.hid hbo
  clear h hT0 hix hC hnb hCd hCl hbo
  go_enter Tryd.func11, Tryd.ntmps11
  go_wp2_with (first
    | ((with_reducible refine at_load 49 ?_); refine wpList_value (by rfl) _ (run_load_box _ 49 (.tmp 4) rfl w.heap.size rfl _ xs (0, 0) _ (heap_new _ _ _ _ rfl) Tryd.underlying49 rfl hrow.out) ?_)
    | ((with_reducible refine c1.out.mono ?_)
       rintro r W1 ⟨v, rfl, o1, b1⟩
       obtain ⟨va', c', rfl, _⟩ := own_form o1
       rw [gn.out] at o1 ⊢
       rw [World.size_alloc] at b1 o1
       have B1 := Lib.hid (hB1.out.trans (b1.mono (Nat.le_succ _)))
       have O1 := Lib.hid o1
       clear b1 o1))
  have hs1 : w.heap.size ≤ W1.heap.size := B1.out.size
  go_loopw [12, 33] (fun v i wr => ∃ k : Nat, k ≤ n ∧ i = .int .i64 (k : Int) ∧ OwU W1.heap.size v (pickK f C k) wr ∧ Below W1.heap.size W1 wr) (fun _ i _ => n - (intOf i).toNat)
  case atStart => exact ⟨0, Nat.zero_le _, rfl, OwU.nil _ _, Below.refl _ _⟩
  case round =>
    obtain ⟨k, hk, rfl, hO, hB⟩ := hrel
    have gO := Lib.hid hO
    have gB := Lib.hid hB
    clear hO hB
    by_cases hlt : k < n
    · have lk : decide ((k : Int) < (n : Int)) = true := by simp; omega
      obtain ⟨g, cg, hv, hg1, hg2⟩ := O1.out.some_form gn.out (by omega)
      cases hv
      have hcell := O1.out.cell k (by rw [gn.out]; exact hlt)
      have hx0 : wr.cell? ⟨g, k, none⟩ = some (.int .u64 (C.getD k 0)) := (gB.out.cell hg2).trans hcell
      obtain ⟨b, o, rfl, hf0⟩ := gbo.out k hlt
      have hf1 : wr.cell? ⟨b, o + k, none⟩ = some (.bool (f k)) := (gB.out.cell (Nat.lt_of_lt_of_le (block_lt_of_cell hf0) hs1)).trans ((B1.out.cell (block_lt_of_cell hf0)).trans hf0)
      obtain ⟨x, hx⟩ : ∃ x, x = C.getD k 0 := ⟨_, rfl⟩
      obtain ⟨fk, hfk⟩ : ∃ fk, fk = f k := ⟨_, rfl⟩
      rw [← hx] at hx0
      rw [← hfk] at hf1
      have gx := Lib.hid hx0
      have hsu := Lib.hid (show pickK f C (k + 1) = if fk then pickK f C k ++ [x] else pickK f C k by rw [hfk, hx]; rfl)
      have gN := Lib.hid (pickK_length f C k)
      clear hcell hx0 hf0 hx hfk
      cases fk with
      | false =>
        go_wp2_with (first
          | ((with_reducible refine at_iaddrC 37 ?_); go_loud (refine wpList_value (by rfl) _ (run_index_slice _ 37 22 (.tmp 31) (.tmp 33) rfl Tryd.underlying37 1 sz_u64 g 0 n c' rfl .i64 k rfl hlt k (by omega)) ?_))
          | ((with_reducible refine at_load 22 ?_); go_loud (refine wpList_value (by rfl) _ (run_load_cell _ 22 (.tmp 36) rfl ⟨g, k, none⟩ rfl (.int .u64 x) gx.out _ Tryd.underlying22 rfl) ?_))
          | ((with_reducible refine at_iaddrC 61 ?_); go_loud (refine wpList_value (by rfl) _ (run_index_slice _ 61 4 (.tmp 38) (.tmp 39) rfl Tryd.underlying61 1 sz_bool b o n c rfl .i64 k rfl hlt (o + k) (by omega)) ?_))
          )
        exact ⟨⟨k + 1, by omega, by go_num, by rw [hsu.out]; exact gO.out, gB.out⟩, by simp [intOf]; omega⟩
      | true =>
        go_wp2_with (first
          | ((with_reducible refine at_iaddrC 37 ?_); go_loud (refine wpList_value (by rfl) _ (run_index_slice _ 37 22 (.tmp 31) (.tmp 33) rfl Tryd.underlying37 1 sz_u64 g 0 n c' rfl .i64 k rfl hlt k (by omega)) ?_))
          | ((with_reducible refine at_load 22 ?_); go_loud (refine wpList_value (by rfl) _ (run_load_cell _ 22 (.tmp 36) rfl ⟨g, k, none⟩ rfl (.int .u64 x) gx.out _ Tryd.underlying22 rfl) ?_))
          | ((with_reducible refine at_iaddrC 61 ?_); go_loud (refine wpList_value (by rfl) _ (run_index_slice _ 61 4 (.tmp 38) (.tmp 39) rfl Tryd.underlying61 1 sz_bool b o n c rfl .i64 k rfl hlt (o + k) (by omega)) ?_))
          | ((with_reducible refine at_bslice 37 ?_)
             go_loud (refine wpList_plain rfl fun K hK => wp_ran _ (run_buildSlice _ 37 22 1 _ rfl Tryd.underlying37 (.int .u64 0) 1 info_u64z (by decide) (by decide) [.int .u64 x] rfl (by rfl) (fun v hv => by rw [List.mem_singleton.1 hv]; rfl)) (hK _ _ ?_))
             clear hK K
             obtain ⟨g3, hg3⟩ : ∃ g3, g3 = wr.heap.size := ⟨_, rfl⟩
             rw [← hg3]
             refine gen_l (fun W8 => Below wr.heap.size wr W8 ∧ W8.rangeAt g3 0 [.int .u64 x] ∧ wr.heap.size + 1 ≤ W8.heap.size) ⟨(Below.refl _ _).alloc (Nat.le_refl _) _, range_whole (heap_new _ _ _ _ hg3), by rw [World.size_alloc]; omega⟩ ?_
             clear hg3
             rintro W8 ⟨h6, h7, h8⟩
             have B8 := Lib.hid h6
             have r8 := Lib.hid h7
             have z8 := Lib.hid h8
             clear h6 h7 h8)
          | ((with_reducible refine at_appC 37 ?_)
             go_loud (refine wpList_plain rfl fun K hK => wp_appS (w0 := W1) (n0 := W1.heap.size) (.tmp 42) (.tmp 44) 37 22 rfl Tryd.underlying37 (.int .u64 0) 1 8 info_u64 rfl (by decide) W1.heap.size (pickK f C k).length u12 ((pickK f C k).map (Value.int .u64)) rfl (own_later gO.out B8.out) ⟨g3, 0, none⟩ 1 1 rfl [.int .u64 x] rfl r8.out rfl (fun u hu => by rw [List.mem_singleton.1 hu]; rfl) (by have := gN.out; omega) (by have := gN.out; omega) (by have := z8.out; have := gB.out.size; omega) (Nat.le_refl _) (gB.out.trans (B8.out.mono gB.out.size)) (fun v' W9 h1 h2 h3 h4 h5 => hK _ _ ?_))
             clear hK K
             have O9 := Lib.hid (show OwU W1.heap.size v' (pickK f C k ++ [x]) W9 by unfold OwU; rw [List.length_append, List.map_append]; exact h1)
             have B9 := Lib.hid h2
             clear h1 h2 h3 h4 h5))
        exact ⟨⟨k + 1, by omega, by go_num, by rw [hsu.out]; exact O9.out, B9.out⟩, by simp [intOf]; omega⟩
    · have e2 : k = n := by omega
      have lk : decide ((k : Int) < (n : Int)) = false := by simp; omega
      have hso := Lib.hid (sort_any W1.heap.size u12 (pickK f C k) wr gO.out (by have := pickK_length f C k; omega) (pickK_dis (by rw [gn.out]; exact hk) gCd.out) gB.out.size)
      subst e2
      go_wp2_with (
        ((with_reducible refine hso.out.mono ?_)
         rintro e W2 ⟨rfl, o2, b2⟩
         have O2 := Lib.hid (o2.weak hs1)
         have B2 := Lib.hid (B1.out.trans ((gB.out.trans b2).mono hs1))
         clear o2 b2))
      exact ret_t2 rfl _ _ rfl rfl rfl ⟨_, rfl, O2.out, B2.out⟩
end Go.Proofs.YtfnjcpopadpmbaaDoor
