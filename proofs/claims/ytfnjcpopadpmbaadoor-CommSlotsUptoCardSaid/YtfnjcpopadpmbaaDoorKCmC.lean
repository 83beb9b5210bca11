/- The digest of the program, of few bytes: Sum. -/
import Derived.Test.YtfnjcpopadpmbaaDoorJCmB
set_option linter.unusedVariables false
set_option linter.unusedSimpArgs false
set_option linter.unnecessarySimpa false
namespace Go.Proofs.YtfnjcpopadpmbaaDoor
open Go.RowKit BigFrame
set_option maxRecDepth 100000
/-- The last block: the bytes, the end, k bytes of their number. -/
def lastS (l : List Int) (k j : Nat) : Int := if j < l.length then l.getD j 0 else if j = l.length then 128 else if 64 - k ≤ j ∧ j < 64 then leB ((8 * l.length : Nat) : Int) (63 - j) else 0
/-- The sum of few bytes. -/
def sumS (l : List Int) : Nat → Int := rootB (shaIv.mix (msgW (lastS l 8)))
theorem sumS_is (l : List Int) : IsR (sumS l) := fun _ _ => rootB_is _ _
theorem lastS_is {l : List Int} (h : ∀ m ∈ l, CK.ok .u8 m) (k j : Nat) : IsB (lastS l k j) := by
  unfold lastS
  split
  · rename_i c
    have := h (l.getD j 0) (by rw [show l.getD j 0 = l[j] by simp [List.getD, c]]; exact List.getElem_mem c)
    exact this
  · split
    · exact ⟨by decide, by decide⟩
    · split
      · exact leB_is _ _
      · exact ⟨by decide, by decide⟩
abbrev lastC (l : List Int) (k : Nat) : Array Value := (fcells 128 (fun _ => .u8) (lastS l k)).toArray
theorem lastC_size (l : List Int) (k : Nat) : (lastC l k).size = 128 := by simp [fcells]
theorem last_zero (l : List Int) (h : l.length ≤ 55) : ((splice (rep 128).toList 0 (l.map (Value.int .u8))).toArray.setIfInBounds l.length (.int .u8 128)) = lastC l 0 := by
  have hs : (rep 128).toList.length = 128 := by simp
  have hf : 0 + (l.map (Value.int .u8)).length ≤ (rep 128).toList.length := by rw [hs, List.length_map]; omega
  refine cells_eq (by rw [Array.size_setIfInBounds, List.size_toArray, splice_length hf, hs]) fun j hj => ?_
  rw [Array.getElem?_setIfInBounds, List.size_toArray, splice_length hf, hs]
  unfold lastS
  by_cases c1 : l.length = j
  · subst c1
    rw [if_pos rfl, if_pos hj, if_neg (by omega), if_pos rfl]
    rfl
  · rw [if_neg c1, List.getElem?_toArray, splice_get hf, if_neg (by omega), List.length_map]
    by_cases c2 : j < l.length
    · rw [if_pos (by omega), if_pos c2]
      simp [c2, CK.mk, List.getD]
    · rw [if_neg (by omega), if_neg c2, if_neg (by omega), if_neg (by omega)]
      show (List.replicate 128 (Value.int .u8 0))[j]? = _
      rw [List.getElem?_replicate, if_pos hj]
      rfl
theorem last_step (l : List Int) (h : l.length ≤ 55) (k : Nat) (hk : k < 8) : (lastC l k).setIfInBounds (63 - k) (.int .u8 (leB ((8 * l.length : Nat) : Int) k)) = lastC l (k + 1) := by
  refine cells_eq (by rw [Array.size_setIfInBounds, lastC_size]) fun j hj => ?_
  rw [Array.getElem?_setIfInBounds, lastC_size]
  by_cases c1 : 63 - k = j
  · subst c1
    rw [if_pos rfl, if_pos (by omega)]
    unfold lastS
    rw [if_neg (by omega), if_neg (by omega), if_pos (by omega), show 63 - (63 - k) = k by omega]
    rfl
  · rw [if_neg c1, List.getElem?_toArray, fcells_get _ _ _ _ hj]
    unfold lastS
    by_cases c2 : j < l.length
    · rw [if_pos c2, if_pos c2]
    · rw [if_neg c2, if_neg c2]
      by_cases c3 : j = l.length
      · rw [if_pos c3, if_pos c3]
      · rw [if_neg c3, if_neg c3]
        by_cases c4 : 64 - k ≤ j ∧ j < 64
        · rw [if_pos c4, if_pos (by omega)]
        · rw [if_neg c4, if_neg (by omega)]
/-- The blocks of Sum. -/
structure SumD (n : Nat) (w : World) (L : Array Value) (W : World) : Prop where
  below : Below n w W
  size : n + 3 ≤ W.heap.size
  hR : W.heap[n]? = some (.cells (rep 32) 24 (0, 0))
  hH : W.heap[n + 1]? = some (.cells shaIv.cells.toArray 101 (0, 0))
  hL : W.heap[n + 1 + 1]? = some (.cells L 105 (0, 0))
theorem SumD.last {n : Nat} {w : World} {L L' : Array Value} {W W' : World} (h : SumD n w L W) (hx : Apart (n + 1 + 1) W W') (hb : W'.heap[n + 1 + 1]? = some (.cells L' 105 (0, 0))) : SumD n w L' W' := by
  have := h.size
  exact ⟨hx.below h.below (by omega) (by omega), by have := hx.size; omega, (hx.block _ (by omega) (by omega)).trans h.hR, (hx.block _ (by omega) (by omega)).trans h.hH, hb⟩
theorem dg_range {b : Nat} {f : List Int} {n a : Int} {w : World} (h : w.heap[b]? = some (.cells (dgA f n a) 104 (0, 0))) : w.rangeAt b 0 shaIv.cells := fun j v hv => by
  have hj : j < 8 := (List.getElem?_eq_some_iff.1 hv).1
  rw [Nat.zero_add, dg_cell h, dgA_get, if_pos hj, hv]
theorem dg_bytes {b : Nat} {l : List Int} {n a : Int} {w : World} (h : w.heap[b]? = some (.cells (dgA l n a) 104 (0, 0))) (hl : l.length ≤ 55) : w.rangeAt b 8 (l.map (Value.int .u8)) := fun j v hv => by
  have hj : j < l.length := by have := (List.getElem?_eq_some_iff.1 hv).1; simpa using this
  rw [dg_cell h, dgA_get, if_neg (by omega), if_pos (by omega), show 8 + j - 8 = j by omega]
  rw [List.getElem?_map] at hv
  simp [List.getD, hj] at hv ⊢
  exact hv
theorem zero_128 : Tryd.zeroCells105 = rep 128 := by kernel_rfl
theorem row_w80 : rowB Tryd.prog 101 8 = true := by kernel_rfl
set_option maxHeartbeats 4000000 in
theorem dsum_any (b : Nat) (l : List Int) (w : World) (hd0 : w.heap[b]? = some (.cells (dgC l) 104 (0, 0))) (hok0 : ∀ m ∈ l, CK.ok .u8 m) (nl : Nat) (hnl : l.length = nl) (h55 : nl ≤ 55) (hT0 : TabC w) :
    Calls Tryd.prog 36 #[.pointer (some ⟨b, 0, none⟩)] w fun e w' => e = .returned (.agg (rootV (sumS l))) ∧ Below w.heap.size w w' := by
  have hd1 : w.heap[b]? = some (.cells (dgA l (nl : Int) (nl : Int)) 104 (0, 0)) := by rw [← hnl]; exact hd0
  have hb : b < w.heap.size := (Array.getElem?_eq_some_iff.1 hd1).1
  have hd := Lib.hid hd1
  have hL := Lib.hid hnl
  have hT := Lib.hid hT0
  have hok := Lib.hid hok0
  have hml' := Lib.hid (show (l.map (Value.int .u8)).length = nl by rw [List.length_map]; exact hnl)
  clear hd0 hd1 hT0 hok0 hnl
  go_enter Tryd.func36, Tryd.ntmps36
  go_wp2_with (first
    | ((with_reducible refine at_load 101 ?_); go_loud (refine wpList_value (by rfl) (.agg shaIv.cells.toArray) (run_load_rows _ 101 (.tmp 13) rfl b 0 rfl shaIv.cells _ (dg_range ((heap_past _ _ _ _ hd.out))) Tryd.underlying101 rfl (row_size row_w80)) ?_))
    | ((with_reducible refine at_alloc 101 ?_); go_loud (refine wpList_alloc_store rfl rfl 101 3 _ rfl rfl rfl shaIv.cells.toArray rfl rfl (zeroOf Tryd.prog 101) (row_zero row_w80).1 (row_zero row_w80).2 (Hs.cells_one _) ?_)))
  refine gen_world (SumD w.heap.size w (rep 128)) ⟨?_, by simp, ?_, ?_, ?_⟩ ?_
  · exact ((((Below.refl _ _).alloc (Nat.le_refl _) _).alloc (by simp) _).alloc (by simp; omega) _)
  · exact heap_past _ _ _ _ (heap_past _ _ _ _ (heap_new _ _ _ _ rfl))
  · exact heap_past _ _ _ _ (heap_new _ _ _ _ (by simp))
  · rw [zero_128]; exact heap_new _ _ _ _ (by simp)
  intro W hW
  have hbW : W.heap[b]? = some (.cells (dgA l (nl : Int) (nl : Int)) 104 (0, 0)) := (hW.below.block b hb).trans hd.out
  refine wp_region_held (S := fun w' => w'.cell? ⟨b, 72, none⟩ = some (.int .i64 (nl : Int))) (by kernel_rfl) ?_
  have hS : ({ W with drawn := W.drawn + 1 } : World).cell? ⟨b, 72, none⟩ = some (.int .i64 (nl : Int)) := dg_cn hbW
  refine takeL (i := 0) (v := (.slice (some ⟨w.heap.size + 1 + 1, 0, none⟩) 128 128)) rfl (by kernel_rfl) (by kernel_rfl) (by kernel_rfl) (fun _ _ _ h => h) rfl (by assumption) (fun w' hS' => run_acut_all _ 105 5 128 (.tmp 4) rfl Tryd.underlying105 1 sz_u8 (w.heap.size + 1 + 1) 0 rfl) ?_
  simp only [Act.put, List.setIfInBounds_toArray, List.set_cons_zero, List.set_cons_succ]
  refine takeL (i := 1) (v := (.pointer (some ⟨b, 0, none⟩))) rfl (by kernel_rfl) (by kernel_rfl) (by kernel_rfl) (fun _ _ _ h => h) rfl (by assumption) (fun w' hS' => by go_simp) ?_
  simp only [Act.put, List.setIfInBounds_toArray, List.set_cons_zero, List.set_cons_succ]
  refine takeL (i := 2) (v := (.pointer (some ⟨b, 0, none⟩))) rfl (by kernel_rfl) (by kernel_rfl) (by kernel_rfl) (fun _ _ _ h => h) rfl (by assumption) (fun w' hS' => by go_simp) ?_
  simp only [Act.put, List.setIfInBounds_toArray, List.set_cons_zero, List.set_cons_succ]
  refine takeL (i := 3) (v := (.pointer (some ⟨b, 8, none⟩))) rfl (by kernel_rfl) (by kernel_rfl) (by kernel_rfl) (fun _ _ _ h => h) rfl (by assumption) (fun w' hS' => by go_simp) ?_
  simp only [Act.put, List.setIfInBounds_toArray, List.set_cons_zero, List.set_cons_succ]
  refine takeL (i := 4) (v := (.pointer (some ⟨b, 0, none⟩))) rfl (by kernel_rfl) (by kernel_rfl) (by kernel_rfl) (fun _ _ _ h => h) rfl (by assumption) (fun w' hS' => by go_simp) ?_
  simp only [Act.put, List.setIfInBounds_toArray, List.set_cons_zero, List.set_cons_succ]
  refine takeL (i := 5) (v := (.pointer (some ⟨b, 0, none⟩))) rfl (by kernel_rfl) (by kernel_rfl) (by kernel_rfl) (fun _ _ _ h => h) rfl (by assumption) (fun w' hS' => by go_simp) ?_
  simp only [Act.put, List.setIfInBounds_toArray, List.set_cons_zero, List.set_cons_succ]
  refine takeL (i := 6) (v := (.pointer (some ⟨b, 72, none⟩))) rfl (by kernel_rfl) (by kernel_rfl) (by kernel_rfl) (fun _ _ _ h => h) rfl (by assumption) (fun w' hS' => by go_simp) ?_
  simp only [Act.put, List.setIfInBounds_toArray, List.set_cons_zero, List.set_cons_succ]
  refine takeL (i := 7) (v := (.int .i64 (nl : Int))) rfl (by kernel_rfl) (by kernel_rfl) (by kernel_rfl) (fun _ _ _ h => h) rfl (by assumption) (fun w' hS' => run_load_cell _ 3 _ (by rfl) ⟨b, 72, none⟩ (by rfl) _ hS' _ Tryd.underlying3 rfl) ?_
  simp only [Act.put, List.setIfInBounds_toArray, List.set_cons_zero, List.set_cons_succ]
  refine takeL (i := 8) (v := (.slice (some ⟨b, 8, none⟩) nl 64)) rfl (by kernel_rfl) (by kernel_rfl) (by kernel_rfl) (fun _ _ _ h => h) rfl (by assumption) (fun w' hS' => run_acut_to _ 102 5 64 (.tmp 18) (.tmp 22) rfl Tryd.underlying102 1 sz_u8 b 8 rfl .i64 nl rfl (by omega)) ?_
  simp only [Act.put, List.setIfInBounds_toArray, List.set_cons_zero, List.set_cons_succ]
  refine oneL (i := 9) rfl (by kernel_rfl) rfl (wp_copy_gen (.tmp 15) (.tmp 23) 39 39 rfl 5 Tryd.underlying39 sz_u8 (w.heap.size + 1 + 1) 0 b 8 128 128 nl 64 rfl rfl (rep 128) 105 hW.hL (l.map (Value.int .u8)) (by rw [hml'.out]; exact (Nat.min_eq_left (by omega)).symm) (dg_bytes hbW (by rw [hL.out]; exact h55)) (by rw [hml'.out]; simp; omega) mem_u8 ?_)
  intro W2 hC2 hA2
  rw [hml'.out]
  have hW2 := hW.last ((Apart.begin _ W).trans hA2) hC2
  have hS2 : W2.cell? ⟨b, 72, none⟩ = some (.int .i64 (nl : Int)) := dg_cn ((hW2.below.block b hb).trans hd.out)
  refine ⟨hS2, ?_⟩
  clear hS
  simp only [Act.put, List.setIfInBounds_toArray, List.set_cons_zero, List.set_cons_succ]
  refine takeL (i := 10) (v := (.int .i64 (nl : Int))) rfl (by kernel_rfl) (by kernel_rfl) (by kernel_rfl) (fun _ _ _ h => h) rfl (by assumption) (fun w' hS' => by go_simp) ?_
  simp only [Act.put, List.setIfInBounds_toArray, List.set_cons_zero, List.set_cons_succ]
  refine wpAnyH_done (by kernel_rfl) ?_ _
  simp only [Exit.then]
  clear hS2 hW hbW hC2 hA2
  rename_i K hK
  refine hK _ _ ?_
  clear hK K W
  have hz := last_zero l (by rw [hL.out]; exact h55)
  rw [hL.out] at hz
  have hst := last_step l (by rw [hL.out]; exact h55)
  rw [hL.out] at hst
  obtain ⟨LF, hLF⟩ : ∃ LF : Nat → Array Value, LF = lastC l := ⟨_, rfl⟩
  rw [← hLF] at hz
  have hst' := Lib.hid (show ∀ k, k < 8 → (LF k).setIfInBounds (63 - k) (.int .u8 (leB ((8 * nl : Nat) : Int) k)) = LF (k + 1) by rw [hLF]; exact hst)
  have hsz := Lib.hid (show ∀ k, (LF k).size = 128 by rw [hLF]; exact lastC_size l)
  have hz' := Lib.hid hz
  have hLF' := Lib.hid hLF
  have hw2 := Lib.hid hW2
  clear hz hst hLF hW2
  have hI : (nl : Int) < 56 := by omega
  have hI1 : (nl : Int) < 128 := by omega
  have hsp := Lib.hid (show (splice (rep 128).toList 0 (l.map (Value.int .u8))).toArray.size = 128 by rw [List.size_toArray, splice_length (by rw [hml'.out]; simp; omega)]; simp)
  go_wp2_with (
    ((with_reducible refine at_store 5 ?_)
     go_loud (refine wpList_store_apart 5 _ _ rfl rfl (w.heap.size + 1 + 1) nl rfl .u8 _ rfl (by kernel_rfl) _ 105 hw2.out.hL (by rw [hsp.out]; omega) (fun W3 hC3 hA3 => ?_))
     rw [hz'.out] at hC3
     have hW3 := Lib.hid (hw2.out.last hA3 hC3)
     clear hC3 hA3))
  go_loopw [29] (fun i wr => ∃ k : Nat, k ≤ 8 ∧ i = .int .i64 k ∧ SumD w.heap.size w (LF k) wr) (fun i _ => 8 - (intOf i).toNat)
  case atStart => exact ⟨0, by omega, rfl, hW3.out⟩
  case round =>
    obtain ⟨k, hk, rfl, hWk⟩ := hrel
    have hWr := Lib.hid hWk
    clear hWk hW3
    by_cases hlt : k < 8
    · have lk : (k : Int) < 8 := by omega
      have w1 : IntKind.i64.wrap (63 - (k : Int)) = ((63 - k : Nat) : Int) := by rw [IntKind.wrap_i64]; omega
      have l1 : ((63 - k : Nat) : Int) < 128 := by omega
      have w2 : IntKind.u64.wrap ((nl : Int) * 8) = ((8 * nl : Nat) : Int) := by rw [IntKind.wrap_u64]; omega
      have w3 : IntKind.i64.wrap (8 * (k : Int)) = ((8 * k : Nat) : Int) := by rw [IntKind.wrap_i64]; omega
      have lsh : ((8 * k : Nat) : Int) < 64 := by omega
      have hv : IntKind.u8.wrap (((8 * nl : Nat) : Int) / 2 ^ (8 * k)) = leB ((8 * nl : Nat) : Int) k := by rw [IntKind.wrap_u8]; rfl
      have hca := dg_ca ((hWr.out.below.block b hb).trans hd.out)
      have hst2 := Lib.hid (hst'.out k hlt)
      have hj : 63 - k < 128 := by omega
      generalize 63 - k = j at *
      generalize 8 * k = sh at *
      generalize leB ((8 * nl : Nat) : Int) k = bt at *
      generalize 8 * nl = nl8 at *
      go_wp2_with (first
        | ((with_reducible refine at_load 22 ?_); go_loud (refine wpList_value (by rfl) _ (run_load_cell _ 22 _ (by rfl) ⟨b, 73, none⟩ (by rfl) (.int .u64 (nl : Int)) hca _ Tryd.underlying22 rfl) ?_))
        | ((with_reducible refine at_store 5 ?_)
           go_loud (refine wpList_store_apart 5 _ _ rfl rfl (w.heap.size + 1 + 1) j rfl .u8 bt (by rfl) (by kernel_rfl) _ 105 hWr.out.hL (by rw [hsz.out]; exact hj) (fun W4 hC4 hA4 => ?_))
           rw [hst2.out] at hC4
           have hW4 := Lib.hid (hWr.out.last hA4 hC4)
           clear hC4 hA4))
      exact ⟨⟨k + 1, by omega, by go_num, hW4.out⟩, by simp [intOf]; omega⟩
    · have e : k = 8 := by omega
      subst e
      have hn4 := hWr.out.size
      have hmx := Lib.hid (mix_any (w.heap.size + 1) (w.heap.size + 1 + 1) 0 64 128 (lastS l 8) shaIv shaIv.cells.toArray 101 wr (by decide) (by decide) (fun j hj => ⟨(cell_of_row wr _ _ _ _ _ hWr.out.hL).trans (by rw [hLF'.out, Nat.zero_add, List.getElem?_toArray, fcells_get _ _ _ _ (by omega)]; rfl), lastS_is hok.out 8 j⟩) (by omega) (hT.out.below hT.out.size hWr.out.below).round hWr.out.hH (Hs.cells_get _))
      go_wp2_with (first
        | ((with_reducible refine at_sliceC 105 ?_); go_loud (refine wpList_value (by rfl) (.slice (some ⟨w.heap.size + 1 + 1, 0, none⟩) 64 128) (run_acut_to _ 105 5 128 (.tmp 4) _ rfl Tryd.underlying105 1 sz_u8 (w.heap.size + 1 + 1) 0 rfl .i64 64 rfl (by omega)) ?_))
        | ((with_reducible refine hmx.out.mono ?_)
           rintro e W6 ⟨rfl, H6, hH6, hs6, hc6, ha6⟩
           have hR6 := Lib.hid ((ha6.block _ (by omega) (by omega)).trans hWr.out.hR)
           have hB6 := Lib.hid (ha6.below hWr.out.below (by omega) (by omega))
           have hz6 := Lib.hid ha6.size
           go_loud (have hm3 := Lib.hid (sroot_any (w.heap.size + 1) (shaIv.mix (msgW (lastS l 8))) H6 101 W6 hH6 (fun j hj => (hc6 j).trans (if_pos hj))))
           clear hH6 hs6 hc6 ha6)
        | ((with_reducible refine hm3.out.mono ?_)
           rintro e W8 ⟨rfl, hb8⟩
           have hR8 := Lib.hid ((hb8.block _ (by have := hz6.out; omega)).trans hR6.out)
           have hB8 := Lib.hid (hB6.out.trans (hb8.mono (by have := hz6.out; omega)))
           clear hb8)
        | ((with_reducible refine at_store 24 ?_); go_loud (refine wpList_store_row_gen 24 _ _ rfl rfl w.heap.size rfl _ rfl (fcells_one _ _ _) (by rw [row_size row_root]; simp [fcells]) _ 24 hR8.out (by simp [fcells]) (by omega) hB8.out (fun W9 hW9 hBW _ => ?_))))
      exact ret_cell rfl w.heap.size 0 (fcells 32 (fun _ => .u8) (sumS l)) _ rfl hW9 Tryd.underlying24 rfl (by rw [row_size row_root, fcells_length]) rfl ⟨rfl, hBW⟩
end Go.Proofs.YtfnjcpopadpmbaaDoor
