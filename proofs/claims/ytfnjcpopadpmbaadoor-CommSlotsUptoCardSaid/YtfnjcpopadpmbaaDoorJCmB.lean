/- The digest of the program, of few bytes: New, Write, Copy. -/
/- The digest of the program, of few bytes: New, Copy. -/
/- The digest of the program, of few bytes: Write. -/
import Derived.Test.YtfnjcpopadpmbaaDoorJOg3
import Derived.Test.YtfnjcpopadpmbaaDoorKCut0
set_option linter.unusedVariables false
set_option linter.unusedSimpArgs false
set_option linter.unnecessarySimpa false
namespace Go.Proofs.YtfnjcpopadpmbaaDoor
open Go.RowKit BigFrame
set_option maxRecDepth 100000
/-- A digest that has these bytes, n and a its counts. -/
def dgA (f : List Int) (n a : Int) : Array Value := (shaIv.cells ++ (fcells 64 (fun _ => .u8) (fun j => f.getD j 0) ++ ([Value.int .i64 n, Value.int .u64 a] : List Value))).toArray
abbrev dgC (l : List Int) : Array Value := dgA l l.length l.length
theorem dgA_size (f : List Int) (n a : Int) : (dgA f n a).size = 74 := by simp [dgA, fcells, Hs.cells]
theorem dgA_get (f : List Int) (n a : Int) (j : Nat) : (dgA f n a)[j]? = if j < 8 then shaIv.cells[j]? else if j < 72 then some (.int .u8 (f.getD (j - 8) 0)) else if j = 72 then some (.int .i64 n) else if j = 73 then some (.int .u64 a) else none := by
  have hl : shaIv.cells.length = 8 := rfl
  unfold dgA
  rw [List.getElem?_toArray]
  by_cases c1 : j < 8
  · rw [if_pos c1, List.getElem?_append_left (by omega)]
  · rw [if_neg c1, List.getElem?_append_right (by omega), hl]
    by_cases c2 : j < 72
    · rw [if_pos c2, List.getElem?_append_left (by rw [fcells_length]; omega), fcells_get _ _ _ _ (by omega)]
      rfl
    · rw [if_neg c2, List.getElem?_append_right (by rw [fcells_length]; omega), fcells_length]
      obtain ⟨i, rfl⟩ : ∃ i, j = 72 + i := ⟨j - 72, by omega⟩
      rw [show 72 + i - 8 - 64 = i by omega]
      match i with
      | 0 => rfl
      | 1 => rfl
      | i + 2 => rw [if_neg (by omega), if_neg (by omega)]; rfl
theorem dgA_n (f : List Int) (n a m : Int) : (dgA f n a).setIfInBounds 72 (.int .i64 m) = dgA f m a := by
  apply Array.ext_getElem?
  intro j
  rw [Array.getElem?_setIfInBounds, dgA_size, dgA_get, dgA_get]
  by_cases e : 72 = j
  · subst e; simp
  · rw [if_neg e]
    simp only [show ¬ j = 72 from fun h => e h.symm, if_false]
theorem dgA_a (f : List Int) (n a m : Int) : (dgA f n a).setIfInBounds 73 (.int .u64 m) = dgA f n m := by
  apply Array.ext_getElem?
  intro j
  rw [Array.getElem?_setIfInBounds, dgA_size, dgA_get, dgA_get]
  by_cases e : 73 = j
  · subst e; simp
  · rw [if_neg e]
    simp only [show ¬ j = 73 from fun h => e h.symm, if_false]
theorem dgA_splice (l m : List Int) (n a : Int) (k : Nat) (hk : k = 8 + l.length) (h : l.length + m.length ≤ 64) : (splice (dgA l n a).toList k (m.map (Value.int .u8))).toArray = dgA (l ++ m) n a := by
  subst hk
  apply Array.ext_getElem?
  intro j
  have hs : (dgA l n a).toList.length = 74 := by rw [Array.length_toList, dgA_size]
  rw [List.getElem?_toArray, splice_get (by rw [hs, List.length_map]; omega), Array.getElem?_toList, dgA_get, dgA_get, List.length_map]
  by_cases c1 : j < 8 + l.length
  · rw [if_pos c1]
    by_cases c2 : j < 8
    · rw [if_pos c2, if_pos c2]
    · rw [if_neg c2, if_neg c2, if_pos (by omega), if_pos (by omega)]
      simp only [List.getD, List.getElem?_append_left (show j - 8 < l.length by omega)]
  · rw [if_neg c1]
    by_cases c2 : j < 8 + l.length + m.length
    · rw [if_pos c2, if_neg (by omega), if_pos (by omega)]
      simp only [List.getD, List.getElem?_append_right (show l.length ≤ j - 8 by omega), List.getElem?_map]
      rw [show j - 8 - l.length = j - (8 + l.length) by omega]
      have : j - (8 + l.length) < m.length := by omega
      simp [this]
    · rw [if_neg c2]
      by_cases c3 : j < 72
      · rw [if_neg (by omega), if_pos c3, if_neg (by omega), if_pos c3]
        simp only [List.getD, List.getElem?_eq_none (show l.length ≤ j - 8 by omega), List.getElem?_eq_none (show (l ++ m).length ≤ j - 8 by rw [List.length_append]; omega)]
      · rw [if_neg (show ¬ j < 8 by omega), if_neg (show ¬ j < 8 by omega), if_neg c3, if_neg c3]
theorem dgA_one (f : List Int) (n a : Int) : (dgA f n a).all (·.oneCell') = true := by
  rw [Array.all_eq_true_iff_forall_mem]
  intro v hv
  unfold dgA at hv
  rcases List.mem_append.1 (List.mem_toArray.1 hv) with hv | hv
  · exact Array.all_eq_true_iff_forall_mem.1 (Hs.cells_one shaIv) v (by simpa using hv)
  · rcases List.mem_append.1 hv with hv | hv
    · exact Array.all_eq_true_iff_forall_mem.1 (fcells_one 64 (fun _ => .u8) _) v (by simpa using hv)
    · simp only [List.mem_cons, List.not_mem_nil, or_false] at hv
      rcases hv with rfl | rfl <;> rfl
theorem row_dg : rowB Tryd.prog 104 74 = true := by kernel_rfl
theorem build_dg (w : World) : (Instr.build 104 #[(0, .agg shaIv.cells.toArray)]).run Tryd.prog w = .ok (.agg (dgC [])) w := by kernel_rfl
theorem sz_int : (Tryd.prog.info? 3).map (·.size) = some 1 := by kernel_rfl
theorem sz_u64 : (Tryd.prog.info? 22).map (·.size) = some 1 := by kernel_rfl
theorem run_build1 {P : Program} {ρ : Operand → Value} {o : Oper} {w : World} (t : TypeId) (i : Nat) (x : Operand) (ho : o.op = .build t #[(i, x)]) (u v : Value) (hx : ρ x = u) (h : (Instr.build t #[(i, u)]).run P w = .ok v w) :
    (execOp ρ o).run P w = .ok (.value v) w := by
  subst hx
  unfold execOp
  simp only [ho, List.map_toArray, List.map_cons, List.map_nil, Sem.run_bind, h, Result.andThen_ok, Sem.run_pure]
end Go.Proofs.YtfnjcpopadpmbaaDoor
namespace Go.Proofs.YtfnjcpopadpmbaaDoor
open Go.RowKit BigFrame
set_option maxRecDepth 100000
set_option maxHeartbeats 1000000 in
theorem new_any (w : World) (hT0 : TabC w) :
    Calls Tryd.prog 33 #[] w fun e w' => e = .returned (.pointer (some ⟨w.heap.size, 0, none⟩)) ∧ w' = w.alloc (.cells (dgC []) 104) := by
  have hT := Lib.hid hT0
  clear hT0
  have hbd0 := build_dg
  have hr0 := fun (W : World) (h : TabC W) => TabC.range h
  have hl0 : (Tryd.prog.info? 100).map (·.size) = some shaIv.cells.length := by kernel_rfl
  obtain ⟨C, hC⟩ : ∃ C, C = dgC [] := ⟨_, rfl⟩
  rw [← hC] at hbd0 ⊢
  clear hC
  generalize shaIv.cells = H at *
  have hbd := Lib.hid hbd0
  have hr := Lib.hid hr0
  have hl := Lib.hid hl0
  clear hbd0 hr0 hl0
  go_enter Tryd.func33, Tryd.ntmps33
  go_wp2_with (first
    | ((with_reducible refine at_load 100 ?_); go_loud (refine wpList_value (by rfl) _ (run_load_rows _ 100 _ (by rfl) 0 0 (by rfl) H _ (hr.out _ hT.out) Tryd.underlying100 rfl hl.out) ?_))
    | ((with_reducible refine at_build 104 ?_); go_loud (refine wpList_value (by rfl) (.agg C) (run_build1 104 0 (.tmp 1) rfl (.agg H.toArray) _ rfl (hbd.out _)) ?_)))
  exact ret_t1 rfl _ rfl rfl ⟨rfl, rfl⟩
set_option maxHeartbeats 1000000 in
theorem dcopy_any (b : Nat) (l : List Int) (w : World) (hd0 : w.heap[b]? = some (.cells (dgC l) 104 (0, 0))) :
    Calls Tryd.prog 44 #[.pointer (some ⟨b, 0, none⟩)] w fun e w' => e = .returned (.pointer (some ⟨w.heap.size, 0, none⟩)) ∧ w'.heap[w.heap.size]? = some (.cells (dgC l) 104 (0, 0)) ∧ Below w.heap.size w w' := by
  have hd := Lib.hid hd0
  clear hd0
  obtain ⟨C, hC⟩ : ∃ C, C = dgC l := ⟨_, rfl⟩
  have h1 : C.all (·.oneCell') = true := by rw [hC]; exact dgA_one _ _ _
  have hsz : C.size = 74 := by rw [hC]; exact dgA_size _ _ _
  rw [← hC] at hd ⊢
  have hi1 : (Tryd.prog.info? 104).map (·.size) = some C.size := by rw [hsz]; exact row_size row_dg
  have hz1 : (Tryd.prog.info? 104).map (fun i => (i.zero, i.size)) = some (some (.agg (zeroOf Tryd.prog 104)), C.size) := by rw [hsz]; exact (row_zero row_dg).1
  have hz2 : (zeroOf Tryd.prog 104).size = C.size := by rw [hsz]; exact (row_zero row_dg).2
  clear hC
  go_enter Tryd.func44, Tryd.ntmps44
  go_wp2_with (first
    | ((with_reducible refine at_load 104 ?_); go_loud (refine wpList_value (by rfl) _ (run_load_box _ 104 _ (by rfl) b (by rfl) _ C (0, 0) _ hd.out Tryd.underlying104 rfl hi1) ?_))
    | ((with_reducible refine at_alloc 104 ?_); go_loud (refine wpList_alloc_store rfl rfl 104 3 _ rfl rfl rfl C rfl rfl (zeroOf Tryd.prog 104) hz1 hz2 h1 ?_)))
  exact ret_t1 rfl _ rfl rfl ⟨rfl, heap_new _ _ _ _ rfl, (Below.refl _ _).alloc (Nat.le_refl _) _⟩
end Go.Proofs.YtfnjcpopadpmbaaDoor
namespace Go.Proofs.YtfnjcpopadpmbaaDoor
open Go.RowKit BigFrame
set_option maxRecDepth 100000
theorem dg_cell {b : Nat} {f : List Int} {n a : Int} {w : World} (h : w.heap[b]? = some (.cells (dgA f n a) 104 (0, 0))) (j : Nat) : w.cell? ⟨b, j, none⟩ = (dgA f n a)[j]? := cell_of_row w b j _ _ _ h
theorem dg_cn {b : Nat} {f : List Int} {n a : Int} {w : World} (h : w.heap[b]? = some (.cells (dgA f n a) 104 (0, 0))) : w.cell? ⟨b, 72, none⟩ = some (.int .i64 n) := by rw [dg_cell h, dgA_get]; rfl
theorem dg_ca {b : Nat} {f : List Int} {n a : Int} {w : World} (h : w.heap[b]? = some (.cells (dgA f n a) 104 (0, 0))) : w.cell? ⟨b, 73, none⟩ = some (.int .u64 a) := by rw [dg_cell h, dgA_get]; rfl
theorem row_range {w : World} {b o : Nat} {l : List Int} (h : Row w (some ⟨b, o, none⟩) .u8 l) : w.rangeAt b o (l.map (Value.int .u8)) := fun j v hv => by
  rw [List.getElem?_map] at hv
  cases hq : l[j]? with
  | none => simp [hq] at hv
  | some x =>
    have hj : j < l.length := (List.getElem?_eq_some_iff.1 hq).1
    obtain ⟨b', o', e, hc⟩ := h.cell j hj
    cases e
    rw [hc]
    simp [hq, List.getD] at hv ⊢
    exact hv
theorem mem_u8 {l : List Int} : ∀ v ∈ l.map (Value.int .u8), v.oneCell' = true := fun v hv => by
  obtain ⟨n, _, rfl⟩ := List.mem_map.1 hv
  rfl
theorem Row.apart {w w' : World} {b o k : Nat} {c : CK} {l : List Int} (h : Row w (some ⟨b, o, none⟩) c l) (hx : Apart k w w') (hb : b ≠ k) : Row w' (some ⟨b, o, none⟩) c l :=
  ⟨fun i hi => by
    obtain ⟨b', o', e, hc⟩ := h.cell i hi
    cases e
    exact ⟨_, _, rfl, (hx.cell (p := ⟨b, o + i, none⟩) (block_lt_of_cell hc) (by simpa using hb)).trans hc⟩, h.ok⟩
theorem ret_none0 {P : Program} {fn : Func} {R : Ending → World → Prop} {a : Act} {w : World} (h : fn.results = #[]) (hd : a.defers = []) (hR : R (.returned (.tuple #[])) w) : bodyPost P fn R .ret a w := by
  refine bodyPost_ret ?_ hd hR
  simp [results, h]
/-- The first bytes. -/
theorem write0_any (b bb o c : Nat) (m : List Int) (w : World) (hd0 : w.heap[b]? = some (.cells (dgC []) 104 (0, 0))) (hm0 : Row w (some ⟨bb, o, none⟩) .u8 m) (hne : bb ≠ b) (nm : Nat) (hnm : m.length = nm) (h55 : nm ≤ 55) :
    Calls Tryd.prog 35 #[.pointer (some ⟨b, 0, none⟩), .slice (some ⟨bb, o, none⟩) nm c] w fun e w' => e = .returned (.tuple #[]) ∧ w'.heap[b]? = some (.cells (dgC m) 104 (0, 0)) ∧ Apart b w w' := by
  have hd := Lib.hid hd0
  have hm := Lib.hid hm0
  have hl := Lib.hid hnm
  have hN := Lib.hid hne
  clear hd0 hm0 hnm hne
  have hI : (nm : Int) ≤ 55 := by omega
  have hI2 : (nm : Int) < 64 := by omega
  have hw0 : IntKind.u64.wrap (0 + (nm : Int)) = (nm : Int) := by rw [IntKind.wrap_u64]; omega
  have hwm : IntKind.u64.wrap (nm : Int) = (nm : Int) := by rw [IntKind.wrap_u64]; omega
  go_enter Tryd.func35, Tryd.ntmps35
  go_wp2_with (first
    | ((with_reducible refine at_load 22 ?_); go_loud (refine wpList_value (by rfl) _ (run_load_cell _ 22 _ (by rfl) ⟨b, 73, none⟩ (by rfl) (.int .u64 0) (dg_ca hd.out) _ Tryd.underlying22 rfl) ?_))
    | ((with_reducible refine at_store 22 ?_)
       go_loud (refine wpList_plain rfl fun K hK => wp_store1 22 _ _ rfl b 73 rfl (.int .u64 (nm : Int)) (by rfl) rfl sz_u64 _ _ hd.out (by rw [dgA_size]; omega) (fun W1 hC1 hA1 => hK _ _ ?_))
       clear hK K
       rw [dgA_a] at hC1
       have hd1 := Lib.hid hC1
       have hx1 := Lib.hid hA1
       clear hC1 hA1)
    | ((with_reducible refine at_load 3 ?_); go_loud (refine wpList_value (by rfl) _ (run_load_cell _ 3 _ (by rfl) ⟨b, 72, none⟩ (by rfl) (.int .i64 0) (dg_cn hd1.out) _ Tryd.underlying3 rfl) ?_)))
  have hml : (m.map (Value.int .u8)).length = nm := by rw [List.length_map]; exact hl.out
  have hml' := Lib.hid hml
  clear hml
  go_loopw [1] (fun p wr => p = .slice (some ⟨bb, o, none⟩) nm c ∧ wr = W1) (fun _ _ => 0)
  case atStart => exact ⟨rfl, rfl⟩
  case round =>
    obtain ⟨rfl, rfl⟩ := hrel
    go_wp2_with (first
      | ((with_reducible refine at_sliceC 102 ?_); go_loud (refine wpList_value (by rfl) (.slice (some ⟨b, 8, none⟩) 64 64) (run_acut_all _ 102 5 64 (.tmp 73) rfl Tryd.underlying102 1 sz_u8 b 8 rfl) ?_))
      | ((with_reducible refine at_copyC 39 39 ?_)
         go_loud (refine wpList_plain rfl fun K hK => wp_copy_gen (.tmp 74) (.tmp 75) 39 39 rfl 5 Tryd.underlying39 sz_u8 b 8 bb o 64 64 nm c rfl rfl _ 104 hd1.out (m.map (Value.int .u8)) (by rw [hml'.out]; exact (Nat.min_eq_left (by omega)).symm) (row_range (hm.out.apart hx1.out hN.out)) (by rw [hml'.out, dgA_size]; omega) mem_u8 (fun W2 hC2 hA2 => hK _ _ ?_))
         clear hK K
         rw [hml'.out]
         rw [dgA_splice [] m _ _ 8 rfl (by rw [List.length_nil, hl.out]; omega)] at hC2
         have hd2 := Lib.hid hC2
         have hx2 := Lib.hid (hx1.out.trans hA2)
         clear hC2 hA2)
      | ((with_reducible refine at_store 3 ?_)
         go_loud (refine wpList_plain rfl fun K hK => wp_store1 3 _ _ rfl b 72 rfl (.int .i64 (nm : Int)) (by rfl) rfl sz_int _ _ hd2.out (by rw [dgA_size]; omega) (fun W3 hC3 hA3 => hK _ _ ?_))
         clear hK K
         rw [dgA_n] at hC3
         have hd3 := Lib.hid hC3
         have hx3 := Lib.hid (hx2.out.trans hA3)
         clear hC3 hA3))
    exact ret_none rfl rfl ⟨rfl, by have := hd3.out; rw [List.nil_append, ← hl.out] at this; exact this, hx3.out⟩
/-- Further bytes. -/
theorem write1_any (b bb o c : Nat) (l m : List Int) (w : World) (hd0 : w.heap[b]? = some (.cells (dgC l) 104 (0, 0))) (hm0 : Row w (some ⟨bb, o, none⟩) .u8 m) (hne : bb ≠ b) (nl nm : Nat) (hnl : l.length = nl) (hnm : m.length = nm) (h0 : 0 < nl) (h55 : nl + nm ≤ 55) :
    Calls Tryd.prog 35 #[.pointer (some ⟨b, 0, none⟩), .slice (some ⟨bb, o, none⟩) nm c] w fun e w' => e = .returned (.tuple #[]) ∧ w'.heap[b]? = some (.cells (dgC (l ++ m)) 104 (0, 0)) ∧ Apart b w w' := by
  have hd1 : w.heap[b]? = some (.cells (dgA l (nl : Int) (nl : Int)) 104 (0, 0)) := by rw [← hnl]; exact hd0
  have hd := Lib.hid hd1
  have hm := Lib.hid hm0
  have hl := Lib.hid hnm
  have hL := Lib.hid hnl
  have hN := Lib.hid hne
  have hml' := Lib.hid (show (m.map (Value.int .u8)).length = nm by rw [List.length_map]; exact hnm)
  clear hd0 hm0 hnm hne hnl hd1
  have hI0 : (0 : Int) < (nl : Int) := by omega
  have hI : (nl : Int) + (nm : Int) < 64 := by omega
  have hw0 : IntKind.u64.wrap ((nl : Int) + (nm : Int)) = ((nl + nm : Nat) : Int) := by rw [IntKind.wrap_u64]; omega
  have hwm : IntKind.u64.wrap (nm : Int) = (nm : Int) := by rw [IntKind.wrap_u64]; omega
  have hwi : IntKind.i64.wrap ((nl : Int) + (nm : Int)) = ((nl + nm : Nat) : Int) := by rw [IntKind.wrap_i64]; omega
  have hI3 : ((nl + nm : Nat) : Int) < 64 := by omega
  go_enter Tryd.func35, Tryd.ntmps35
  go_wp2_with (first
    | ((with_reducible refine at_load 22 ?_); go_loud (refine wpList_value (by rfl) _ (run_load_cell _ 22 _ (by rfl) ⟨b, 73, none⟩ (by rfl) (.int .u64 (nl : Int)) (dg_ca hd.out) _ Tryd.underlying22 rfl) ?_))
    | ((with_reducible refine at_store 22 ?_)
       go_loud (refine wpList_plain rfl fun K hK => wp_store1 22 _ _ rfl b 73 rfl (.int .u64 ((nl + nm : Nat) : Int)) (by rfl) rfl sz_u64 _ _ hd.out (by rw [dgA_size]; omega) (fun W1 hC1 hA1 => hK _ _ ?_))
       clear hK K
       rw [dgA_a] at hC1
       have hd1 := Lib.hid hC1
       have hx1 := Lib.hid hA1
       clear hC1 hA1)
    | ((with_reducible refine at_load 3 ?_); go_loud (refine wpList_value (by rfl) _ (run_load_cell _ 3 _ (by rfl) ⟨b, 72, none⟩ (by rfl) (.int .i64 (nl : Int)) (dg_cn hd1.out) _ Tryd.underlying3 rfl) ?_)))
  refine wp_region_held (S := fun w' => w'.cell? ⟨b, 72, none⟩ = some (.int .i64 (nl : Int))) (by kernel_rfl) ?_
  have hS : ({ W1 with drawn := W1.drawn + 1 } : World).cell? ⟨b, 72, none⟩ = some (.int .i64 (nl : Int)) := dg_cn hd1.out
  have hA0 : Apart b w { W1 with drawn := W1.drawn + 1 } := hx1.out.trans (Apart.begin b W1)
  have hd1' : ({ W1 with drawn := W1.drawn + 1 } : World).heap[b]? = some (.cells (dgA l (nl : Int) ((nl + nm : Nat) : Int)) 104 (0, 0)) := hd1.out
  refine takeL (i := 0) (v := (.pointer (some ⟨b, 0, none⟩))) rfl (by kernel_rfl) (by kernel_rfl) (by kernel_rfl) (fun _ _ _ h => h) rfl (by assumption) (fun w' hS' => by go_simp) ?_
  simp only [Act.put, List.setIfInBounds_toArray, List.set_cons_zero, List.set_cons_succ]
  refine takeL (i := 1) (v := (.pointer (some ⟨b, 0, none⟩))) rfl (by kernel_rfl) (by kernel_rfl) (by kernel_rfl) (fun _ _ _ h => h) rfl (by assumption) (fun w' hS' => by go_simp) ?_
  simp only [Act.put, List.setIfInBounds_toArray, List.set_cons_zero, List.set_cons_succ]
  refine takeL (i := 2) (v := (.pointer (some ⟨b, 8, none⟩))) rfl (by kernel_rfl) (by kernel_rfl) (by kernel_rfl) (fun _ _ _ h => h) rfl (by assumption) (fun w' hS' => by go_simp) ?_
  simp only [Act.put, List.setIfInBounds_toArray, List.set_cons_zero, List.set_cons_succ]
  refine takeL (i := 3) (v := (.pointer (some ⟨b, 0, none⟩))) rfl (by kernel_rfl) (by kernel_rfl) (by kernel_rfl) (fun _ _ _ h => h) rfl (by assumption) (fun w' hS' => by go_simp) ?_
  simp only [Act.put, List.setIfInBounds_toArray, List.set_cons_zero, List.set_cons_succ]
  refine takeL (i := 4) (v := (.pointer (some ⟨b, 0, none⟩))) rfl (by kernel_rfl) (by kernel_rfl) (by kernel_rfl) (fun _ _ _ h => h) rfl (by assumption) (fun w' hS' => by go_simp) ?_
  simp only [Act.put, List.setIfInBounds_toArray, List.set_cons_zero, List.set_cons_succ]
  refine takeL (i := 5) (v := (.pointer (some ⟨b, 72, none⟩))) rfl (by kernel_rfl) (by kernel_rfl) (by kernel_rfl) (fun _ _ _ h => h) rfl (by assumption) (fun w' hS' => by go_simp) ?_
  simp only [Act.put, List.setIfInBounds_toArray, List.set_cons_zero, List.set_cons_succ]
  refine takeL (i := 6) (v := (.int .i64 (nl : Int))) rfl (by kernel_rfl) (by kernel_rfl) (by kernel_rfl) (fun _ _ _ h => h) rfl (by assumption) (fun w' hS' => run_load_cell _ 3 _ (by rfl) ⟨b, 72, none⟩ (by rfl) _ hS' _ Tryd.underlying3 rfl) ?_
  simp only [Act.put, List.setIfInBounds_toArray, List.set_cons_zero, List.set_cons_succ]
  refine takeL (i := 7) (v := (.slice (some ⟨b, 8 + nl, none⟩) (64 - nl) (64 - nl))) rfl (by kernel_rfl) (by kernel_rfl) (by kernel_rfl) (fun _ _ _ h => h) rfl (by assumption) (fun w' hS' => run_acut_from _ 102 5 64 (.tmp 24) (.tmp 28) rfl Tryd.underlying102 1 sz_u8 b 8 rfl .i64 nl rfl (by omega) (8 + nl) (by omega)) ?_
  simp only [Act.put, List.setIfInBounds_toArray, List.set_cons_zero, List.set_cons_succ]
  refine takeL (i := 8) (v := (.slice (some ⟨bb, o, none⟩) nm c)) rfl (by kernel_rfl) (by kernel_rfl) (by kernel_rfl) (fun _ _ _ h => h) rfl (by assumption) (fun w' hS' => by go_simp) ?_
  simp only [Act.put, List.setIfInBounds_toArray, List.set_cons_zero, List.set_cons_succ]
  refine oneL (i := 9) rfl (by kernel_rfl) rfl (wp_copy_gen (.tmp 29) (.tmp 30) 39 39 rfl 5 Tryd.underlying39 sz_u8 b (8 + nl) bb o (64 - nl) (64 - nl) nm c rfl rfl _ 104 hd1' (m.map (Value.int .u8)) (by rw [hml'.out]; exact (Nat.min_eq_left (by omega)).symm) (row_range (hm.out.apart hA0 hN.out)) (by rw [hml'.out, dgA_size]; omega) mem_u8 ?_)
  intro W2 hC2 hA2
  rw [hml'.out]
  rw [dgA_splice l m _ _ (8 + nl) (by rw [hL.out]) (by rw [hL.out, hl.out]; omega)] at hC2
  refine ⟨dg_cn hC2, ?_⟩
  clear hS
  have hS : W2.cell? ⟨b, 72, none⟩ = some (.int .i64 (nl : Int)) := dg_cn hC2
  simp only [Act.put, List.setIfInBounds_toArray, List.set_cons_zero, List.set_cons_succ]
  refine takeL (i := 10) (v := (.int .i64 (nm : Int))) rfl (by kernel_rfl) (by kernel_rfl) (by kernel_rfl) (fun _ _ _ h => h) rfl (by assumption) (fun w' hS' => by go_simp) ?_
  simp only [Act.put, List.setIfInBounds_toArray, List.set_cons_zero, List.set_cons_succ]
  refine wpAnyH_done (by kernel_rfl) ?_ _
  simp only [Exit.then]
  rename_i K hK
  refine hK _ _ ?_
  clear hK K
  have hd2 := Lib.hid hC2
  have hx2 := Lib.hid (hA0.trans hA2)
  clear hC2 hA2 hS hA0 hd1' hd1 hx1
  go_wp2_with (first
    | ((with_reducible refine at_store 3 ?_)
       go_loud (refine wpList_plain rfl fun K hK => wp_store1 3 _ _ rfl b 72 rfl (.int .i64 ((nl + nm : Nat) : Int)) (by rfl) rfl sz_int _ _ hd2.out (by rw [dgA_size]; omega) (fun W3 hC3 hA3 => hK _ _ ?_))
       clear hK K
       rw [dgA_n] at hC3
       have hd3 := Lib.hid hC3
       have hx3 := Lib.hid (hx2.out.trans hA3)
       clear hC3 hA3)
    | ((with_reducible refine at_load 3 ?_); refine wpList_value (by rfl) _ (run_load_cell _ 3 _ (by rfl) ⟨b, 72, none⟩ (by rfl) (.int .i64 ((nl + nm : Nat) : Int)) (dg_cn hd3.out) _ Tryd.underlying3 rfl) ?_)
    | ((with_reducible refine at_load 3 ?_); refine wpList_value (by rfl) _ (run_load_cell _ 3 _ (by rfl) ⟨b, 72, none⟩ (by rfl) (.int .i64 (nl : Int)) (dg_cn hd2.out) _ Tryd.underlying3 rfl) ?_)
    | ((with_reducible refine at_sliceC 39 ?_); go_loud (refine wpList_value (by rfl) _ (run_scut_from _ 39 5 (.tmp 40) (.tmp 41) rfl Tryd.underlying39 1 sz_u8 bb o nm c rfl .i64 nm rfl (Nat.le_refl _)) ?_)))
  all_goals exact ret_none0 rfl rfl ⟨rfl, by have := hd3.out; rw [show ((nl + nm : Nat) : Int) = (((l ++ m).length : Nat) : Int) by rw [List.length_append, hL.out, hl.out]] at this; exact this, hx3.out⟩
end Go.Proofs.YtfnjcpopadpmbaaDoor
