/- Bits in a row of bytes: the program's set. -/
/- Bits in a row of bytes: the program's lay, Vector and List. -/
/- Bits in a row of bytes: the reference's Vector. -/
import Derived.Test.YtihelknkcomjpaaDoorJReach
set_option linter.unusedVariables false
set_option linter.unusedSimpArgs false
set_option linter.unnecessarySimpa false
namespace Go.Proofs.YtihelknkcomjpaaDoor
open Go.RowKit BigFrame
set_option maxRecDepth 100000
theorem and7 (i : Int) (h0 : 0 ≤ i) (h1 : i < 9223372036854775808) : bits BinOp.and IntKind.i64 i 7 = i % 8 := by
  obtain ⟨n, rfl⟩ : ∃ n : Nat, i = (n : Int) := ⟨i.toNat, by omega⟩
  have e : (BitVec.ofInt 64 (n : Int) &&& BitVec.ofInt 64 7).toNat = n % 8 := by
    rw [BitVec.toNat_and, show BitVec.ofInt 64 (n : Int) = BitVec.ofNat 64 n from rfl, show BitVec.ofInt 64 7 = 7#64 from rfl, BitVec.toNat_ofNat, BitVec.toNat_ofNat]
    have h := Nat.and_two_pow_sub_one_eq_mod (n % 2 ^ 64) 3
    have h2 : n % 2 ^ 64 % 2 ^ 3 = n % 8 := by omega
    rw [h2] at h
    exact h
  show IntKind.i64.wrap ((BitVec.ofInt 64 (n : Int) &&& BitVec.ofInt 64 7).toNat : Int) = _
  rw [e]
  rw [IntWalk.i64_left, IntWalk.wrap64_in _ ⟨by omega, by omega⟩]
  omega
set_option maxHeartbeats 8000000 in
theorem setq_0 (g n q : Nat) (i : Int) (hi : i = 8 * (q : Int) + 0) (C : Array Value) (x : Int) (w : World) (hC0 : w.heap[g]? = some (.cells C 5 (0, 0))) (hs : C.size = n) (hq : q < n) (hn : 8 * n < 1152921504606846976) (hxc0 : C[q]? = some (.int .u8 x)) (hx0 : 0 ≤ x) (hx1 : x < 1) :
    Calls Tryd.prog 119 #[.slice (some ⟨g, 0, none⟩) n n, .int .i64 i] w fun e w' => e = .returned (.tuple #[]) ∧ w'.heap[g]? = some (.cells (C.setIfInBounds q (.int .u8 (x + 1))) 5 (0, 0)) ∧ Below g w w' := by
  have hC := Lib.hid hC0
  have hxc := Lib.hid hxc0
  clear hC0 hxc0
  have hgs := block_lt hC.out
  have hb6 : bits BinOp.and IntKind.i64 i 7 = 0 := by rw [and7 _ (by omega) (by omega)]; omega
  have hbq : i / 8 = (q : Int) := by omega
  clear hi
  have hb7 : IntKind.u8.wrap 1 = 1 := by decide +kernel
  have hb8 : bits BinOp.or IntKind.u8 x 1 = x + 1 := by
    have h : ∀ n : Fin 1, bits BinOp.or IntKind.u8 ((n : Nat) : Int) 1 = ((n : Nat) : Int) + 1 := by decide +kernel
    have h2 := h ⟨x.toNat, by omega⟩
    rw [show ((x.toNat : Nat) : Int) = x by omega] at h2
    exact h2
  go_enter Tryd.func119, Tryd.ntmps119
  go_wp2
  refine wp_region_held (S := fun _ => True) (by kernel_rfl) ?_
  have hTT : True := trivial
  refine takeL (i := 0) (v := (.slice (some ⟨g, 0, none⟩) n n)) rfl (by kernel_rfl) (by kernel_rfl) (by kernel_rfl) (fun _ _ _ h => h) rfl (by assumption) (fun w' hS' => by go_simp) ?_
  simp only [Act.put, List.setIfInBounds_toArray, List.set_cons_zero, List.set_cons_succ]
  refine takeL (i := 1) (v := (.int .i64 i)) rfl (by kernel_rfl) (by kernel_rfl) (by kernel_rfl) (fun _ _ _ h => h) rfl (by assumption) (fun w' hS' => by go_simp) ?_
  simp only [Act.put, List.setIfInBounds_toArray, List.set_cons_zero, List.set_cons_succ]
  refine takeL (i := 2) (v := (.int .i64 (q : Int))) rfl (by kernel_rfl) (by kernel_rfl) (by kernel_rfl) (fun _ _ _ h => h) rfl (by assumption) (fun w' hS' => by go_simp) ?_
  simp only [Act.put, List.setIfInBounds_toArray, List.set_cons_zero, List.set_cons_succ]
  refine takeL (i := 3) (v := (.pointer (some ⟨g, q, none⟩))) rfl (by kernel_rfl) (by kernel_rfl) (by kernel_rfl) (fun _ _ _ h => h) rfl (by assumption) (fun w' _ => run_index_slice w' 34 5 _ _ (by rfl) Tryd.underlying34 1 sz_u8 g 0 n n (by rfl) .i64 q (by rfl) hq _ (by omega)) ?_
  simp only [Act.put, List.setIfInBounds_toArray, List.set_cons_zero, List.set_cons_succ]
  refine takeL (i := 5) (v := (.int .i64 i)) rfl (by kernel_rfl) (by kernel_rfl) (by kernel_rfl) (fun _ _ _ h => h) rfl (by assumption) (fun w' hS' => by go_simp) ?_
  simp only [Act.put, List.setIfInBounds_toArray, List.set_cons_zero, List.set_cons_succ]
  refine takeL (i := 6) (v := (.int .i64 0)) rfl (by kernel_rfl) (by kernel_rfl) (by kernel_rfl) (fun _ _ _ h => h) rfl (by assumption) (fun w' hS' => by go_simp) ?_
  simp only [Act.put, List.setIfInBounds_toArray, List.set_cons_zero, List.set_cons_succ]
  refine takeL (i := 7) (v := (.int .u8 1)) rfl (by kernel_rfl) (by kernel_rfl) (by kernel_rfl) (fun _ _ _ h => h) rfl (by assumption) (fun w' hS' => by go_simp) ?_
  simp only [Act.put, List.setIfInBounds_toArray, List.set_cons_zero, List.set_cons_succ]
  refine oneL (i := 4) rfl (by kernel_rfl) rfl (wp_ran _ (run_load_cell _ 5 _ (by rfl) ⟨g, q, none⟩ (by rfl) (.int .u8 x) ((cell_of_row { w with drawn := w.drawn + 1 } g q _ _ _ hC.out).trans hxc.out) _ Tryd.underlying5 rfl) ⟨trivial, ?_⟩)
  simp only [Act.put, List.setIfInBounds_toArray, List.set_cons_zero, List.set_cons_succ]
  refine takeL (i := 8) (v := (.int .u8 (x + 1))) rfl (by kernel_rfl) (by kernel_rfl) (by kernel_rfl) (fun _ _ _ h => h) rfl (by assumption) (fun w' hS' => by go_simp) ?_
  simp only [Act.put, List.setIfInBounds_toArray, List.set_cons_zero, List.set_cons_succ]
  refine takeL (i := 9) (v := (.pointer (some ⟨g, q, none⟩))) rfl (by kernel_rfl) (by kernel_rfl) (by kernel_rfl) (fun _ _ _ h => h) rfl (by assumption) (fun w' _ => run_index_slice w' 34 5 _ _ (by rfl) Tryd.underlying34 1 sz_u8 g 0 n n (by rfl) .i64 q (by rfl) hq _ (by omega)) ?_
  simp only [Act.put, List.setIfInBounds_toArray, List.set_cons_zero, List.set_cons_succ]
  refine oneL (i := 10) rfl (by kernel_rfl) rfl (wp_store1 5 _ _ rfl g q rfl (.int .u8 (x + 1)) rfl rfl sz_u8 _ 5 hC.out (by omega) (fun W1 hC1 hA1 => ⟨trivial, ?_⟩))
  simp only [Act.put, List.setIfInBounds_toArray, List.set_cons_zero, List.set_cons_succ]
  refine wpAnyH_done (by kernel_rfl) ?_ _
  exact ret_none rfl rfl ⟨rfl, hC1, hA1.below (⟨rfl, rfl, rfl, Nat.le_refl _, fun _ _ => rfl⟩ : Below g w { w with drawn := w.drawn + 1 }) (Nat.le_refl _) (Nat.le_of_lt hgs)⟩
set_option maxHeartbeats 8000000 in
theorem setq_1 (g n q : Nat) (i : Int) (hi : i = 8 * (q : Int) + 1) (C : Array Value) (x : Int) (w : World) (hC0 : w.heap[g]? = some (.cells C 5 (0, 0))) (hs : C.size = n) (hq : q < n) (hn : 8 * n < 1152921504606846976) (hxc0 : C[q]? = some (.int .u8 x)) (hx0 : 0 ≤ x) (hx1 : x < 2) :
    Calls Tryd.prog 119 #[.slice (some ⟨g, 0, none⟩) n n, .int .i64 i] w fun e w' => e = .returned (.tuple #[]) ∧ w'.heap[g]? = some (.cells (C.setIfInBounds q (.int .u8 (x + 2))) 5 (0, 0)) ∧ Below g w w' := by
  have hC := Lib.hid hC0
  have hxc := Lib.hid hxc0
  clear hC0 hxc0
  have hgs := block_lt hC.out
  have hb6 : bits BinOp.and IntKind.i64 i 7 = 1 := by rw [and7 _ (by omega) (by omega)]; omega
  have hbq : i / 8 = (q : Int) := by omega
  clear hi
  have hb7 : IntKind.u8.wrap 2 = 2 := by decide +kernel
  have hb8 : bits BinOp.or IntKind.u8 x 2 = x + 2 := by
    have h : ∀ n : Fin 2, bits BinOp.or IntKind.u8 ((n : Nat) : Int) 2 = ((n : Nat) : Int) + 2 := by decide +kernel
    have h2 := h ⟨x.toNat, by omega⟩
    rw [show ((x.toNat : Nat) : Int) = x by omega] at h2
    exact h2
  go_enter Tryd.func119, Tryd.ntmps119
  go_wp2
  refine wp_region_held (S := fun _ => True) (by kernel_rfl) ?_
  have hTT : True := trivial
  refine takeL (i := 0) (v := (.slice (some ⟨g, 0, none⟩) n n)) rfl (by kernel_rfl) (by kernel_rfl) (by kernel_rfl) (fun _ _ _ h => h) rfl (by assumption) (fun w' hS' => by go_simp) ?_
  simp only [Act.put, List.setIfInBounds_toArray, List.set_cons_zero, List.set_cons_succ]
  refine takeL (i := 1) (v := (.int .i64 i)) rfl (by kernel_rfl) (by kernel_rfl) (by kernel_rfl) (fun _ _ _ h => h) rfl (by assumption) (fun w' hS' => by go_simp) ?_
  simp only [Act.put, List.setIfInBounds_toArray, List.set_cons_zero, List.set_cons_succ]
  refine takeL (i := 2) (v := (.int .i64 (q : Int))) rfl (by kernel_rfl) (by kernel_rfl) (by kernel_rfl) (fun _ _ _ h => h) rfl (by assumption) (fun w' hS' => by go_simp) ?_
  simp only [Act.put, List.setIfInBounds_toArray, List.set_cons_zero, List.set_cons_succ]
  refine takeL (i := 3) (v := (.pointer (some ⟨g, q, none⟩))) rfl (by kernel_rfl) (by kernel_rfl) (by kernel_rfl) (fun _ _ _ h => h) rfl (by assumption) (fun w' _ => run_index_slice w' 34 5 _ _ (by rfl) Tryd.underlying34 1 sz_u8 g 0 n n (by rfl) .i64 q (by rfl) hq _ (by omega)) ?_
  simp only [Act.put, List.setIfInBounds_toArray, List.set_cons_zero, List.set_cons_succ]
  refine takeL (i := 5) (v := (.int .i64 i)) rfl (by kernel_rfl) (by kernel_rfl) (by kernel_rfl) (fun _ _ _ h => h) rfl (by assumption) (fun w' hS' => by go_simp) ?_
  simp only [Act.put, List.setIfInBounds_toArray, List.set_cons_zero, List.set_cons_succ]
  refine takeL (i := 6) (v := (.int .i64 1)) rfl (by kernel_rfl) (by kernel_rfl) (by kernel_rfl) (fun _ _ _ h => h) rfl (by assumption) (fun w' hS' => by go_simp) ?_
  simp only [Act.put, List.setIfInBounds_toArray, List.set_cons_zero, List.set_cons_succ]
  refine takeL (i := 7) (v := (.int .u8 2)) rfl (by kernel_rfl) (by kernel_rfl) (by kernel_rfl) (fun _ _ _ h => h) rfl (by assumption) (fun w' hS' => by go_simp) ?_
  simp only [Act.put, List.setIfInBounds_toArray, List.set_cons_zero, List.set_cons_succ]
  refine oneL (i := 4) rfl (by kernel_rfl) rfl (wp_ran _ (run_load_cell _ 5 _ (by rfl) ⟨g, q, none⟩ (by rfl) (.int .u8 x) ((cell_of_row { w with drawn := w.drawn + 1 } g q _ _ _ hC.out).trans hxc.out) _ Tryd.underlying5 rfl) ⟨trivial, ?_⟩)
  simp only [Act.put, List.setIfInBounds_toArray, List.set_cons_zero, List.set_cons_succ]
  refine takeL (i := 8) (v := (.int .u8 (x + 2))) rfl (by kernel_rfl) (by kernel_rfl) (by kernel_rfl) (fun _ _ _ h => h) rfl (by assumption) (fun w' hS' => by go_simp) ?_
  simp only [Act.put, List.setIfInBounds_toArray, List.set_cons_zero, List.set_cons_succ]
  refine takeL (i := 9) (v := (.pointer (some ⟨g, q, none⟩))) rfl (by kernel_rfl) (by kernel_rfl) (by kernel_rfl) (fun _ _ _ h => h) rfl (by assumption) (fun w' _ => run_index_slice w' 34 5 _ _ (by rfl) Tryd.underlying34 1 sz_u8 g 0 n n (by rfl) .i64 q (by rfl) hq _ (by omega)) ?_
  simp only [Act.put, List.setIfInBounds_toArray, List.set_cons_zero, List.set_cons_succ]
  refine oneL (i := 10) rfl (by kernel_rfl) rfl (wp_store1 5 _ _ rfl g q rfl (.int .u8 (x + 2)) rfl rfl sz_u8 _ 5 hC.out (by omega) (fun W1 hC1 hA1 => ⟨trivial, ?_⟩))
  simp only [Act.put, List.setIfInBounds_toArray, List.set_cons_zero, List.set_cons_succ]
  refine wpAnyH_done (by kernel_rfl) ?_ _
  exact ret_none rfl rfl ⟨rfl, hC1, hA1.below (⟨rfl, rfl, rfl, Nat.le_refl _, fun _ _ => rfl⟩ : Below g w { w with drawn := w.drawn + 1 }) (Nat.le_refl _) (Nat.le_of_lt hgs)⟩
set_option maxHeartbeats 8000000 in
theorem setq_2 (g n q : Nat) (i : Int) (hi : i = 8 * (q : Int) + 2) (C : Array Value) (x : Int) (w : World) (hC0 : w.heap[g]? = some (.cells C 5 (0, 0))) (hs : C.size = n) (hq : q < n) (hn : 8 * n < 1152921504606846976) (hxc0 : C[q]? = some (.int .u8 x)) (hx0 : 0 ≤ x) (hx1 : x < 4) :
    Calls Tryd.prog 119 #[.slice (some ⟨g, 0, none⟩) n n, .int .i64 i] w fun e w' => e = .returned (.tuple #[]) ∧ w'.heap[g]? = some (.cells (C.setIfInBounds q (.int .u8 (x + 4))) 5 (0, 0)) ∧ Below g w w' := by
  have hC := Lib.hid hC0
  have hxc := Lib.hid hxc0
  clear hC0 hxc0
  have hgs := block_lt hC.out
  have hb6 : bits BinOp.and IntKind.i64 i 7 = 2 := by rw [and7 _ (by omega) (by omega)]; omega
  have hbq : i / 8 = (q : Int) := by omega
  clear hi
  have hb7 : IntKind.u8.wrap 4 = 4 := by decide +kernel
  have hb8 : bits BinOp.or IntKind.u8 x 4 = x + 4 := by
    have h : ∀ n : Fin 4, bits BinOp.or IntKind.u8 ((n : Nat) : Int) 4 = ((n : Nat) : Int) + 4 := by decide +kernel
    have h2 := h ⟨x.toNat, by omega⟩
    rw [show ((x.toNat : Nat) : Int) = x by omega] at h2
    exact h2
  go_enter Tryd.func119, Tryd.ntmps119
  go_wp2
  refine wp_region_held (S := fun _ => True) (by kernel_rfl) ?_
  have hTT : True := trivial
  refine takeL (i := 0) (v := (.slice (some ⟨g, 0, none⟩) n n)) rfl (by kernel_rfl) (by kernel_rfl) (by kernel_rfl) (fun _ _ _ h => h) rfl (by assumption) (fun w' hS' => by go_simp) ?_
  simp only [Act.put, List.setIfInBounds_toArray, List.set_cons_zero, List.set_cons_succ]
  refine takeL (i := 1) (v := (.int .i64 i)) rfl (by kernel_rfl) (by kernel_rfl) (by kernel_rfl) (fun _ _ _ h => h) rfl (by assumption) (fun w' hS' => by go_simp) ?_
  simp only [Act.put, List.setIfInBounds_toArray, List.set_cons_zero, List.set_cons_succ]
  refine takeL (i := 2) (v := (.int .i64 (q : Int))) rfl (by kernel_rfl) (by kernel_rfl) (by kernel_rfl) (fun _ _ _ h => h) rfl (by assumption) (fun w' hS' => by go_simp) ?_
  simp only [Act.put, List.setIfInBounds_toArray, List.set_cons_zero, List.set_cons_succ]
  refine takeL (i := 3) (v := (.pointer (some ⟨g, q, none⟩))) rfl (by kernel_rfl) (by kernel_rfl) (by kernel_rfl) (fun _ _ _ h => h) rfl (by assumption) (fun w' _ => run_index_slice w' 34 5 _ _ (by rfl) Tryd.underlying34 1 sz_u8 g 0 n n (by rfl) .i64 q (by rfl) hq _ (by omega)) ?_
  simp only [Act.put, List.setIfInBounds_toArray, List.set_cons_zero, List.set_cons_succ]
  refine takeL (i := 5) (v := (.int .i64 i)) rfl (by kernel_rfl) (by kernel_rfl) (by kernel_rfl) (fun _ _ _ h => h) rfl (by assumption) (fun w' hS' => by go_simp) ?_
  simp only [Act.put, List.setIfInBounds_toArray, List.set_cons_zero, List.set_cons_succ]
  refine takeL (i := 6) (v := (.int .i64 2)) rfl (by kernel_rfl) (by kernel_rfl) (by kernel_rfl) (fun _ _ _ h => h) rfl (by assumption) (fun w' hS' => by go_simp) ?_
  simp only [Act.put, List.setIfInBounds_toArray, List.set_cons_zero, List.set_cons_succ]
  refine takeL (i := 7) (v := (.int .u8 4)) rfl (by kernel_rfl) (by kernel_rfl) (by kernel_rfl) (fun _ _ _ h => h) rfl (by assumption) (fun w' hS' => by go_simp) ?_
  simp only [Act.put, List.setIfInBounds_toArray, List.set_cons_zero, List.set_cons_succ]
  refine oneL (i := 4) rfl (by kernel_rfl) rfl (wp_ran _ (run_load_cell _ 5 _ (by rfl) ⟨g, q, none⟩ (by rfl) (.int .u8 x) ((cell_of_row { w with drawn := w.drawn + 1 } g q _ _ _ hC.out).trans hxc.out) _ Tryd.underlying5 rfl) ⟨trivial, ?_⟩)
  simp only [Act.put, List.setIfInBounds_toArray, List.set_cons_zero, List.set_cons_succ]
  refine takeL (i := 8) (v := (.int .u8 (x + 4))) rfl (by kernel_rfl) (by kernel_rfl) (by kernel_rfl) (fun _ _ _ h => h) rfl (by assumption) (fun w' hS' => by go_simp) ?_
  simp only [Act.put, List.setIfInBounds_toArray, List.set_cons_zero, List.set_cons_succ]
  refine takeL (i := 9) (v := (.pointer (some ⟨g, q, none⟩))) rfl (by kernel_rfl) (by kernel_rfl) (by kernel_rfl) (fun _ _ _ h => h) rfl (by assumption) (fun w' _ => run_index_slice w' 34 5 _ _ (by rfl) Tryd.underlying34 1 sz_u8 g 0 n n (by rfl) .i64 q (by rfl) hq _ (by omega)) ?_
  simp only [Act.put, List.setIfInBounds_toArray, List.set_cons_zero, List.set_cons_succ]
  refine oneL (i := 10) rfl (by kernel_rfl) rfl (wp_store1 5 _ _ rfl g q rfl (.int .u8 (x + 4)) rfl rfl sz_u8 _ 5 hC.out (by omega) (fun W1 hC1 hA1 => ⟨trivial, ?_⟩))
  simp only [Act.put, List.setIfInBounds_toArray, List.set_cons_zero, List.set_cons_succ]
  refine wpAnyH_done (by kernel_rfl) ?_ _
  exact ret_none rfl rfl ⟨rfl, hC1, hA1.below (⟨rfl, rfl, rfl, Nat.le_refl _, fun _ _ => rfl⟩ : Below g w { w with drawn := w.drawn + 1 }) (Nat.le_refl _) (Nat.le_of_lt hgs)⟩
set_option maxHeartbeats 8000000 in
theorem setq_3 (g n q : Nat) (i : Int) (hi : i = 8 * (q : Int) + 3) (C : Array Value) (x : Int) (w : World) (hC0 : w.heap[g]? = some (.cells C 5 (0, 0))) (hs : C.size = n) (hq : q < n) (hn : 8 * n < 1152921504606846976) (hxc0 : C[q]? = some (.int .u8 x)) (hx0 : 0 ≤ x) (hx1 : x < 8) :
    Calls Tryd.prog 119 #[.slice (some ⟨g, 0, none⟩) n n, .int .i64 i] w fun e w' => e = .returned (.tuple #[]) ∧ w'.heap[g]? = some (.cells (C.setIfInBounds q (.int .u8 (x + 8))) 5 (0, 0)) ∧ Below g w w' := by
  have hC := Lib.hid hC0
  have hxc := Lib.hid hxc0
  clear hC0 hxc0
  have hgs := block_lt hC.out
  have hb6 : bits BinOp.and IntKind.i64 i 7 = 3 := by rw [and7 _ (by omega) (by omega)]; omega
  have hbq : i / 8 = (q : Int) := by omega
  clear hi
  have hb7 : IntKind.u8.wrap 8 = 8 := by decide +kernel
  have hb8 : bits BinOp.or IntKind.u8 x 8 = x + 8 := by
    have h : ∀ n : Fin 8, bits BinOp.or IntKind.u8 ((n : Nat) : Int) 8 = ((n : Nat) : Int) + 8 := by decide +kernel
    have h2 := h ⟨x.toNat, by omega⟩
    rw [show ((x.toNat : Nat) : Int) = x by omega] at h2
    exact h2
  go_enter Tryd.func119, Tryd.ntmps119
  go_wp2
  refine wp_region_held (S := fun _ => True) (by kernel_rfl) ?_
  have hTT : True := trivial
  refine takeL (i := 0) (v := (.slice (some ⟨g, 0, none⟩) n n)) rfl (by kernel_rfl) (by kernel_rfl) (by kernel_rfl) (fun _ _ _ h => h) rfl (by assumption) (fun w' hS' => by go_simp) ?_
  simp only [Act.put, List.setIfInBounds_toArray, List.set_cons_zero, List.set_cons_succ]
  refine takeL (i := 1) (v := (.int .i64 i)) rfl (by kernel_rfl) (by kernel_rfl) (by kernel_rfl) (fun _ _ _ h => h) rfl (by assumption) (fun w' hS' => by go_simp) ?_
  simp only [Act.put, List.setIfInBounds_toArray, List.set_cons_zero, List.set_cons_succ]
  refine takeL (i := 2) (v := (.int .i64 (q : Int))) rfl (by kernel_rfl) (by kernel_rfl) (by kernel_rfl) (fun _ _ _ h => h) rfl (by assumption) (fun w' hS' => by go_simp) ?_
  simp only [Act.put, List.setIfInBounds_toArray, List.set_cons_zero, List.set_cons_succ]
  refine takeL (i := 3) (v := (.pointer (some ⟨g, q, none⟩))) rfl (by kernel_rfl) (by kernel_rfl) (by kernel_rfl) (fun _ _ _ h => h) rfl (by assumption) (fun w' _ => run_index_slice w' 34 5 _ _ (by rfl) Tryd.underlying34 1 sz_u8 g 0 n n (by rfl) .i64 q (by rfl) hq _ (by omega)) ?_
  simp only [Act.put, List.setIfInBounds_toArray, List.set_cons_zero, List.set_cons_succ]
  refine takeL (i := 5) (v := (.int .i64 i)) rfl (by kernel_rfl) (by kernel_rfl) (by kernel_rfl) (fun _ _ _ h => h) rfl (by assumption) (fun w' hS' => by go_simp) ?_
  simp only [Act.put, List.setIfInBounds_toArray, List.set_cons_zero, List.set_cons_succ]
  refine takeL (i := 6) (v := (.int .i64 3)) rfl (by kernel_rfl) (by kernel_rfl) (by kernel_rfl) (fun _ _ _ h => h) rfl (by assumption) (fun w' hS' => by go_simp) ?_
  simp only [Act.put, List.setIfInBounds_toArray, List.set_cons_zero, List.set_cons_succ]
  refine takeL (i := 7) (v := (.int .u8 8)) rfl (by kernel_rfl) (by kernel_rfl) (by kernel_rfl) (fun _ _ _ h => h) rfl (by assumption) (fun w' hS' => by go_simp) ?_
  simp only [Act.put, List.setIfInBounds_toArray, List.set_cons_zero, List.set_cons_succ]
  refine oneL (i := 4) rfl (by kernel_rfl) rfl (wp_ran _ (run_load_cell _ 5 _ (by rfl) ⟨g, q, none⟩ (by rfl) (.int .u8 x) ((cell_of_row { w with drawn := w.drawn + 1 } g q _ _ _ hC.out).trans hxc.out) _ Tryd.underlying5 rfl) ⟨trivial, ?_⟩)
  simp only [Act.put, List.setIfInBounds_toArray, List.set_cons_zero, List.set_cons_succ]
  refine takeL (i := 8) (v := (.int .u8 (x + 8))) rfl (by kernel_rfl) (by kernel_rfl) (by kernel_rfl) (fun _ _ _ h => h) rfl (by assumption) (fun w' hS' => by go_simp) ?_
  simp only [Act.put, List.setIfInBounds_toArray, List.set_cons_zero, List.set_cons_succ]
  refine takeL (i := 9) (v := (.pointer (some ⟨g, q, none⟩))) rfl (by kernel_rfl) (by kernel_rfl) (by kernel_rfl) (fun _ _ _ h => h) rfl (by assumption) (fun w' _ => run_index_slice w' 34 5 _ _ (by rfl) Tryd.underlying34 1 sz_u8 g 0 n n (by rfl) .i64 q (by rfl) hq _ (by omega)) ?_
  simp only [Act.put, List.setIfInBounds_toArray, List.set_cons_zero, List.set_cons_succ]
  refine oneL (i := 10) rfl (by kernel_rfl) rfl (wp_store1 5 _ _ rfl g q rfl (.int .u8 (x + 8)) rfl rfl sz_u8 _ 5 hC.out (by omega) (fun W1 hC1 hA1 => ⟨trivial, ?_⟩))
  simp only [Act.put, List.setIfInBounds_toArray, List.set_cons_zero, List.set_cons_succ]
  refine wpAnyH_done (by kernel_rfl) ?_ _
  exact ret_none rfl rfl ⟨rfl, hC1, hA1.below (⟨rfl, rfl, rfl, Nat.le_refl _, fun _ _ => rfl⟩ : Below g w { w with drawn := w.drawn + 1 }) (Nat.le_refl _) (Nat.le_of_lt hgs)⟩
set_option maxHeartbeats 8000000 in
theorem setq_4 (g n q : Nat) (i : Int) (hi : i = 8 * (q : Int) + 4) (C : Array Value) (x : Int) (w : World) (hC0 : w.heap[g]? = some (.cells C 5 (0, 0))) (hs : C.size = n) (hq : q < n) (hn : 8 * n < 1152921504606846976) (hxc0 : C[q]? = some (.int .u8 x)) (hx0 : 0 ≤ x) (hx1 : x < 16) :
    Calls Tryd.prog 119 #[.slice (some ⟨g, 0, none⟩) n n, .int .i64 i] w fun e w' => e = .returned (.tuple #[]) ∧ w'.heap[g]? = some (.cells (C.setIfInBounds q (.int .u8 (x + 16))) 5 (0, 0)) ∧ Below g w w' := by
  have hC := Lib.hid hC0
  have hxc := Lib.hid hxc0
  clear hC0 hxc0
  have hgs := block_lt hC.out
  have hb6 : bits BinOp.and IntKind.i64 i 7 = 4 := by rw [and7 _ (by omega) (by omega)]; omega
  have hbq : i / 8 = (q : Int) := by omega
  clear hi
  have hb7 : IntKind.u8.wrap 16 = 16 := by decide +kernel
  have hb8 : bits BinOp.or IntKind.u8 x 16 = x + 16 := by
    have h : ∀ n : Fin 16, bits BinOp.or IntKind.u8 ((n : Nat) : Int) 16 = ((n : Nat) : Int) + 16 := by decide +kernel
    have h2 := h ⟨x.toNat, by omega⟩
    rw [show ((x.toNat : Nat) : Int) = x by omega] at h2
    exact h2
  go_enter Tryd.func119, Tryd.ntmps119
  go_wp2
  refine wp_region_held (S := fun _ => True) (by kernel_rfl) ?_
  have hTT : True := trivial
  refine takeL (i := 0) (v := (.slice (some ⟨g, 0, none⟩) n n)) rfl (by kernel_rfl) (by kernel_rfl) (by kernel_rfl) (fun _ _ _ h => h) rfl (by assumption) (fun w' hS' => by go_simp) ?_
  simp only [Act.put, List.setIfInBounds_toArray, List.set_cons_zero, List.set_cons_succ]
  refine takeL (i := 1) (v := (.int .i64 i)) rfl (by kernel_rfl) (by kernel_rfl) (by kernel_rfl) (fun _ _ _ h => h) rfl (by assumption) (fun w' hS' => by go_simp) ?_
  simp only [Act.put, List.setIfInBounds_toArray, List.set_cons_zero, List.set_cons_succ]
  refine takeL (i := 2) (v := (.int .i64 (q : Int))) rfl (by kernel_rfl) (by kernel_rfl) (by kernel_rfl) (fun _ _ _ h => h) rfl (by assumption) (fun w' hS' => by go_simp) ?_
  simp only [Act.put, List.setIfInBounds_toArray, List.set_cons_zero, List.set_cons_succ]
  refine takeL (i := 3) (v := (.pointer (some ⟨g, q, none⟩))) rfl (by kernel_rfl) (by kernel_rfl) (by kernel_rfl) (fun _ _ _ h => h) rfl (by assumption) (fun w' _ => run_index_slice w' 34 5 _ _ (by rfl) Tryd.underlying34 1 sz_u8 g 0 n n (by rfl) .i64 q (by rfl) hq _ (by omega)) ?_
  simp only [Act.put, List.setIfInBounds_toArray, List.set_cons_zero, List.set_cons_succ]
  refine takeL (i := 5) (v := (.int .i64 i)) rfl (by kernel_rfl) (by kernel_rfl) (by kernel_rfl) (fun _ _ _ h => h) rfl (by assumption) (fun w' hS' => by go_simp) ?_
  simp only [Act.put, List.setIfInBounds_toArray, List.set_cons_zero, List.set_cons_succ]
  refine takeL (i := 6) (v := (.int .i64 4)) rfl (by kernel_rfl) (by kernel_rfl) (by kernel_rfl) (fun _ _ _ h => h) rfl (by assumption) (fun w' hS' => by go_simp) ?_
  simp only [Act.put, List.setIfInBounds_toArray, List.set_cons_zero, List.set_cons_succ]
  refine takeL (i := 7) (v := (.int .u8 16)) rfl (by kernel_rfl) (by kernel_rfl) (by kernel_rfl) (fun _ _ _ h => h) rfl (by assumption) (fun w' hS' => by go_simp) ?_
  simp only [Act.put, List.setIfInBounds_toArray, List.set_cons_zero, List.set_cons_succ]
  refine oneL (i := 4) rfl (by kernel_rfl) rfl (wp_ran _ (run_load_cell _ 5 _ (by rfl) ⟨g, q, none⟩ (by rfl) (.int .u8 x) ((cell_of_row { w with drawn := w.drawn + 1 } g q _ _ _ hC.out).trans hxc.out) _ Tryd.underlying5 rfl) ⟨trivial, ?_⟩)
  simp only [Act.put, List.setIfInBounds_toArray, List.set_cons_zero, List.set_cons_succ]
  refine takeL (i := 8) (v := (.int .u8 (x + 16))) rfl (by kernel_rfl) (by kernel_rfl) (by kernel_rfl) (fun _ _ _ h => h) rfl (by assumption) (fun w' hS' => by go_simp) ?_
  simp only [Act.put, List.setIfInBounds_toArray, List.set_cons_zero, List.set_cons_succ]
  refine takeL (i := 9) (v := (.pointer (some ⟨g, q, none⟩))) rfl (by kernel_rfl) (by kernel_rfl) (by kernel_rfl) (fun _ _ _ h => h) rfl (by assumption) (fun w' _ => run_index_slice w' 34 5 _ _ (by rfl) Tryd.underlying34 1 sz_u8 g 0 n n (by rfl) .i64 q (by rfl) hq _ (by omega)) ?_
  simp only [Act.put, List.setIfInBounds_toArray, List.set_cons_zero, List.set_cons_succ]
  refine oneL (i := 10) rfl (by kernel_rfl) rfl (wp_store1 5 _ _ rfl g q rfl (.int .u8 (x + 16)) rfl rfl sz_u8 _ 5 hC.out (by omega) (fun W1 hC1 hA1 => ⟨trivial, ?_⟩))
  simp only [Act.put, List.setIfInBounds_toArray, List.set_cons_zero, List.set_cons_succ]
  refine wpAnyH_done (by kernel_rfl) ?_ _
  exact ret_none rfl rfl ⟨rfl, hC1, hA1.below (⟨rfl, rfl, rfl, Nat.le_refl _, fun _ _ => rfl⟩ : Below g w { w with drawn := w.drawn + 1 }) (Nat.le_refl _) (Nat.le_of_lt hgs)⟩
set_option maxHeartbeats 8000000 in
theorem setq_5 (g n q : Nat) (i : Int) (hi : i = 8 * (q : Int) + 5) (C : Array Value) (x : Int) (w : World) (hC0 : w.heap[g]? = some (.cells C 5 (0, 0))) (hs : C.size = n) (hq : q < n) (hn : 8 * n < 1152921504606846976) (hxc0 : C[q]? = some (.int .u8 x)) (hx0 : 0 ≤ x) (hx1 : x < 32) :
    Calls Tryd.prog 119 #[.slice (some ⟨g, 0, none⟩) n n, .int .i64 i] w fun e w' => e = .returned (.tuple #[]) ∧ w'.heap[g]? = some (.cells (C.setIfInBounds q (.int .u8 (x + 32))) 5 (0, 0)) ∧ Below g w w' := by
  have hC := Lib.hid hC0
  have hxc := Lib.hid hxc0
  clear hC0 hxc0
  have hgs := block_lt hC.out
  have hb6 : bits BinOp.and IntKind.i64 i 7 = 5 := by rw [and7 _ (by omega) (by omega)]; omega
  have hbq : i / 8 = (q : Int) := by omega
  clear hi
  have hb7 : IntKind.u8.wrap 32 = 32 := by decide +kernel
  have hb8 : bits BinOp.or IntKind.u8 x 32 = x + 32 := by
    have h : ∀ n : Fin 32, bits BinOp.or IntKind.u8 ((n : Nat) : Int) 32 = ((n : Nat) : Int) + 32 := by decide +kernel
    have h2 := h ⟨x.toNat, by omega⟩
    rw [show ((x.toNat : Nat) : Int) = x by omega] at h2
    exact h2
  go_enter Tryd.func119, Tryd.ntmps119
  go_wp2
  refine wp_region_held (S := fun _ => True) (by kernel_rfl) ?_
  have hTT : True := trivial
  refine takeL (i := 0) (v := (.slice (some ⟨g, 0, none⟩) n n)) rfl (by kernel_rfl) (by kernel_rfl) (by kernel_rfl) (fun _ _ _ h => h) rfl (by assumption) (fun w' hS' => by go_simp) ?_
  simp only [Act.put, List.setIfInBounds_toArray, List.set_cons_zero, List.set_cons_succ]
  refine takeL (i := 1) (v := (.int .i64 i)) rfl (by kernel_rfl) (by kernel_rfl) (by kernel_rfl) (fun _ _ _ h => h) rfl (by assumption) (fun w' hS' => by go_simp) ?_
  simp only [Act.put, List.setIfInBounds_toArray, List.set_cons_zero, List.set_cons_succ]
  refine takeL (i := 2) (v := (.int .i64 (q : Int))) rfl (by kernel_rfl) (by kernel_rfl) (by kernel_rfl) (fun _ _ _ h => h) rfl (by assumption) (fun w' hS' => by go_simp) ?_
  simp only [Act.put, List.setIfInBounds_toArray, List.set_cons_zero, List.set_cons_succ]
  refine takeL (i := 3) (v := (.pointer (some ⟨g, q, none⟩))) rfl (by kernel_rfl) (by kernel_rfl) (by kernel_rfl) (fun _ _ _ h => h) rfl (by assumption) (fun w' _ => run_index_slice w' 34 5 _ _ (by rfl) Tryd.underlying34 1 sz_u8 g 0 n n (by rfl) .i64 q (by rfl) hq _ (by omega)) ?_
  simp only [Act.put, List.setIfInBounds_toArray, List.set_cons_zero, List.set_cons_succ]
  refine takeL (i := 5) (v := (.int .i64 i)) rfl (by kernel_rfl) (by kernel_rfl) (by kernel_rfl) (fun _ _ _ h => h) rfl (by assumption) (fun w' hS' => by go_simp) ?_
  simp only [Act.put, List.setIfInBounds_toArray, List.set_cons_zero, List.set_cons_succ]
  refine takeL (i := 6) (v := (.int .i64 5)) rfl (by kernel_rfl) (by kernel_rfl) (by kernel_rfl) (fun _ _ _ h => h) rfl (by assumption) (fun w' hS' => by go_simp) ?_
  simp only [Act.put, List.setIfInBounds_toArray, List.set_cons_zero, List.set_cons_succ]
  refine takeL (i := 7) (v := (.int .u8 32)) rfl (by kernel_rfl) (by kernel_rfl) (by kernel_rfl) (fun _ _ _ h => h) rfl (by assumption) (fun w' hS' => by go_simp) ?_
  simp only [Act.put, List.setIfInBounds_toArray, List.set_cons_zero, List.set_cons_succ]
  refine oneL (i := 4) rfl (by kernel_rfl) rfl (wp_ran _ (run_load_cell _ 5 _ (by rfl) ⟨g, q, none⟩ (by rfl) (.int .u8 x) ((cell_of_row { w with drawn := w.drawn + 1 } g q _ _ _ hC.out).trans hxc.out) _ Tryd.underlying5 rfl) ⟨trivial, ?_⟩)
  simp only [Act.put, List.setIfInBounds_toArray, List.set_cons_zero, List.set_cons_succ]
  refine takeL (i := 8) (v := (.int .u8 (x + 32))) rfl (by kernel_rfl) (by kernel_rfl) (by kernel_rfl) (fun _ _ _ h => h) rfl (by assumption) (fun w' hS' => by go_simp) ?_
  simp only [Act.put, List.setIfInBounds_toArray, List.set_cons_zero, List.set_cons_succ]
  refine takeL (i := 9) (v := (.pointer (some ⟨g, q, none⟩))) rfl (by kernel_rfl) (by kernel_rfl) (by kernel_rfl) (fun _ _ _ h => h) rfl (by assumption) (fun w' _ => run_index_slice w' 34 5 _ _ (by rfl) Tryd.underlying34 1 sz_u8 g 0 n n (by rfl) .i64 q (by rfl) hq _ (by omega)) ?_
  simp only [Act.put, List.setIfInBounds_toArray, List.set_cons_zero, List.set_cons_succ]
  refine oneL (i := 10) rfl (by kernel_rfl) rfl (wp_store1 5 _ _ rfl g q rfl (.int .u8 (x + 32)) rfl rfl sz_u8 _ 5 hC.out (by omega) (fun W1 hC1 hA1 => ⟨trivial, ?_⟩))
  simp only [Act.put, List.setIfInBounds_toArray, List.set_cons_zero, List.set_cons_succ]
  refine wpAnyH_done (by kernel_rfl) ?_ _
  exact ret_none rfl rfl ⟨rfl, hC1, hA1.below (⟨rfl, rfl, rfl, Nat.le_refl _, fun _ _ => rfl⟩ : Below g w { w with drawn := w.drawn + 1 }) (Nat.le_refl _) (Nat.le_of_lt hgs)⟩
set_option maxHeartbeats 8000000 in
theorem setq_6 (g n q : Nat) (i : Int) (hi : i = 8 * (q : Int) + 6) (C : Array Value) (x : Int) (w : World) (hC0 : w.heap[g]? = some (.cells C 5 (0, 0))) (hs : C.size = n) (hq : q < n) (hn : 8 * n < 1152921504606846976) (hxc0 : C[q]? = some (.int .u8 x)) (hx0 : 0 ≤ x) (hx1 : x < 64) :
    Calls Tryd.prog 119 #[.slice (some ⟨g, 0, none⟩) n n, .int .i64 i] w fun e w' => e = .returned (.tuple #[]) ∧ w'.heap[g]? = some (.cells (C.setIfInBounds q (.int .u8 (x + 64))) 5 (0, 0)) ∧ Below g w w' := by
  have hC := Lib.hid hC0
  have hxc := Lib.hid hxc0
  clear hC0 hxc0
  have hgs := block_lt hC.out
  have hb6 : bits BinOp.and IntKind.i64 i 7 = 6 := by rw [and7 _ (by omega) (by omega)]; omega
  have hbq : i / 8 = (q : Int) := by omega
  clear hi
  have hb7 : IntKind.u8.wrap 64 = 64 := by decide +kernel
  have hb8 : bits BinOp.or IntKind.u8 x 64 = x + 64 := by
    have h : ∀ n : Fin 64, bits BinOp.or IntKind.u8 ((n : Nat) : Int) 64 = ((n : Nat) : Int) + 64 := by decide +kernel
    have h2 := h ⟨x.toNat, by omega⟩
    rw [show ((x.toNat : Nat) : Int) = x by omega] at h2
    exact h2
  go_enter Tryd.func119, Tryd.ntmps119
  go_wp2
  refine wp_region_held (S := fun _ => True) (by kernel_rfl) ?_
  have hTT : True := trivial
  refine takeL (i := 0) (v := (.slice (some ⟨g, 0, none⟩) n n)) rfl (by kernel_rfl) (by kernel_rfl) (by kernel_rfl) (fun _ _ _ h => h) rfl (by assumption) (fun w' hS' => by go_simp) ?_
  simp only [Act.put, List.setIfInBounds_toArray, List.set_cons_zero, List.set_cons_succ]
  refine takeL (i := 1) (v := (.int .i64 i)) rfl (by kernel_rfl) (by kernel_rfl) (by kernel_rfl) (fun _ _ _ h => h) rfl (by assumption) (fun w' hS' => by go_simp) ?_
  simp only [Act.put, List.setIfInBounds_toArray, List.set_cons_zero, List.set_cons_succ]
  refine takeL (i := 2) (v := (.int .i64 (q : Int))) rfl (by kernel_rfl) (by kernel_rfl) (by kernel_rfl) (fun _ _ _ h => h) rfl (by assumption) (fun w' hS' => by go_simp) ?_
  simp only [Act.put, List.setIfInBounds_toArray, List.set_cons_zero, List.set_cons_succ]
  refine takeL (i := 3) (v := (.pointer (some ⟨g, q, none⟩))) rfl (by kernel_rfl) (by kernel_rfl) (by kernel_rfl) (fun _ _ _ h => h) rfl (by assumption) (fun w' _ => run_index_slice w' 34 5 _ _ (by rfl) Tryd.underlying34 1 sz_u8 g 0 n n (by rfl) .i64 q (by rfl) hq _ (by omega)) ?_
  simp only [Act.put, List.setIfInBounds_toArray, List.set_cons_zero, List.set_cons_succ]
  refine takeL (i := 5) (v := (.int .i64 i)) rfl (by kernel_rfl) (by kernel_rfl) (by kernel_rfl) (fun _ _ _ h => h) rfl (by assumption) (fun w' hS' => by go_simp) ?_
  simp only [Act.put, List.setIfInBounds_toArray, List.set_cons_zero, List.set_cons_succ]
  refine takeL (i := 6) (v := (.int .i64 6)) rfl (by kernel_rfl) (by kernel_rfl) (by kernel_rfl) (fun _ _ _ h => h) rfl (by assumption) (fun w' hS' => by go_simp) ?_
  simp only [Act.put, List.setIfInBounds_toArray, List.set_cons_zero, List.set_cons_succ]
  refine takeL (i := 7) (v := (.int .u8 64)) rfl (by kernel_rfl) (by kernel_rfl) (by kernel_rfl) (fun _ _ _ h => h) rfl (by assumption) (fun w' hS' => by go_simp) ?_
  simp only [Act.put, List.setIfInBounds_toArray, List.set_cons_zero, List.set_cons_succ]
  refine oneL (i := 4) rfl (by kernel_rfl) rfl (wp_ran _ (run_load_cell _ 5 _ (by rfl) ⟨g, q, none⟩ (by rfl) (.int .u8 x) ((cell_of_row { w with drawn := w.drawn + 1 } g q _ _ _ hC.out).trans hxc.out) _ Tryd.underlying5 rfl) ⟨trivial, ?_⟩)
  simp only [Act.put, List.setIfInBounds_toArray, List.set_cons_zero, List.set_cons_succ]
  refine takeL (i := 8) (v := (.int .u8 (x + 64))) rfl (by kernel_rfl) (by kernel_rfl) (by kernel_rfl) (fun _ _ _ h => h) rfl (by assumption) (fun w' hS' => by go_simp) ?_
  simp only [Act.put, List.setIfInBounds_toArray, List.set_cons_zero, List.set_cons_succ]
  refine takeL (i := 9) (v := (.pointer (some ⟨g, q, none⟩))) rfl (by kernel_rfl) (by kernel_rfl) (by kernel_rfl) (fun _ _ _ h => h) rfl (by assumption) (fun w' _ => run_index_slice w' 34 5 _ _ (by rfl) Tryd.underlying34 1 sz_u8 g 0 n n (by rfl) .i64 q (by rfl) hq _ (by omega)) ?_
  simp only [Act.put, List.setIfInBounds_toArray, List.set_cons_zero, List.set_cons_succ]
  refine oneL (i := 10) rfl (by kernel_rfl) rfl (wp_store1 5 _ _ rfl g q rfl (.int .u8 (x + 64)) rfl rfl sz_u8 _ 5 hC.out (by omega) (fun W1 hC1 hA1 => ⟨trivial, ?_⟩))
  simp only [Act.put, List.setIfInBounds_toArray, List.set_cons_zero, List.set_cons_succ]
  refine wpAnyH_done (by kernel_rfl) ?_ _
  exact ret_none rfl rfl ⟨rfl, hC1, hA1.below (⟨rfl, rfl, rfl, Nat.le_refl _, fun _ _ => rfl⟩ : Below g w { w with drawn := w.drawn + 1 }) (Nat.le_refl _) (Nat.le_of_lt hgs)⟩
set_option maxHeartbeats 8000000 in
theorem setq_7 (g n q : Nat) (i : Int) (hi : i = 8 * (q : Int) + 7) (C : Array Value) (x : Int) (w : World) (hC0 : w.heap[g]? = some (.cells C 5 (0, 0))) (hs : C.size = n) (hq : q < n) (hn : 8 * n < 1152921504606846976) (hxc0 : C[q]? = some (.int .u8 x)) (hx0 : 0 ≤ x) (hx1 : x < 128) :
    Calls Tryd.prog 119 #[.slice (some ⟨g, 0, none⟩) n n, .int .i64 i] w fun e w' => e = .returned (.tuple #[]) ∧ w'.heap[g]? = some (.cells (C.setIfInBounds q (.int .u8 (x + 128))) 5 (0, 0)) ∧ Below g w w' := by
  have hC := Lib.hid hC0
  have hxc := Lib.hid hxc0
  clear hC0 hxc0
  have hgs := block_lt hC.out
  have hb6 : bits BinOp.and IntKind.i64 i 7 = 7 := by rw [and7 _ (by omega) (by omega)]; omega
  have hbq : i / 8 = (q : Int) := by omega
  clear hi
  have hb7 : IntKind.u8.wrap 128 = 128 := by decide +kernel
  have hb8 : bits BinOp.or IntKind.u8 x 128 = x + 128 := by
    have h : ∀ n : Fin 128, bits BinOp.or IntKind.u8 ((n : Nat) : Int) 128 = ((n : Nat) : Int) + 128 := by decide +kernel
    have h2 := h ⟨x.toNat, by omega⟩
    rw [show ((x.toNat : Nat) : Int) = x by omega] at h2
    exact h2
  go_enter Tryd.func119, Tryd.ntmps119
  go_wp2
  refine wp_region_held (S := fun _ => True) (by kernel_rfl) ?_
  have hTT : True := trivial
  refine takeL (i := 0) (v := (.slice (some ⟨g, 0, none⟩) n n)) rfl (by kernel_rfl) (by kernel_rfl) (by kernel_rfl) (fun _ _ _ h => h) rfl (by assumption) (fun w' hS' => by go_simp) ?_
  simp only [Act.put, List.setIfInBounds_toArray, List.set_cons_zero, List.set_cons_succ]
  refine takeL (i := 1) (v := (.int .i64 i)) rfl (by kernel_rfl) (by kernel_rfl) (by kernel_rfl) (fun _ _ _ h => h) rfl (by assumption) (fun w' hS' => by go_simp) ?_
  simp only [Act.put, List.setIfInBounds_toArray, List.set_cons_zero, List.set_cons_succ]
  refine takeL (i := 2) (v := (.int .i64 (q : Int))) rfl (by kernel_rfl) (by kernel_rfl) (by kernel_rfl) (fun _ _ _ h => h) rfl (by assumption) (fun w' hS' => by go_simp) ?_
  simp only [Act.put, List.setIfInBounds_toArray, List.set_cons_zero, List.set_cons_succ]
  refine takeL (i := 3) (v := (.pointer (some ⟨g, q, none⟩))) rfl (by kernel_rfl) (by kernel_rfl) (by kernel_rfl) (fun _ _ _ h => h) rfl (by assumption) (fun w' _ => run_index_slice w' 34 5 _ _ (by rfl) Tryd.underlying34 1 sz_u8 g 0 n n (by rfl) .i64 q (by rfl) hq _ (by omega)) ?_
  simp only [Act.put, List.setIfInBounds_toArray, List.set_cons_zero, List.set_cons_succ]
  refine takeL (i := 5) (v := (.int .i64 i)) rfl (by kernel_rfl) (by kernel_rfl) (by kernel_rfl) (fun _ _ _ h => h) rfl (by assumption) (fun w' hS' => by go_simp) ?_
  simp only [Act.put, List.setIfInBounds_toArray, List.set_cons_zero, List.set_cons_succ]
  refine takeL (i := 6) (v := (.int .i64 7)) rfl (by kernel_rfl) (by kernel_rfl) (by kernel_rfl) (fun _ _ _ h => h) rfl (by assumption) (fun w' hS' => by go_simp) ?_
  simp only [Act.put, List.setIfInBounds_toArray, List.set_cons_zero, List.set_cons_succ]
  refine takeL (i := 7) (v := (.int .u8 128)) rfl (by kernel_rfl) (by kernel_rfl) (by kernel_rfl) (fun _ _ _ h => h) rfl (by assumption) (fun w' hS' => by go_simp) ?_
  simp only [Act.put, List.setIfInBounds_toArray, List.set_cons_zero, List.set_cons_succ]
  refine oneL (i := 4) rfl (by kernel_rfl) rfl (wp_ran _ (run_load_cell _ 5 _ (by rfl) ⟨g, q, none⟩ (by rfl) (.int .u8 x) ((cell_of_row { w with drawn := w.drawn + 1 } g q _ _ _ hC.out).trans hxc.out) _ Tryd.underlying5 rfl) ⟨trivial, ?_⟩)
  simp only [Act.put, List.setIfInBounds_toArray, List.set_cons_zero, List.set_cons_succ]
  refine takeL (i := 8) (v := (.int .u8 (x + 128))) rfl (by kernel_rfl) (by kernel_rfl) (by kernel_rfl) (fun _ _ _ h => h) rfl (by assumption) (fun w' hS' => by go_simp) ?_
  simp only [Act.put, List.setIfInBounds_toArray, List.set_cons_zero, List.set_cons_succ]
  refine takeL (i := 9) (v := (.pointer (some ⟨g, q, none⟩))) rfl (by kernel_rfl) (by kernel_rfl) (by kernel_rfl) (fun _ _ _ h => h) rfl (by assumption) (fun w' _ => run_index_slice w' 34 5 _ _ (by rfl) Tryd.underlying34 1 sz_u8 g 0 n n (by rfl) .i64 q (by rfl) hq _ (by omega)) ?_
  simp only [Act.put, List.setIfInBounds_toArray, List.set_cons_zero, List.set_cons_succ]
  refine oneL (i := 10) rfl (by kernel_rfl) rfl (wp_store1 5 _ _ rfl g q rfl (.int .u8 (x + 128)) rfl rfl sz_u8 _ 5 hC.out (by omega) (fun W1 hC1 hA1 => ⟨trivial, ?_⟩))
  simp only [Act.put, List.setIfInBounds_toArray, List.set_cons_zero, List.set_cons_succ]
  refine wpAnyH_done (by kernel_rfl) ?_ _
  exact ret_none rfl rfl ⟨rfl, hC1, hA1.below (⟨rfl, rfl, rfl, Nat.le_refl _, fun _ _ => rfl⟩ : Below g w { w with drawn := w.drawn + 1 }) (Nat.le_refl _) (Nat.le_of_lt hgs)⟩
end Go.Proofs.YtihelknkcomjpaaDoor
namespace Go.Proofs.YtihelknkcomjpaaDoor
open Go.RowKit BigFrame
set_option maxRecDepth 100000
theorem eight {k : Nat} (h : k < 8) : k = 0 ∨ k = 1 ∨ k = 2 ∨ k = 3 ∨ k = 4 ∨ k = 5 ∨ k = 6 ∨ k = 7 := by omega
/-- Byte j of the first k bits. -/
def bitC (l : List Int) : Nat → Nat → Int
  | 0, _ => 0
  | k + 1, j => bitC l k j + (if j = k / 8 ∧ l.getD k 0 ≠ 0 then 2 ^ (k % 8) else 0)
theorem pow2_le {a b : Nat} (h : a ≤ b) : (2 : Int) ^ a ≤ 2 ^ b := by exact_mod_cast Nat.pow_le_pow_right (by decide) h
theorem bitC_lt (l : List Int) : ∀ k j, 0 ≤ bitC l k j ∧ bitC l k j < 2 ^ (min 8 (k - 8 * j))
  | 0, j => by simp [bitC]
  | k + 1, j => by
    obtain ⟨h0, h1⟩ := bitC_lt l k j
    simp only [bitC]
    split
    next h =>
      obtain ⟨h, _⟩ := h
      have e1 : min 8 (k - 8 * j) = k % 8 := by omega
      have e2 : min 8 (k + 1 - 8 * j) = k % 8 + 1 := by omega
      rw [e1] at h1
      rw [e2, Int.pow_succ]
      generalize (2 : Int) ^ (k % 8) = p at *
      omega
    next h =>
      have := pow2_le (show min 8 (k - 8 * j) ≤ min 8 (k + 1 - 8 * j) by omega)
      omega
theorem bitC_byte (l : List Int) (k j : Nat) : 0 ≤ bitC l k j ∧ bitC l k j ≤ 255 := by
  obtain ⟨h0, h1⟩ := bitC_lt l k j
  have := pow2_le (show min 8 (k - 8 * j) ≤ 8 by omega)
  have e : (2 : Int) ^ 8 = 256 := by decide
  omega
theorem bitC_congr {l m : List Int} : ∀ k, (∀ i, i < k → l.getD i 0 = m.getD i 0) → bitC l k = bitC m k
  | 0, _ => rfl
  | k + 1, h => by
    funext j
    simp only [bitC]
    rw [bitC_congr k fun i hi => h i (by omega), h k (by omega)]
/-- A row of bytes that holds the first k bits. -/
def bitA (l : List Int) (n k : Nat) : Array Value := (fcells n (fun _ => .u8) (bitC l k)).toArray
theorem bitA_size (l : List Int) (n k : Nat) : (bitA l n k).size = n := by simp [bitA, fcells]
theorem bitA_get (l : List Int) (n k j : Nat) (h : j < n) : (bitA l n k)[j]? = some (.int .u8 (bitC l k j)) := by
  unfold bitA
  rw [List.getElem?_toArray, fcells_get _ _ _ _ h]
  rfl
theorem bitA_set {l : List Int} {n k : Nat} (hk : k < 8 * n) (hb : l.getD k 0 ≠ 0) : (bitA l n k).setIfInBounds (k / 8) (.int .u8 (bitC l k (k / 8) + 2 ^ (k % 8))) = bitA l n (k + 1) := by
  refine cells_eq (by rw [Array.size_setIfInBounds, bitA_size]) fun j hj => ?_
  rw [Array.getElem?_setIfInBounds]
  by_cases e : k / 8 = j
  · rw [if_pos e, if_pos (by rw [bitA_size]; omega)]
    simp only [bitC, CK.mk]
    rw [if_pos ⟨e.symm, hb⟩, e]
  · rw [if_neg e, bitA_get _ _ _ _ hj]
    simp only [bitC, CK.mk]
    rw [if_neg (fun h => e h.1.symm), Int.add_zero]
theorem bitA_skip {l : List Int} {n k : Nat} (hb : l.getD k 0 = 0) : bitA l n (k + 1) = bitA l n k := by
  unfold bitA
  rw [fcells_congr (g := bitC l k) fun j _ => by simp only [bitC]; rw [if_neg (fun h => h.2 hb), Int.add_zero]]
theorem bitA_made (l : List Int) (n : Nat) : madeCells #[.int .u8 0] n = bitA l n 0 := by
  refine cells_eq (by simp [madeCells]) fun j hj => ?_
  simp [madeCells, hj, Nat.mod_one, bitC, CK.mk]
theorem bitA_congr {l m : List Int} {n k : Nat} (h : ∀ i, i < k → l.getD i 0 = m.getD i 0) : bitA l n k = bitA m n k := by
  unfold bitA
  rw [bitC_congr k h]
set_option maxHeartbeats 8000000 in
theorem bitset_any (g n k : Nat) (l : List Int) (w : World) (hC : w.heap[g]? = some (.cells (bitA l n k) 5 (0, 0))) (hk : k < 8 * n) (hn : 8 * n < 1152921504606846976) (hb : l.getD k 0 ≠ 0) :
    Calls Tryd.prog 119 #[.slice (some ⟨g, 0, none⟩) n n, .int .i64 (k : Int)] w fun e w' => e = .returned (.tuple #[]) ∧ w'.heap[g]? = some (.cells (bitA l n (k + 1)) 5 (0, 0)) ∧ Below g w w' := by
  rw [← bitA_set hk hb]
  obtain ⟨h0, h1⟩ := bitC_lt l k (k / 8)
  rw [show min 8 (k - 8 * (k / 8)) = k % 8 by omega] at h1
  have hx := bitA_get l n k (k / 8) (by omega)
  have hs := bitA_size l n k
  obtain ⟨q, hq⟩ : ∃ q, q = k / 8 := ⟨_, rfl⟩
  obtain ⟨r, hr⟩ : ∃ r, r = k % 8 := ⟨_, rfl⟩
  rw [← hq] at h0 h1 hx ⊢
  rw [← hr] at h1 ⊢
  have h8 : r < 8 := by omega
  rcases eight h8 with rfl | rfl | rfl | rfl | rfl | rfl | rfl | rfl
  · exact setq_0 g n q _ (by omega) _ _ w hC hs (by omega) hn hx h0 h1
  · exact setq_1 g n q _ (by omega) _ _ w hC hs (by omega) hn hx h0 h1
  · exact setq_2 g n q _ (by omega) _ _ w hC hs (by omega) hn hx h0 h1
  · exact setq_3 g n q _ (by omega) _ _ w hC hs (by omega) hn hx h0 h1
  · exact setq_4 g n q _ (by omega) _ _ w hC hs (by omega) hn hx h0 h1
  · exact setq_5 g n q _ (by omega) _ _ w hC hs (by omega) hn hx h0 h1
  · exact setq_6 g n q _ (by omega) _ _ w hC hs (by omega) hn hx h0 h1
  · exact setq_7 g n q _ (by omega) _ _ w hC hs (by omega) hn hx h0 h1
set_option maxHeartbeats 8000000 in
theorem layB_any (g n m : Nat) (l : List Int) (va : Option Addr) (c : Nat) (w : World) (hg0 : w.heap[g]? = some (.cells (bitA l n 0) 5 (0, 0))) (hl0 : Row w va .bool l) (hlow0 : ∀ b o, va = some ⟨b, o, none⟩ → 0 < m → b < g) (hm : l.length = m) (hmn : m ≤ 8 * n) (hn : 8 * n < 1152921504606846976) :
    Calls Tryd.prog 118 #[.slice (some ⟨g, 0, none⟩) n n, .slice va m c] w fun e w' => e = .returned (.slice (some ⟨g, 0, none⟩) n n) ∧ w'.heap[g]? = some (.cells (bitA l n m) 5 (0, 0)) ∧ Below g w w' := by
  have hl := Lib.hid hl0
  have hlow := Lib.hid hlow0
  have hg := Lib.hid hg0
  clear hl0 hlow0 hg0
  have hgs := block_lt hg.out
  go_enter Tryd.func118, Tryd.ntmps118
  go_wp2
  go_loopw [9] (fun i wr => ∃ k : Nat, k ≤ m ∧ i = .int .i64 (k : Int) ∧ wr.heap[g]? = some (.cells (bitA l n k) 5 (0, 0)) ∧ Below g w wr) (fun i _ => m - (intOf i).toNat)
  case atStart => exact ⟨0, by omega, rfl, hg.out, Below.refl _ _⟩
  case round =>
    obtain ⟨k, hk, rfl, hC1, hB1⟩ := hrel
    have hC := Lib.hid hC1
    have hB := Lib.hid hB1
    clear hC1 hB1
    by_cases hlt : k < m
    · obtain ⟨b, o, e0, hcell0⟩ := hl.out.cell k (by omega)
      subst e0
      have hcell := Lib.hid ((hB.out.cell (p := ⟨b, o + k, none⟩) (hlow.out b o rfl (by omega))).trans hcell0)
      clear hcell0
      have lk : decide ((k : Int) < (m : Int)) = true := by simp; omega
      by_cases hz : l.getD k 0 = 0
      · have hst := Lib.hid (bitA_skip (n := n) hz)
        have hbit : CK.mk .bool (l.getD k 0) = .bool false := by rw [hz]; rfl
        rw [hbit] at hcell
        clear hbit hz
        go_wp2_with (first
          | ((with_reducible refine at_iaddr 74 ?_); go_loud (refine wpList_value (by rfl) _ (run_index_slice _ 74 4 _ _ rfl Tryd.underlying74 1 sz_bool b o m c rfl .i64 k rfl hlt (o + k) (by omega)) ?_))
          | ((with_reducible refine at_load 4 ?_); go_loud (refine wpList_value (by rfl) _ (run_load_cell _ 4 _ (by rfl) _ rfl _ hcell.out _ Tryd.underlying4 rfl) ?_)))
        first
          | exact ⟨⟨k + 1, by omega, by go_num, by rw [hst.out]; exact hC.out, hB.out⟩, by simp [intOf]; omega⟩
          | (refine ⟨?_, by simp [intOf]; omega⟩
             (repeat apply Exists.intro)
             exact ⟨⟨k + 1, by omega, by go_num, by rw [hst.out]; exact hC.out, hB.out⟩, rfl⟩)
      · have hbit : CK.mk .bool (l.getD k 0) = .bool true := by simp only [CK.mk]; rw [decide_eq_true hz]
        have hset := Lib.hid (bitset_any g n k l wr hC.out (by omega) hn hz)
        rw [hbit] at hcell
        clear hbit hz
        go_wp2_with (first
          | ((with_reducible refine at_iaddr 74 ?_); go_loud (refine wpList_value (by rfl) _ (run_index_slice _ 74 4 _ _ rfl Tryd.underlying74 1 sz_bool b o m c rfl .i64 k rfl hlt (o + k) (by omega)) ?_))
          | ((with_reducible refine at_load 4 ?_); go_loud (refine wpList_value (by rfl) _ (run_load_cell _ 4 _ (by rfl) _ rfl _ hcell.out _ Tryd.underlying4 rfl) ?_))
          | ((with_reducible refine hset.out.mono ?_)
             rintro e W ⟨rfl, hC3, hB3⟩
             have hC4 := Lib.hid hC3
             have hB4 := Lib.hid (hB.out.trans hB3)
             clear hC3 hB3))
        first
          | exact ⟨⟨k + 1, by omega, by go_num, hC4.out, hB4.out⟩, by simp [intOf]; omega⟩
          | (refine ⟨?_, by simp [intOf]; omega⟩
             (repeat apply Exists.intro)
             exact ⟨⟨k + 1, by omega, by go_num, hC4.out, hB4.out⟩, rfl⟩)
    · have e : k = m := by omega
      subst e
      have lk : decide ((k : Int) < (k : Int)) = false := by simp
      clear hlt hk
      go_wp2
      exact ret_t1 rfl _ rfl rfl ⟨rfl, hC.out, hB.out⟩
theorem row_low {w : World} {va : Option Addr} {k : CK} {l : List Int} {m : Nat} (h : Row w va k l) (hm : l.length = m) : ∀ b o, va = some ⟨b, o, none⟩ → 0 < m → b < w.heap.size := fun b o e h0 => by
  obtain ⟨b', o', e', hc⟩ := h.cell 0 (by omega)
  rw [e] at e'
  injection e' with e1
  injection e1 with e2 _ _
  subst e2
  exact block_lt_of_cell hc
set_option maxHeartbeats 8000000 in
theorem vectorB_any (l : List Int) (m : Nat) (va : Option Addr) (c : Nat) (w : World) (hl0 : Row w va .bool l) (hm : l.length = m) (hmn : m < 4294967296) :
    Calls Tryd.prog 120 #[.slice va m c] w fun e w' => e = .returned (.slice (some ⟨w.heap.size, 0, none⟩) ((m + 7) / 8) ((m + 7) / 8)) ∧ w'.heap[w.heap.size]? = some (.cells (bitA l ((m + 7) / 8) m) 5 (0, 0)) ∧ Below w.heap.size w w' := by
  obtain ⟨n, hn⟩ : ∃ n, n = (m + 7) / 8 := ⟨_, rfl⟩
  rw [← hn]
  have hb0 : Below w.heap.size w (w.alloc (.cells (bitA l n 0) 5)) := (Below.refl _ _).alloc (Nat.le_refl _) _
  have hlay := Lib.hid (layB_any w.heap.size n m l va c (w.alloc (.cells (bitA l n 0) 5)) (heap_new _ _ _ _ rfl) (hl0.later hb0) (row_low hl0 hm) hm (by omega) (by omega))
  have hb := Lib.hid hb0
  have hni : ((m : Int) + 7) / 8 = (n : Int) := by omega
  have hnn : n ≤ 4294967296 := by omega
  have hmd := Lib.hid (bitA_made l n)
  clear hl0 hb0 hn
  go_enter Tryd.func120, Tryd.ntmps120
  go_wp2_with (first
    | ((with_reducible refine at_make 34 ?_); go_loud (refine wpList_plain rfl fun K hK => wp_ran _ (run_makeBytes _ (.tmp 6) (.tmp 6) rfl n (congrArg (Value.int IntKind.i64) hni) (congrArg (Value.int IntKind.i64) hni) hnn) (hK _ _ ?_)); clear hK K; rw [hmd.out])
    | ((with_reducible refine hlay.out.mono ?_)
       rintro e W ⟨rfl, hC3, hB3⟩
       have hC := Lib.hid hC3
       have hB := Lib.hid (hb.out.trans hB3)
       clear hC3 hB3))
  exact ret_t1 rfl _ rfl rfl ⟨rfl, hC.out, hB.out⟩
theorem getD_snoc (l : List Int) (x : Int) (i : Nat) (h : i < l.length) : l.getD i 0 = (l ++ [x]).getD i 0 := by
  simp only [List.getD]
  rw [List.getElem?_append_left h]
theorem getD_last (l : List Int) (x : Int) (m : Nat) (h : l.length = m) : (l ++ [x]).getD m 0 = x := by
  subst h
  simp [List.getD]
set_option maxHeartbeats 8000000 in
theorem listB_any (l : List Int) (m : Nat) (va : Option Addr) (c : Nat) (w : World) (hl0 : Row w va .bool l) (hm : l.length = m) (hmn : m < 4294967296) :
    Calls Tryd.prog 82 #[.slice va m c] w fun e w' => e = .returned (.slice (some ⟨w.heap.size, 0, none⟩) (m / 8 + 1) (m / 8 + 1)) ∧ w'.heap[w.heap.size]? = some (.cells (bitA (l ++ [1]) (m / 8 + 1) (m + 1)) 5 (0, 0)) ∧ Below w.heap.size w w' := by
  obtain ⟨n, hn⟩ : ∃ n, n = m / 8 + 1 := ⟨_, rfl⟩
  rw [← hn]
  have hb0 : Below w.heap.size w (w.alloc (.cells (bitA l n 0) 5)) := (Below.refl _ _).alloc (Nat.le_refl _) _
  have hlay := Lib.hid (layB_any w.heap.size n m l va c (w.alloc (.cells (bitA l n 0) 5)) (heap_new _ _ _ _ rfl) (hl0.later hb0) (row_low hl0 hm) hm (by omega) (by omega))
  have hset0 : ∀ W : World, W.heap[w.heap.size]? = some (.cells (bitA l n m) 5 (0, 0)) → Calls Tryd.prog 119 #[.slice (some ⟨w.heap.size, 0, none⟩) n n, .int .i64 (m : Int)] W fun e w' => e = .returned (.tuple #[]) ∧ w'.heap[w.heap.size]? = some (.cells (bitA (l ++ [1]) n (m + 1)) 5 (0, 0)) ∧ Below w.heap.size W w' := fun W hW =>
    bitset_any w.heap.size n m (l ++ [1]) W (by rw [← bitA_congr (l := l) fun i hi => getD_snoc l 1 i (by omega)]; exact hW) (by omega) (by omega) (by rw [getD_last l 1 m hm]; decide)
  have hset := Lib.hid hset0
  have hb := Lib.hid hb0
  have hni : (m : Int) / 8 + 1 = (n : Int) := by omega
  have hnn : n ≤ 4294967296 := by omega
  have hmd := Lib.hid (bitA_made l n)
  clear hl0 hb0 hn hset0
  go_enter Tryd.func82, Tryd.ntmps82
  go_wp2_with (first
    | ((with_reducible refine at_make 34 ?_); go_loud (refine wpList_plain rfl fun K hK => wp_ran _ (run_makeBytes _ _ _ rfl n rfl rfl hnn) (hK _ _ ?_)); clear hK K; rw [hmd.out])
    | ((with_reducible refine (hset.out _ hC.out).mono ?_)
       rintro e W2 ⟨rfl, hC4, hB4⟩
       have hC2 := Lib.hid hC4
       have hB2 := Lib.hid (hB.out.trans hB4)
       clear hC4 hB4)
    | ((with_reducible refine hlay.out.mono ?_)
       rintro e W ⟨rfl, hC3, hB3⟩
       have hC := Lib.hid hC3
       have hB := Lib.hid (hb.out.trans hB3)
       clear hC3 hB3))
  exact ret_t1 rfl _ rfl rfl ⟨rfl, hC2.out, hB2.out⟩
end Go.Proofs.YtihelknkcomjpaaDoor
namespace Go.Proofs.YtihelknkcomjpaaDoor
open Go.RowKit BigFrame
set_option maxRecDepth 100000
set_option maxHeartbeats 8000000 in
theorem rvectorB_any (l : List Int) (m : Nat) (va : Option Addr) (c : Nat) (w : World) (hl0 : Row w va .bool l) (hm : l.length = m) (hmn : m < 4294967296) :
    Calls Tryd.prog 85 #[.slice va m c] w fun e w' => e = .returned (.slice (some ⟨w.heap.size, 0, none⟩) ((m + 7) / 8) ((m + 7) / 8)) ∧ w'.heap[w.heap.size]? = some (.cells (bitA l ((m + 7) / 8) m) 5 (0, 0)) ∧ Below w.heap.size w w' := by
  obtain ⟨n, hn⟩ : ∃ n, n = (m + 7) / 8 := ⟨_, rfl⟩
  rw [← hn]
  have hl := Lib.hid hl0
  clear hl0
  have hni : ((m : Int) + 7) / 8 = (n : Int) := by omega
  have hnn : n ≤ 4294967296 := by omega
  have hmn8 : m ≤ 8 * n := by omega
  have hmd := Lib.hid (bitA_made l n)
  clear hn
  go_enter Tryd.func85, Tryd.ntmps85
  go_wp2_with (first
    | ((with_reducible refine at_make 34 ?_); go_loud (refine wpList_plain rfl fun K hK => wp_ran _ (run_makeBytes _ (.tmp 8) (.tmp 8) rfl n (congrArg (Value.int IntKind.i64) hni) (congrArg (Value.int IntKind.i64) hni) hnn) (hK _ _ ?_)); clear hK K; rw [hmd.out]))
  refine gen_world (fun W => W.heap[w.heap.size]? = some (.cells (bitA l n 0) 5 (0, 0)) ∧ Below w.heap.size w W) ⟨heap_new _ _ _ _ rfl, (Below.refl _ _).alloc (Nat.le_refl _) _⟩ ?_
  rintro W0 ⟨hC0, hB0⟩
  clear hni
  go_loopw [4] (fun i wr => ∃ k : Nat, k ≤ m ∧ i = .int .i64 (k : Int) ∧ wr.heap[w.heap.size]? = some (.cells (bitA l n k) 5 (0, 0)) ∧ Below w.heap.size w wr) (fun i _ => m - (intOf i).toNat)
  case atStart => exact ⟨0, by omega, rfl, hC0, hB0⟩
  case round =>
    obtain ⟨k, hk, rfl, hC1, hB1⟩ := hrel
    clear hC0 hB0
    have hC := Lib.hid hC1
    have hB := Lib.hid hB1
    clear hC1 hB1
    by_cases hlt : k < m
    · obtain ⟨b, o, e0, hcell0⟩ := (hl.out.later hB.out).cell k (by omega)
      subst e0
      have hcell := Lib.hid hcell0
      clear hcell0
      have lk : decide ((k : Int) < (m : Int)) = true := by simp; omega
      by_cases hz : l.getD k 0 = 0
      · have hst := Lib.hid (bitA_skip (n := n) hz)
        have hbit : CK.mk .bool (l.getD k 0) = .bool false := by rw [hz]; rfl
        rw [hbit] at hcell
        clear hbit hz
        go_wp2_with (first
          | ((with_reducible refine at_iaddr 74 ?_); go_loud (refine wpList_value (by rfl) _ (run_index_slice _ 74 4 _ _ rfl Tryd.underlying74 1 sz_bool b o m c rfl .i64 k rfl hlt (o + k) (by omega)) ?_))
          | ((with_reducible refine at_load 4 ?_); go_loud (refine wpList_value (by rfl) _ (run_load_cell _ 4 _ (by rfl) _ rfl _ hcell.out _ Tryd.underlying4 rfl) ?_)))
        first
          | exact ⟨⟨k + 1, by omega, by go_num, by rw [hst.out]; exact hC.out, hB.out⟩, by simp [intOf]; omega⟩
          | (refine ⟨?_, by simp [intOf]; omega⟩
             (repeat apply Exists.intro)
             exact ⟨⟨k + 1, by omega, by go_num, by rw [hst.out]; exact hC.out, hB.out⟩, rfl⟩)
      · have hbit : CK.mk .bool (l.getD k 0) = .bool true := by simp only [CK.mk]; rw [decide_eq_true hz]
        rw [hbit] at hcell
        have hset := Lib.hid (bitA_set (n := n) (by omega : k < 8 * n) hz)
        obtain ⟨hx0, hx1⟩ := bitC_lt l k (k / 8)
        rw [show min 8 (k - 8 * (k / 8)) = k % 8 by omega] at hx1
        obtain ⟨x, hx⟩ : ∃ x, x = bitC l k (k / 8) := ⟨_, rfl⟩
        have hxc := Lib.hid (bitA_get l n k (k / 8) (by omega))
        rw [← hx] at hx0 hx1 hxc hset
        obtain ⟨q, hq⟩ : ∃ q, q = k / 8 := ⟨_, rfl⟩
        obtain ⟨r, hr⟩ : ∃ r, r = k % 8 := ⟨_, rfl⟩
        rw [← hq] at hxc hset
        rw [← hr] at hx1 hset
        have hkq : (k : Int) / 8 = (q : Int) := by omega
        have hkr : (k : Int) % 8 = (r : Int) := by omega
        have hqn : q < n := by omega
        have h8 : r < 8 := by omega
        clear hbit hz hx hq hr
        rcases eight h8 with rfl | rfl | rfl | rfl | rfl | rfl | rfl | rfl
        all_goals clear h8
        all_goals simp only [Int.pow_zero, Int.reducePow, Int.cast_ofNat_Int] at hx1 hkr
        all_goals go_wp2_with (first
          | ((with_reducible refine at_iaddr 74 ?_); go_loud (refine wpList_value (by rfl) _ (run_index_slice _ 74 4 _ _ rfl Tryd.underlying74 1 sz_bool b o m c rfl .i64 k rfl hlt (o + k) (by omega)) ?_))
          | ((with_reducible refine at_load 4 ?_); go_loud (refine wpList_value (by rfl) _ (run_load_cell _ 4 _ (by rfl) _ rfl _ hcell.out _ Tryd.underlying4 rfl) ?_))
          | ((with_reducible refine at_iaddr 34 ?_); go_loud (refine wpList_value (by rfl) _ (run_index_slice _ 34 5 _ _ rfl Tryd.underlying34 1 sz_u8 w.heap.size 0 n n rfl .i64 q rfl hqn q (by omega)) ?_))
          | ((with_reducible refine at_load 5 ?_); go_loud (refine wpList_value (by rfl) _ (run_load_cell _ 5 _ (by rfl) ⟨w.heap.size, q, none⟩ rfl (.int .u8 x) ((cell_of_row wr _ q _ _ _ hC.out).trans hxc.out) _ Tryd.underlying5 rfl) ?_))
          | ((with_reducible refine at_store 5 ?_); refine wpList_store_apart 5 _ _ rfl rfl w.heap.size q rfl .u8 _ rfl (by kernel_rfl) _ 5 hC.out (by rw [bitA_size]; omega) (fun W3 hC3 hA3 => ?_)
             have hC4 := Lib.hid hC3
             have hB4 := Lib.hid (hA3.below hB.out (Nat.le_refl _) hB.out.size)
             clear hC3 hA3))
        all_goals have hC5 := hC4.out
        all_goals first
          | exact ⟨⟨k + 1, by omega, by go_num, by rw [← hset.out]; exact hC5, hB4.out⟩, by simp [intOf]; omega⟩
          | (refine ⟨?_, by simp [intOf]; omega⟩
             (repeat apply Exists.intro)
             exact ⟨⟨k + 1, by omega, by go_num, by rw [← hset.out]; exact hC5, hB4.out⟩, rfl⟩)
    · have e : k = m := by omega
      subst e
      have lk : decide ((k : Int) < (k : Int)) = false := by simp
      clear hlt hk
      go_wp2
      exact ret_t1 rfl _ rfl rfl ⟨rfl, hC.out, hB.out⟩
end Go.Proofs.YtihelknkcomjpaaDoor
