/- The library's sort at uint64: breakPatternsOrdered. -/
/- The library's sort at uint64: breakPatternsOrdered, the whole. -/
import Derived.Test.YtfnjcpopadpmbaaDoorJSoC
import Derived.Test.YtfnjcpopadpmbaaDoorKShelf
import Derived.Test.YtfnjcpopadpmbaaDoorJSoI
set_option linter.unusedVariables false
set_option linter.unusedSimpArgs false
set_option linter.unnecessarySimpa false
namespace Go.Proofs.YtfnjcpopadpmbaaDoor
open Go.RowKit BigFrame
set_option maxRecDepth 100000
theorem bl_bounds : ∀ (f x : Nat), 0 < x → x < 2 ^ f → ∃ q, Lib.bitLenAux f x = q + 1 ∧ 2 ^ q ≤ x ∧ x < 2 ^ (q + 1)
  | 0, x, h0, h1 => by simp at h1; omega
  | f + 1, x, h0, h1 => by
    unfold Lib.bitLenAux
    rw [if_neg (by omega)]
    by_cases h2 : x / 2 = 0
    · refine ⟨0, ?_, by simp; omega, by simp; omega⟩
      rw [h2]
      cases f <;> simp [Lib.bitLenAux]
    · rw [Nat.pow_succ] at h1
      obtain ⟨q, e1, e2, e3⟩ := bl_bounds f (x / 2) (by omega) (by omega)
      exact ⟨q + 1, by omega, by rw [Nat.pow_succ]; omega, by rw [Nat.pow_succ]; omega⟩
theorem and_le (y : Int) (m : Nat) (hm : m < 9223372036854775808) : 0 ≤ bits .and .u64 y (m : Int) ∧ bits .and .u64 y (m : Int) ≤ (m : Int) := by
  have e2 : (BitVec.ofInt 64 (m : Int)).toNat = m := by
    rw [BitVec.ofInt_natCast, BitVec.toNat_ofNat]
    exact Nat.mod_eq_of_lt (by omega)
  have h : ((BitVec.ofInt 64 y) &&& (BitVec.ofInt 64 (m : Int))).toNat ≤ m := by
    rw [BitVec.toNat_and, e2]
    exact Nat.and_le_right
  have e : bits .and .u64 y (m : Int) = IntKind.u64.wrap (((BitVec.ofInt 64 y) &&& (BitVec.ofInt 64 (m : Int))).toNat : Int) := rfl
  rw [e, IntKind.wrap_u64]
  generalize ((BitVec.ofInt 64 y) &&& (BitVec.ofInt 64 (m : Int))).toNat = z at h ⊢
  omega
section
variable {P : Program} {l : List Oper} {Q : Exit → Act → World → Prop} {md : Region.Mode}
/-- Two that read may come up either way round; a third waits for the second alone. -/
theorem pairM {i k m : Nat} {oi ok om : Oper} {fuel : Nat} {listed : Array Bool} {a : Act} {w : World} (v p z : Value) (hi : nth l i = some oi) (hk : nth l k = some ok) (hm : nth l m = some om)
    (hr : Region.ready md l.toArray listed = [i, k]) (hr1 : Region.ready md l.toArray (listed.setIfInBounds i true) = [k]) (hr3 : Region.ready md l.toArray ((listed.setIfInBounds k true).setIfInBounds m true) = [i]) (hr4 : Region.noSelect l.toArray = true)
    (hwi : Region.wanted oi (yielded l.toArray a.tmps) = true) (hwk : Region.wanted ok (yielded l.toArray a.tmps) = true) (hwi' : Region.wanted oi (yielded l.toArray ((a.put ok.dst p).put om.dst z).tmps) = true) (hwk' : Region.wanted ok (yielded l.toArray (a.put oi.dst v).tmps) = true)
    (hwm : Region.wanted om (yielded l.toArray (a.put ok.dst p).tmps) = true) (hwm' : Region.wanted om (yielded l.toArray ((a.put oi.dst v).put ok.dst p).tmps) = true)
    (e1 : (execOp a.eval oi).run P w = .ok (.value v) w) (e4 : (execOp (a.put oi.dst v).eval ok).run P w = .ok (.value p) w) (e3 : (execOp a.eval ok).run P w = .ok (.value p) w) (e2 : (execOp ((a.put ok.dst p).put om.dst z).eval oi).run P w = .ok (.value v) w)
    (em : ∀ w, (execOp (a.put ok.dst p).eval om).run P w = .ok (.value z) w) (em' : ∀ w, (execOp ((a.put oi.dst v).put ok.dst p).eval om).run P w = .ok (.value z) w)
    (hl : (((listed.setIfInBounds k true).setIfInBounds m true).setIfInBounds i true) = (((listed.setIfInBounds i true).setIfInBounds k true).setIfInBounds m true))
    (hf : Region.free md l.toArray (listed.setIfInBounds k true) m = true) (hc : (Region.ready md l.toArray (listed.setIfInBounds k true)).contains m = true)
    (hf' : Region.free md l.toArray ((listed.setIfInBounds i true).setIfInBounds k true) m = true) (hc' : (Region.ready md l.toArray ((listed.setIfInBounds i true).setIfInBounds k true)).contains m = true)
    (hp : ((a.put ok.dst p).put om.dst z).put oi.dst v = ((a.put oi.dst v).put ok.dst p).put om.dst z)
    (q1 : ∀ c a w, Q (.panic c) (a.put om.dst z) w → Q (.panic c) a w) (q2 : ∀ c a w, Q (.panic c) (a.put om.dst z) w → Q (.panic c) a w)
    (h : wpAnyH P md l.toArray Q (fun _ => True) fuel (((listed.setIfInBounds i true).setIfInBounds k true).setIfInBounds m true) (((a.put oi.dst v).put ok.dst p).put om.dst z) w) : wpAnyH P md l.toArray Q (fun _ => True) (fuel + 1 + 1 + 1) listed a w := by
  refine twoL hi hk hr hwi hwk (wp_ran v e1 ⟨trivial, ?_⟩) (wp_ran p e3 ⟨trivial, ?_⟩)
  · exact oneL hk hr1 hwk' (wp_ran p e4 ⟨trivial, takeL hm hr4 hf' hc' q1 hwm' trivial (fun w _ => em' w) h⟩)
  · exact takeL hm hr4 hf hc q2 hwm trivial (fun w _ => em w) (oneL hi hr3 hwi' (wp_ran v e2 ⟨trivial, by rw [hl, hp]; exact h⟩))
end
/-- The box of the random numbers. -/
def BxX (s : Nat) (x : Int) (w : World) : Prop := w.heap[s]? = some (.cells #[.int .u64 x] 124 (0, 0))
theorem BxX.cell {s : Nat} {x : Int} {w : World} (h : BxX s x w) : w.cell? ⟨s, 0, none⟩ = some (.int .u64 x) := by
  rw [cell_of_row w s 0 _ _ _ h]; rfl
theorem sz_xs : (Tryd.prog.info? 124).map (·.size) = some 1 := by kernel_rfl
set_option maxHeartbeats 8000000 in
theorem next_any (s : Nat) (x : Int) (w : World) (hs0 : BxX s x w) :
    Calls Tryd.prog 65 #[.pointer (some ⟨s, 0, none⟩)] w fun e w' => ∃ y, e = .returned (.int .u64 y) ∧ BxX s y w' ∧ Apart s w w' := by
  have hs := Lib.hid hs0
  clear hs0
  go_enter Tryd.func65, Tryd.ntmps65
  go_wp2
  refine wp_nopan ?_
  obtain ⟨nx, hnx⟩ : ∃ v, v = bits .xor .u64 x (IntKind.u64.wrap (x * 8192)) := ⟨_, rfl⟩
  have gnx := Lib.hid hnx
  clear hnx
  refine wp_region_held (S := fun _ => True) (by kernel_rfl) ?_
  have hS : True := trivial
  refine takeL (i := 0) (v := (.pointer (some ⟨s, 0, none⟩))) rfl (by kernel_rfl) (by kernel_rfl) (by kernel_rfl) (fun _ _ _ h => h) rfl (by assumption) (fun w' hS' => by go_simp) ?_
  simp only [Act.put, List.setIfInBounds_toArray, List.set_cons_zero, List.set_cons_succ]
  refine takeL (i := 1) (v := (.pointer (some ⟨s, 0, none⟩))) rfl (by kernel_rfl) (by kernel_rfl) (by kernel_rfl) (fun _ _ _ h => h) rfl (by assumption) (fun w' _ => run_nilCheck _ (by rfl) _ (by rfl) w') ?_
  simp only [Act.put, List.setIfInBounds_toArray, List.set_cons_zero, List.set_cons_succ]
  refine takeL (i := 3) (v := (.pointer (some ⟨s, 0, none⟩))) rfl (by kernel_rfl) (by kernel_rfl) (by kernel_rfl) (fun _ _ _ h => h) rfl (by assumption) (fun w' hS' => by go_simp) ?_
  simp only [Act.put, List.setIfInBounds_toArray, List.set_cons_zero, List.set_cons_succ]
  refine takeL (i := 4) (v := (.pointer (some ⟨s, 0, none⟩))) rfl (by kernel_rfl) (by kernel_rfl) (by kernel_rfl) (fun _ _ _ h => h) rfl (by assumption) (fun w' _ => run_nilCheck _ (by rfl) _ (by rfl) w') ?_
  simp only [Act.put, List.setIfInBounds_toArray, List.set_cons_zero, List.set_cons_succ]
  refine pairM (i := 2) (k := 5) (m := 6) (.int .u64 x) (.int .u64 x) (.int .u64 (IntKind.u64.wrap (x * 8192))) rfl rfl rfl (by kernel_rfl) (by kernel_rfl) (by kernel_rfl) (by kernel_rfl) rfl rfl rfl rfl (by rfl) (by rfl) (run_load_cell _ 124 (.tmp 4) rfl ⟨s, 0, none⟩ rfl _ hs.out.cell _ Tryd.underlying124 rfl) (run_load_cell _ 124 (.tmp 7) rfl ⟨s, 0, none⟩ rfl _ hs.out.cell _ Tryd.underlying124 rfl) (run_load_cell _ 124 (.tmp 7) rfl ⟨s, 0, none⟩ rfl _ hs.out.cell _ Tryd.underlying124 rfl) (run_load_cell _ 124 (.tmp 4) rfl ⟨s, 0, none⟩ rfl _ hs.out.cell _ Tryd.underlying124 rfl) (fun w' => by go_simp) (fun w' => by go_simp) rfl (by kernel_rfl) (by kernel_rfl) (by kernel_rfl) (by kernel_rfl) (by rfl) (fun _ _ _ h => h) (fun _ _ _ h => h) ?_
  simp only [Act.put, List.setIfInBounds_toArray, List.set_cons_zero, List.set_cons_succ]
  refine takeL (i := 7) (v := (.int .u64 (bits .xor .u64 x (IntKind.u64.wrap (x * 8192))))) rfl (by kernel_rfl) (by kernel_rfl) (by kernel_rfl) (fun _ _ _ h => h) rfl (by assumption) (fun w' hS' => by go_simp) ?_
  simp only [Act.put, List.setIfInBounds_toArray, List.set_cons_zero, List.set_cons_succ]
  rw [← gnx.out]
  refine takeL (i := 8) (v := (.pointer (some ⟨s, 0, none⟩))) rfl (by kernel_rfl) (by kernel_rfl) (by kernel_rfl) (fun _ _ _ h => h) rfl (by assumption) (fun w' _ => run_nilCheck _ (by rfl) _ (by rfl) w') ?_
  simp only [Act.put, List.setIfInBounds_toArray, List.set_cons_zero, List.set_cons_succ]
  refine oneL (i := 9) rfl (by kernel_rfl) rfl (wp_store1 124 (.tmp 11) (.tmp 10) rfl s 0 rfl (.int .u64 nx) rfl rfl sz_xs #[.int .u64 x] 124 (show ({ w with drawn := w.drawn + 1 } : World).heap[s]? = _ from hs.out) (by simp) ?_)
  intro W5 hC hA
  refine ⟨trivial, ?_⟩
  refine wpAnyH_done (by kernel_rfl) ?_ _
  simp only [NoPan, Act.put, List.setIfInBounds_toArray, List.set_cons_zero, List.set_cons_succ]
  refine gen_q (fun W => BxX s nx W ∧ Apart s w W) ⟨hC, (Apart.begin s w).trans hA⟩ ?_
  clear hC hA hS
  clear W5
  rintro W1 ⟨o2, a2⟩
  have h1 := Lib.hid o2
  have h1A := Lib.hid a2
  clear o2 a2 gnx
  obtain ⟨a, rfl⟩ : ∃ v, v = nx := ⟨_, rfl⟩
  go_wp2
  refine wp_nopan ?_
  obtain ⟨nx, hnx⟩ : ∃ v, v = bits .xor .u64 a (a / 128) := ⟨_, rfl⟩
  have gnx := Lib.hid hnx
  clear hnx
  refine wp_region_held (S := fun _ => True) (by kernel_rfl) ?_
  have hS : True := trivial
  refine takeL (i := 0) (v := (.pointer (some ⟨s, 0, none⟩))) rfl (by kernel_rfl) (by kernel_rfl) (by kernel_rfl) (fun _ _ _ h => h) rfl (by assumption) (fun w' hS' => by go_simp) ?_
  simp only [Act.put, List.setIfInBounds_toArray, List.set_cons_zero, List.set_cons_succ]
  refine takeL (i := 1) (v := (.pointer (some ⟨s, 0, none⟩))) rfl (by kernel_rfl) (by kernel_rfl) (by kernel_rfl) (fun _ _ _ h => h) rfl (by assumption) (fun w' _ => run_nilCheck _ (by rfl) _ (by rfl) w') ?_
  simp only [Act.put, List.setIfInBounds_toArray, List.set_cons_zero, List.set_cons_succ]
  refine takeL (i := 3) (v := (.pointer (some ⟨s, 0, none⟩))) rfl (by kernel_rfl) (by kernel_rfl) (by kernel_rfl) (fun _ _ _ h => h) rfl (by assumption) (fun w' hS' => by go_simp) ?_
  simp only [Act.put, List.setIfInBounds_toArray, List.set_cons_zero, List.set_cons_succ]
  refine takeL (i := 4) (v := (.pointer (some ⟨s, 0, none⟩))) rfl (by kernel_rfl) (by kernel_rfl) (by kernel_rfl) (fun _ _ _ h => h) rfl (by assumption) (fun w' _ => run_nilCheck _ (by rfl) _ (by rfl) w') ?_
  simp only [Act.put, List.setIfInBounds_toArray, List.set_cons_zero, List.set_cons_succ]
  refine pairM (i := 2) (k := 5) (m := 6) (.int .u64 a) (.int .u64 a) (.int .u64 (a / 128)) rfl rfl rfl (by kernel_rfl) (by kernel_rfl) (by kernel_rfl) (by kernel_rfl) rfl rfl rfl rfl (by rfl) (by rfl) (run_load_cell _ 124 (.tmp 13) rfl ⟨s, 0, none⟩ rfl _ h1.out.cell _ Tryd.underlying124 rfl) (run_load_cell _ 124 (.tmp 16) rfl ⟨s, 0, none⟩ rfl _ h1.out.cell _ Tryd.underlying124 rfl) (run_load_cell _ 124 (.tmp 16) rfl ⟨s, 0, none⟩ rfl _ h1.out.cell _ Tryd.underlying124 rfl) (run_load_cell _ 124 (.tmp 13) rfl ⟨s, 0, none⟩ rfl _ h1.out.cell _ Tryd.underlying124 rfl) (fun w' => by go_simp) (fun w' => by go_simp) rfl (by kernel_rfl) (by kernel_rfl) (by kernel_rfl) (by kernel_rfl) (by rfl) (fun _ _ _ h => h) (fun _ _ _ h => h) ?_
  simp only [Act.put, List.setIfInBounds_toArray, List.set_cons_zero, List.set_cons_succ]
  refine takeL (i := 7) (v := (.int .u64 (bits .xor .u64 a (a / 128)))) rfl (by kernel_rfl) (by kernel_rfl) (by kernel_rfl) (fun _ _ _ h => h) rfl (by assumption) (fun w' hS' => by go_simp) ?_
  simp only [Act.put, List.setIfInBounds_toArray, List.set_cons_zero, List.set_cons_succ]
  rw [← gnx.out]
  refine takeL (i := 8) (v := (.pointer (some ⟨s, 0, none⟩))) rfl (by kernel_rfl) (by kernel_rfl) (by kernel_rfl) (fun _ _ _ h => h) rfl (by assumption) (fun w' _ => run_nilCheck _ (by rfl) _ (by rfl) w') ?_
  simp only [Act.put, List.setIfInBounds_toArray, List.set_cons_zero, List.set_cons_succ]
  refine oneL (i := 9) rfl (by kernel_rfl) rfl (wp_store1 124 (.tmp 20) (.tmp 19) rfl s 0 rfl (.int .u64 nx) rfl rfl sz_xs #[.int .u64 a] 124 (show ({ W1 with drawn := W1.drawn + 1 } : World).heap[s]? = _ from h1.out) (by simp) ?_)
  intro W5 hC hA
  refine ⟨trivial, ?_⟩
  refine wpAnyH_done (by kernel_rfl) ?_ _
  simp only [NoPan, Act.put, List.setIfInBounds_toArray, List.set_cons_zero, List.set_cons_succ]
  refine gen_q (fun W => BxX s nx W ∧ Apart s w W) ⟨hC, (h1A.out.trans (Apart.begin s W1)).trans hA⟩ ?_
  clear hC hA hS
  clear W5
  rintro W2 ⟨o2, a2⟩
  have h2 := Lib.hid o2
  have h2A := Lib.hid a2
  clear o2 a2 gnx
  obtain ⟨b, rfl⟩ : ∃ v, v = nx := ⟨_, rfl⟩
  go_wp2
  refine wp_nopan ?_
  obtain ⟨nx, hnx⟩ : ∃ v, v = bits .xor .u64 b (IntKind.u64.wrap (b * 131072)) := ⟨_, rfl⟩
  have gnx := Lib.hid hnx
  clear hnx
  refine wp_region_held (S := fun _ => True) (by kernel_rfl) ?_
  have hS : True := trivial
  refine takeL (i := 0) (v := (.pointer (some ⟨s, 0, none⟩))) rfl (by kernel_rfl) (by kernel_rfl) (by kernel_rfl) (fun _ _ _ h => h) rfl (by assumption) (fun w' hS' => by go_simp) ?_
  simp only [Act.put, List.setIfInBounds_toArray, List.set_cons_zero, List.set_cons_succ]
  refine takeL (i := 1) (v := (.pointer (some ⟨s, 0, none⟩))) rfl (by kernel_rfl) (by kernel_rfl) (by kernel_rfl) (fun _ _ _ h => h) rfl (by assumption) (fun w' _ => run_nilCheck _ (by rfl) _ (by rfl) w') ?_
  simp only [Act.put, List.setIfInBounds_toArray, List.set_cons_zero, List.set_cons_succ]
  refine takeL (i := 3) (v := (.pointer (some ⟨s, 0, none⟩))) rfl (by kernel_rfl) (by kernel_rfl) (by kernel_rfl) (fun _ _ _ h => h) rfl (by assumption) (fun w' hS' => by go_simp) ?_
  simp only [Act.put, List.setIfInBounds_toArray, List.set_cons_zero, List.set_cons_succ]
  refine takeL (i := 4) (v := (.pointer (some ⟨s, 0, none⟩))) rfl (by kernel_rfl) (by kernel_rfl) (by kernel_rfl) (fun _ _ _ h => h) rfl (by assumption) (fun w' _ => run_nilCheck _ (by rfl) _ (by rfl) w') ?_
  simp only [Act.put, List.setIfInBounds_toArray, List.set_cons_zero, List.set_cons_succ]
  refine pairM (i := 2) (k := 5) (m := 6) (.int .u64 b) (.int .u64 b) (.int .u64 (IntKind.u64.wrap (b * 131072))) rfl rfl rfl (by kernel_rfl) (by kernel_rfl) (by kernel_rfl) (by kernel_rfl) rfl rfl rfl rfl (by rfl) (by rfl) (run_load_cell _ 124 (.tmp 22) rfl ⟨s, 0, none⟩ rfl _ h2.out.cell _ Tryd.underlying124 rfl) (run_load_cell _ 124 (.tmp 25) rfl ⟨s, 0, none⟩ rfl _ h2.out.cell _ Tryd.underlying124 rfl) (run_load_cell _ 124 (.tmp 25) rfl ⟨s, 0, none⟩ rfl _ h2.out.cell _ Tryd.underlying124 rfl) (run_load_cell _ 124 (.tmp 22) rfl ⟨s, 0, none⟩ rfl _ h2.out.cell _ Tryd.underlying124 rfl) (fun w' => by go_simp) (fun w' => by go_simp) rfl (by kernel_rfl) (by kernel_rfl) (by kernel_rfl) (by kernel_rfl) (by rfl) (fun _ _ _ h => h) (fun _ _ _ h => h) ?_
  simp only [Act.put, List.setIfInBounds_toArray, List.set_cons_zero, List.set_cons_succ]
  refine takeL (i := 7) (v := (.int .u64 (bits .xor .u64 b (IntKind.u64.wrap (b * 131072))))) rfl (by kernel_rfl) (by kernel_rfl) (by kernel_rfl) (fun _ _ _ h => h) rfl (by assumption) (fun w' hS' => by go_simp) ?_
  simp only [Act.put, List.setIfInBounds_toArray, List.set_cons_zero, List.set_cons_succ]
  rw [← gnx.out]
  refine takeL (i := 8) (v := (.pointer (some ⟨s, 0, none⟩))) rfl (by kernel_rfl) (by kernel_rfl) (by kernel_rfl) (fun _ _ _ h => h) rfl (by assumption) (fun w' _ => run_nilCheck _ (by rfl) _ (by rfl) w') ?_
  simp only [Act.put, List.setIfInBounds_toArray, List.set_cons_zero, List.set_cons_succ]
  refine oneL (i := 9) rfl (by kernel_rfl) rfl (wp_store1 124 (.tmp 29) (.tmp 28) rfl s 0 rfl (.int .u64 nx) rfl rfl sz_xs #[.int .u64 b] 124 (show ({ W2 with drawn := W2.drawn + 1 } : World).heap[s]? = _ from h2.out) (by simp) ?_)
  intro W5 hC hA
  refine ⟨trivial, ?_⟩
  refine wpAnyH_done (by kernel_rfl) ?_ _
  simp only [NoPan, Act.put, List.setIfInBounds_toArray, List.set_cons_zero, List.set_cons_succ]
  refine gen_q (fun W => BxX s nx W ∧ Apart s w W) ⟨hC, (h2A.out.trans (Apart.begin s W2)).trans hA⟩ ?_
  clear hC hA hS
  clear W5
  rintro W3 ⟨o2, a2⟩
  have h3 := Lib.hid o2
  have h3A := Lib.hid a2
  clear o2 a2 gnx
  obtain ⟨c, rfl⟩ : ∃ v, v = nx := ⟨_, rfl⟩
  go_wp2_with (
    ((with_reducible refine at_load 124 ?_); go_loud (refine wpList_value (by rfl) _ (run_load_cell _ 124 (.tmp 31) rfl ⟨s, 0, none⟩ rfl _ h3.out.cell _ Tryd.underlying124 rfl) ?_)))
  exact ret_t1 rfl _ rfl rfl ⟨c, rfl, h3.out, h3A.out⟩
theorem shl_one (q : Nat) (h : q ≤ 30) : IntKind.u64.wrap ((2 : Int) ^ q) = ((2 ^ q : Nat) : Int) := by
  have h1 : (2 : Nat) ^ q ≤ 2 ^ 30 := Nat.pow_le_pow_right (by decide) h
  have h2 : ((2 : Int) ^ q) = ((2 ^ q : Nat) : Int) := by simp
  rw [h2]
  generalize (2 : Nat) ^ q = z at h1 ⊢
  rw [IntKind.wrap_u64]
  omega
set_option maxHeartbeats 8000000 in
theorem pow2_any (n : Nat) (w : World) (h0 : 0 < n) (hn : n ≤ 1000000) :
    Calls Tryd.prog 64 #[.int .i64 (n : Int)] w fun e w' => ∃ M : Nat, e = .returned (.int .u64 (M : Int)) ∧ n < M ∧ M ≤ 2 * n ∧ w' = w := by
  obtain ⟨q, e1, e2, e3⟩ := bl_bounds 64 n h0 (by omega)
  have hq : q + 1 ≤ 30 := by
    rcases Nat.lt_or_ge q 21 with h | h
    · omega
    · have : 2 ^ 21 ≤ 2 ^ q := Nat.pow_le_pow_right (by decide) h
      omega
  obtain ⟨Q, hQ⟩ : ∃ Q, Q = q + 1 := ⟨_, rfl⟩
  rw [← hQ] at e1 e3 hq
  have hc := Lib.hid (Tryd.bits_Len (n : Int) w (by omega) (by omega))
  have e4 : Lib.bitLen n = Q := e1
  rw [Int.toNat_natCast, e4] at hc
  have hw : IntKind.u64.wrap (n : Int) = (n : Int) := by rw [IntKind.wrap_u64]; omega
  have hsh := Lib.hid (shl_one Q hq)
  have hb1 := Lib.hid e3
  have hb2 := Lib.hid (show 2 ^ Q ≤ 2 * n by rw [hQ, Nat.pow_succ]; omega)
  obtain ⟨M, hM⟩ : ∃ M, M = 2 ^ Q := ⟨_, rfl⟩
  have gM := Lib.hid hM
  clear e1 e2 e3 e4 hQ hM
  go_enter Tryd.func64, Tryd.ntmps64
  have hq1 : (0 : Int) ≤ (Q : Int) := by omega
  have hq2 : (Q : Int) ≤ 64 := by omega
  go_wp2_with (
    ((with_reducible refine hc.out.mono ?_)
     rintro e W ⟨rfl, rfl⟩
     clear hc))
  exact ret_t1 rfl (.int .u64 (M : Int)) (by show Value.int .u64 (IntKind.u64.wrap (2 ^ Q)) = _; rw [hsh.out, gM.out]) rfl ⟨M, rfl, by rw [gM.out]; exact hb1.out, by rw [gM.out]; exact hb2.out, rfl⟩
end Go.Proofs.YtfnjcpopadpmbaaDoor
namespace Go.Proofs.YtfnjcpopadpmbaaDoor
open Go.RowKit BigFrame
set_option maxRecDepth 100000
theorem Apart.two {g s : Nat} {w W W' : World} (h : Apart g w W) (k : Apart s W W') (hs : w.heap.size ≤ s) : Apart g w W' :=
  ⟨k.os.trans h.os, k.tape.trans h.tape, k.output.trans h.output, Nat.le_trans h.size k.size, fun b h1 h2 => (k.block b (Nat.lt_of_lt_of_le h1 h.size) (by omega)).trans (h.block b h1 h2)⟩
theorem OwU.glt {base g n cap : Nat} {l : List Int} {w : World} (h : OwU base (.slice (some ⟨g, 0, none⟩) n cap) l w) : g < w.heap.size := by
  rcases h.2 with ⟨h', _⟩ | ⟨g', cap', cur, h', hb, hg, hr⟩
  · cases h'
  · cases h'; exact blk_lt hg
set_option maxHeartbeats 16000000 in
theorem break_any (base g n cap a b : Nat) (l : List Int) (w : World) (hO0 : OwU base (.slice (some ⟨g, 0, none⟩) n cap) l w) (hl0 : l.length = n) (hab : a + 12 < b) (hbn : b ≤ n) (hn : n ≤ 1000000) :
    Calls Tryd.prog 49 #[.slice (some ⟨g, 0, none⟩) n cap, .int .i64 (a : Int), .int .i64 (b : Int)] w fun e w' => e = .returned (.tuple #[]) ∧ ∃ (l' : List Int), OwU base (.slice (some ⟨g, 0, none⟩) n cap) l' w' ∧ SegP a b l l' ∧ Apart g w w' := by
  have hO := Lib.hid hO0
  have hl := Lib.hid hl0
  have hgw := hO0.glt
  clear hO0 hl0
  obtain ⟨d, hd⟩ : ∃ d, d = b - a := ⟨_, rfl⟩
  obtain ⟨q, hq⟩ : ∃ q, q = d / 4 := ⟨_, rfl⟩
  obtain ⟨i0, hi0⟩ : ∃ i0, i0 + 1 = a + q * 2 := ⟨a + q * 2 - 1, by omega⟩
  obtain ⟨i2, hi2⟩ : ∃ i2, i2 = a + q * 2 + 1 := ⟨_, rfl⟩
  have f0 : (b : Int) - (a : Int) = (d : Int) := by omega
  have f1 : (d : Int) / 4 = (q : Int) := by omega
  have f2 : (a : Int) + (q : Int) * 2 - 1 = (i0 : Int) := by omega
  have f3 : (a : Int) + (q : Int) * 2 + 1 = (i2 : Int) := by omega
  have f5 : q ≤ 1000000 := by omega
  have f6 : d ≤ 1000000 := by omega
  have f7 : i0 ≤ 1000000 := by omega
  have t1 : decide ((d : Int) ≥ 8) = true := by simp; omega
  have gd := Lib.hid hd
  have gq := Lib.hid hq
  have gi0 := Lib.hid hi0
  have gi2 := Lib.hid hi2
  have hp2 := Lib.hid (fun W => pow2_any d W (by omega) f6)
  clear hd hq hi0 hi2
  go_enter Tryd.func49, Tryd.ntmps49
  go_wp2_with (first
    | ((with_reducible refine (hp2.out _).mono ?_)
       rintro e W1 ⟨M, rfl, hM1, hM2, rfl⟩
       have gM1 := Lib.hid hM1
       have gM2 := Lib.hid hM2
       clear hM1 hM2))
  have hB0 : BxX w.heap.size (d : Int) (w.alloc (.cells #[.int .u64 (d : Int)] 124)) := by unfold BxX; rw [World.alloc]; simp
  have hA0 : Apart g w (w.alloc (.cells #[.int .u64 (d : Int)] 124)) := (Apart.refl g w).call (below_alloc w _)
  have gB0 := Lib.hid hB0
  have gA0 := Lib.hid hA0
  have gO0 := Lib.hid (hO.out.at (show (w.alloc (.cells #[.int .u64 (d : Int)] 124)).heap[g]? = w.heap[g]? from (below_alloc w _).block g hgw))
  clear hB0 hA0
  refine gen_world (fun W => OwU base (.slice (some ⟨g, 0, none⟩) n cap) l W ∧ Apart g w W ∧ BxX w.heap.size (d : Int) W) ⟨gO0.out, gA0.out, gB0.out⟩ ?_
  clear gO0 gA0 gB0
  rintro W0 ⟨o0, a0, b0⟩
  have gO0 := Lib.hid o0
  have gA0 := Lib.hid a0
  have gB0 := Lib.hid b0
  clear o0 a0 b0
  obtain ⟨M1, hM3⟩ : ∃ M1, M1 + 1 = M := ⟨M - 1, by have := gM1.out; omega⟩
  have wM : IntKind.u64.wrap ((M : Int) - 1) = (M1 : Int) := by rw [IntKind.wrap_u64]; have := gM1.out; have := gM2.out; omega
  have hM4 : M1 ≤ 2000000 := by have := gM2.out; omega
  have gM3 := Lib.hid hM3
  clear hM3
  go_loopw [9] (fun v wr => ∃ (m : Nat) (x : Int) (L : List Int), i0 ≤ m ∧ m ≤ i2 + 1 ∧ v = .int .i64 (m : Int) ∧ OwU base (.slice (some ⟨g, 0, none⟩) n cap) L wr ∧ SegP a b l L ∧ Apart g w wr ∧ BxX w.heap.size x wr ∧ w.heap.size < wr.heap.size) (fun v _ => i2 + 1 - (intOf v).toNat)
  case atStart => exact ⟨i0, d, l, Nat.le_refl _, by have := gi0.out; have := gi2.out; omega, rfl, gO0.out, SegP.refl _ _ _, gA0.out, gB0.out, blk_lt gB0.out⟩
  case round =>
    obtain ⟨m, x, L, r1, r2, rfl, o1, s1, a1', x1, z1⟩ := hrel
    clear gO0 gA0 gB0
    have gO := Lib.hid o1
    have gs := Lib.hid s1
    have gA := Lib.hid a1'
    have gX := Lib.hid x1
    have gl := Lib.hid (s1.len.trans hl.out)
    have gz := Lib.hid z1
    clear o1 s1 a1' x1 z1
    by_cases hc : m ≤ i2
    · have lc : decide ((m : Int) ≤ (i2 : Int)) = true := by simp; omega
      have hmb : m < b ∧ a ≤ m := by have := gi0.out; have := gi2.out; have := gq.out; have := gd.out; omega
      have hmn : m < n := by omega
      have wm : IntKind.i64.wrap ((m : Int) + 1) = ((m + 1 : Nat) : Int) := by rw [IntKind.wrap_i64]; omega
      go_wp2_with (first
        | ((with_reducible refine (next_any w.heap.size x _ gX.out).mono ?_)
           rintro e W1 ⟨y, rfl, bx1, ax1⟩
           have gX1 := Lib.hid bx1
           have gA1 := Lib.hid (gA.out.two ax1 (Nat.le_refl _))
           have gO1 := Lib.hid (gO.out.at (ax1.block g gO.out.glt (by omega)))
           have gz1 := Lib.hid (Nat.lt_of_lt_of_le gz.out ax1.size)
           obtain ⟨o, ho, hle⟩ : ∃ o : Nat, bits .and .u64 y (M1 : Int) = (o : Int) ∧ o ≤ M1 := ⟨(bits .and .u64 y (M1 : Int)).toNat, by have := and_le y M1 (by omega); omega, by have := and_le y M1 (by omega); omega⟩
           clear bx1 ax1))
      · obtain ⟨o2, ho2⟩ : ∃ o2 : Nat, o2 + d = o := ⟨o - d, by omega⟩
        have ho3 : (o : Int) - (d : Int) = (o2 : Int) := by omega
        simp only [ho3]
        have hlo : o2 < d := by have := gM3.out; have := gM2.out; omega
        obtain ⟨ao, hao⟩ : ∃ ao, ao = a + o2 := ⟨_, rfl⟩
        have wao : IntKind.i64.wrap ((a : Int) + (o2 : Int)) = (ao : Int) := by rw [IntKind.wrap_i64]; omega
        have haob : a ≤ ao ∧ ao < b := by have := gd.out; omega
        have haon : ao < n := by omega
        have gs2 := Lib.hid (gs.out.swp (i := m) (j := ao) ⟨hmb.2, hmb.1⟩ haob (by rw [hl.out]; exact hbn))
        clear ho hle ho2 ho3
        refine wp_nopan ?_
        refine wp_region_held (S := fun _ => True) (by kernel_rfl) ?_
        have hS : True := trivial
        have O4 := gO1.out.later (w' := { W1 with drawn := W1.drawn + 1 }) ((Below.refl _ _).drew)
        have cy := O4.cell ao (by rw [gl.out]; exact haon)
        have cx := O4.cell m (by rw [gl.out]; exact hmn)
        refine takeL (i := 0) (v := (.slice (some ⟨g, 0, none⟩) n cap)) rfl (by kernel_rfl) (by kernel_rfl) (by kernel_rfl) (fun _ _ _ h => h) rfl (by assumption) (fun w' hS' => by go_simp) ?_
        simp only [Act.put, List.setIfInBounds_toArray, List.set_cons_zero, List.set_cons_succ]
        refine takeL (i := 1) (v := (.int .i64 (m : Int))) rfl (by kernel_rfl) (by kernel_rfl) (by kernel_rfl) (fun _ _ _ h => h) rfl (by assumption) (fun w' hS' => by go_simp) ?_
        simp only [Act.put, List.setIfInBounds_toArray, List.set_cons_zero, List.set_cons_succ]
        refine takeL (i := 2) (v := (.slice (some ⟨g, 0, none⟩) n cap)) rfl (by kernel_rfl) (by kernel_rfl) (by kernel_rfl) (fun _ _ _ h => h) rfl (by assumption) (fun w' hS' => by go_simp) ?_
        simp only [Act.put, List.setIfInBounds_toArray, List.set_cons_zero, List.set_cons_succ]
        refine takeL (i := 3) (v := (.int .i64 (a : Int))) rfl (by kernel_rfl) (by kernel_rfl) (by kernel_rfl) (fun _ _ _ h => h) rfl (by assumption) (fun w' hS' => by go_simp) ?_
        simp only [Act.put, List.setIfInBounds_toArray, List.set_cons_zero, List.set_cons_succ]
        refine takeL (i := 4) (v := (.int .i64 (o2 : Int))) rfl (by kernel_rfl) (by kernel_rfl) (by kernel_rfl) (fun _ _ _ h => h) rfl (by assumption) (fun w' hS' => by go_simp) ?_
        simp only [Act.put, List.setIfInBounds_toArray, List.set_cons_zero, List.set_cons_succ]
        refine takeL (i := 5) (v := (.int .i64 (ao : Int))) rfl (by kernel_rfl) (by kernel_rfl) (by kernel_rfl) (fun _ _ _ h => h) rfl (by assumption) (fun w' hS' => by go_simp) ?_
        simp only [Act.put, List.setIfInBounds_toArray, List.set_cons_zero, List.set_cons_succ]
        refine takeL (i := 6) (v := (.slice (some ⟨g, 0, none⟩) n cap)) rfl (by kernel_rfl) (by kernel_rfl) (by kernel_rfl) (fun _ _ _ h => h) rfl (by assumption) (fun w' hS' => by go_simp) ?_
        simp only [Act.put, List.setIfInBounds_toArray, List.set_cons_zero, List.set_cons_succ]
        refine takeL (i := 7) (v := (.int .i64 (a : Int))) rfl (by kernel_rfl) (by kernel_rfl) (by kernel_rfl) (fun _ _ _ h => h) rfl (by assumption) (fun w' hS' => by go_simp) ?_
        simp only [Act.put, List.setIfInBounds_toArray, List.set_cons_zero, List.set_cons_succ]
        refine takeL (i := 8) (v := (.int .i64 (o2 : Int))) rfl (by kernel_rfl) (by kernel_rfl) (by kernel_rfl) (fun _ _ _ h => h) rfl (by assumption) (fun w' hS' => by go_simp) ?_
        simp only [Act.put, List.setIfInBounds_toArray, List.set_cons_zero, List.set_cons_succ]
        refine takeL (i := 9) (v := (.int .i64 (ao : Int))) rfl (by kernel_rfl) (by kernel_rfl) (by kernel_rfl) (fun _ _ _ h => h) rfl (by assumption) (fun w' hS' => by go_simp) ?_
        simp only [Act.put, List.setIfInBounds_toArray, List.set_cons_zero, List.set_cons_succ]
        refine takeL (i := 10) (v := (.pointer (some ⟨g, ao, none⟩))) rfl (by kernel_rfl) (by kernel_rfl) (by kernel_rfl) (fun _ _ _ h => h) rfl (by assumption) (fun w' hS' => run_index_slice _ 37 22 (.tmp 53) (.tmp 56) rfl Tryd.underlying37 1 sz_u64 g 0 n cap rfl .i64 ao rfl haon ao (by omega)) ?_
        simp only [Act.put, List.setIfInBounds_toArray, List.set_cons_zero, List.set_cons_succ]
        refine takeL (i := 12) (v := (.slice (some ⟨g, 0, none⟩) n cap)) rfl (by kernel_rfl) (by kernel_rfl) (by kernel_rfl) (fun _ _ _ h => h) rfl (by assumption) (fun w' hS' => by go_simp) ?_
        simp only [Act.put, List.setIfInBounds_toArray, List.set_cons_zero, List.set_cons_succ]
        refine takeL (i := 13) (v := (.int .i64 (m : Int))) rfl (by kernel_rfl) (by kernel_rfl) (by kernel_rfl) (fun _ _ _ h => h) rfl (by assumption) (fun w' hS' => by go_simp) ?_
        simp only [Act.put, List.setIfInBounds_toArray, List.set_cons_zero, List.set_cons_succ]
        refine takeL (i := 14) (v := (.pointer (some ⟨g, m, none⟩))) rfl (by kernel_rfl) (by kernel_rfl) (by kernel_rfl) (fun _ _ _ h => h) rfl (by assumption) (fun w' hS' => run_index_slice _ 37 22 (.tmp 59) (.tmp 60) rfl Tryd.underlying37 1 sz_u64 g 0 n cap rfl .i64 m rfl hmn m (by omega)) ?_
        simp only [Act.put, List.setIfInBounds_toArray, List.set_cons_zero, List.set_cons_succ]
        refine pairL (i := 11) (k := 15) (.int .u64 (L.getD ao 0)) (.int .u64 (L.getD m 0)) (Wn := { W1 with drawn := W1.drawn + 1 }) rfl rfl (by kernel_rfl) (by kernel_rfl) (by kernel_rfl) rfl rfl rfl rfl (run_load_cell _ 22 (.tmp 57) rfl ⟨g, ao, none⟩ rfl _ cy _ Tryd.underlying22 rfl) (run_load_cell _ 22 (.tmp 57) rfl ⟨g, ao, none⟩ rfl _ cy _ Tryd.underlying22 rfl) (run_load_cell _ 22 (.tmp 61) rfl ⟨g, m, none⟩ rfl _ cx _ Tryd.underlying22 rfl) (run_load_cell _ 22 (.tmp 61) rfl ⟨g, m, none⟩ rfl _ cx _ Tryd.underlying22 rfl) trivial trivial (by kernel_rfl) (by rfl) ?_
        simp only [Act.put, List.setIfInBounds_toArray, List.set_cons_zero, List.set_cons_succ]
        refine takeL (i := 16) (v := (.pointer (some ⟨g, m, none⟩))) rfl (by kernel_rfl) (by kernel_rfl) (by kernel_rfl) (fun _ _ _ h => h) rfl (by assumption) (fun w' hS' => run_index_slice _ 37 22 (.tmp 47) (.tmp 48) rfl Tryd.underlying37 1 sz_u64 g 0 n cap rfl .i64 m rfl hmn m (by omega)) ?_
        simp only [Act.put, List.setIfInBounds_toArray, List.set_cons_zero, List.set_cons_succ]
        refine oneL (i := 17) rfl (by kernel_rfl) rfl (wp_storeU (.tmp 63) (.tmp 58) rfl base g n cap m L O4 rfl (L.getD ao 0) rfl (by rw [gl.out]; exact hmn) ?_)
        intro W3 hO5 hA5
        refine ⟨trivial, ?_⟩
        simp only [Act.put, List.setIfInBounds_toArray, List.set_cons_zero, List.set_cons_succ]
        refine takeL (i := 18) (v := (.pointer (some ⟨g, ao, none⟩))) rfl (by kernel_rfl) (by kernel_rfl) (by kernel_rfl) (fun _ _ _ h => h) rfl (by assumption) (fun w' hS' => run_index_slice _ 37 22 (.tmp 49) (.tmp 52) rfl Tryd.underlying37 1 sz_u64 g 0 n cap rfl .i64 ao rfl haon ao (by omega)) ?_
        simp only [Act.put, List.setIfInBounds_toArray, List.set_cons_zero, List.set_cons_succ]
        refine oneL (i := 19) rfl (by kernel_rfl) rfl (wp_storeU (.tmp 64) (.tmp 62) rfl base g n cap ao (L.set m (L.getD ao 0)) hO5 rfl (L.getD m 0) rfl (by rw [List.length_set, gl.out]; exact haon) ?_)
        intro W4 hO6 hA6
        refine ⟨trivial, ?_⟩
        simp only [Act.put, List.setIfInBounds_toArray, List.set_cons_zero, List.set_cons_succ]
        refine wpAnyH_done (by kernel_rfl) ?_ _
        simp only [NoPan]
        rw [swp_two] at hO6
        have hA7 := ((Apart.begin g W1).trans hA5).trans hA6
        refine gen_q (fun W2 => OwU base (.slice (some ⟨g, 0, none⟩) n cap) (swp L m ao) W2 ∧ Apart g W1 W2) ⟨hO6, hA7⟩ ?_
        clear hA7 hO6 hA6 hO5 hA5 O4 hS cx cy
        rintro WS1 ⟨o2, a2⟩
        have gS1 := Lib.hid o2
        have gAS1 := Lib.hid a2
        clear o2 a2
        go_wp2
        exact ⟨⟨m + 1, y, _, by omega, by omega, by go_num, gS1.out, gs2.out, gA1.out.trans gAS1.out, (gAS1.out.block _ gz1.out (by omega)).trans gX1.out, Nat.lt_of_lt_of_le gz1.out gAS1.out.size⟩, by simp [intOf]; omega⟩
      · skip
        have hlo : o < d := by have := gM3.out; have := gM2.out; omega
        obtain ⟨ao, hao⟩ : ∃ ao, ao = a + o := ⟨_, rfl⟩
        have wao : IntKind.i64.wrap ((a : Int) + (o : Int)) = (ao : Int) := by rw [IntKind.wrap_i64]; omega
        have haob : a ≤ ao ∧ ao < b := by have := gd.out; omega
        have haon : ao < n := by omega
        have gs2 := Lib.hid (gs.out.swp (i := m) (j := ao) ⟨hmb.2, hmb.1⟩ haob (by rw [hl.out]; exact hbn))
        clear ho hle
        refine wp_nopan ?_
        refine wp_region_held (S := fun _ => True) (by kernel_rfl) ?_
        have hS : True := trivial
        have O4 := gO1.out.later (w' := { W1 with drawn := W1.drawn + 1 }) ((Below.refl _ _).drew)
        have cy := O4.cell ao (by rw [gl.out]; exact haon)
        have cx := O4.cell m (by rw [gl.out]; exact hmn)
        refine takeL (i := 0) (v := (.slice (some ⟨g, 0, none⟩) n cap)) rfl (by kernel_rfl) (by kernel_rfl) (by kernel_rfl) (fun _ _ _ h => h) rfl (by assumption) (fun w' hS' => by go_simp) ?_
        simp only [Act.put, List.setIfInBounds_toArray, List.set_cons_zero, List.set_cons_succ]
        refine takeL (i := 1) (v := (.int .i64 (m : Int))) rfl (by kernel_rfl) (by kernel_rfl) (by kernel_rfl) (fun _ _ _ h => h) rfl (by assumption) (fun w' hS' => by go_simp) ?_
        simp only [Act.put, List.setIfInBounds_toArray, List.set_cons_zero, List.set_cons_succ]
        refine takeL (i := 2) (v := (.slice (some ⟨g, 0, none⟩) n cap)) rfl (by kernel_rfl) (by kernel_rfl) (by kernel_rfl) (fun _ _ _ h => h) rfl (by assumption) (fun w' hS' => by go_simp) ?_
        simp only [Act.put, List.setIfInBounds_toArray, List.set_cons_zero, List.set_cons_succ]
        refine takeL (i := 3) (v := (.int .i64 (a : Int))) rfl (by kernel_rfl) (by kernel_rfl) (by kernel_rfl) (fun _ _ _ h => h) rfl (by assumption) (fun w' hS' => by go_simp) ?_
        simp only [Act.put, List.setIfInBounds_toArray, List.set_cons_zero, List.set_cons_succ]
        refine takeL (i := 4) (v := (.int .i64 (o : Int))) rfl (by kernel_rfl) (by kernel_rfl) (by kernel_rfl) (fun _ _ _ h => h) rfl (by assumption) (fun w' hS' => by go_simp) ?_
        simp only [Act.put, List.setIfInBounds_toArray, List.set_cons_zero, List.set_cons_succ]
        refine takeL (i := 5) (v := (.int .i64 (ao : Int))) rfl (by kernel_rfl) (by kernel_rfl) (by kernel_rfl) (fun _ _ _ h => h) rfl (by assumption) (fun w' hS' => by go_simp) ?_
        simp only [Act.put, List.setIfInBounds_toArray, List.set_cons_zero, List.set_cons_succ]
        refine takeL (i := 6) (v := (.slice (some ⟨g, 0, none⟩) n cap)) rfl (by kernel_rfl) (by kernel_rfl) (by kernel_rfl) (fun _ _ _ h => h) rfl (by assumption) (fun w' hS' => by go_simp) ?_
        simp only [Act.put, List.setIfInBounds_toArray, List.set_cons_zero, List.set_cons_succ]
        refine takeL (i := 7) (v := (.int .i64 (a : Int))) rfl (by kernel_rfl) (by kernel_rfl) (by kernel_rfl) (fun _ _ _ h => h) rfl (by assumption) (fun w' hS' => by go_simp) ?_
        simp only [Act.put, List.setIfInBounds_toArray, List.set_cons_zero, List.set_cons_succ]
        refine takeL (i := 8) (v := (.int .i64 (o : Int))) rfl (by kernel_rfl) (by kernel_rfl) (by kernel_rfl) (fun _ _ _ h => h) rfl (by assumption) (fun w' hS' => by go_simp) ?_
        simp only [Act.put, List.setIfInBounds_toArray, List.set_cons_zero, List.set_cons_succ]
        refine takeL (i := 9) (v := (.int .i64 (ao : Int))) rfl (by kernel_rfl) (by kernel_rfl) (by kernel_rfl) (fun _ _ _ h => h) rfl (by assumption) (fun w' hS' => by go_simp) ?_
        simp only [Act.put, List.setIfInBounds_toArray, List.set_cons_zero, List.set_cons_succ]
        refine takeL (i := 10) (v := (.pointer (some ⟨g, ao, none⟩))) rfl (by kernel_rfl) (by kernel_rfl) (by kernel_rfl) (fun _ _ _ h => h) rfl (by assumption) (fun w' hS' => run_index_slice _ 37 22 (.tmp 53) (.tmp 56) rfl Tryd.underlying37 1 sz_u64 g 0 n cap rfl .i64 ao rfl haon ao (by omega)) ?_
        simp only [Act.put, List.setIfInBounds_toArray, List.set_cons_zero, List.set_cons_succ]
        refine takeL (i := 12) (v := (.slice (some ⟨g, 0, none⟩) n cap)) rfl (by kernel_rfl) (by kernel_rfl) (by kernel_rfl) (fun _ _ _ h => h) rfl (by assumption) (fun w' hS' => by go_simp) ?_
        simp only [Act.put, List.setIfInBounds_toArray, List.set_cons_zero, List.set_cons_succ]
        refine takeL (i := 13) (v := (.int .i64 (m : Int))) rfl (by kernel_rfl) (by kernel_rfl) (by kernel_rfl) (fun _ _ _ h => h) rfl (by assumption) (fun w' hS' => by go_simp) ?_
        simp only [Act.put, List.setIfInBounds_toArray, List.set_cons_zero, List.set_cons_succ]
        refine takeL (i := 14) (v := (.pointer (some ⟨g, m, none⟩))) rfl (by kernel_rfl) (by kernel_rfl) (by kernel_rfl) (fun _ _ _ h => h) rfl (by assumption) (fun w' hS' => run_index_slice _ 37 22 (.tmp 59) (.tmp 60) rfl Tryd.underlying37 1 sz_u64 g 0 n cap rfl .i64 m rfl hmn m (by omega)) ?_
        simp only [Act.put, List.setIfInBounds_toArray, List.set_cons_zero, List.set_cons_succ]
        refine pairL (i := 11) (k := 15) (.int .u64 (L.getD ao 0)) (.int .u64 (L.getD m 0)) (Wn := { W1 with drawn := W1.drawn + 1 }) rfl rfl (by kernel_rfl) (by kernel_rfl) (by kernel_rfl) rfl rfl rfl rfl (run_load_cell _ 22 (.tmp 57) rfl ⟨g, ao, none⟩ rfl _ cy _ Tryd.underlying22 rfl) (run_load_cell _ 22 (.tmp 57) rfl ⟨g, ao, none⟩ rfl _ cy _ Tryd.underlying22 rfl) (run_load_cell _ 22 (.tmp 61) rfl ⟨g, m, none⟩ rfl _ cx _ Tryd.underlying22 rfl) (run_load_cell _ 22 (.tmp 61) rfl ⟨g, m, none⟩ rfl _ cx _ Tryd.underlying22 rfl) trivial trivial (by kernel_rfl) (by rfl) ?_
        simp only [Act.put, List.setIfInBounds_toArray, List.set_cons_zero, List.set_cons_succ]
        refine takeL (i := 16) (v := (.pointer (some ⟨g, m, none⟩))) rfl (by kernel_rfl) (by kernel_rfl) (by kernel_rfl) (fun _ _ _ h => h) rfl (by assumption) (fun w' hS' => run_index_slice _ 37 22 (.tmp 47) (.tmp 48) rfl Tryd.underlying37 1 sz_u64 g 0 n cap rfl .i64 m rfl hmn m (by omega)) ?_
        simp only [Act.put, List.setIfInBounds_toArray, List.set_cons_zero, List.set_cons_succ]
        refine oneL (i := 17) rfl (by kernel_rfl) rfl (wp_storeU (.tmp 63) (.tmp 58) rfl base g n cap m L O4 rfl (L.getD ao 0) rfl (by rw [gl.out]; exact hmn) ?_)
        intro W3 hO5 hA5
        refine ⟨trivial, ?_⟩
        simp only [Act.put, List.setIfInBounds_toArray, List.set_cons_zero, List.set_cons_succ]
        refine takeL (i := 18) (v := (.pointer (some ⟨g, ao, none⟩))) rfl (by kernel_rfl) (by kernel_rfl) (by kernel_rfl) (fun _ _ _ h => h) rfl (by assumption) (fun w' hS' => run_index_slice _ 37 22 (.tmp 49) (.tmp 52) rfl Tryd.underlying37 1 sz_u64 g 0 n cap rfl .i64 ao rfl haon ao (by omega)) ?_
        simp only [Act.put, List.setIfInBounds_toArray, List.set_cons_zero, List.set_cons_succ]
        refine oneL (i := 19) rfl (by kernel_rfl) rfl (wp_storeU (.tmp 64) (.tmp 62) rfl base g n cap ao (L.set m (L.getD ao 0)) hO5 rfl (L.getD m 0) rfl (by rw [List.length_set, gl.out]; exact haon) ?_)
        intro W4 hO6 hA6
        refine ⟨trivial, ?_⟩
        simp only [Act.put, List.setIfInBounds_toArray, List.set_cons_zero, List.set_cons_succ]
        refine wpAnyH_done (by kernel_rfl) ?_ _
        simp only [NoPan]
        rw [swp_two] at hO6
        have hA7 := ((Apart.begin g W1).trans hA5).trans hA6
        refine gen_q (fun W2 => OwU base (.slice (some ⟨g, 0, none⟩) n cap) (swp L m ao) W2 ∧ Apart g W1 W2) ⟨hO6, hA7⟩ ?_
        clear hA7 hO6 hA6 hO5 hA5 O4 hS cx cy
        rintro WS1 ⟨o2, a2⟩
        have gS1 := Lib.hid o2
        have gAS1 := Lib.hid a2
        clear o2 a2
        go_wp2
        exact ⟨⟨m + 1, y, _, by omega, by omega, by go_num, gS1.out, gs2.out, gA1.out.trans gAS1.out, (gAS1.out.block _ gz1.out (by omega)).trans gX1.out, Nat.lt_of_lt_of_le gz1.out gAS1.out.size⟩, by simp [intOf]; omega⟩
    · have lc : decide ((m : Int) ≤ (i2 : Int)) = false := by simp; omega
      go_wp2
      exact ret_none rfl rfl ⟨rfl, L, gO.out, gs.out, gA.out⟩
end Go.Proofs.YtfnjcpopadpmbaaDoor
