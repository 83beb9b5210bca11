/- The law's states with few validators. -/
import Derived.Test.YtfnjcpopadpmbaaDoorJCmM
set_option linter.unusedVariables false
set_option linter.unusedSimpArgs false
set_option linter.unnecessarySimpa false
namespace Go.Proofs.YtfnjcpopadpmbaaDoor
open Go.RowKit BigFrame
set_option maxRecDepth 100000
/-- The law's validator. -/
def v0 (j : Nat) : Int := if j = 80 then 32000000000 else if j = 84 then 18446744073709551615 else if j = 85 then 18446744073709551615 else 0
theorem build_val (w : World) : (Instr.build 59 #[(2, .int .u64 32000000000), (6, .int .u64 18446744073709551615), (7, .int .u64 18446744073709551615)]).run Tryd.prog w = .ok (.agg (fcells 86 valK v0).toArray) w := by kernel_rfl
def zC (k : Nat) : Value := match stK k with | some c => c.mk 0 | none => .slice none 0 0
theorem zst_list : Tryd.zeroCells49.toList = (List.range 1957).map zC := by kernel_rfl
/-- The state's cells, five slices given. -/
def fsF (a b c d e : Value) (k : Nat) : Value := if k = 721 then a else if k = 722 then b else if k = 987 then c else if k = 988 then d else if k = 1092 then e else zC k
def fsC (a b c d e : Value) : Array Value := ((List.range 1957).map (fsF a b c d e)).toArray
theorem fsC_size (a b c d e : Value) : (fsC a b c d e).size = 1957 := by simp [fsC]
theorem fsC_get (a b c d e : Value) (k : Nat) (h : k < 1957) : (fsC a b c d e)[k]? = some (fsF a b c d e k) := by simp [fsC, h]
theorem fsC_zero : Tryd.zeroCells49 = fsC (.slice none 0 0) (.slice none 0 0) (.slice none 0 0) (.slice none 0 0) (.slice none 0 0) := by
  apply Array.toList_inj.1
  rw [zst_list]
  show _ = (List.range 1957).map _
  apply List.map_congr_left
  intro k _
  unfold fsF
  split
  · rename_i h; subst h; rfl
  split
  · rename_i h; subst h; rfl
  split
  · rename_i h; subst h; rfl
  split
  · rename_i h; subst h; rfl
  split
  · rename_i h; subst h; rfl
  rfl
theorem fsC_set (a b c d e a' b' c' d' e' : Value) (K : Nat) (v : Value) (hK : K < 1957) (h : ∀ k, fsF a' b' c' d' e' k = if K = k then v else fsF a b c d e k) : (fsC a b c d e).setIfInBounds K v = fsC a' b' c' d' e' := by
  apply Array.ext_getElem?
  intro j
  rw [Array.getElem?_setIfInBounds, fsC_size]
  by_cases c : j < 1957
  · rw [fsC_get _ _ _ _ _ _ c, fsC_get _ _ _ _ _ _ c, h j]
    by_cases e : K = j
    · rw [if_pos e, if_pos hK, if_pos e]
    · rw [if_neg e, if_neg e]
  · rw [if_neg (show ¬ K = j by omega), Array.getElem?_eq_none (by rw [fsC_size]; omega), Array.getElem?_eq_none (by rw [fsC_size]; omega)]
theorem fsC_set0 (a b c d e v : Value) : (fsC a b c d e).setIfInBounds 721 v = fsC v b c d e := fsC_set _ _ _ _ _ _ _ _ _ _ 721 v (by decide) fun k => by
  unfold fsF
  by_cases h : 721 = k
  · subst h; rfl
  · rw [if_neg h]
    have h2 : ¬ k = 721 := fun e => h e.symm
    simp only [h2, if_false]
theorem fsC_set1 (a b c d e v : Value) : (fsC a b c d e).setIfInBounds 722 v = fsC a v c d e := fsC_set _ _ _ _ _ _ _ _ _ _ 722 v (by decide) fun k => by
  unfold fsF
  by_cases h : 722 = k
  · subst h; rfl
  · rw [if_neg h]
    have h2 : ¬ k = 722 := fun e => h e.symm
    simp only [h2, if_false]
theorem fsC_set2 (a b c d e v : Value) : (fsC a b c d e).setIfInBounds 987 v = fsC a b v d e := fsC_set _ _ _ _ _ _ _ _ _ _ 987 v (by decide) fun k => by
  unfold fsF
  by_cases h : 987 = k
  · subst h; rfl
  · rw [if_neg h]
    have h2 : ¬ k = 987 := fun e => h e.symm
    simp only [h2, if_false]
theorem fsC_set3 (a b c d e v : Value) : (fsC a b c d e).setIfInBounds 988 v = fsC a b c v e := fsC_set _ _ _ _ _ _ _ _ _ _ 988 v (by decide) fun k => by
  unfold fsF
  by_cases h : 988 = k
  · subst h; rfl
  · rw [if_neg h]
    have h2 : ¬ k = 988 := fun e => h e.symm
    simp only [h2, if_false]
theorem fsC_set4 (a b c d e v : Value) : (fsC a b c d e).setIfInBounds 1092 v = fsC a b c d v := fsC_set _ _ _ _ _ _ _ _ _ _ 1092 v (by decide) fun k => by
  unfold fsF
  by_cases h : 1092 = k
  · subst h; rfl
  · rw [if_neg h]
    have h2 : ¬ k = 1092 := fun e => h e.symm
    simp only [h2, if_false]
/-- The boxes of few: the answer's, the state's, five slices of its own. -/
structure FewW (n0 : Nat) (w : World) (C : Array Value) (L : List Ow) (W : World) : Prop where
  below : Below n0 w W
  size : n0 + 2 ≤ W.heap.size
  hR : W.heap[n0]? = some (.cells Tryd.zeroCells49 49 (0, 0))
  hX : W.heap[n0 + 1]? = some (.cells C 49 (0, 0))
  own : OwL (n0 + 2) L W
theorem FewW.later {n0 : Nat} {w : World} {C : Array Value} {L : List Ow} {W W' : World} (h : FewW n0 w C L W) (hb : Below W.heap.size W W') : FewW n0 w C L W' := by
  have := h.size
  exact ⟨h.below.trans (hb.mono (by omega)), by have := hb.size; omega, (hb.block _ (by omega)).trans h.hR, (hb.block _ (by omega)).trans h.hX, h.own.later hb⟩
theorem FewW.app {n0 : Nat} {w : World} {C : Array Value} {L L' : List Ow} {W W' : World} (h : FewW n0 w C L W) (i : Nat) (x : Ow) (hx : L[i]? = some x) (ho : OwL (n0 + 2) L' W') (hB : Below n0 w W') (hk : ∀ k, k < W.heap.size → some k ≠ x.v.ownBlock → W'.heap[k]? = W.heap[k]?) (hs : W.heap.size ≤ W'.heap.size) : FewW n0 w C L' W' := by
  have := h.size
  have hge := own_ge (h.own.own i x hx)
  exact ⟨hB, by omega, (hk n0 (by omega) (fun e => by have := hge _ e.symm; omega)).trans h.hR, (hk (n0 + 1) (by omega) (fun e => by have := hge _ e.symm; omega)).trans h.hX, ho⟩
theorem FewW.store {n0 : Nat} {w : World} {C C' : Array Value} {L : List Ow} {W W' : World} (h : FewW n0 w C L W) (hx : Apart (n0 + 1) W W') (hC : W'.heap[n0 + 1]? = some (.cells C' 49 (0, 0))) : FewW n0 w C' L W' := by
  have := h.size
  exact ⟨hx.below h.below (by omega) (by omega), by have := hx.size; omega, (hx.block _ (by omega) (by omega)).trans h.hR, hC, h.own.apart hx (by omega)⟩
theorem FewW.cell {n0 : Nat} {w : World} {a b c d e : Value} {L : List Ow} {W : World} (h : FewW n0 w (fsC a b c d e) L W) (k : Nat) (hk : k < 1957) : W.cell? ⟨n0 + 1, k, none⟩ = some (fsF a b c d e k) := by
  rw [cell_of_row W _ k _ _ _ h.hX, fsC_get _ _ _ _ _ _ hk]
theorem info_val : (Tryd.prog.info? 59).map (fun i => (i.zero, i.size, i.bytes)) = some (some (.agg (zeroOf Tryd.prog 59)), 86, 128) := by kernel_rfl
theorem info_val2 : (Tryd.prog.info? 59).map (fun i => (i.zero, i.size)) = some (some (.agg (zeroOf Tryd.prog 59)), 86) := by kernel_rfl
theorem info_b : (Tryd.prog.info? 5).map (fun i => (i.zero, i.size, i.bytes)) = some (some (.int .u8 0), 1, 1) := by kernel_rfl
theorem agg_size {z : Array Value} {n : Nat} (h : z.size = n) : (Value.agg z).cells.size = n := h
theorem val_zs : (Value.agg (zeroOf Tryd.prog 59)).cells.size = 86 := agg_size (row_zero row_val).2
theorem run_build3 {P : Program} {ρ : Operand → Value} {o : Oper} {w : World} (t : TypeId) (i j k : Nat) (x y z : Operand) (ho : o.op = .build t #[(i, x), (j, y), (k, z)]) (u u' u'' v : Value) (hx : ρ x = u) (hy : ρ y = u') (hz : ρ z = u'') (h : (Instr.build t #[(i, u), (j, u'), (k, u'')]).run P w = .ok v w) :
    (execOp ρ o).run P w = .ok (.value v) w := by
  subst hx hy hz
  unfold execOp
  simp only [ho, List.map_toArray, List.map_cons, List.map_nil, Sem.run_bind, h, Result.andThen_ok, Sem.run_pure]
/-- The five slices. -/
abbrev fiveL (a b c d e : Value) (n0 n1 n2 n3 n4 : Nat) (x0 x1 x2 x3 x4 : List Value) : List Ow := [⟨59, 86, a, n0, x0⟩, ⟨22, 1, b, n1, x1⟩, ⟨5, 1, c, n2, x2⟩, ⟨5, 1, d, n3, x3⟩, ⟨22, 1, e, n4, x4⟩]
theorem five_nil (base : Nat) (w : World) : OwL base (fiveL (.slice none 0 0) (.slice none 0 0) (.slice none 0 0) (.slice none 0 0) (.slice none 0 0) 0 0 0 0 0 [] [] [] [] []) w := by
  refine ⟨fun i x hx => ?_, fun i j x y _ hx _ k hk => ?_⟩
  · match i, hx with
    | 0, hx | 1, hx | 2, hx | 3, hx | 4, hx => cases hx; exact ⟨rfl, Or.inl ⟨rfl, rfl⟩⟩
  · match i, hx with
    | 0, hx | 1, hx | 2, hx | 3, hx | 4, hx => cases hx; cases hk
def valsL : Nat → List Value
  | 0 => []
  | k + 1 => valsL k ++ fcells 86 valK v0
theorem valsL_length (k : Nat) : (valsL k).length = k * 86 := by
  induction k with
  | zero => rfl
  | succ k ih => rw [valsL, List.length_append, ih, fcells_length]; omega
theorem valsL_get (k i j : Nat) (hi : i < k) (hj : j < 86) : (valsL k)[i * 86 + j]? = some ((valK j).mk (v0 j)) := by
  induction k with
  | zero => omega
  | succ k ih =>
    rw [valsL]
    by_cases c : i < k
    · rw [List.getElem?_append_left (by rw [valsL_length]; omega), ih c]
    · have e : i = k := by omega
      subst e
      rw [List.getElem?_append_right (by rw [valsL_length]; omega), valsL_length, show i * 86 + j - i * 86 = j by omega, fcells_get _ _ _ _ hj]
theorem one_flat (C : Array Value) : ([Value.agg C].map fun v => v.cells.toList).flatten.toArray = C.toList.toArray := by
  show (C.toList ++ []).toArray = C.toList.toArray
  rw [List.append_nil]
theorem fcells_mem0 {n : Nat} {kd : Nat → CK} {f : Nat → Int} : ∀ u ∈ fcells n kd f, u.oneCell' = true := fun v hv => Array.all_eq_true_iff_forall_mem.1 (fcells_one n kd f) v (by simpa using hv)
end Go.Proofs.YtfnjcpopadpmbaaDoor
