/- The digest of the program, of few bytes: New, Write, Copy. -/
import Derived.Test.YtfnjcpopadpmbaaDoorJOg3
import Derived.Test.YtfnjcpopadpmbaaDoorKCut0
set_option linter.unusedVariables false
set_option linter.unusedSimpArgs false
set_option linter.unnecessarySimpa false
namespace Go.Proofs.YtfnjcpopadpmbaaDoor
open Go.RowKit BigFrame
set_option maxRecDepth 100000
/-- A digest that has these bytes, n and a its counts. -/
def dgA (f : List Int) (n a : Int) : Array Value := (shaIv.cells ++ (fcells 64 (fun _ => .u8) (fun j => f.getD j 0) ++ ([Value.int .i64 n, Value.int .u64 a] : List Value))).toArray
abbrev dgC (l : List Int) : Array Value := dgA l l.length l.length
theorem dgA_size (f : List Int) (n a : Int) : (dgA f n a).size = 74 := by simp [dgA, fcells, Hs.cells]
theorem dgA_get (f : List Int) (n a : Int) (j : Nat) : (dgA f n a)[j]? = if j < 8 then shaIv.cells[j]? else if j < 72 then some (.int .u8 (f.getD (j - 8) 0)) else if j = 72 then some (.int .i64 n) else if j = 73 then some (.int .u64 a) else none := by
  have hl : shaIv.cells.length = 8 := rfl
  unfold dgA
  rw [List.getElem?_toArray]
  by_cases c1 : j < 8
  · rw [if_pos c1, List.getElem?_append_left (by omega)]
  · rw [if_neg c1, List.getElem?_append_right (by omega), hl]
    by_cases c2 : j < 72
    · rw [if_pos c2, List.getElem?_append_left (by rw [fcells_length]; omega), fcells_get _ _ _ _ (by omega)]
      rfl
    · rw [if_neg c2, List.getElem?_append_right (by rw [fcells_length]; omega), fcells_length]
      obtain ⟨i, rfl⟩ : ∃ i, j = 72 + i := ⟨j - 72, by omega⟩
      rw [show 72 + i - 8 - 64 = i by omega]
      match i with
      | 0 => rfl
      | 1 => rfl
      | i + 2 => rw [if_neg (by omega), if_neg (by omega)]; rfl
theorem dgA_n (f : List Int) (n a m : Int) : (dgA f n a).setIfInBounds 72 (.int .i64 m) = dgA f m a := by
  apply Array.ext_getElem?
  intro j
  rw [Array.getElem?_setIfInBounds, dgA_size, dgA_get, dgA_get]
  by_cases e : 72 = j
  · subst e; simp
  · rw [if_neg e]
    simp only [show ¬ j = 72 from fun h => e h.symm, if_false]
theorem dgA_a (f : List Int) (n a m : Int) : (dgA f n a).setIfInBounds 73 (.int .u64 m) = dgA f n m := by
  apply Array.ext_getElem?
  intro j
  rw [Array.getElem?_setIfInBounds, dgA_size, dgA_get, dgA_get]
  by_cases e : 73 = j
  · subst e; simp
  · rw [if_neg e]
    simp only [show ¬ j = 73 from fun h => e h.symm, if_false]
theorem dgA_splice (l m : List Int) (n a : Int) (k : Nat) (hk : k = 8 + l.length) (h : l.length + m.length ≤ 64) : (splice (dgA l n a).toList k (m.map (Value.int .u8))).toArray = dgA (l ++ m) n a := by
  subst hk
  apply Array.ext_getElem?
  intro j
  have hs : (dgA l n a).toList.length = 74 := by rw [Array.length_toList, dgA_size]
  rw [List.getElem?_toArray, splice_get (by rw [hs, List.length_map]; omega), Array.getElem?_toList, dgA_get, dgA_get, List.length_map]
  by_cases c1 : j < 8 + l.length
  · rw [if_pos c1]
    by_cases c2 : j < 8
    · rw [if_pos c2, if_pos c2]
    · rw [if_neg c2, if_neg c2, if_pos (by omega), if_pos (by omega)]
      simp only [List.getD, List.getElem?_append_left (show j - 8 < l.length by omega)]
  · rw [if_neg c1]
    by_cases c2 : j < 8 + l.length + m.length
    · rw [if_pos c2, if_neg (by omega), if_pos (by omega)]
      simp only [List.getD, List.getElem?_append_right (show l.length ≤ j - 8 by omega), List.getElem?_map]
      rw [show j - 8 - l.length = j - (8 + l.length) by omega]
      have : j - (8 + l.length) < m.length := by omega
      simp [this]
    · rw [if_neg c2]
      by_cases c3 : j < 72
      · rw [if_neg (by omega), if_pos c3, if_neg (by omega), if_pos c3]
        simp only [List.getD, List.getElem?_eq_none (show l.length ≤ j - 8 by omega), List.getElem?_eq_none (show (l ++ m).length ≤ j - 8 by rw [List.length_append]; omega)]
      · rw [if_neg (show ¬ j < 8 by omega), if_neg (show ¬ j < 8 by omega), if_neg c3, if_neg c3]
theorem dgA_one (f : List Int) (n a : Int) : (dgA f n a).all (·.oneCell') = true := by
  rw [Array.all_eq_true_iff_forall_mem]
  intro v hv
  unfold dgA at hv
  rcases List.mem_append.1 (List.mem_toArray.1 hv) with hv | hv
  · exact Array.all_eq_true_iff_forall_mem.1 (Hs.cells_one shaIv) v (by simpa using hv)
  · rcases List.mem_append.1 hv with hv | hv
    · exact Array.all_eq_true_iff_forall_mem.1 (fcells_one 64 (fun _ => .u8) _) v (by simpa using hv)
    · simp only [List.mem_cons, List.not_mem_nil, or_false] at hv
      rcases hv with rfl | rfl <;> rfl
theorem row_dg : rowB Tryd.prog 104 74 = true := by kernel_rfl
theorem build_dg (w : World) : (Instr.build 104 #[(0, .agg shaIv.cells.toArray)]).run Tryd.prog w = .ok (.agg (dgC [])) w := by kernel_rfl
theorem sz_int : (Tryd.prog.info? 3).map (·.size) = some 1 := by kernel_rfl
theorem sz_u64 : (Tryd.prog.info? 22).map (·.size) = some 1 := by kernel_rfl
theorem run_build1 {P : Program} {ρ : Operand → Value} {o : Oper} {w : World} (t : TypeId) (i : Nat) (x : Operand) (ho : o.op = .build t #[(i, x)]) (u v : Value) (hx : ρ x = u) (h : (Instr.build t #[(i, u)]).run P w = .ok v w) :
    (execOp ρ o).run P w = .ok (.value v) w := by
  subst hx
  unfold execOp
  simp only [ho, List.map_toArray, List.map_cons, List.map_nil, Sem.run_bind, h, Result.andThen_ok, Sem.run_pure]
end Go.Proofs.YtfnjcpopadpmbaaDoor
