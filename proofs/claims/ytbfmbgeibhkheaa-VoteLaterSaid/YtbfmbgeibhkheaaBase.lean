/- Plain words on cells, used by the walks of this seat: the number in a cell, ranges of cells; laws for the load, the making and the storing of a struct of many cells. Nothing of the program stands here. -/
import Derived.WalkKit
import Derived.WalkSpells
import Derived.WalkLawsBesides
import Derived.Deep.QuietTactic
import Derived.BigQuiet
import Derived.Deep.MidRow
import Derived.Deep.WholeRow
import Derived.Lib.Hide
namespace Go.Proofs.Ytbfmbgeibhkheaa
open Go.RowKit

/-- The number in a cell: of a bool 0 or 1. -/
def num : Value → Int
  | .int _ n => n
  | .bool b => if b then 1 else 0
  | _ => 0

theorem run_newVar_row {P : Program} (w : World) (ty : TypeId) (z : Array Value) : (newVar ty (.agg z)).run P w = .ok ⟨w.heap.size, 0, none⟩ (w.alloc (.cells z ty)) := by
  simp [newVar, newRow, Value.cells]

/-- Making a variable of a struct type and storing a value into it, one behind the other: one block more. -/
theorem wpList_alloc_store {P : Program} {ops : Array Oper} {rest : List Oper} {o1 o2 : Oper} {a : Act} {w : World} {Q : Exit → Act → World → Prop}
    (hg1 : o1.guard = none) (hg2 : o2.guard = none) (ty : TypeId) (d : Tmp) (y : Operand) (ho1 : o1.op = .alloc ty) (hd1 : o1.dst = some d)
    (ho2 : o2.op = .store ty (.tmp d) y) (cs : Array Value)
    (hx : (a.put (some d) (.pointer (some ⟨w.heap.size, 0, none⟩))).eval (.tmp d) = .pointer (some ⟨w.heap.size, 0, none⟩)) (hy : (a.put (some d) (.pointer (some ⟨w.heap.size, 0, none⟩))).eval y = .agg cs)
    (z : Array Value) (hz : (P.info? ty).map (fun i => (i.zero, i.size)) = some (some (.agg z), cs.size)) (hzs : z.size = cs.size) (h1 : cs.all (·.oneCell') = true)
    (h : wpList P ops Q rest ((a.put (some d) (.pointer (some ⟨w.heap.size, 0, none⟩))).put o2.dst undef) (w.alloc (.cells cs ty))) : wpList P ops Q (o1 :: o2 :: rest) a w := by
  obtain ⟨hz1, hz2⟩ := zero_of_info hz
  refine wpList_plain hg1 fun K hK => ?_
  unfold Oper.wp execOp
  simp only [ho1, hd1, Instr.alloc, Sem.run_bind, hz1, Result.andThen, run_newVar_row, Sem.run_pure, Oper.upon_value]
  refine hK _ _ (wpList_plain hg2 fun K2 hK2 => ?_)
  unfold Oper.wp execOp
  simp only [ho2, hx, hy, Sem.run_bind, run_storeAt_new w ty z cs hz2 hzs h1, Result.andThen, Sem.run_pure, Oper.upon_skip]
  exact hK2 _ _ h
end Go.Proofs.Ytbfmbgeibhkheaa
namespace Go.Proofs.Ytbfmbgeibhkheaa
open Go.RowKit

theorem foldl_set (off : Nat) : ∀ (vs : List Value) (j : Nat) (pre post : List Value), pre.length = off + j → vs.length ≤ post.length →
    (vs.zipIdx j).foldl (fun cs (p : Value × Nat) => cs.setIfInBounds (off + p.2) p.1) (pre ++ post).toArray = (pre ++ vs ++ post.drop vs.length).toArray
  | [], j, pre, post, _, _ => by simp
  | v :: vs, j, pre, post, hp, hl => by
    match post, hl with
    | q :: post, hl =>
      have hl' : vs.length ≤ post.length := by simpa using hl
      simp only [List.zipIdx_cons, List.foldl_cons]
      have e : (pre ++ q :: post).toArray.setIfInBounds (off + j) v = ((pre ++ [v]) ++ post).toArray := by
        rw [← hp]; simp
      rw [e, foldl_set off vs (j + 1) (pre ++ [v]) post (by simp; omega) hl']
      simp

theorem fill_all (s : Nat) : ∀ (parts : List (List Value)) (k : Nat) (pre post : List Value), pre.length = k * s → (∀ p ∈ parts, p.length = s) → post.length = parts.length * s →
    Instr.fill (fun i => some (i * s, s)) (pre ++ post).toArray ((parts.zipIdx k).map fun p => (p.2, Value.agg p.1.toArray)) = some (pre ++ parts.flatten).toArray
  | [], k, pre, post, _, _, hpost => by
    have : post = [] := List.eq_nil_of_length_eq_zero (by simpa using hpost)
    simp [Instr.fill, this]
  | p :: parts, k, pre, post, hp, hs, hpost => by
    have hps : p.length = s := hs p (by simp)
    have hpl : post.length = s + parts.length * s := by rw [hpost]; simp [Nat.succ_mul, Nat.add_comm]
    simp only [List.zipIdx_cons, List.map_cons, Instr.fill]
    rw [if_neg (by simp [Value.cells, hps, hp]; omega)]
    have hz : (p.toArray.zipIdx.foldl (fun cs (x : Value × Nat) => cs.setIfInBounds (k * s + x.2) x.1) (pre ++ post).toArray) = ((pre ++ p) ++ post.drop p.length).toArray := by
      rw [← Array.foldl_toList]
      have := foldl_set (k * s) p 0 pre post (by omega) (by omega)
      simpa using this
    have ih := fill_all s parts (k + 1) (pre ++ p) (post.drop p.length) (by simp [hp, hps, Nat.succ_mul]) (fun q hq => hs q (by simp [hq])) (by simp [hpl, hps])
    refine Eq.trans (congrArg (fun c => Instr.fill (fun i => some (i * s, s)) c _) hz) ?_
    rw [ih]
    simp

/-- An array literal whose parts are all given, in order: its cells are those of the parts, one behind the other. -/
theorem run_build_array {P : Program} (w : World) (t e : TypeId) (n s : Nat) (hu : P.underlying t = some (.array n e)) (he : (P.info? e).map (·.size) = some s)
    (z : Array Value) (hz : (P.info? t).map (fun i => (i.zero, i.size)) = some (some (.agg z), z.size)) (parts : List (List Value)) (hs : ∀ p ∈ parts, p.length = s) (hzs : z.size = parts.length * s) :
    (Instr.build t ((parts.zipIdx 0).map fun p => (p.2, Value.agg p.1.toArray)).toArray).run P w = .ok (.agg parts.flatten.toArray) w := by
  obtain ⟨hz1, _⟩ := zero_of_info hz
  have hf := fill_all s parts 0 [] z.toList (by simp) hs (by simpa using hzs)
  simp only [List.nil_append, Array.toArray_toList] at hf
  cases hq : P.info? e with
  | none => simp [hq] at he
  | some i =>
    have hi : i.size = s := by simpa [hq] using he
    simp [Instr.build, Sem.run_bind, hz1, Value.cells, Result.andThen, run_underlying hu, sizeOf, typeInfo, hq, hi, hf]
end Go.Proofs.Ytbfmbgeibhkheaa
namespace Go.Proofs.Ytbfmbgeibhkheaa
open Go.RowKit
/-- An array literal whose parts are all given, in order, as an operation. -/
theorem wpList_build_array {P : Program} {ops : Array Oper} {rest : List Oper} {o : Oper} {a : Act} {w : World} {Q : Exit → Act → World → Prop}
    (hg : o.guard = none) (t e : TypeId) (n s : Nat) (parts : Array (Nat × Operand)) (ho : o.op = .build t parts) (ps : List (List Value))
    (hp : parts.toList.map (fun x => (x.1, a.eval x.2)) = (ps.zipIdx 0).map fun p => (p.2, Value.agg p.1.toArray))
    (hu : P.underlying t = some (.array n e)) (he : (P.info? e).map (·.size) = some s)
    (z : Array Value) (hz : (P.info? t).map (fun i => (i.zero, i.size)) = some (some (.agg z), z.size)) (hs : ∀ p ∈ ps, p.length = s) (hzs : z.size = ps.length * s)
    (h : wpList P ops Q rest (a.put o.dst (.agg ps.flatten.toArray)) w) : wpList P ops Q (o :: rest) a w := by
  refine wpList_plain hg fun K hK => ?_
  unfold Oper.wp execOp
  have e : (parts.map fun x => match x with | (i, x) => (i, a.eval x)) = ((ps.zipIdx 0).map fun p => (p.2, Value.agg p.1.toArray)).toArray := by
    rw [← hp, ← Array.toList_map]
  simp only [ho, e, Sem.run_bind, run_build_array w t _ n s hu he z hz ps hs hzs, Result.andThen, Sem.run_pure, Oper.upon_value]
  exact hK _ _ h
/-- Out of a range of cells of a block. -/
theorem extract_get (xs : Array Value) (o n j : Nat) (h : j < n) : (xs.extract o (o + n))[j]? = xs[o + j]? := by
  simp [Array.getElem?_extract]; omega
theorem extract_size (xs : Array Value) (o n : Nat) (h : o + n ≤ xs.size) : (xs.extract o (o + n)).size = n := by simp; omega
/-- The zero value's cells of a type of many cells. -/
def zeroOf (P : Program) (t : TypeId) : Array Value := match (P.info? t).bind (·.zero) with | some (.agg z) => z | _ => #[]
/-- A type's row: its zero value has as many cells as it says. -/
def rowB (P : Program) (t : TypeId) (n : Nat) : Bool := match P.info? t with | some i => (match i.zero with | some (.agg z) => i.size == n && z.size == n | _ => false) | none => false
theorem row_zero {P : Program} {t n : Nat} (h : rowB P t n = true) : (P.info? t).map (fun i => (i.zero, i.size)) = some (some (.agg (zeroOf P t)), n) ∧ (zeroOf P t).size = n := by
  unfold rowB at h
  unfold zeroOf
  split at h
  · rename_i i hi
    split at h
    · rename_i z hz
      simp only [Bool.and_eq_true, beq_iff_eq] at h
      simp [hi, hz, h.1, h.2]
    · cases h
  · cases h
theorem row_size {P : Program} {t n : Nat} (h : rowB P t n = true) : (P.info? t).map (·.size) = some n := (zero_of_info (row_zero h).1).2
end Go.Proofs.Ytbfmbgeibhkheaa
namespace Go.Proofs.Ytbfmbgeibhkheaa
section guards
variable {P : Program} {ops : Array Oper} {rest : List Oper} {a : Act} {w : World} {Q : Exit → Act → World → Prop} {d : Option Tmp} {ty : TypeId} {pos : String} {af : Array Edge} {g : Option (Nat × Bool)}
/-! Guards: each says which operation stands next, and nothing else. -/
theorem at_build (t : TypeId) {ps : Array (Nat × Operand)} (h : wpList P ops Q (⟨d, .build t ps, ty, pos, af, g⟩ :: rest) a w) : wpList P ops Q (⟨d, .build t ps, ty, pos, af, g⟩ :: rest) a w := h
theorem at_load (t : TypeId) {x : Operand} (h : wpList P ops Q (⟨d, .load t x, ty, pos, af, g⟩ :: rest) a w) : wpList P ops Q (⟨d, .load t x, ty, pos, af, g⟩ :: rest) a w := h
theorem at_alloc (t : TypeId) (h : wpList P ops Q (⟨d, .alloc t, ty, pos, af, g⟩ :: rest) a w) : wpList P ops Q (⟨d, .alloc t, ty, pos, af, g⟩ :: rest) a w := h
theorem at_store (t : TypeId) {x y : Operand} (h : wpList P ops Q (⟨d, .store t x y, ty, pos, af, g⟩ :: rest) a w) : wpList P ops Q (⟨d, .store t x y, ty, pos, af, g⟩ :: rest) a w := h
theorem at_index (t : TypeId) {x y : Operand} (h : wpList P ops Q (⟨d, .index t x y, ty, pos, af, g⟩ :: rest) a w) : wpList P ops Q (⟨d, .index t x y, ty, pos, af, g⟩ :: rest) a w := h
theorem at_call_builtin (b : Builtin) {xs : Array Operand} {ts : Array TypeId} (h : wpList P ops Q (⟨d, .call { callee := .builtin b, args := xs, argTypes := ts }, ty, pos, af, g⟩ :: rest) a w) : wpList P ops Q (⟨d, .call { callee := .builtin b, args := xs, argTypes := ts }, ty, pos, af, g⟩ :: rest) a w := h
end guards
end Go.Proofs.Ytbfmbgeibhkheaa
namespace Go.Proofs.Ytbfmbgeibhkheaa
open Go.RowKit
theorem extract_list (xs : Array Value) (a n : Nat) : (xs.extract a (a + n)).toList = (xs.toList.drop a).take n := by
  simp [List.take_drop]
theorem extract_app (xs : Array Value) (a n m : Nat) : (xs.extract a (a + n)).toList ++ (xs.extract (a + n) (a + n + m)).toList = (xs.extract a (a + (n + m))).toList := by
  rw [extract_list, extract_list, extract_list, List.take_add, List.drop_drop]
/-- An element, itself of many cells, out of an array value. -/
theorem run_index_rows {P : Program} (w : World) (t e n s : Nat) (hu : P.underlying t = some (.array n e)) {d : TypeDesc} (he : P.underlying e = some d) (hd : d.isRow = true) (hs : (P.info? e).map (·.size) = some s)
    (cs : Array Value) (k : IntKind) (i : Nat) (hi : i < n) : (Instr.index t (.agg cs) (.int k i)).run P w = .ok (.agg (cs.extract (i * s) (i * s + s))) w := by
  cases hq : P.info? e with
  | none => simp [hq] at hs
  | some j =>
    have hj : j.size = s := by simpa [hq] using hs
    have hagg : (isAgg e).run P w = .ok true w := by
      unfold isAgg
      rw [Sem.run_bind, run_underlying he w]
      cases d <;> simp_all
    simp [Instr.index, asIntOf, Sem.run_bind, run_underlying hu, Result.andThen, sizeOf, typeInfo, hq, hj, part, hagg, hi]
end Go.Proofs.Ytbfmbgeibhkheaa
