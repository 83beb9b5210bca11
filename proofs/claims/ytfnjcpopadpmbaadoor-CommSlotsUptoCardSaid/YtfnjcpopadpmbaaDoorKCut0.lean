/- Guards of single operations. -/
import Derived.Test.YtfnjcpopadpmbaaDoorJOg3
set_option linter.unusedVariables false
set_option linter.unusedSimpArgs false
set_option linter.unnecessarySimpa false
namespace Go.Proofs.YtfnjcpopadpmbaaDoor
open Go.RowKit BigFrame
theorem blk_lt {w : World} {b : Nat} {o : Obj} (h : w.heap[b]? = some o) : b < w.heap.size := (Array.getElem?_eq_some_iff.1 h).1
/-- The hash's own tables, as they are laid. -/
structure TabC (w : World) : Prop where
  start : ∀ j, j < 8 → w.cell? ⟨0, j, none⟩ = some (.int .u32 (wi (shaIv.at j)))
  round : ∀ t, t < 64 → w.cell? ⟨1, t, none⟩ = some (.int .u32 (wi (shaKw t)))
theorem TabC.below {w W : World} {n : Nat} (h : TabC w) (hn : 2 ≤ n) (hb : Below n w W) : TabC W :=
  ⟨fun j hj => (hb.cell (by simp only; omega)).trans (h.start j hj), fun j hj => (hb.cell (by simp only; omega)).trans (h.round j hj)⟩
theorem TabC.size {w : World} (h : TabC w) : 2 ≤ w.heap.size := block_lt_of_cell (h.round 0 (by omega))
theorem TabC.range {w : World} (h : TabC w) : w.rangeAt 0 0 shaIv.cells := fun j v hv => by
  have hj : j < 8 := (List.getElem?_eq_some_iff.1 hv).1
  have := shaIv.cells_get j hj
  rw [List.getElem?_toArray, hv] at this
  rw [Nat.zero_add, h.start j hj, this]
/-- a[k:] of an array. -/
theorem run_acut_from {P : Program} {ρ : Operand → Value} {o : Oper} (w : World) (t e : TypeId) (n : Nat) (x y : Operand) (ho : o.op = .slice t x (some y) none none) (hu : P.underlying t = some (.array n e)) (sz : Nat) (hsz : (P.info? e).map (·.size) = some sz) (b off : Nat) (hx : ρ x = .pointer (some ⟨b, off, none⟩)) (kd : IntKind) (k : Nat) (hy : ρ y = .int kd (k : Int)) (hk : k < n) (q : Nat) (hq : off + k * sz = q) :
    (execOp ρ o).run P w = .ok (.value (.slice (some ⟨b, q, none⟩) (n - k) (n - k))) w := by
  have hne : n ≠ k := by omega
  have e1 : (0 : Int) ≤ (k : Int) := by omega
  have e2 : (k : Int) ≤ (n : Int) := by omega
  unfold execOp
  simp only [ho, hx, hy, Option.map_some, Option.map_none, Instr.sliceAt, Instr.sliceBounds, Instr.sliceBound, Instr.sureAddr, asIntOf, Sem.run_bind, Sem.run_pure, Result.andThen_ok, run_underlying hu, size_of hsz, if_pos (And.intro e1 e2), Int.toNat_natCast, Addr.add_mid, hq, if_neg hne]
/-- a[:k] of an array. -/
theorem run_acut_to {P : Program} {ρ : Operand → Value} {o : Oper} (w : World) (t e : TypeId) (n : Nat) (x y : Operand) (ho : o.op = .slice t x none (some y) none) (hu : P.underlying t = some (.array n e)) (sz : Nat) (hsz : (P.info? e).map (·.size) = some sz) (b off : Nat) (hx : ρ x = .pointer (some ⟨b, off, none⟩)) (kd : IntKind) (k : Nat) (hy : ρ y = .int kd (k : Int)) (hk : k ≤ n) :
    (execOp ρ o).run P w = .ok (.value (.slice (some ⟨b, off, none⟩) k n)) w := by
  have e1 : (0 : Int) ≤ (k : Int) := by omega
  have e2 : (k : Int) ≤ (n : Int) := by omega
  unfold execOp
  simp only [ho, hx, hy, Option.map_some, Option.map_none, Instr.sliceAt, Instr.sliceBounds, Instr.sliceBound, Instr.sureAddr, asIntOf, Sem.run_bind, Sem.run_pure, Result.andThen_ok, run_underlying hu, size_of hsz, if_pos (And.intro e1 e2), Int.toNat_natCast, Addr.add_mid, Nat.zero_mul, Nat.add_zero, ite_self, Nat.sub_zero]
/-- a[:] of an array. -/
theorem run_acut_all {P : Program} {ρ : Operand → Value} {o : Oper} (w : World) (t e : TypeId) (n : Nat) (x : Operand) (ho : o.op = .slice t x none none none) (hu : P.underlying t = some (.array n e)) (sz : Nat) (hsz : (P.info? e).map (·.size) = some sz) (b k : Nat) (hx : ρ x = .pointer (some ⟨b, k, none⟩)) :
    (execOp ρ o).run P w = .ok (.value (.slice (some ⟨b, k, none⟩) n n)) w := by
  unfold execOp
  simp only [ho, hx, Option.map_none, Instr.sliceAt, Instr.sliceBounds, Instr.sureAddr, Sem.run_bind, Sem.run_pure, Result.andThen_ok, run_underlying hu, size_of hsz, Nat.zero_mul, Addr.add_mid, Nat.add_zero, ite_self, Nat.sub_zero]
/-- x[k:] of a slice, the end too. -/
theorem run_scut_from {P : Program} {ρ : Operand → Value} {o : Oper} (w : World) (t e : TypeId) (x y : Operand) (ho : o.op = .slice t x (some y) none none) (hu : P.underlying t = some (.slice e)) (sz : Nat) (hsz : (P.info? e).map (·.size) = some sz) (b off len cap : Nat) (hx : ρ x = .slice (some ⟨b, off, none⟩) len cap) (kd : IntKind) (k : Nat) (hy : ρ y = .int kd (k : Int)) (hk : k ≤ len) :
    (execOp ρ o).run P w = .ok (.value (.slice (some ⟨b, if cap = k then off else off + k * sz, none⟩) (len - k) (cap - k))) w := by
  have e1 : (0 : Int) ≤ (k : Int) := by omega
  have e2 : (k : Int) ≤ (len : Int) := by omega
  unfold execOp
  simp only [ho, hx, hy, Option.map_some, Option.map_none, Instr.sliceAt, Instr.slice, Instr.sliceBounds, Instr.sliceBound, asIntOf, Sem.run_bind, Sem.run_pure, Result.andThen_ok, run_underlying hu, size_of hsz, if_pos (And.intro e1 e2), Int.toNat_natCast, Addr.add_mid]
  by_cases c : cap = k
  · simp only [if_pos c]
  · simp only [if_neg c, Option.map_some]
section guards
variable {P : Program} {ops : Array Oper} {rest : List Oper} {a : Act} {w : World} {Q : Exit → Act → World → Prop} {d : Option Tmp} {ty : TypeId} {pos : String} {af : Array Edge} {g : Option (Nat × Bool)}
theorem at_appC (t : TypeId) {x y : Operand} (h : wpList P ops Q (⟨d, .call { callee := .builtin .append, args := #[x, y], argTypes := #[t, t] }, ty, pos, af, g⟩ :: rest) a w) : wpList P ops Q (⟨d, .call { callee := .builtin .append, args := #[x, y], argTypes := #[t, t] }, ty, pos, af, g⟩ :: rest) a w := h
theorem at_copyC (t u : TypeId) {x y : Operand} (h : wpList P ops Q (⟨d, .call { callee := .builtin .copy, args := #[x, y], argTypes := #[t, u] }, ty, pos, af, g⟩ :: rest) a w) : wpList P ops Q (⟨d, .call { callee := .builtin .copy, args := #[x, y], argTypes := #[t, u] }, ty, pos, af, g⟩ :: rest) a w := h
theorem at_sliceC (t : TypeId) {x : Operand} {lo hi mx : Option Operand} (h : wpList P ops Q (⟨d, .slice t x lo hi mx, ty, pos, af, g⟩ :: rest) a w) : wpList P ops Q (⟨d, .slice t x lo hi mx, ty, pos, af, g⟩ :: rest) a w := h
theorem at_iaddrC (t : TypeId) {x y : Operand} (h : wpList P ops Q (⟨d, .indexAddr t x y, ty, pos, af, g⟩ :: rest) a w) : wpList P ops Q (⟨d, .indexAddr t x y, ty, pos, af, g⟩ :: rest) a w := h
theorem at_makeC (t : TypeId) {x y : Operand} (h : wpList P ops Q (⟨d, .makeSlice t x y, ty, pos, af, g⟩ :: rest) a w) : wpList P ops Q (⟨d, .makeSlice t x y, ty, pos, af, g⟩ :: rest) a w := h
end guards
end Go.Proofs.YtfnjcpopadpmbaaDoor
