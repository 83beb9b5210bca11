/- Laws of single operations, for plain regions and for regions that draw their order: '==' of flat values, loads. -/
import Derived.Test.YtbfmbgeibhkheaaTimed
namespace Go.Proofs.Ytbfmbgeibhkheaa
open Go.RowKit
set_option maxRecDepth 100000
section
variable {P : Program} {ops : Array Oper} {rest : List Oper} {o : Oper} {a : Act} {w : World}

theorem run_eql_agg {ρ : Operand → Value} (w : World) (t t' : TypeId) (x y : Operand) (ho : o.op = .binOp .eql t x y t') (xs ys : List Value) (hx : ρ x = .agg xs.toArray) (hy : ρ y = .agg ys.toArray)
    (hv : ∀ zs, asVal P t zs = .agg zs.toArray) (hg : P.eqGuardType P.depth t = false) (d : Nat) (l : List LK) (hl : leafs P d t = some l) (hd : d ≤ Op.maxDepth) (fx : fits l xs) (fy : fits l ys) :
    (execOp ρ o).run P w = .ok (.value (.bool (eqCells xs ys))) w := by
  have h := equalIn_flat d t l hl Op.maxDepth hd w xs ys fx fy
  rw [hv, hv] at h
  have hgd : (eqGuard .eql t x y (.agg xs.toArray) (.agg ys.toArray)).run P w = .ok () w := by
    simp [eqGuard, go_sem, hg]
  unfold execOp
  simp only [ho, hx, hy, binOp, Op.equal, Sem.run_bind, hgd, h, Result.andThen, Sem.run_pure]
theorem run_neq_agg {ρ : Operand → Value} (w : World) (t t' : TypeId) (x y : Operand) (ho : o.op = .binOp .neq t x y t') (xs ys : List Value) (hx : ρ x = .agg xs.toArray) (hy : ρ y = .agg ys.toArray)
    (hv : ∀ zs, asVal P t zs = .agg zs.toArray) (hg : P.eqGuardType P.depth t = false) (d : Nat) (l : List LK) (hl : leafs P d t = some l) (hd : d ≤ Op.maxDepth) (fx : fits l xs) (fy : fits l ys) :
    (execOp ρ o).run P w = .ok (.value (.bool (!eqCells xs ys))) w := by
  have h := equalIn_flat d t l hl Op.maxDepth hd w xs ys fx fy
  rw [hv, hv] at h
  have hgd : (eqGuard .neq t x y (.agg xs.toArray) (.agg ys.toArray)).run P w = .ok () w := by
    simp [eqGuard, go_sem, hg]
  unfold execOp
  simp only [ho, hx, hy, binOp, Op.equal, Sem.run_bind, hgd, h, Result.andThen, Sem.run_pure]
theorem run_load_rows {ρ : Operand → Value} (w : World) (ty : TypeId) (x : Operand) (ho : o.op = .load ty x) (b k : Nat) (hx : ρ x = .pointer (some ⟨b, k, none⟩)) (cs : List Value) (d : TypeDesc) (hc : w.rangeAt b k cs)
    (hu : P.underlying ty = some d) (hd : d.isRow = true) (hi : (P.info? ty).map (·.size) = some cs.length) :
    (execOp ρ o).run P w = .ok (.value (.agg cs.toArray)) w := by
  unfold execOp
  simp only [ho, hx, Sem.run_bind, run_loadAt_mid w b k ty cs d hc hu hd hi, Result.andThen, Sem.run_pure]
theorem run_load_cell {ρ : Operand → Value} (w : World) (ty : TypeId) (x : Operand) (ho : o.op = .load ty x) (p : Addr) (hx : ρ x = .pointer (some p)) (v : Value) (hc : w.cell? p = some v) (d : TypeDesc)
    (hu : P.underlying ty = some d) (hd : d.isRow = false) :
    (execOp ρ o).run P w = .ok (.value v) w := by
  have hagg : (isAgg ty).run P w = .ok false w := by
    unfold isAgg
    rw [Sem.run_bind, run_underlying hu w]
    cases d <;> simp_all
  have hl : (loadVar ty p).run P w = .ok v w := by
    simp [loadVar, Sem.run_bind, hagg, Result.andThen, go_sem, hc]
  unfold execOp
  simp only [ho, hx, Instr.loadAt, Instr.sureAddr, Sem.run_bind, Sem.run_pure, hl, Result.andThen]

/-- What yields a value and leaves the world alone, in a plain region. -/
theorem wpList_value {Q : Exit → Act → World → Prop} (hw : Region.wanted o (yielded ops a.tmps) = true) (v : Value) (he : (execOp a.eval o).run P w = .ok (.value v) w)
    (h : wpList P ops Q rest (a.put o.dst v) w) : wpList P ops Q (o :: rest) a w := by
  unfold wpList
  rw [if_pos hw]
  refine .inl ?_
  unfold Oper.wp
  simp only [he, Oper.upon_value]
  exact h
theorem quiet_value {C : World → Prop} {K : Act → Prop} (v : Value) (he : ∀ w, C w → (execOp a.eval o).run P w = .ok (.value v) w) (h : K (a.put o.dst v)) : o.quiet P a C K :=
  ⟨v, fun w hw => by unfold Oper.quietAt; rw [he w hw]; exact ⟨rfl, rfl⟩, h⟩
theorem quiet_call {C : World → Prop} {K : Act → Prop} (f : FuncId) (args : Array Value) (v : Value) (he : ∀ w, (execOp a.eval o).run P w = .ok (.enter f args) w) (hc : ∀ w, C w → Calls P f args w fun e w' => e = .returned v ∧ C w') (h : K (a.put o.dst v)) : o.quiet P a C K :=
  ⟨v, fun w hw => by unfold Oper.quietAt; rw [he w]; exact ⟨rfl, hc w hw⟩, h⟩
end

def CK.lk : CK → LK
  | .u8 => .int .u8
  | .u64 => .int .u64
  | .bool => .bool
theorem CK.fit (c : CK) (n : Int) : c.lk.fit (c.mk n) := by cases c <;> exact ⟨_, rfl⟩
theorem fits_of : ∀ (n : Nat) (kd : Nat → CK) (cs : List Value), cs.length = n → (∀ j, j < n → ∃ m, cs[j]? = some ((kd j).mk m)) → fits ((List.range n).map fun j => (kd j).lk) cs
  | 0, _, [], _, _ => trivial
  | n + 1, kd, c :: cs, hl, h => by
    rw [List.range_succ_eq_map, List.map_cons, List.map_map]
    obtain ⟨m, hm⟩ := h 0 (by omega)
    have hc : c = (kd 0).mk m := by simpa using hm
    refine ⟨by rw [hc]; exact CK.fit _ _, ?_⟩
    exact fits_of n (fun j => kd (j + 1)) cs (by simpa using hl) (fun j hj => by simpa using h (j + 1) (by omega))
theorem eqv_comm (a b : Value) : eqv a b = eqv b a := by
  cases a <;> cases b <;> simp [eqv, BEq.comm]
theorem eqCells_comm : ∀ (a b : List Value), eqCells a b = eqCells b a
  | [], [] => rfl
  | [], _ :: _ => rfl
  | _ :: _, [] => rfl
  | a :: s, b :: r => by simp only [eqCells, eqv_comm a b, eqCells_comm s r]
/-- The cells of a checkpoint: an epoch and a root. -/
def ckK (j : Nat) : CK := if j = 0 then .u64 else .u8
theorem leafs_ck : leafs Try.prog 10 42 = some ((List.range 33).map fun j => (ckK j).lk) := by kernel_rfl
theorem leafs_root : leafs Try.prog 10 24 = some ((List.range 32).map fun j => (u8K j).lk) := by kernel_rfl
theorem guard_ck : Try.prog.eqGuardType Try.prog.depth 42 = false := by kernel_rfl
theorem guard_root : Try.prog.eqGuardType Try.prog.depth 24 = false := by kernel_rfl
theorem asVal_ck (zs : List Value) : asVal Try.prog 42 zs = .agg zs.toArray := by unfold asVal; rw [Try.underlying42]
theorem asVal_root (zs : List Value) : asVal Try.prog 24 zs = .agg zs.toArray := by unfold asVal; rw [Try.underlying24]
end Go.Proofs.Ytbfmbgeibhkheaa
