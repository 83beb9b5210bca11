/- A region that draws its order, taken by hand: laws for the single operations. -/
import Derived.Test.YtbfmbgeibhkheaaLaws
import Derived.Deep.RegionHeld
namespace Go.Proofs.Ytbfmbgeibhkheaa
open Go.RowKit
set_option maxRecDepth 100000
section
variable {P : Program} {o : Oper} {a : Act}
theorem run_move1 {ρ : Operand → Value} (x : Operand) (ho : o.op = .move x) (v : Value) (hx : ρ x = v) (w : World) : (execOp ρ o).run P w = .ok (.value v) w := by
  rw [← hx]; exact BigFrame.run_move x ho w
theorem run_nilCheck {ρ : Operand → Value} (x : Operand) (ho : o.op = .nilCheck x) (p : Addr) (hx : ρ x = .pointer (some p)) (w : World) : (execOp ρ o).run P w = .ok (.value (.pointer (some p))) w := by
  unfold execOp
  simp only [ho, hx, Sem.run_pure]
theorem run_extract {ρ : Operand → Value} (x : Operand) (i : Nat) (ho : o.op = .extract x i) (vs : Array Value) (hx : ρ x = .tuple vs) (v : Value) (hv : vs[i]? = some v) (w : World) : (execOp ρ o).run P w = .ok (.value v) w := by
  unfold execOp
  simp [ho, hx, go_sem, hv]
theorem run_load_box {ρ : Operand → Value} (w : World) (ty : TypeId) (x : Operand) (ho : o.op = .load ty x) (b : Nat) (hx : ρ x = .pointer (some ⟨b, 0, none⟩)) (t : TypeId) (cs : Array Value) (fr : Nat × Nat) (d : TypeDesc) (hc : w.heap[b]? = some (.cells cs t fr))
    (hu : P.underlying ty = some d) (hd : (match d with | .struct _ | .array _ _ => true | _ => false) = true) (hi : (P.info? ty).map (·.size) = some cs.size) :
    (execOp ρ o).run P w = .ok (.value (.agg cs)) w := by
  unfold execOp
  simp only [ho, hx, Instr.loadAt, Instr.sureAddr, Sem.run_bind, Sem.run_pure, Result.andThen_ok, run_loadVar_row w b t ty cs fr d hc hu hd hi]
theorem wp_call {K : Act → World → Prop} {Q : Exit → Act → World → Prop} {w : World} (f : FuncId) (args : Array Value) (he : (execOp a.eval o).run P w = .ok (.enter f args) w) (v : Value) (R : World → Prop)
    (hc : Calls P f args w fun e w' => e = .returned v ∧ R w') (h : ∀ w', R w' → K (a.put o.dst v) w') : o.wp P a w K Q := by
  unfold Oper.wp
  rw [he]
  simp only [Oper.upon]
  exact hc.mono fun e w' ⟨h1, h2⟩ => by subst h1; exact h w' h2
theorem wp_alloc_row {K : Act → World → Prop} {Q : Exit → Act → World → Prop} {w : World} (ty : TypeId) (ho : o.op = .alloc ty) (d : Tmp) (hd : o.dst = some d) (z : Array Value) (n : Nat)
    (hz : (P.info? ty).map (fun i => (i.zero, i.size)) = some (some (.agg z), n))
    (h : K (a.put (some d) (.pointer (some ⟨w.heap.size, 0, none⟩))) (w.alloc (.cells z ty))) : o.wp P a w K Q := by
  obtain ⟨hz1, _⟩ := zero_of_info hz
  unfold Oper.wp execOp
  simp only [ho, hd, Instr.alloc, Sem.run_bind, hz1, Result.andThen, run_newVar_row, Sem.run_pure, Oper.upon_value]
  exact h
end
def nth : List Oper → Nat → Option Oper
  | [], _ => none
  | o :: _, 0 => some o
  | _ :: l, i + 1 => nth l i
theorem nth_eq : ∀ (l : List Oper) (i : Nat), nth l i = l[i]?
  | [], _ => by simp [nth]
  | _ :: _, 0 => by simp [nth]
  | _ :: l, i + 1 => by simp [nth, nth_eq l i]
section
variable {P : Program} {l : List Oper} {Q : Exit → Act → World → Prop} {md : Region.Mode} {S : World → Prop}
theorem takeL {i : Nat} {oi : Oper} {v : Value} {fuel : Nat} {listed : Array Bool} {a : Act} {w : World} (hi : nth l i = some oi)
    (hs : Region.noSelect l.toArray = true) (hf : Region.free md l.toArray listed i = true) (hr : (Region.ready md l.toArray listed).contains i = true)
    (hQ : ∀ c a w, Q (.panic c) (a.put oi.dst v) w → Q (.panic c) a w) (hw : Region.wanted oi (yielded l.toArray a.tmps) = true) (hS : S w)
    (hy : ∀ w, S w → (execOp a.eval oi).run P w = .ok (.value v) w)
    (h : wpAnyH P md l.toArray Q S fuel (listed.setIfInBounds i true) (a.put oi.dst v) w) : wpAnyH P md l.toArray Q S (fuel + 1) listed a w :=
  wpAnyH_take (by rw [← hi, nth_eq]; simp) hs hf hr hQ (.inl ⟨hw, hy⟩) hS h
/-- Only one may come up. -/
theorem oneL {i : Nat} {oi : Oper} {fuel : Nat} {listed : Array Bool} {a : Act} {w : World} (hi : nth l i = some oi) (hr : Region.ready md l.toArray listed = [i]) (hw : Region.wanted oi (yielded l.toArray a.tmps) = true)
    (h : oi.wp P a w (fun a' w' => S w' ∧ wpAnyH P md l.toArray Q S fuel (listed.setIfInBounds i true) a' w') Q) : wpAnyH P md l.toArray Q S (fuel + 1) listed a w := by
  refine wpAnyH_all hr (by simp) fun j hj => ?_
  have : j = i := by simpa using hj
  subst this
  unfold wpOp
  have e : l.toArray[j]? = some oi := by rw [← hi, nth_eq]; simp
  simp only [e, hw, if_true]
  exact .inl h
/-- One of two. -/
theorem twoL {i k : Nat} {oi ok : Oper} {fuel : Nat} {listed : Array Bool} {a : Act} {w : World} (hi : nth l i = some oi) (hk : nth l k = some ok) (hr : Region.ready md l.toArray listed = [i, k]) (hwi : Region.wanted oi (yielded l.toArray a.tmps) = true) (hwk : Region.wanted ok (yielded l.toArray a.tmps) = true)
    (h1 : oi.wp P a w (fun a' w' => S w' ∧ wpAnyH P md l.toArray Q S fuel (listed.setIfInBounds i true) a' w') Q)
    (h2 : ok.wp P a w (fun a' w' => S w' ∧ wpAnyH P md l.toArray Q S fuel (listed.setIfInBounds k true) a' w') Q) : wpAnyH P md l.toArray Q S (fuel + 1) listed a w := by
  refine wpAnyH_all hr (by simp) fun j hj => ?_
  have e1 : l.toArray[i]? = some oi := by rw [← hi, nth_eq]; simp
  have e2 : l.toArray[k]? = some ok := by rw [← hk, nth_eq]; simp
  have : j = i ∨ j = k := by simpa using hj
  unfold wpOp
  rcases this with rfl | rfl
  · simp only [e1, hwi, if_true]
    exact .inl h1
  · simp only [e2, hwk, if_true]
    exact .inl h2
end
/-- All that stood in W stands as it stood, but perhaps block k. -/
structure Apart (k : Nat) (W w : World) : Prop where
  os : w.os = W.os
  tape : w.tape = W.tape
  output : w.output = W.output
  size : W.heap.size ≤ w.heap.size
  block : ∀ b, b < W.heap.size → b ≠ k → w.heap[b]? = W.heap[b]?
theorem Apart.begin (k : Nat) (W : World) : Apart k W { W with drawn := W.drawn + 1 } := ⟨rfl, rfl, rfl, Nat.le_refl _, fun _ _ _ => rfl⟩
theorem Apart.call {k : Nat} {W w w' : World} (h : Apart k W w) (hb : Below w.heap.size w w') : Apart k W w' :=
  ⟨hb.os.trans h.os, hb.tape.trans h.tape, hb.output.trans h.output, Nat.le_trans h.size hb.size, fun b h1 h2 => (hb.block b (Nat.lt_of_lt_of_le h1 h.size)).trans (h.block b h1 h2)⟩
theorem Apart.alloc {k : Nat} {W w : World} (h : Apart k W w) (o : Obj) : Apart k W (w.alloc o) :=
  h.call ((Below.refl _ _).alloc (Nat.le_refl _) _)
theorem Below.setCells {B : Nat} {a : World} (b : Nat) (hb : B ≤ b) : ∀ (vs : List Value) (o : Nat) (w : World), Below B a w → Below B a (w.setCells b o vs)
  | [], _, _, h => h
  | v :: vs, o, _, h => Below.setCells b hb vs (o + 1) _ (h.setCell (p := ⟨b, o, none⟩) hb v)
theorem block_setCells (b : Nat) : ∀ (vs : List Value) (o : Nat) (w : World), (w.setCells b o vs).heap.size = w.heap.size ∧ ∀ j, j ≠ b → (w.setCells b o vs).heap[j]? = w.heap[j]?
  | [], _, _ => ⟨rfl, fun _ _ => rfl⟩
  | v :: vs, o, w => by
    have h := block_setCells b vs (o + 1) (w.setCell ⟨b, o, none⟩ v)
    have hs : (w.setCell ⟨b, o, none⟩ v).heap.size = w.heap.size := by
      simp
    exact ⟨h.1.trans hs, fun j hj => (h.2 j hj).trans (Below.heap_setCell w ⟨b, o, none⟩ v j hj)⟩
theorem Apart.setCells {k : Nat} {W w : World} (h : Apart k W w) (b o : Nat) (vs : List Value) (hb : b = k ∨ W.heap.size ≤ b) : Apart k W (w.setCells b o vs) := by
  have h0 := Below.setCells (B := 0) (a := w) b (Nat.zero_le _) vs o w (Below.refl _ _)
  have h1 := block_setCells b vs o w
  exact ⟨h0.os.trans h.os, h0.tape.trans h.tape, h0.output.trans h.output, by rw [h1.1]; exact h.size, fun j h2 h3 => (h1.2 j (by omega)).trans (h.block j h2 h3)⟩
theorem Apart.cell {k : Nat} {W w : World} (h : Apart k W w) {p : Addr} (h1 : p.block < W.heap.size) (h2 : p.block ≠ k) : w.cell? p = W.cell? p := World.cell?_of_block (w := W) (h.block p.block h1 h2)
theorem Apart.below {k n : Nat} {a W w : World} (h : Apart k W w) (hb : Below n a W) (hk : n ≤ k) (hn : n ≤ W.heap.size) : Below n a w :=
  ⟨h.os.trans hb.os, h.tape.trans hb.tape, h.output.trans hb.output, Nat.le_trans hb.size h.size, fun b hl => (h.block b (by omega) (by omega)).trans (hb.block b hl)⟩
theorem gen_world {P : Program} {c : Code} {Q : Exit → Act → World → Prop} {a : Act} {w : World} (R : World → Prop) (hr : R w) (h : ∀ W, R W → c.wp P Q a W) : c.wp P Q a w := h w hr
theorem there_new (w : World) (z : Array Value) (t : TypeId) : (w.alloc (.cells z t)).there w.heap.size 0 z.size := fun j hj => by
  refine ⟨?_, World.frozen?_alloc_new w z t _⟩
  rw [cell_of_row _ w.heap.size (0 + j) z t _ (heap_alloc_last w (.cells z t))]
  simpa using hj
theorem there_later {w w' : World} {b o n : Nat} (h : w.there b o n) (hb : b < w.heap.size) (hB : Below w.heap.size w w') : w'.there b o n := fun j hj => by
  rw [hB.cell (by exact hb), hB.frozen (by exact hb)]
  exact h j hj
theorem run_assign1 {P : Program} {o : Oper} {ρ : Operand → Value} (x : Operand) (ho : o.op = .assign x) (v : Value) (hx : ρ x = v) (w : World) : (execOp ρ o).run P w = .ok (.value v) w := by
  rw [← hx]; exact BigFrame.run_assign x ho w
theorem Apart.frozen {k : Nat} {W w : World} (h : Apart k W w) {p : Addr} (h1 : p.block < W.heap.size) (h2 : p.block ≠ k) : w.frozen? p = W.frozen? p := World.frozen?_of_block (w := W) (h.block p.block h1 h2)
theorem gen_q {Q : Exit → Act → World → Prop} {e : Exit} {a : Act} {w : World} (R : World → Prop) (hr : R w) (h : ∀ W, R W → Q e a W) : Q e a w := h w hr
theorem ret_mid_tmp {P : Program} {fn : Func} {R : Ending → World → Prop} {a : Act} {w : World} {p u : Tmp} {ty : TypeId} (h : fn.results = #[.cell p ty, .tmp u]) (g k : Nat) (cs : List Value) (d : TypeDesc)
    (hp : a.tmps.getD p undef = .pointer (some ⟨g, k, none⟩)) (hg : w.rangeAt g k cs)
    (hu : P.underlying ty = some d) (hd : d.isRow = true) (hi : (P.info? ty).map (·.size) = some cs.length) (hdf : a.defers = [])
    (hR : R (.returned (.tuple #[.agg cs.toArray, a.tmps.getD u undef])) w) : bodyPost P fn R .ret a w := by
  refine bodyPost_ret ?_ hdf hR
  have hp' : a.tmps[p]?.getD undef = .pointer (some ⟨g, k, none⟩) := by simpa using hp
  simp [results, h, hp', asAddr, run_loadVar_mid w g k ty cs d hg hu hd hi]
theorem range3 {w : World} {g : Nat} {x y z : Value} (hx : w.cell? ⟨g, 0, none⟩ = some x) (hy : w.cell? ⟨g, 1, none⟩ = some y) (hz : w.cell? ⟨g, 2, none⟩ = some z) : w.rangeAt g 0 [x, y, z] := fun j v hv => by
  match j, hv with
  | 0, hv => simpa using hx.trans hv
  | 1, hv => simpa using hy.trans hv
  | 2, hv => simpa using hz.trans hv
theorem wp_store_bool {P : Program} {o : Oper} {a : Act} {w : World} {K : Act → World → Prop} {Q : Exit → Act → World → Prop} (ty : TypeId) (x y : Operand) (ho : o.op = .store ty x y) (p : Addr) (hx : a.eval x = .pointer (some p)) (b : Bool) (hy : a.eval y = .bool b)
    (hz : (P.info? ty).map (·.size) = some 1) (u : Value) (hc : w.cell? p = some u) (hf : w.frozen? p = false) (h : K (a.put o.dst undef) (w.setCell p (.bool b))) : o.wp P a w K Q := by
  cases hq : P.info? ty with
  | none => simp [hq] at hz
  | some i =>
    have hi : i.size = 1 := by simpa [hq] using hz
    have hs : (Instr.storeAt ty (.pointer (some p)) (.bool b)).run P w = .ok () (w.setCell p (.bool b)) := by
      simp [Instr.storeAt, Instr.sureAddr, storeVar, storeCells, sizeOf, typeInfo, hq, hi, Value.cells, go_sem, hc, hf]
    unfold Oper.wp execOp
    simp only [ho, hx, hy, Sem.run_bind, hs, Result.andThen, Sem.run_pure, Oper.upon_skip]
    exact h
section
variable {P : Program} {l : List Oper} {Q : Exit → Act → World → Prop} {md : Region.Mode} {S : World → Prop}
theorem skipL {i : Nat} {oi : Oper} {fuel : Nat} {listed : Array Bool} {a : Act} {w : World} (hi : nth l i = some oi)
    (hs : Region.noSelect l.toArray = true) (hf : Region.free md l.toArray listed i = true) (hr : (Region.ready md l.toArray listed).contains i = true)
    (hQ : ∀ c a w, Q (.panic c) (a.put oi.dst undef) w → Q (.panic c) a w) (hw : Region.wanted oi (yielded l.toArray a.tmps) = false) (hS : S w)
    (h : wpAnyH P md l.toArray Q S fuel (listed.setIfInBounds i true) (a.put oi.dst undef) w) : wpAnyH P md l.toArray Q S (fuel + 1) listed a w :=
  wpAnyH_take (by rw [← hi, nth_eq]; simp) hs hf hr hQ (.inr ⟨hw, rfl⟩) hS h
end
theorem there_block {w w' : World} {b o n : Nat} (h : w.there b o n) (e : w'.heap[b]? = w.heap[b]?) : w'.there b o n := fun j hj => by
  rw [World.cell?_of_block (w := w) e, World.frozen?_of_block (w := w) e]
  exact h j hj
theorem range_block {w w' : World} {b o : Nat} {cs : List Value} (h : w.rangeAt b o cs) (e : w'.heap[b]? = w.heap[b]?) : w'.rangeAt b o cs := fun j v hv => by
  rw [World.cell?_of_block (w := w) e]
  exact h j v hv
theorem Apart.setCell {k : Nat} {W w : World} (h : Apart k W w) (o : Nat) (v : Value) : Apart k W (w.setCell ⟨k, o, none⟩ v) := h.setCells k o [v] (Or.inl rfl)
theorem range_whole {w : World} {b : Nat} {l : List Value} {t : TypeId} {fr : Nat × Nat} (h : w.heap[b]? = some (.cells l.toArray t fr)) : w.rangeAt b 0 l := fun j v hv => by
  rw [Nat.zero_add, cell_of_row w b j _ _ _ h]
  simpa using hv
/-- What the reference's flags keeps: its two boxes, its answer's three cells. -/
structure OwnF (n : Nat) (w : World) (xs ds : Array Value) (tx td : TypeId) (W : World) : Prop where
  below : Below n w W
  size : n + 1 + 1 + 1 + 1 ≤ W.heap.size
  hX : W.heap[n]? = some (.cells xs tx (0, 0))
  hD : W.heap[n + 1]? = some (.cells ds td (0, 0))
  v0 : W.cell? ⟨n + 1 + 1, 0, none⟩ = some (.bool false)
  v1 : W.cell? ⟨n + 1 + 1, 1, none⟩ = some (.bool false)
  v2 : W.cell? ⟨n + 1 + 1, 2, none⟩ = some (.bool false)
  z0 : W.frozen? ⟨n + 1 + 1, 0, none⟩ = false
  z1 : W.frozen? ⟨n + 1 + 1, 1, none⟩ = false
  z2 : W.frozen? ⟨n + 1 + 1, 2, none⟩ = false
theorem OwnF.keep {n : Nat} {w : World} {xs ds : Array Value} {tx td : TypeId} {W W' : World} (h : OwnF n w xs ds tx td W) (hb : Below n w W') (hs : W.heap.size ≤ W'.heap.size) (he : ∀ b, b < n + 1 + 1 + 1 → W'.heap[b]? = W.heap[b]?) : OwnF n w xs ds tx td W' := by
  have e := he (n + 1 + 1) (by omega)
  have c := fun k => World.cell?_of_block (w := W) (w' := W') (a := ⟨n + 1 + 1, k, none⟩) e
  have f := fun k => World.frozen?_of_block (w := W) (w' := W') (a := ⟨n + 1 + 1, k, none⟩) e
  exact ⟨hb, Nat.le_trans h.size hs, (he n (by omega)).trans h.hX, (he (n + 1) (by omega)).trans h.hD, (c 0).trans h.v0, (c 1).trans h.v1, (c 2).trans h.v2, (f 0).trans h.z0, (f 1).trans h.z1, (f 2).trans h.z2⟩
theorem OwnF.call {n : Nat} {w : World} {xs ds : Array Value} {tx td : TypeId} {W W' : World} (h : OwnF n w xs ds tx td W) (hn : n ≤ W.heap.size) (hb : Below W.heap.size W W') : OwnF n w xs ds tx td W' :=
  h.keep (h.below.trans (hb.mono hn)) hb.size (fun b hl => hb.block b (by have := h.size; omega))
theorem OwnF.alloc {n : Nat} {w : World} {xs ds : Array Value} {tx td : TypeId} {W : World} (h : OwnF n w xs ds tx td W) (hn : n ≤ W.heap.size) (o : Obj) : OwnF n w xs ds tx td (W.alloc o) :=
  h.call hn ((Below.refl _ _).alloc (Nat.le_refl _) _)
theorem OwnF.setCells {n : Nat} {w : World} {xs ds : Array Value} {tx td : TypeId} {W : World} (h : OwnF n w xs ds tx td W) (b o : Nat) (vs : List Value) (hb : n + 1 + 1 + 1 ≤ b) : OwnF n w xs ds tx td (W.setCells b o vs) :=
  h.keep (Below.setCells b (by omega) vs o W h.below) (by rw [(block_setCells b vs o W).1]; exact Nat.le_refl _) (fun j hj => (block_setCells b vs o W).2 j (by omega))
theorem gen_l {P : Program} {ops : Array Oper} {Q : Exit → Act → World → Prop} {rest : List Oper} {a : Act} {w : World} (R : World → Prop) (hr : R w) (h : ∀ W, R W → wpList P ops Q rest a W) : wpList P ops Q rest a w := h w hr
end Go.Proofs.Ytbfmbgeibhkheaa
