/- The hash of two hashes of two zero roots: not zero. Its steps are laid out as numbers (by a small program), and the kernel checks each. -/
/- What the laws of the containers keep; bytes as numbers and back; strings of bytes. -/
import Derived.Test.YtihelknkcomjpaaDoorJBoxR
import Derived.Test.YtihelknkcomjpaaDoorJRqS
import Derived.Laws.BytesArg
set_option linter.unusedVariables false
set_option linter.unusedSimpArgs false
set_option linter.unnecessarySimpa false
namespace Go.Proofs.YtihelknkcomjpaaDoor
open Go.RowKit BigFrame
set_option maxRecDepth 100000
end Go.Proofs.YtihelknkcomjpaaDoor
namespace Go.Proofs.YtihelknkcomjpaaDoor
open Go.RowKit BigFrame
set_option maxRecDepth 100000
theorem drop_take_mid (A X B : List Int) (p k : Nat) (hp : A.length = p) (hk : X.length = k) : ((A ++ (X ++ B)).drop p).take k = X := by
  subst hp
  subst hk
  rw [List.drop_left, List.take_left]
theorem rdQ_numL (m : Int) (h0 : 0 ≤ m) (h1 : m ≤ 18446744073709551615) : rdQ (numL m) = m := by
  have e : numL m = [m % 256, m / 256 % 256, m / 65536 % 256, m / 16777216 % 256, m / 4294967296 % 256, m / 1099511627776 % 256, m / 281474976710656 % 256, m / 72057594037927936 % 256] := by
    show [leB m 0, leB m 1, leB m 2, leB m 3, leB m 4, leB m 5, leB m 6, leB m 7] = _
    unfold leB
    simp
  rw [e]
  unfold rdQ
  simp only [rdI, List.getD_cons_zero, List.getD_cons_succ]
  simp
  omega
theorem numL_rdQ (q : List Int) (hq : q.length = 8) (hok : ∀ x ∈ q, CK.ok .u8 x) : numL (rdQ q) = q := by
  match q, hq with
  | [a0, a1, a2, a3, a4, a5, a6, a7], _ =>
    have b0 : 0 ≤ a0 ∧ a0 ≤ 255 := hok a0 (by simp)
    have b1 : 0 ≤ a1 ∧ a1 ≤ 255 := hok a1 (by simp)
    have b2 : 0 ≤ a2 ∧ a2 ≤ 255 := hok a2 (by simp)
    have b3 : 0 ≤ a3 ∧ a3 ≤ 255 := hok a3 (by simp)
    have b4 : 0 ≤ a4 ∧ a4 ≤ 255 := hok a4 (by simp)
    have b5 : 0 ≤ a5 ∧ a5 ≤ 255 := hok a5 (by simp)
    have b6 : 0 ≤ a6 ∧ a6 ≤ 255 := hok a6 (by simp)
    have b7 : 0 ≤ a7 ∧ a7 ≤ 255 := hok a7 (by simp)
    clear hok
    have e : rdQ [a0, a1, a2, a3, a4, a5, a6, a7] = a0 + a1 * 256 + a2 * 65536 + a3 * 16777216 + a4 * 4294967296 + a5 * 1099511627776 + a6 * 281474976710656 + a7 * 72057594037927936 := by
      unfold rdQ
      simp only [rdI, List.getD_cons_zero, List.getD_cons_succ]
      simp
    rw [e]
    show [leB _ 0, leB _ 1, leB _ 2, leB _ 3, leB _ 4, leB _ 5, leB _ 6, leB _ 7] = _
    unfold leB
    simp only [List.cons.injEq, and_true]
    refine ⟨?_, ?_, ?_, ?_, ?_, ?_, ?_, ?_⟩ <;> simp <;> omega
theorem rdQ_ok (q : List Int) (hq : q.length = 8) (hok : ∀ x ∈ q, CK.ok .u8 x) : CK.ok .u64 (rdQ q) := by
  have h := rdI_lt (f := fun j => q.getD j 0) (fun j => list_isB hok j) 8
  have e : (2 : Int) ^ (8 * 8) = 18446744073709551616 := rfl
  rw [e] at h
  show 0 ≤ rdQ q ∧ rdQ q ≤ 18446744073709551615
  unfold rdQ
  omega
theorem byL_rd (r : Nat → Int) (l : List Int) (o p n : Nat) (h : ∀ j, j < n → r (o + j) = l.getD (p + j) 0) (hl : p + n ≤ l.length) : byL r o n = (l.drop p).take n := by
  apply List.ext_getElem?
  intro i
  by_cases c : i < n
  · simp only [byL, List.getElem?_map, List.getElem?_range c, Option.map_some, List.getElem?_take, if_pos c, List.getElem?_drop, h i c]
    rw [List.getD, List.getElem?_eq_getElem (show p + i < l.length by omega)]
    rfl
  · rw [List.getElem?_eq_none (by rw [byL_length]; omega), List.getElem?_eq_none (by rw [List.length_take]; omega)]
theorem byL_congr {f g : Nat → Int} {o n : Nat} (h : ∀ j, j < n → f (o + j) = g (o + j)) : byL f o n = byL g o n := by
  unfold byL
  exact List.map_congr_left fun j hj => h j (by simpa using hj)
/-- The parts, one behind the other, are the whole. -/
theorem cat_end (l : List Int) (p k : Nat) (h : p + k = l.length) : (l.drop p).take k = l.drop p := List.take_of_length_le (by rw [List.length_drop]; omega)
theorem cat_next (l : List Int) (p k q : Nat) (h : p + k = q) : (l.drop p).take k ++ l.drop q = l.drop p := by
  rw [← h, ← List.drop_drop, List.take_append_drop]
theorem take_ok {l : List Int} (h : ∀ x ∈ l, CK.ok .u8 x) (p k : Nat) : ∀ x ∈ (l.drop p).take k, CK.ok .u8 x := fun x hx => h x (List.mem_of_mem_drop (List.mem_of_mem_take hx))
/-! What a law keeps: boxes, slices of bytes. -/
structure Law (n : Nat) (w : World) (bs : List (Nat × Array Value × TypeId)) (ss : List Pt) (W : World) : Prop where
  hB : Below n w W
  hz : n ≤ W.heap.size
  hb : ∀ p ∈ bs, W.heap[p.1]? = some (.cells p.2.1 p.2.2 (0, 0))
  hs : ∀ p ∈ ss, SlB p.1 p.2.1 p.2.2.2 W ∧ p.2.2.2.length = p.2.2.1
  hT : Tabs W
section
variable {n : Nat} {w W W' : World} {bs : List (Nat × Array Value × TypeId)} {ss : List Pt}
theorem Law.later (h : Law n w bs ss W) (hb : Below W.heap.size W W') : Law n w bs ss W' :=
  ⟨h.hB.trans (hb.mono h.hz), Nat.le_trans h.hz hb.size, fun p hp => (hb.block p.1 (block_lt (h.hb p hp))).trans (h.hb p hp), fun p hp => ⟨(h.hs p hp).1.later hb, (h.hs p hp).2⟩, h.hT.below h.hT.size hb⟩
theorem Law.addB (h : Law n w bs ss W) (C : Array Value) (t : TypeId) : Law n w (bs ++ [(W.heap.size, C, t)]) ss (W.alloc (.cells C t)) := by
  have h2 := h.later (W' := W.alloc (.cells C t)) ((Below.refl _ _).alloc (Nat.le_refl _) _)
  refine ⟨h2.hB, h2.hz, fun p hp => ?_, h2.hs, h2.hT⟩
  rcases List.mem_append.1 hp with hp | hp
  · exact h2.hb p hp
  · rw [List.mem_singleton.1 hp]; exact heap_new _ _ _ _ rfl
theorem Law.addS (h : Law n w bs ss W) {va : Option Addr} {c k : Nat} {m : List Int} (hs : SlB va c m W) (hk : m.length = k) : Law n w bs (ss ++ [(va, c, k, m)]) W :=
  ⟨h.hB, h.hz, h.hb, fun p hp => by
    rcases List.mem_append.1 hp with hp | hp
    · exact h.hs p hp
    · rw [List.mem_singleton.1 hp]; exact ⟨hs, hk⟩, h.hT⟩
theorem Law.sl (h : Law n w bs ss W) (i : Nat) {va : Option Addr} {c k : Nat} {m : List Int} (hi : ss[i]? = some (va, c, k, m)) : SlB va c m W := (h.hs _ (List.mem_of_getElem? hi)).1
theorem Law.len (h : Law n w bs ss W) (i : Nat) {va : Option Addr} {c k : Nat} {m : List Int} (hi : ss[i]? = some (va, c, k, m)) : m.length = k := (h.hs _ (List.mem_of_getElem? hi)).2
theorem Law.bx (h : Law n w bs ss W) (i : Nat) {b : Nat} {C : Array Value} {t : TypeId} (hi : bs[i]? = some (b, C, t)) : W.heap[b]? = some (.cells C t (0, 0)) := h.hb _ (List.mem_of_getElem? hi)
/-- string(b). -/
theorem run_conv {ρ : Operand → Value} {o : Oper} (x : Operand) (ho : o.op = .convert 34 9 x) (h : Law n w bs ss W) (i : Nat) {va : Option Addr} {c k : Nat} {m : List Int} (hi : ss[i]? = some (va, c, k, m)) (hx : ρ x = .slice va k c) :
    (execOp ρ o).run Tryd.prog W = .ok (.value (.string (strOfNums m))) W := by
  have hs := h.sl i hi
  have hk := h.len i hi
  have hc : (convert 34 9 (.slice va k c)).run Tryd.prog W = .ok (.string (strOfNums m)) W := by
    by_cases h0 : va = none
    · subst h0
      have hm : m = [] := by
        cases m with
        | nil => rfl
        | cons y ys => obtain ⟨b, o', e, _⟩ := hs.row.cell 0 (by simp); cases e
      subst hm
      exact run_convert_bytes_nil W 34 5 Tryd.underlying34 Tryd.underlying5 k c 9 Tryd.underlying9
    · obtain ⟨ad, rfl⟩ := Option.ne_none_iff_exists'.1 h0
      by_cases hm : m = []
      · subst hm
        subst hk
        have := run_convert_bytes_arg W 34 5 Tryd.underlying34 Tryd.underlying5
        have hl : (loadCells ad 0).run Tryd.prog W = .ok #[] W := by simp [loadCells, go_sem]
        rw [run_convert_bytes_string W 34 9 5 _ _ c Tryd.underlying34 Tryd.underlying5 Tryd.underlying9]
        exact (run_bytesToString W ad 0 c [] (by simpa using hl)).trans rfl
      · have hpos : 0 < m.length := List.length_pos_iff.2 hm
        obtain ⟨b, o', e, _⟩ := hs.row.cell 0 hpos
        cases e
        exact run_convert_bytes_arg W 34 5 Tryd.underlying34 Tryd.underlying5 b o' k c m hk (fun j hj => by
          obtain ⟨b2, o2, e2, hc⟩ := hs.row.cell j (by omega)
          cases e2
          exact hc) 9 Tryd.underlying9
  unfold execOp
  simp only [ho, hx, Sem.run_bind, hc, Result.andThen_ok, Sem.run_pure]
theorem at_conv {P : Program} {ops : Array Oper} {Q : Exit → Act → World → Prop} {rest : List Oper} {a : Act} {w : World} {d : Option Tmp} {ty : TypeId} {pos : String} {af : Array Edge} {g : Option (Nat × Bool)} (s t : TypeId) {x : Operand} (h : wpList P ops Q (⟨d, .convert s t x, ty, pos, af, g⟩ :: rest) a w) : wpList P ops Q (⟨d, .convert s t x, ty, pos, af, g⟩ :: rest) a w := h
theorem at_bin {P : Program} {ops : Array Oper} {Q : Exit → Act → World → Prop} {rest : List Oper} {a : Act} {w : World} {d : Option Tmp} {ty : TypeId} {pos : String} {af : Array Edge} {g : Option (Nat × Bool)} (b : BinOp) (t : TypeId) {x y : Operand} {t' : TypeId} (h : wpList P ops Q (⟨d, .binOp b t x y t', ty, pos, af, g⟩ :: rest) a w) : wpList P ops Q (⟨d, .binOp b t x y t', ty, pos, af, g⟩ :: rest) a w := h
theorem eqv_refl (v : Value) (h : ∃ k m, v = CK.mk k m) : eqv v v = true := by
  obtain ⟨k, m, rfl⟩ := h
  cases k <;> simp [CK.mk, eqv]
theorem eqCells_refl : ∀ (l : List Value), (∀ v ∈ l, ∃ k m, v = CK.mk k m) → eqCells l l = true
  | [], _ => rfl
  | v :: l, h => by
    show (eqv v v && eqCells l l) = true
    rw [eqv_refl v (h v (by simp)), eqCells_refl l fun u hu => h u (by simp [hu])]
    rfl
theorem eqCells_f (N : Nat) (kd : Nat → CK) (f : Nat → Int) : eqCells (fcells N kd f) (fcells N kd f) = true :=
  eqCells_refl _ fun v hv => by
    obtain ⟨j, _, rfl⟩ := List.mem_map.1 hv
    exact ⟨_, _, rfl⟩
theorem fits_f (N : Nat) (kd : Nat → CK) (f : Nat → Int) : fits ((List.range N).map fun j => (kd j).lk) (fcells N kd f) :=
  fits_of N kd _ (fcells_length _ _ _) fun j hj => ⟨_, fcells_get _ _ _ _ hj⟩
theorem asVal_root (zs : List Value) : asVal Tryd.prog 23 zs = .agg zs.toArray := by unfold asVal; rw [Tryd.underlying23]
theorem guard_root : Tryd.prog.eqGuardType Tryd.prog.depth 23 = false := by kernel_rfl
theorem leafs_root : leafs Tryd.prog 10 23 = some ((List.range 32).map fun _ => CK.lk .u8) := by kernel_rfl
theorem run_neq_root {ρ : Operand → Value} {o : Oper} (W : World) (x y : Operand) (ho : o.op = .binOp .neq 23 x y 23) (r q : Nat → Int) (b : Bool) (hx : ρ x = .agg (rootV r)) (hy : ρ y = .agg (rootV q)) (hb : eqCells (fcells 32 (fun _ => .u8) r) (fcells 32 (fun _ => .u8) q) = !b) :
    (execOp ρ o).run Tryd.prog W = .ok (.value (.bool b)) W := by
  rw [run_neq_agg W 23 23 x y ho (fcells 32 (fun _ => .u8) r) (fcells 32 (fun _ => .u8) q) hx hy asVal_root guard_root 10 _ leafs_root (by decide) (fits_f 32 (fun _ => .u8) r) (fits_f 32 (fun _ => .u8) q), hb]
  simp
end
end Go.Proofs.YtihelknkcomjpaaDoor
