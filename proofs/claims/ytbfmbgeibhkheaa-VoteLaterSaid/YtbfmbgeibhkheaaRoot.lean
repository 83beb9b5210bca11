/- RootAt of program and reference; Epoch and Before of the reference. -/
import Derived.Test.YtbfmbgeibhkheaaState2
import Derived.Test.YtbfmbgeibhkheaaWord
import Derived.Test.YtbfmbgeibhkheaaBase2
namespace Go.Proofs.Ytbfmbgeibhkheaa
open Go.RowKit
set_option maxRecDepth 100000

/-- Storing a whole row into the newest block. -/
theorem wpList_store_new {P : Program} {ops : Array Oper} {rest : List Oper} {o : Oper} {a : Act} {w : World} {Q : Exit → Act → World → Prop}
    (hg : o.guard = none) (ty : TypeId) (x y : Operand) (ho : o.op = .store ty x y) (z cs : Array Value)
    (hx : a.eval x = .pointer (some ⟨w.heap.size, 0, none⟩)) (hy : a.eval y = .agg cs)
    (hz : (P.info? ty).map (·.size) = some cs.size) (hzs : z.size = cs.size) (h1 : cs.all (·.oneCell') = true)
    (h : wpList P ops Q rest (a.put o.dst undef) (w.alloc (.cells cs ty))) : wpList P ops Q (o :: rest) a (w.alloc (.cells z ty)) := by
  refine wpList_plain hg fun K hK => ?_
  unfold Oper.wp execOp
  simp only [ho, hx, hy, Sem.run_bind, run_storeAt_new w ty z cs hz hzs h1, Result.andThen, Sem.run_pure, Oper.upon_skip]
  exact hK _ _ h
/-- Making a variable of a struct or array type. -/
theorem wpList_alloc_row {P : Program} {ops : Array Oper} {rest : List Oper} {o : Oper} {a : Act} {w : World} {Q : Exit → Act → World → Prop}
    (hg : o.guard = none) (ty : TypeId) (ho : o.op = .alloc ty) (d : Tmp) (hd : o.dst = some d) (z : Array Value) (n : Nat)
    (hz : (P.info? ty).map (fun i => (i.zero, i.size)) = some (some (.agg z), n))
    (h : wpList P ops Q rest (a.put (some d) (.pointer (some ⟨w.heap.size, 0, none⟩))) (w.alloc (.cells z ty))) : wpList P ops Q (o :: rest) a w := by
  obtain ⟨hz1, _⟩ := zero_of_info hz
  refine wpList_plain hg fun K hK => ?_
  unfold Oper.wp execOp
  simp only [ho, hd, Instr.alloc, Sem.run_bind, hz1, Result.andThen, run_newVar_row, Sem.run_pure, Oper.upon_value]
  exact hK _ _ h
/-- The answer: a row out of a variable, and a number. -/
theorem ret_row_tmp {P : Program} {fn : Func} {R : Ending → World → Prop} {a : Act} {w : World} {p u : Tmp} {ty : TypeId} (h : fn.results = #[.cell p ty, .tmp u]) (g : Nat) (t : TypeId) (cs : Array Value) (fr : Nat × Nat) (d : TypeDesc)
    (hp : a.tmps.getD p undef = .pointer (some ⟨g, 0, none⟩)) (hg : w.heap[g]? = some (.cells cs t fr))
    (hu : P.underlying ty = some d) (hd : (match d with | .struct _ | .array _ _ => true | _ => false) = true) (hi : (P.info? ty).map (·.size) = some cs.size) (hdf : a.defers = [])
    (hR : R (.returned (.tuple #[.agg cs, a.tmps.getD u undef])) w) : bodyPost P fn R .ret a w := by
  refine bodyPost_ret ?_ hdf hR
  have hp' : a.tmps[p]?.getD undef = .pointer (some ⟨g, 0, none⟩) := by simpa using hp
  simp [results, h, hp', asAddr, run_loadVar_row w g t ty cs fr d hg hu hd hi]

theorem rowT_24 : rowB Try.prog 24 32 = true := by kernel_rfl

/-- The block's root at a slot that is known. -/
def Sx.rootOk (s : Sx) (k : Int) : Bool := decide (k < s.n 33) && decide (s.n 33 - k ≤ 8)
noncomputable def rootCells (xs : Array Value) (s : Sx) (k : Int) : Array Value := if s.rootOk k then (cellsAt xs (141 + (k % 8).toNat * 32) 32).toArray else zeroOf Try.prog 24

/-- An array literal without any part. -/
theorem wpList_build_none {P : Program} {ops : Array Oper} {rest : List Oper} {o : Oper} {a : Act} {w : World} {Q : Exit → Act → World → Prop}
    (hg : o.guard = none) (ty : TypeId) (ho : o.op = .build ty #[]) (z : Array Value) (n : Nat)
    (hz : (P.info? ty).map (fun i => (i.zero, i.size)) = some (some (.agg z), n)) (e m k : Nat) (hu : P.underlying ty = some (.array m e)) (he : (P.info? e).map (·.size) = some k)
    (h : wpList P ops Q rest (a.put o.dst (.agg z)) w) : wpList P ops Q (o :: rest) a w := by
  obtain ⟨hz1, _⟩ := zero_of_info hz
  refine wpList_plain hg fun K hK => ?_
  unfold Oper.wp execOp
  have ee : (Instr.build ty #[]).run P w = .ok (.agg z) w := by
    cases hq : P.info? e with
    | none => simp [hq] at he
    | some i => simp [Instr.build, Sem.run_bind, hz1, Result.andThen, run_underlying hu, Instr.fill, Value.cells, sizeOf, typeInfo, hq]
  simp only [ho, Array.map_empty, Sem.run_bind, ee, Result.andThen, Sem.run_pure, Oper.upon_value]
  exact hK _ _ h
theorem root_ok (xs : Array Value) (slot : Int) (k : Int) (w : World) (hs : xs.size = 1957) (hone : ∀ v ∈ xs, v.oneCell' = true) (f33 : xs[33]? = some (.int .u64 slot)) (g33 : 0 ≤ slot ∧ slot ≤ 18446744073709551615) (h0 : 0 ≤ k) (h1 : k ≤ 18446744073709551615)
    (hlt : k < slot) (h8 : slot - k ≤ 8) :
    Calls Try.prog 19 #[.agg xs, .int .u64 k] w fun e w' => e = .returned (.tuple #[.agg (cellsAt xs (141 + (k % 8).toNat * 32) 32).toArray, .int .i64 0]) ∧ Below w.heap.size w w' := by
  have hsub := Lib.hid (fun w => sub_any slot k w g33.1 h0 g33.2 h1)
  rw [if_neg (show ¬ slot < k by omega), if_neg (show ¬ slot < k by omega)] at hsub
  have hl : (cellsAt xs (141 + (k % 8).toNat * 32) 32).length = 32 := cellsAt_length _ _ _ (by omega)
  have hl' := Lib.hid hl
  have ho := Lib.hid (cellsAt_one hone (141 + (k % 8).toNat * 32) 32)
  clear hs hl
  have hne : (slot - k == 0) = false := by simp; omega
  have h8b : (8 < slot - k) = False := by simp; omega
  have hk8 : ∃ r : Nat, r < 8 ∧ k % 8 = (r : Int) ∧ (k % 8).toNat = r := ⟨(k % 8).toNat, by omega, by omega, rfl⟩
  obtain ⟨r, hr, hkr, hkr2⟩ := hk8
  rw [hkr2] at hl' ho ⊢
  clear hkr2
  have hrg := Lib.hid (fun ob => World.rangeAt_alloc (rangeAt_cells (heap_alloc_last w (.cells xs 49)) (141 + r * 32) 32) ob)
  go_enter Try.func19, Try.ntmps19
  go_wp2_with (first
    | ((with_reducible refine at_alloc 24 ?_); refine wpList_alloc_row rfl 24 rfl 4 rfl (zeroOf Try.prog 24) 32 (row_zero rowT_24).1 ?_)
    | ((with_reducible refine at_load 24 ?_); refine wpList_load_mid rfl 24 _ rfl w.heap.size (141 + r * 32) (by simp [Act.eval]) (cellsAt xs (141 + r * 32) 32) _ (hrg.out (.cells (zeroOf Try.prog 24) 24)) Try.underlying24 rfl (by rw [row_size rowT_24, hl'.out]) ?_)
    | ((with_reducible refine at_store 24 ?_); refine wpList_store_new rfl 24 _ _ rfl (zeroOf Try.prog 24) (cellsAt xs (141 + r * 32) 32).toArray (by simp [Act.eval, Act.put]) (by simp [Act.eval, Act.put]) (by rw [row_size rowT_24, List.size_toArray, hl'.out]) (by rw [(row_zero rowT_24).2, List.size_toArray, hl'.out]) ho.out ?_)
    | ((with_reducible refine (hsub.out _).mono ?_); rintro e w' ⟨rfl, rfl⟩))
  refine ret_row_tmp rfl (w.heap.size + 1) _ _ _ _ rfl (heap_alloc2_new _ _ _) Try.underlying24 rfl (by rw [row_size rowT_24, List.size_toArray, hl'.out]) rfl ?_
  exact ⟨rfl, ((Below.refl _ _).alloc (Nat.le_refl _) _).alloc (by simp) _⟩
theorem root_bad (xs : Array Value) (slot : Int) (k : Int) (w : World) (f33 : xs[33]? = some (.int .u64 slot)) (g33 : 0 ≤ slot ∧ slot ≤ 18446744073709551615) (h0 : 0 ≤ k) (h1 : k ≤ 18446744073709551615)
    (hlt : ¬ (k < slot ∧ slot - k ≤ 8)) :
    Calls Try.prog 19 #[.agg xs, .int .u64 k] w fun e w' => e = .returned (.tuple #[.agg (zeroOf Try.prog 24), .int .i64 1]) ∧ Below w.heap.size w w' := by
  have hz1 := Lib.hid (row_zero rowT_24).2
  have hz2 := Lib.hid (show (zeroOf Try.prog 24).all (·.oneCell') = true by kernel_rfl)
  by_cases c1 : slot < k
  · have hsub := Lib.hid (fun w => sub_any slot k w g33.1 h0 g33.2 h1)
    rw [if_pos c1, if_pos c1] at hsub
    go_enter Try.func19, Try.ntmps19
    go_wp2_with (first
      | ((with_reducible refine at_alloc 24 ?_); refine wpList_alloc_row rfl 24 rfl 4 rfl (zeroOf Try.prog 24) 32 (row_zero rowT_24).1 ?_)
      | ((with_reducible refine at_build 24 ?_); refine wpList_build_none rfl 24 rfl (zeroOf Try.prog 24) 32 (row_zero rowT_24).1 _ _ 1 Try.underlying24 rfl ?_)
      | ((with_reducible refine at_store 24 ?_); refine wpList_store_new rfl 24 _ _ rfl (zeroOf Try.prog 24) (zeroOf Try.prog 24) (by simp [Act.eval, Act.put]) (by simp [Act.eval, Act.put]) (by rw [row_size rowT_24, hz1.out]) rfl hz2.out ?_)
      | ((with_reducible refine (hsub.out _).mono ?_); rintro e w' ⟨rfl, rfl⟩))
    all_goals refine ret_row_tmp rfl (w.heap.size + 1) _ _ _ _ rfl (heap_alloc2_new _ _ _) Try.underlying24 rfl (by rw [row_size rowT_24, hz1.out]) rfl ?_
    all_goals exact ⟨rfl, ((Below.refl _ _).alloc (Nat.le_refl _) _).alloc (by simp) _⟩
  have hsub := Lib.hid (fun w => sub_any slot k w g33.1 h0 g33.2 h1)
  rw [if_neg c1, if_neg c1] at hsub
  by_cases c2 : slot - k = 0
  · rw [c2] at hsub
    go_enter Try.func19, Try.ntmps19
    go_wp2_with (first
      | ((with_reducible refine at_alloc 24 ?_); refine wpList_alloc_row rfl 24 rfl 4 rfl (zeroOf Try.prog 24) 32 (row_zero rowT_24).1 ?_)
      | ((with_reducible refine at_build 24 ?_); refine wpList_build_none rfl 24 rfl (zeroOf Try.prog 24) 32 (row_zero rowT_24).1 _ _ 1 Try.underlying24 rfl ?_)
      | ((with_reducible refine at_store 24 ?_); refine wpList_store_new rfl 24 _ _ rfl (zeroOf Try.prog 24) (zeroOf Try.prog 24) (by simp [Act.eval, Act.put]) (by simp [Act.eval, Act.put]) (by rw [row_size rowT_24, hz1.out]) rfl hz2.out ?_)
      | ((with_reducible refine (hsub.out _).mono ?_); rintro e w' ⟨rfl, rfl⟩))
    all_goals refine ret_row_tmp rfl (w.heap.size + 1) _ _ _ _ rfl (heap_alloc2_new _ _ _) Try.underlying24 rfl (by rw [row_size rowT_24, hz1.out]) rfl ?_
    all_goals exact ⟨rfl, ((Below.refl _ _).alloc (Nat.le_refl _) _).alloc (by simp) _⟩
  have hne : (slot - k == 0) = false := by simp; omega
  go_enter Try.func19, Try.ntmps19
  go_wp2_with (first
    | ((with_reducible refine at_alloc 24 ?_); refine wpList_alloc_row rfl 24 rfl 4 rfl (zeroOf Try.prog 24) 32 (row_zero rowT_24).1 ?_)
    | ((with_reducible refine at_build 24 ?_); refine wpList_build_none rfl 24 rfl (zeroOf Try.prog 24) 32 (row_zero rowT_24).1 _ _ 1 Try.underlying24 rfl ?_)
    | ((with_reducible refine at_store 24 ?_); refine wpList_store_new rfl 24 _ _ rfl (zeroOf Try.prog 24) (zeroOf Try.prog 24) (by simp [Act.eval, Act.put]) (by simp [Act.eval, Act.put]) (by rw [row_size rowT_24, hz1.out]) rfl hz2.out ?_)
    | ((with_reducible refine (hsub.out _).mono ?_); rintro e w' ⟨rfl, rfl⟩))
  all_goals refine ret_row_tmp rfl (w.heap.size + 1) _ _ _ _ rfl (heap_alloc2_new _ _ _) Try.underlying24 rfl (by rw [row_size rowT_24, hz1.out]) rfl ?_
  all_goals exact ⟨rfl, ((Below.refl _ _).alloc (Nat.le_refl _) _).alloc (by simp) _⟩
theorem rroot_ok (xs : Array Value) (slot : Int) (k : Int) (w : World) (hs : xs.size = 1957) (hone : ∀ v ∈ xs, v.oneCell' = true) (f33 : xs[33]? = some (.int .u64 slot)) (_g33 : 0 ≤ slot ∧ slot ≤ 18446744073709551615) (h0 : 0 ≤ k) (h1 : k ≤ 18446744073709551615)
    (hlt : k < slot) (h8 : slot - k ≤ 8) :
    Calls Try.prog 22 #[.agg xs, .int .u64 k] w fun e w' => e = .returned (.tuple #[.agg (cellsAt xs (141 + (k % 8).toNat * 32) 32).toArray, .int .i64 0]) ∧ Below w.heap.size w w' := by
  have hl : (cellsAt xs (141 + (k % 8).toNat * 32) 32).length = 32 := cellsAt_length _ _ _ (by omega)
  have hl' := Lib.hid hl
  have ho := Lib.hid (cellsAt_one hone (141 + (k % 8).toNat * 32) 32)
  clear hs hl
  have hne : (slot - k == 0) = false := by simp; omega
  have h8b : (8 < slot - k) = False := by simp; omega
  have hk8 : ∃ r : Nat, r < 8 ∧ k % 8 = (r : Int) ∧ (k % 8).toNat = r := ⟨(k % 8).toNat, by omega, by omega, rfl⟩
  obtain ⟨r, hr, hkr, hkr2⟩ := hk8
  rw [hkr2] at hl' ho ⊢
  clear hkr2
  have hrg := Lib.hid (fun ob => World.rangeAt_alloc (rangeAt_cells (heap_alloc_last w (.cells xs 49)) (141 + r * 32) 32) ob)
  go_enter Try.func22, Try.ntmps22
  go_wp2_with (first
    | ((with_reducible refine at_alloc 24 ?_); refine wpList_alloc_row rfl 24 rfl 4 rfl (zeroOf Try.prog 24) 32 (row_zero rowT_24).1 ?_)
    | ((with_reducible refine at_load 24 ?_); refine wpList_load_mid rfl 24 _ rfl w.heap.size (141 + r * 32) (by simp [Act.eval]) (cellsAt xs (141 + r * 32) 32) _ (hrg.out (.cells (zeroOf Try.prog 24) 24)) Try.underlying24 rfl (by rw [row_size rowT_24, hl'.out]) ?_)
    | ((with_reducible refine at_store 24 ?_); refine wpList_store_new rfl 24 _ _ rfl (zeroOf Try.prog 24) (cellsAt xs (141 + r * 32) 32).toArray (by simp [Act.eval, Act.put]) (by simp [Act.eval, Act.put]) (by rw [row_size rowT_24, List.size_toArray, hl'.out]) (by rw [(row_zero rowT_24).2, List.size_toArray, hl'.out]) ho.out ?_))
  refine ret_row_tmp rfl (w.heap.size + 1) _ _ _ _ rfl (heap_alloc2_new _ _ _) Try.underlying24 rfl (by rw [row_size rowT_24, List.size_toArray, hl'.out]) rfl ?_
  exact ⟨rfl, ((Below.refl _ _).alloc (Nat.le_refl _) _).alloc (by simp) _⟩
theorem rroot_bad (xs : Array Value) (slot : Int) (k : Int) (w : World) (f33 : xs[33]? = some (.int .u64 slot)) (_g33 : 0 ≤ slot ∧ slot ≤ 18446744073709551615) (h0 : 0 ≤ k) (h1 : k ≤ 18446744073709551615)
    (hlt : ¬ (k < slot ∧ slot - k ≤ 8)) :
    Calls Try.prog 22 #[.agg xs, .int .u64 k] w fun e w' => e = .returned (.tuple #[.agg (zeroOf Try.prog 24), .int .i64 1]) ∧ Below w.heap.size w w' := by
  have hz1 := Lib.hid (row_zero rowT_24).2
  have hz2 := Lib.hid (show (zeroOf Try.prog 24).all (·.oneCell') = true by kernel_rfl)
  go_enter Try.func22, Try.ntmps22
  go_wp2_with (first
    | ((with_reducible refine at_alloc 24 ?_); refine wpList_alloc_row rfl 24 rfl 4 rfl (zeroOf Try.prog 24) 32 (row_zero rowT_24).1 ?_)
    | ((with_reducible refine at_build 24 ?_); refine wpList_build_none rfl 24 rfl (zeroOf Try.prog 24) 32 (row_zero rowT_24).1 _ _ 1 Try.underlying24 rfl ?_)
    | ((with_reducible refine at_store 24 ?_); refine wpList_store_new rfl 24 _ _ rfl (zeroOf Try.prog 24) (zeroOf Try.prog 24) (by simp [Act.eval, Act.put]) (by simp [Act.eval, Act.put]) (by rw [row_size rowT_24, hz1.out]) rfl hz2.out ?_))
  all_goals refine ret_row_tmp rfl (w.heap.size + 1) _ _ _ _ rfl (heap_alloc2_new _ _ _) Try.underlying24 rfl (by rw [row_size rowT_24, hz1.out]) rfl ?_
  all_goals exact ⟨rfl, ((Below.refl _ _).alloc (Nat.le_refl _) _).alloc (by simp) _⟩

theorem rootAt_any (xs : Array Value) (s : Sx) (k : Int) (w : World) (h : StRep w xs s) (h0 : 0 ≤ k) (h1 : k ≤ 18446744073709551615) :
    Calls Try.prog 19 #[.agg xs, .int .u64 k] w fun e w' => e = .returned (.tuple #[.agg (rootCells xs s k), .int .i64 (if s.rootOk k then 0 else 1)]) ∧ Below w.heap.size w w' := by
  by_cases c : k < s.n 33 ∧ s.n 33 - k ≤ 8
  · have e : s.rootOk k = true := by simp [Sx.rootOk, c]
    simp only [rootCells, e, if_true]
    exact root_ok xs (s.n 33) k w h.size h.one (h.u64 33 rfl) (h.u64b 33 rfl) h0 h1 c.1 c.2
  · have e : s.rootOk k = false := by simp [Sx.rootOk]; omega
    simp only [rootCells, e, Bool.false_eq_true, if_false]
    exact root_bad xs (s.n 33) k w (h.u64 33 rfl) (h.u64b 33 rfl) h0 h1 c
theorem rrootAt_any (xs : Array Value) (s : Sx) (k : Int) (w : World) (h : StRep w xs s) (h0 : 0 ≤ k) (h1 : k ≤ 18446744073709551615) :
    Calls Try.prog 22 #[.agg xs, .int .u64 k] w fun e w' => e = .returned (.tuple #[.agg (rootCells xs s k), .int .i64 (if s.rootOk k then 0 else 1)]) ∧ Below w.heap.size w w' := by
  by_cases c : k < s.n 33 ∧ s.n 33 - k ≤ 8
  · have e : s.rootOk k = true := by simp [Sx.rootOk, c]
    simp only [rootCells, e, if_true]
    exact rroot_ok xs (s.n 33) k w h.size h.one (h.u64 33 rfl) (h.u64b 33 rfl) h0 h1 c.1 c.2
  · have e : s.rootOk k = false := by simp [Sx.rootOk]; omega
    simp only [rootCells, e, Bool.false_eq_true, if_false]
    exact rroot_bad xs (s.n 33) k w (h.u64 33 rfl) (h.u64b 33 rfl) h0 h1 c
end Go.Proofs.Ytbfmbgeibhkheaa
