/- What the laws ask first: two fixed answers of Flags. -/
import Derived.Test.YtbfmbgeibhkheaaVote4
namespace Go.Proofs.Ytbfmbgeibhkheaa
open Go.RowKit
set_option maxRecDepth 100000

/-! The state of slot 1 whose other cells are zero; Data of zeros, and with slot 1. -/
noncomputable def oneSt : Array Value := (zeroOf Try.prog 49).setIfInBounds 33 (.int .u64 1)
def oneN (k : Nat) : Int := if k = 33 then 1 else 0
def oneCells (k : Nat) : Value := match stK k with | some c => c.mk (oneN k) | none => .slice none 0 0
def oneSx : Sx := ⟨oneN, [], [], [], [], [], [], []⟩
theorem one_list : oneSt.toList = (List.range 1957).map oneCells := by kernel_rfl
theorem one_size : oneSt.size = 1957 := by rw [← Array.length_toList, one_list]; simp
theorem one_get (k : Nat) (h : k < 1957) : oneSt[k]? = some (oneCells k) := by
  rw [← Array.getElem?_toList, one_list]
  simp [h]
theorem stK_lt {k : Nat} {c : CK} (h : stK k = some c) : k < 1957 := by
  unfold stK at h
  split at h
  · cases h
  · omega
theorem one_row (w : World) (k : Nat) (hk : k < 1957) (hn : stK k = none) (c : CK) : SlI w oneSt k c [] :=
  ⟨none, 0, by rw [one_get k hk]; simp [oneCells, hn], ⟨fun i hi => absurd hi (by simp), by simp⟩, by simp⟩
theorem one_rows (w : World) (k : Nat) (hk : k < 1957) (hn : stK k = none) (sz : Nat) (kd : Nat → CK) : SlS w oneSt k sz kd [] :=
  ⟨none, 0, by rw [one_get k hk]; simp [oneCells, hn], ⟨fun i hi => absurd hi (by simp), by simp⟩, by simp⟩
theorem ck_ok (c : CK) (n : Int) (h : n = 0 ∨ n = 1) : c.ok n := by
  rcases h with rfl | rfl <;> cases c <;> simp [CK.ok]
theorem oneCells_one (k : Nat) : (oneCells k).oneCell' = true := by
  unfold oneCells
  split
  · exact mk_one _ _
  · rfl
theorem one_mem : ∀ v ∈ oneSt, v.oneCell' = true := fun v hv => by
  have h1 : v ∈ oneSt.toList := by simpa using hv
  rw [one_list] at h1
  obtain ⟨i, _, rfl⟩ := List.mem_map.1 h1
  exact oneCells_one i
theorem one_cells : oneSt.all (·.oneCell') = true := by
  rw [Array.all_eq_true_iff_forall_mem]
  exact one_mem
theorem one_rep (w : World) : StRep w oneSt oneSx :=
  ⟨one_size, one_mem,
    fun k c hk => ⟨by rw [one_get k (stK_lt hk)]; simp [oneCells, hk, oneSx], ck_ok c _ (by simp only [oneSx, oneN]; split <;> simp)⟩,
    one_rows w _ (by omega) rfl _ _, one_rows w _ (by omega) rfl _ _, one_rows w _ (by omega) rfl _ _, one_row w _ (by omega) rfl _, one_row w _ (by omega) rfl _, one_row w _ (by omega) rfl _, one_row w _ (by omega) rfl _⟩
noncomputable def zeroDt : Array Value := zeroOf Try.prog 51
noncomputable def oneDt : Array Value := zeroDt.setIfInBounds 0 (.int .u64 1)
theorem zeroDt_list : zeroDt.toList = (List.range 100).map fun k => (dtK k).mk 0 := by kernel_rfl
theorem oneDt_list : oneDt.toList = (List.range 100).map fun k => (dtK k).mk (if k = 0 then 1 else 0) := by kernel_rfl
theorem frep_list {xs : Array Value} {n : Nat} {kd : Nat → CK} {t : Nat → Int} (h : xs.toList = (List.range n).map fun k => (kd k).mk (t k)) (ht : ∀ k, t k = 0 ∨ t k = 1) : FRep n kd xs t :=
  ⟨by rw [← Array.length_toList, h]; simp, fun v hv => by
      have h1 : v ∈ xs.toList := by simpa using hv
      rw [h] at h1
      obtain ⟨i, _, rfl⟩ := List.mem_map.1 h1
      exact mk_one _ _,
    fun k hk => ⟨by rw [← Array.getElem?_toList, h]; simp [hk], ck_ok _ _ (ht k)⟩⟩
theorem zeroDt_rep : FRep 100 dtK zeroDt (fun _ => 0) := frep_list zeroDt_list fun _ => Or.inl rfl
theorem oneDt_rep : FRep 100 dtK oneDt (fun k => if k = 0 then 1 else 0) := frep_list oneDt_list fun k => by split <;> simp
theorem built49 (w : World) : (Instr.build 49 #[(2, .int .u64 1)]).run Try.prog w = .ok (.agg oneSt) w := by kernel_rfl
theorem built51 (w : World) : (Instr.build 51 #[]).run Try.prog w = .ok (.agg zeroDt) w := by kernel_rfl
theorem built51b (w : World) : (Instr.build 51 #[(0, .int .u64 1)]).run Try.prog w = .ok (.agg oneDt) w := by kernel_rfl
theorem built53 (w : World) : (Instr.build 53 #[(0, .bool true), (1, .bool true), (2, .bool true)]).run Try.prog w = .ok (.agg #[.bool true, .bool true, .bool true]) w := by kernel_rfl
theorem leafs_b3 : leafs Try.prog 10 53 = some [.bool, .bool, .bool] := by kernel_rfl
theorem guard_b3 : Try.prog.eqGuardType Try.prog.depth 53 = false := by kernel_rfl
theorem asVal_b3 (zs : List Value) : asVal Try.prog 53 zs = .agg zs.toArray := by unfold asVal; rw [Try.underlying53]
theorem run_eql_b3 {ρ : Operand → Value} {o : Oper} (w : World) (x y : Operand) (ho : o.op = .binOp .eql 53 x y 53) (a b c a' b' c' : Bool) (hx : ρ x = .agg #[.bool a, .bool b, .bool c]) (hy : ρ y = .agg #[.bool a', .bool b', .bool c']) :
    (execOp ρ o).run Try.prog w = .ok (.value (.bool (a == a' && (b == b' && c == c')))) w := by
  have h := run_eql_agg (P := Try.prog) w 53 53 x y ho [.bool a, .bool b, .bool c] [.bool a', .bool b', .bool c'] hx hy asVal_b3 guard_b3 10 _ leafs_b3 (by decide) ⟨⟨_, rfl⟩, ⟨_, rfl⟩, ⟨_, rfl⟩, trivial⟩ ⟨⟨_, rfl⟩, ⟨_, rfl⟩, ⟨_, rfl⟩, trivial⟩
  simpa only [eqCells, eqv, Bool.and_true] using h
theorem info_b3 (a b c : Bool) : (Try.prog.info? 53).map (fun i => (i.zero, i.size)) = some (some (.agg (zeroOf Try.prog 53)), (#[.bool a, .bool b, .bool c] : Array Value).size) := (row_zero rowT_53).1
theorem zsz_b3 (a b c : Bool) : (zeroOf Try.prog 53).size = (#[.bool a, .bool b, .bool c] : Array Value).size := (row_zero rowT_53).2
theorem isz_b3 (a b c : Bool) : (Try.prog.info? 53).map (·.size) = some (#[.bool a, .bool b, .bool c] : Array Value).size := row_size rowT_53
theorem at_binop {P : Program} {ops : Array Oper} {rest : List Oper} {a : Act} {w : World} {Q : Exit → Act → World → Prop} {d : Option Tmp} {ty : TypeId} {pos : String} {af : Array Edge} {g : Option (Nat × Bool)} (b : BinOp) (t : TypeId) {t' : TypeId} {x y : Operand} (h : wpList P ops Q (⟨d, .binOp b t x y t', ty, pos, af, g⟩ :: rest) a w) : wpList P ops Q (⟨d, .binOp b t x y t', ty, pos, af, g⟩ :: rest) a w := h
theorem run_build {P : Program} {ρ : Operand → Value} {o : Oper} {w : World} (t : TypeId) (ps : Array (Nat × Operand)) (ho : o.op = .build t ps) (v : Value) (h : (Instr.build t (ps.toList.map fun x => (x.1, ρ x.2)).toArray).run P w = .ok v w) :
    (execOp ρ o).run P w = .ok (.value v) w := by
  unfold execOp
  have e : (ps.map fun x => match x with | (i, x) => (i, ρ x)) = (ps.toList.map fun x => (x.1, ρ x.2)).toArray := by
    rw [← Array.toList_map]
  simp only [ho, e, Sem.run_bind, h, Result.andThen, Sem.run_pure]
/-! What Flags answers there. -/
theorem vote_one : voteV oneSt zeroDt oneSx (fun _ => 0) = .tuple #[.agg #[.bool true, .bool true, .bool true], .int .i64 0] := by kernel_rfl
theorem vote_two : voteV oneSt oneDt oneSx (fun k => if k = 0 then 1 else 0) = .tuple #[.agg #[.bool false, .bool false, .bool false], .int .i64 31] := by kernel_rfl
theorem flags_one (w : World) : Calls Try.prog 6 #[.agg oneSt, .agg zeroDt] w fun e w' => e = .returned (.tuple #[.agg #[.bool true, .bool true, .bool true], .int .i64 0]) ∧ Below w.heap.size w w' := by
  rw [← vote_one]
  exact flags_any _ _ _ _ w (one_rep w) zeroDt_rep
theorem flags_two (w : World) : Calls Try.prog 6 #[.agg oneSt, .agg oneDt] w fun e w' => e = .returned (.tuple #[.agg #[.bool false, .bool false, .bool false], .int .i64 31]) ∧ Below w.heap.size w w' := by
  rw [← vote_two]
  exact flags_any _ _ _ _ w (one_rep w) oneDt_rep
theorem one_zsz : (zeroOf Try.prog 49).size = oneSt.size := by rw [one_size]; exact (row_zero rowT_49).2
theorem one_info : (Try.prog.info? 49).map (fun i => (i.zero, i.size)) = some (some (.agg (zeroOf Try.prog 49)), oneSt.size) := by rw [one_size]; exact (row_zero rowT_49).1
theorem one_isz : (Try.prog.info? 49).map (·.size) = some oneSt.size := by rw [one_size]; exact row_size rowT_49

set_option maxHeartbeats 4000000 in
theorem awake_any (w : World) : Calls Try.prog 5 #[] w fun e w' => e = .returned (.bool true) ∧ Below w.heap.size w w' := by
  have hb0 : Below w.heap.size w (w.alloc (.cells oneSt 49)) := (Below.refl _ _).alloc (Nat.le_refl _) _
  have hX0 := heap_alloc_last w (.cells oneSt 49)
  have h1 := Lib.hid flags_one
  have h2 := Lib.hid flags_two
  go_enter Try.func5, Try.ntmps5
  go_wp2_with (first
    | ((with_reducible refine at_build 49 ?_); refine wpList_value (by rfl) _ (run_build _ _ rfl _ (built49 _)) ?_)
    | ((with_reducible refine at_build 51 ?_); first | refine wpList_value (by rfl) _ (run_build _ _ rfl _ (built51 _)) ?_ | refine wpList_value (by rfl) _ (run_build _ _ rfl _ (built51b _)) ?_)
    | ((with_reducible refine at_build 53 ?_); refine wpList_value (by rfl) _ (run_build _ _ rfl _ (built53 _)) ?_)
    | ((with_reducible refine at_binop .eql 53 ?_); refine wpList_value (by rfl) (.bool true) (run_eql_b3 _ _ _ (by rfl) true true true true true true (by rfl) (by rfl)) ?_)
    | ((with_reducible refine at_alloc 49 ?_); refine wpList_alloc_store rfl rfl 49 1 _ rfl rfl rfl oneSt rfl rfl (zeroOf Try.prog 49) one_info one_zsz one_cells ?_)
    | ((with_reducible refine at_alloc 53 ?_); first
        | refine wpList_alloc_store rfl rfl 53 2 _ rfl rfl rfl #[.bool true, .bool true, .bool true] rfl rfl (zeroOf Try.prog 53) (info_b3 _ _ _) (zsz_b3 _ _ _) rfl ?_
        | refine wpList_alloc_store rfl rfl 53 4 _ rfl rfl rfl #[.bool false, .bool false, .bool false] rfl rfl (zeroOf Try.prog 53) (info_b3 _ _ _) (zsz_b3 _ _ _) rfl ?_)
    | ((with_reducible refine at_load 49 ?_); refine wpList_value (by rfl) _ (run_load_box _ 49 _ (by rfl) w.heap.size (by rfl) _ oneSt (0, 0) _ (by first | exact hX0 | exact hX1) Try.underlying49 rfl one_isz) ?_)
    | ((with_reducible refine at_load 53 ?_); refine wpList_value (by rfl) _ (run_load_box _ 53 _ (by rfl) W1.heap.size (by rfl) _ #[.bool true, .bool true, .bool true] (0, 0) _ hF2 Try.underlying53 rfl (isz_b3 _ _ _)) ?_)
    | ((with_reducible refine (h1.out _).mono ?_); rintro e W1 ⟨rfl, hb1⟩
       have hs1 := hb1.size
       simp only [World.size_alloc] at hs1
       have hX1 : (W1.alloc (.cells #[.bool true, .bool true, .bool true] 53)).heap[w.heap.size]? = some (.cells oneSt 49 (0, 0)) := heap_past _ _ _ _ ((hb1.block _ (by simp only [World.size_alloc]; omega)).trans hX0))
    | ((with_reducible refine (h2.out _).mono ?_); rintro e W2 ⟨rfl, hb2⟩
       have hs2 := hb2.size
       simp only [World.size_alloc] at hs2
       have hF2 : (W2.alloc (.cells #[.bool false, .bool false, .bool false] 53)).heap[W1.heap.size]? = some (.cells #[.bool true, .bool true, .bool true] 53 (0, 0)) := heap_past _ _ _ _ ((hb2.block _ (by simp only [World.size_alloc]; omega)).trans (heap_alloc_last _ _))))
  have b1 : Below w.heap.size w W1 := hb0.trans (hb1.mono (by simp))
  have b1a := b1.alloc (by omega) (.cells #[.bool true, .bool true, .bool true] 53)
  have b2 : Below w.heap.size w W2 := b1a.trans (hb2.mono (by simp only [World.size_alloc]; omega))
  have b2a := b2.alloc (by omega) (.cells #[.bool false, .bool false, .bool false] 53)
  go_ret
  exact ⟨rfl, b2a⟩
end Go.Proofs.Ytbfmbgeibhkheaa
