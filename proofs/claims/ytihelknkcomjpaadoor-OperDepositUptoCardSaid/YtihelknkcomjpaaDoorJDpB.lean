/- Oper's container Deposit: its bytes, by the program. -/
/- Oper's container Deposit: its root, by the program. -/
import Derived.Test.YtihelknkcomjpaaDoorKSmDepositData
set_option linter.unusedVariables false
set_option linter.unusedSimpArgs false
set_option linter.unnecessarySimpa false
namespace Go.Proofs.YtihelknkcomjpaaDoor
open Go.RowKit BigFrame
set_option maxRecDepth 100000
def kdDeposit (j : Nat) : CK := if j < 304 then .u8 else if j < 305 then .u64 else .u8
/-- The bytes. -/
def encLDeposit (f : Nat → Int) : List Int := byL f 0 224 ++ encLDepositData (shF f 224)
theorem encDeposit_length (f : Nat → Int) : (encLDeposit f).length = 408 := by simp [encLDeposit, numL_length, byL_length, encDepositData_length]
theorem encDeposit_ok {f : Nat → Int} (hf : ∀ j, j < 401 → (kdDeposit j).ok (f j)) : ∀ m ∈ encLDeposit f, CK.ok .u8 m := (ok_append (byL_ok (ok_u8 hf (by intro j hj; simp only [kdDeposit]; (repeat' split) <;> first | rfl | (exfalso; omega)) (by decide))) (encDepositData_ok (sub_ok hf (by intro j hj; simp only [kdDeposit, kdDepositData]; (repeat' split) <;> first | rfl | (exfalso; omega)) (by decide))))
theorem rowDeposit : rowB Tryd.prog 33 401 = true := by kernel_rfl
theorem kdD (off len : Nat) (h : off + len ≤ 224) : ∀ j, j < len → kdDeposit (off + j) = .u8 := fun j hj => by
  unfold kdDeposit
  rw [if_pos (by omega)]
theorem row_proof : rowB Tryd.prog 24 224 = true := by kernel_rfl
theorem rt_part (f : Nat → Int) (N o i : Nat) (h : i * 32 + 32 ≤ N) : ((fcells N (fun _ => CK.u8) (shF f o)).toArray.extract (i * 32) (i * 32 + 32)) = (fcells 32 (fun _ => CK.u8) (shF f (o + 32 * i))).toArray := by
  refine cells_eq (by rw [extract_size _ _ _ (by simpa [fcells] using h)]) (fun j hj => ?_)
  rw [extract_get _ _ _ _ hj, List.getElem?_toArray, fcells_get _ _ _ _ (by omega)]
  unfold shF
  rw [show o + (i * 32 + j) = o + 32 * i + j by omega]
theorem row_of_rt {g : Nat} {f : Nat → Int} {o : Nat} {t : TypeId} {W : World} (h : W.heap[g]? = some (.cells (fcells 32 (fun _ => CK.u8) (shF f o)).toArray t (0, 0))) (hf : ∀ j, j < 32 → IsB (f (o + j))) : SlB (some ⟨g, 0, none⟩) 32 (byL f o 32) W := by
  refine ⟨⟨fun i hi => ⟨g, 0, rfl, ?_⟩, byL_ok hf⟩, (fun e => by cases e), by rw [byL_length]; exact Nat.le_refl _, fun b o' e => by cases e; exact block_lt h⟩
  rw [byL_length] at hi
  rw [cell_of_row W g _ _ _ _ h, List.getElem?_toArray, fcells_get _ _ _ _ (by omega), byL_get _ _ _ _ hi]
  simp [shF]
theorem byL_appD (f : Nat → Int) (o a b c : Nat) (h : o + a = b) (hc : a + c = b - o + c) : byL f o a ++ byL f b c = byL f o (a + c) := by
  subst h
  unfold byL
  rw [List.range_add, List.map_append, List.map_map]
  congr 1
  apply List.map_congr_left
  intro j _
  simp [Nat.add_assoc]
theorem run_ixD {P : Program} {ρ : Operand → Value} {o : Oper} (w : World) (t e n s : Nat) (x y : Operand) (ho : o.op = .index t x y) (hu : P.underlying t = some (.array n e)) {d : TypeDesc} (he : P.underlying e = some d) (hd : d.isRow = true) (hs : (P.info? e).map (·.size) = some s)
    (cs : Array Value) (hx : ρ x = .agg cs) (k : IntKind) (i : Nat) (hy : ρ y = .int k i) (hi : i < n) (z : Array Value) (hz : cs.extract (i * s) (i * s + s) = z) : (execOp ρ o).run P w = .ok (.value (.agg z)) w := by
  subst hz
  unfold execOp
  simp only [ho, hx, hy, Sem.run_bind, run_index_rows w t e n s hu he hd hs cs k i hi, Result.andThen, Sem.run_pure]
set_option maxHeartbeats 8000000 in
theorem enc_Deposit (f : Nat → Int) (hf0 : ∀ j, j < 401 → (kdDeposit j).ok (f j)) (w : World) :
    Calls Tryd.prog 9 #[.agg (fcells 401 kdDeposit f).toArray] w fun e w' => (∃ va c, e = .returned (.tuple #[.slice va 408 c, .int .i64 0]) ∧ (va = none → c = 0) ∧ OwnB w.heap.size (.slice va 408 c) (encLDeposit f) w') ∧ Below w.heap.size w w' := by
  have hf := Lib.hid hf0
  clear hf0
  go_enter Tryd.func9, Tryd.ntmps9
  go_wp2_with (first
    | ((with_reducible refine at_alloc 84 ?_); go_loud (refine wpList_plain rfl fun K hK => wp_alloc_row 84 rfl 4 rfl _ 5 info_out (hK _ _ ?_)); clear hK K
       refine gen_l (fun W => EncS w.heap.size 401 kdDeposit f 33 [] w W) (EncS.begin (heap_new _ _ _ _ rfl) rfl) ?_
       intro W hS0
       have hS := Lib.hid hS0
       clear hS0)
    | ((with_reducible refine at_load 24 ?_); refine wpList_value (by rfl) _ (run_load_rows _ 24 _ (by rfl) w.heap.size 0 (by rfl) (fcells 224 (fun _ => .u8) (shF f 0)) _ (hS.out.toBox.sub 0 224 (fun _ => .u8) (kdD 0 224 (by decide)) (by decide)) Tryd.underlying24 rfl (by rw [row_size row_proof, fcells_length])) ?_
       obtain ⟨X, hX0⟩ : ∃ X, X = (fcells 224 (fun _ => CK.u8) (shF f 0)).toArray := ⟨_, rfl⟩
       rw [← hX0]
       have hX := Lib.hid hX0
       clear hX0))
  go_loopw [9] (fun i wr => ∃ k : Nat, k ≤ 7 ∧ i = .int .i64 (k : Int) ∧ EncS w.heap.size 401 kdDeposit f 33 (byL f 0 (32 * k)) w wr) (fun i _ => 7 - (intOf i).toNat)
  case atStart => exact ⟨0, by omega, rfl, hS.out⟩
  case round =>
    obtain ⟨k, hk, rfl, hS1⟩ := hrel
    clear hS
    have hS := Lib.hid hS1
    clear hS1
    by_cases hlt : k < 7
    · have lk : (k : Int) < 7 := by omega
      go_wp2_with (first
        | ((with_reducible refine at_index 24 ?_); refine wpList_value (by rfl) _ (run_ixD _ 24 23 7 32 _ _ rfl Tryd.underlying24 Tryd.underlying23 rfl (row_size row_root) X rfl .i64 k rfl hlt (fcells 32 (fun _ => .u8) (shF f (0 + 32 * k))).toArray (by rw [hX.out]; exact rt_part f 224 0 k (by omega))) ?_)
        | ((with_reducible refine at_alloc 23 ?_); refine wpList_alloc_store rfl rfl 23 _ _ rfl rfl rfl (fcells 32 (fun _ => .u8) (shF f (0 + 32 * k))).toArray rfl rfl (zeroOf Tryd.prog 23) (row_zero row_root).1 (row_zero row_root).2 (fcells_one _ _ _) ?_
           go_loud (refine gen_l (fun W => EncS w.heap.size 401 kdDeposit f 33 (byL f 0 (32 * k)) w W ∧ SlB (some ⟨wr.heap.size, 0, none⟩) 32 (byL f (32 * k) 32) W) ⟨hS.out.later ((Below.refl _ _).alloc (Nat.le_refl _) _), row_of_rt (by rw [Nat.zero_add]; exact heap_new _ _ _ _ rfl) (ok_u8 hf.out (kdD (32 * k) 32 (by omega)) (by omega))⟩ ?_)
           rintro W ⟨hS1, hK1⟩
           clear hS
           have hS := Lib.hid hS1
           have hK := Lib.hid hK1
           clear hS1 hK1)
        | ((with_reducible refine (EncS.app hS.out _ 32 _ _ hK.out (byL_length _ _ _) (by rw [byL_length]; omega)).mono ?_)
           rintro e W ⟨rfl, hS1⟩
           rw [byL_appD f 0 (32 * k) (32 * k) 32 (by omega) (by omega)] at hS1
           clear hS
           have hS := Lib.hid hS1
           clear hS1))
      first
        | exact ⟨⟨k + 1, by omega, by go_num, hS.out⟩, by simp [intOf]; omega⟩
        | (refine ⟨?_, by simp [intOf]; omega⟩
           (repeat apply Exists.intro)
           exact ⟨⟨k + 1, by omega, by go_num, hS.out⟩, rfl⟩)
    · have e : k = 7 := by omega
      subst e
      clear hlt hk
      go_wp2_with (first
        | ((with_reducible refine at_load 31 ?_); refine wpList_value (by rfl) _ (run_load_rows _ 31 _ (by rfl) w.heap.size 224 rfl (fcells 177 kdDepositData (shF f 224)) _ (hS.out.toBox.sub 224 177 kdDepositData (by intro j hj; simp only [kdDeposit, kdDepositData]; (repeat' split) <;> first | rfl | (exfalso; omega)) (by decide)) Tryd.underlying31 rfl (by rw [row_size rowDepositData, fcells_length])) ?_)
        | ((with_reducible refine (enc_DepositData (shF f 224) (sub_ok hf.out (by intro j hj; simp only [kdDeposit, kdDepositData]; (repeat' split) <;> first | rfl | (exfalso; omega)) (by decide)) _).mono ?_)
           rintro e W ⟨⟨va1, c1, rfl, hn1, ho1⟩, hb1⟩
           have hS1 := hS.out.later hb1
           have hl := Lib.hid (SlB.of_own ho1 (encDepositData_ok (sub_ok hf.out (by intro j hj; simp only [kdDeposit, kdDepositData]; (repeat' split) <;> first | rfl | (exfalso; omega)) (by decide))) hn1)
           clear hS
           have hS := Lib.hid hS1
           clear hS1 hn1 ho1 hb1)
        | ((with_reducible refine (EncS.app hS.out _ 184 va1 c1 hl.out (encDepositData_length _) (by rw [byL_length]; decide)).mono ?_)
           rintro e W ⟨rfl, hS1⟩
           clear hl
           clear hS
           have hS := Lib.hid hS1
           clear hS1)
        | ((with_reducible refine (EncS.done hS.out 408 (by rw [List.length_append, byL_length, encDepositData_length]) (by decide)).mono ?_)
           rintro e W ⟨⟨va, c, rfl, hva, hOw⟩, hBf⟩
           have hOw1 := Lib.hid hOw
           have hva1 := Lib.hid hva
           clear hOw hva))
      exact ret_t2 rfl _ _ rfl rfl rfl ⟨⟨va, c, rfl, hva1.out, hOw1.out⟩, hBf⟩
end Go.Proofs.YtihelknkcomjpaaDoor
namespace Go.Proofs.YtihelknkcomjpaaDoor
open Go.RowKit BigFrame
set_option maxRecDepth 100000
/-- The first k roots of the proof. -/
def proofRs (f : Nat → Int) (k : Nat) : List (Nat → Int) := (List.range k).map fun i => shF f (32 * i)
theorem proofRs_length (f : Nat → Int) (k : Nat) : (proofRs f k).length = k := by simp [proofRs]
theorem proofRs_succ (f : Nat → Int) (k : Nat) : proofRs f k ++ [shF f (32 * k)] = proofRs f (k + 1) := by simp [proofRs, List.range_succ]
theorem proofRs_is {f : Nat → Int} (hf : ∀ j, j < 401 → (kdDeposit j).ok (f j)) (k : Nat) (hk : k ≤ 7) : ∀ r ∈ proofRs f k, IsR r := fun r hr => by
  obtain ⟨i, hi, rfl⟩ := List.mem_map.1 hr
  have hi' := List.mem_range.1 hi
  exact isR_u8 hf (kdD (32 * i) 32 (by omega)) (by omega)
def proofR (f : Nat → Int) : Nat → Int := fullT 3 (leaf (proofRs f 7))
theorem leaf_zero (rs : List (Nat → Int)) : leaf (rs ++ [zeroR]) = leaf rs := by
  funext i
  unfold leaf
  by_cases h : i < rs.length
  · simp [List.getD, List.getElem?_append_left h]
  · rw [List.getD, List.getD, List.getElem?_append_right (by omega), List.getElem?_eq_none (Nat.le_of_not_lt h)]
    cases i - rs.length <;> rfl
/-- The root. -/
def rootDeposit (f : Nat → Int) : Nat → Int := fullT 1 (leaf [proofR f, rootDepositData (shF f 224)])
theorem proofR_is {f : Nat → Int} (hf : ∀ j, j < 401 → (kdDeposit j).ok (f j)) : IsR (proofR f) := fullT_is 3 (leaf_is (proofRs_is hf 7 (by decide)))
theorem rootDeposit_is {f : Nat → Int} (hf : ∀ j, j < 401 → (kdDeposit j).ok (f j)) : IsR (rootDeposit f) := fullT_is 1 (leaf_is (is_cons (proofR_is hf) (is_cons (rootDepositData_is (sub_ok hf (by intro j hj; simp only [kdDeposit, kdDepositData]; (repeat' split) <;> first | rfl | (exfalso; omega)) (by decide))) is_nil)))
/-- While the keys are hashed: the outer hasher is empty, the inner one holds the roots of the first k. -/
structure HashD (n : Nat) (f : Nat → Int) (k : Nat) (w W : World) : Prop extends Box n 401 kdDeposit f 33 w W where
  hR : W.heap[n + 1]? = some (.cells zr 23 (0, 0))
  hh : W.heap[n + 1 + 1]? = some (.cells (hashC (.slice none 0 0)) 90 (0, 0))
  hl : HashW (n + 1 + 1 + 1) (proofRs f k) W
  hT : Tabs W
  h3 : 3 ≤ n
section
variable {n k : Nat} {f : Nat → Int} {w W W' : World}
theorem HashD.step {k' : Nat} (h : HashD n f k w W) (hl : HashW (n + 1 + 1 + 1) (proofRs f k') W') (hb : Below (n + 1 + 1 + 1) W W') : HashD n f k' w W' :=
  ⟨h.toBox.later (hb.mono (by omega)), (hb.block (n + 1) (by omega)).trans h.hR, (hb.block (n + 1 + 1) (by omega)).trans h.hh, hl, h.hT.below (by have := h.h3; omega) hb, h.h3⟩
theorem HashD.later (h : HashD n f k w W) (hb : Below W.heap.size W W') : HashD n f k w W' := h.step (h.hl.later hb) (hb.mono h.hl.size |>.mono (by omega))
theorem HashD.put (h : HashD n f k w W) (hf : ∀ j, j < 401 → (kdDeposit j).ok (f j)) (hk : k < 7) :
    Calls Tryd.prog 42 #[.pointer (some ⟨n + 1 + 1 + 1, 0, none⟩), .agg (rootV (shF f (32 * k))), .int .i64 0] W fun e w' => e = .returned (.tuple #[]) ∧ HashD n f (k + 1) w w' :=
  (hash_put (n + 1 + 1 + 1) (proofRs f k) (shF f (32 * k)) W h.hl (isR_u8 hf (kdD (32 * k) 32 (by omega)) (by omega)) (by rw [proofRs_length]; omega)).mono fun _ _ ⟨h1, h2, h3⟩ => ⟨h1, h.step (by rw [proofRs_succ] at h2; exact h2) h3⟩
/-- A zero root behind them. -/
theorem HashD.zero (h : HashD n f 7 w W) :
    Calls Tryd.prog 42 #[.pointer (some ⟨n + 1 + 1 + 1, 0, none⟩), .agg (rootV zeroR), .int .i64 0] W fun e w' => e = .returned (.tuple #[]) ∧ ∃ h : HashD n f 7 w W, HashW (n + 1 + 1 + 1) (proofRs f 7 ++ [zeroR]) w' ∧ Below (n + 1 + 1 + 1) W w' :=
  (hash_put (n + 1 + 1 + 1) (proofRs f 7) zeroR W h.hl zeroR_is (by rw [proofRs_length]; decide)).mono fun _ _ ⟨h1, h2, h3⟩ => ⟨h1, h, h2, h3⟩
theorem HashD.done (h : HashD n f 7 w W) (hl : HashW (n + 1 + 1 + 1) (proofRs f 7 ++ [zeroR]) W') (hB : Below (n + 1 + 1 + 1) W W') :
    Calls Tryd.prog 43 #[.pointer (some ⟨n + 1 + 1 + 1, 0, none⟩)] W' fun e w' => e = .returned (.tuple #[.agg (rootV (proofR f)), .int .i64 0]) ∧ HashS n 401 kdDeposit f 33 [] w w' := by
  have hT := h.hT.below (by have := h.h3; omega) hB
  have hs := hl.size
  refine (hash_done (n + 1 + 1 + 1) 3 (proofRs f 7 ++ [zeroR]) W' hl hT (by have := h.h3; omega) (by rw [List.length_append, proofRs_length]; unfold Dep; decide) (by simp) (by decide)).mono fun _ _ ⟨h1, hb⟩ => ?_
  rw [leaf_zero] at h1
  have hb2 : Below (n + 1 + 1 + 1) W _ := hB.trans (hb.mono (by omega))
  exact ⟨h1, h.toBox.later (hb2.mono (by omega)), (hb2.block (n + 1) (by omega)).trans h.hR, ⟨fun r hr => (by simp at hr), _, (hb2.block (n + 1 + 1) (by omega)).trans h.hh, rfl, Or.inl ⟨rfl, rfl⟩⟩, h.hT.below (by have := h.h3; omega) hb2, h.h3⟩
theorem HashD.begin (h1 : (w.alloc (.cells (fcells 401 kdDeposit f).toArray 33)).heap[n]? = some (.cells (fcells 401 kdDeposit f).toArray 33 (0, 0))) (hn : w.heap.size = n) (hT : Tabs w) :
    HashD n f 0 w ((((w.alloc (.cells (fcells 401 kdDeposit f).toArray 33)).alloc (.cells zr 23)).alloc (.cells (hashC (.slice none 0 0)) 90)).alloc (.cells (hashC (.slice none 0 0)) 90)) := by
  have h := HashS.begin h1 hn hT
  have hh := h.hH.size
  subst hn
  have hb := (Below.refl _ (((w.alloc (.cells (fcells 401 kdDeposit f).toArray 33)).alloc (.cells zr 23)).alloc (.cells (hashC (.slice none 0 0)) 90))).alloc (Nat.le_refl _) (.cells (hashC (.slice none 0 0)) 90)
  have h2 := h.later hb
  exact ⟨h2.toBox, h2.hR, heap_past _ _ _ _ (heap_new _ _ _ _ (by simp)), ⟨fun r hr => (by simp [proofRs] at hr), _, heap_new _ _ _ _ (by simp), rfl, Or.inl ⟨rfl, rfl⟩⟩, h2.hT, h2.h3⟩
end
theorem built_root (w : World) : (Instr.build 23 #[]).run Tryd.prog w = .ok (.agg (rootV zeroR)) w := by kernel_rfl
set_option maxHeartbeats 8000000 in
theorem root_Deposit (f : Nat → Int) (hf0 : ∀ j, j < 401 → (kdDeposit j).ok (f j)) (w : World) (hT0 : Tabs w) :
    Calls Tryd.prog 10 #[.agg (fcells 401 kdDeposit f).toArray] w fun e w' => e = .returned (.tuple #[.agg (rootV (rootDeposit f)), .int .i64 0]) ∧ Below w.heap.size w w' := by
  have hf := Lib.hid hf0
  have hT := Lib.hid hT0
  clear hf0 hT0
  go_enter Tryd.func10, Tryd.ntmps10
  go_wp2_with (first
    | ((with_reducible refine at_alloc 23 ?_); refine wpList_plain rfl fun K hK => wp_alloc_row 23 rfl 2 rfl zr 32 info_zr (hK _ _ ?_); clear hK K)
    | ((with_reducible refine at_alloc 90 ?_); refine wpList_plain rfl fun K hK => wp_alloc_row 90 rfl 4 rfl _ 2 info_hash (hK _ _ ?_); clear hK K)
    | ((with_reducible refine at_alloc 90 ?_); go_loud (refine wpList_plain rfl fun K hK => wp_alloc_row 90 rfl 5 rfl _ 2 info_hash (hK _ _ ?_)); clear hK K
       go_loud (refine gen_l (fun W => HashD w.heap.size f 0 w W) (HashD.begin (heap_new _ _ _ _ rfl) rfl hT.out) ?_)
       intro W hS0
       have hS := Lib.hid hS0
       clear hS0)
    | ((with_reducible refine at_load 24 ?_); refine wpList_value (by rfl) _ (run_load_rows _ 24 _ (by rfl) w.heap.size 0 (by rfl) (fcells 224 (fun _ => .u8) (shF f 0)) _ (hS.out.toBox.sub 0 224 (fun _ => .u8) (kdD 0 224 (by decide)) (by decide)) Tryd.underlying24 rfl (by rw [row_size row_proof, fcells_length])) ?_
       obtain ⟨X, hX0⟩ : ∃ X, X = (fcells 224 (fun _ => CK.u8) (shF f 0)).toArray := ⟨_, rfl⟩
       rw [← hX0]
       have hX := Lib.hid hX0
       clear hX0))
  go_loopw [10] (fun i wr => ∃ k : Nat, k ≤ 7 ∧ i = .int .i64 (k : Int) ∧ HashD w.heap.size f k w wr) (fun i _ => 7 - (intOf i).toNat)
  case atStart => exact ⟨0, by omega, rfl, hS.out⟩
  case round =>
    obtain ⟨k, hk, rfl, hS1⟩ := hrel
    clear hS
    have hS := Lib.hid hS1
    clear hS1
    by_cases hlt : k < 7
    · have lk : (k : Int) < 7 := by omega
      go_wp2_with (first
        | ((with_reducible refine at_index 24 ?_); refine wpList_value (by rfl) _ (run_ixD _ 24 23 7 32 _ _ rfl Tryd.underlying24 Tryd.underlying23 rfl (row_size row_root) X rfl .i64 k rfl hlt (fcells 32 (fun _ => .u8) (shF f (0 + 32 * k))).toArray (by rw [hX.out]; exact rt_part f 224 0 k (by omega))) ?_)
        | ((with_reducible refine at_alloc 23 ?_); refine wpList_alloc_store rfl rfl 23 _ _ rfl rfl rfl (fcells 32 (fun _ => .u8) (shF f (0 + 32 * k))).toArray rfl rfl (zeroOf Tryd.prog 23) (row_zero row_root).1 (row_zero row_root).2 (fcells_one _ _ _) ?_
           go_loud (refine gen_l (fun W => HashD w.heap.size f k w W ∧ W.heap[wr.heap.size]? = some (.cells (rootV (shF f (32 * k))) 23 (0, 0))) ⟨hS.out.later ((Below.refl _ _).alloc (Nat.le_refl _) _), by rw [Nat.zero_add]; exact heap_new _ _ _ _ rfl⟩ ?_)
           rintro W ⟨hS1, hK1⟩
           clear hS
           have hS := Lib.hid hS1
           have hK := Lib.hid hK1
           clear hS1 hK1)
        | ((with_reducible refine at_load 23 ?_); go_loud (refine wpList_value (by rfl) _ (run_load_box _ 23 _ (by rfl) wr.heap.size (by rfl) _ _ (0, 0) _ hK.out Tryd.underlying23 rfl (by rw [row_size row_root]; simp [fcells])) ?_))
        | ((with_reducible refine (HashD.put hS.out hf.out hlt).mono ?_)
           rintro e W ⟨rfl, hS1⟩
           clear hS
           have hS := Lib.hid hS1
           clear hS1))
      first
        | exact ⟨⟨k + 1, by omega, by go_num, hS.out⟩, by simp [intOf]; omega⟩
        | (refine ⟨?_, by simp [intOf]; omega⟩
           (repeat apply Exists.intro)
           exact ⟨⟨k + 1, by omega, by go_num, hS.out⟩, rfl⟩)
    · have e : k = 7 := by omega
      subst e
      clear hlt hk
      go_wp2_with (first
        | ((with_reducible refine at_build 23 ?_); go_loud (refine wpList_value (by rfl) _ (run_build _ _ rfl _ (built_root _)) ?_))
        | ((with_reducible refine (HashD.zero hS.out).mono ?_)
           rintro e W ⟨rfl, hS0, hL1, hB1⟩
           have hL := Lib.hid hL1
           have hBz := Lib.hid hB1
           clear hL1 hB1)
        | ((with_reducible refine (HashD.done hS.out hL.out hBz.out).mono ?_)
           rintro e W ⟨rfl, hS1⟩
           clear hS hL hBz
           have hS := Lib.hid hS1
           clear hS1)
        | ((with_reducible refine (HashS.put hS.out (proofR f) (proofR_is hf.out) (by simp)).mono ?_)
           rintro e W ⟨rfl, hS1⟩
           clear hS
           have hS := Lib.hid hS1
           clear hS1)
        | ((with_reducible refine at_load 31 ?_); refine wpList_value (by rfl) _ (run_load_rows _ 31 _ (by rfl) w.heap.size 224 rfl (fcells 177 kdDepositData (shF f 224)) _ (hS.out.toBox.sub 224 177 kdDepositData (by intro j hj; simp only [kdDeposit, kdDepositData]; (repeat' split) <;> first | rfl | (exfalso; omega)) (by decide)) Tryd.underlying31 rfl (by rw [row_size rowDepositData, fcells_length])) ?_)
        | ((with_reducible refine (root_DepositData (shF f 224) (sub_ok hf.out (by intro j hj; simp only [kdDeposit, kdDepositData]; (repeat' split) <;> first | rfl | (exfalso; omega)) (by decide)) _ hS.out.hT).mono ?_)
           rintro e W ⟨rfl, hb1⟩
           have hS1 := hS.out.later hb1
           clear hS
           have hS := Lib.hid hS1
           clear hS1 hb1)
        | ((with_reducible refine (HashS.put hS.out (rootDepositData (shF f 224)) (rootDepositData_is (sub_ok hf.out (by intro j hj; simp only [kdDeposit, kdDepositData]; (repeat' split) <;> first | rfl | (exfalso; omega)) (by decide))) (by simp)).mono ?_)
           rintro e W ⟨rfl, hS1⟩
           clear hS
           have hS := Lib.hid hS1
           clear hS1)
        | ((with_reducible refine (HashS.done hS.out 1 (by simp [Dep]) (by simp) (by decide)).mono ?_)
           rintro e W ⟨rfl, hBf, hRf⟩
           have hRf1 := Lib.hid hRf
           have hbs := hBf.size
           clear hRf hS)
        | ((with_reducible refine at_store 23 ?_); go_loud (refine wpList_store_row_gen (w0 := w) (n0 := w.heap.size) 23 _ _ rfl rfl (w.heap.size + 1) rfl _ rfl (fcells_one _ _ _) (by rw [row_size row_root]; simp [fcells]) _ 23 hRf1.out (by rw [zr_size]; simp [fcells]) (by omega) hBf (fun W9 hW9 hBW _ => ?_))))
      exact ret_mid_tmp rfl (w.heap.size + 1) 0 (fcells 32 (fun _ => .u8) (rootDeposit f)) _ rfl hW9 Tryd.underlying23 rfl (by rw [row_size row_root, fcells_length]) rfl ⟨rfl, hBW⟩
end Go.Proofs.YtihelknkcomjpaaDoor
