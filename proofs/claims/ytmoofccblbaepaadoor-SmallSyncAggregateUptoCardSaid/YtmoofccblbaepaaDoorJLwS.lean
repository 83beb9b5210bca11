import Derived.Test.YtmoofccblbaepaaDoorJSlExit
import Derived.Test.YtmoofccblbaepaaDoorJSpValidator
import Derived.Test.YtmoofccblbaepaaDoorJSpFork
set_option linter.unusedVariables false
set_option linter.unusedSimpArgs false
set_option linter.unnecessarySimpa false
/- awake of the small containers answers true. -/
namespace Go.Proofs.YtmoofccblbaepaaDoor
open Go.RowKit BigFrame
set_option maxRecDepth 100000
theorem Law.start {w : World} (hT : Tabs w) : Law w.heap.size w [] [] w := ⟨Below.refl _ _, Nat.le_refl _, (fun p hp => by simp at hp), (fun p hp => by simp at hp), hT⟩
def x0E (j : Nat) : Int := if j = 0 then 1 else 2
theorem x0E_ok : ∀ j, j < 2 → (kdExit j).ok (x0E j) := by
  intro j hj
  unfold x0E
  split <;> exact ⟨by decide, by decide⟩
theorem builtX0 (w : World) : (Instr.build 24 #[(0, .int .u64 1), (1, .int .u64 2)]).run Tryd.prog w = .ok (.agg (fcells 2 kdExit x0E).toArray) w := by kernel_rfl
theorem asVal_exit (zs : List Value) : asVal Tryd.prog 24 zs = .agg zs.toArray := by unfold asVal; rw [Tryd.underlying24]
theorem guard_exit : Tryd.prog.eqGuardType Tryd.prog.depth 24 = false := by kernel_rfl
theorem leafs_exit : leafs Tryd.prog 10 24 = some ((List.range 2).map fun j => (kdExit j).lk) := by kernel_rfl
theorem zero_ok {N : Nat} (kd : Nat → CK) : ∀ j, j < N → (kd j).ok ((fun _ => (0 : Int)) j) := fun j _ => by
  show (kd j).ok 0
  cases kd j
  · exact ⟨by decide, by decide⟩
  · exact ⟨by decide, by decide⟩
  · exact Or.inl rfl
theorem chunk_zero (l : List Int) (h : ∀ x ∈ l, x = 0) : chunkL l 0 = zeroR := by
  funext j
  unfold chunkL zeroR
  split
  · by_cases c : 32 * 0 + j < l.length
    · rw [List.getD, List.getElem?_eq_getElem c]
      exact h _ (List.getElem_mem c)
    · rw [List.getD, List.getElem?_eq_none (Nat.le_of_not_lt c)]
      rfl
  · rfl
theorem rootFork_zero : rootFork (fun _ => 0) = sha2 (sha2 zeroR zeroR) (sha2 zeroR zeroR) := by
  have h1 : ∀ o, byR 0 (byL (fun _ => 0) o 4) = zeroR := fun o => by
    rw [byR_one _ (by rw [byL_length]; decide) (by rw [byL_length]; decide)]
    exact chunk_zero _ fun x hx => by
      obtain ⟨j, _, rfl⟩ := List.mem_map.1 hx
      rfl
  have h2 : numR 0 = zeroR := chunk_zero _ fun x hx => by
    obtain ⟨j, _, rfl⟩ := List.mem_map.1 hx
    unfold leB
    simp
  unfold rootFork
  rw [h1, h1, h2]
  rfl
theorem fcells_head (f : Nat → Int) : fcells 32 (fun _ => .u8) f = .int .u8 (f 0) :: (fcells 32 (fun _ => .u8) f).tail := rfl
theorem fork_not : eqCells (fcells 32 (fun _ => .u8) (rootFork (fun _ => 0))) (fcells 32 (fun _ => .u8) zeroR) = !true := by
  rw [fcells_head, fcells_head, rootFork_zero, zero_not]
  rfl
theorem run_eql_exit {ρ : Operand → Value} {o : Oper} (W : World) (x y : Operand) (ho : o.op = .binOp .eql 24 x y 24) (f : Nat → Int) (hx : ρ x = .agg (fcells 2 kdExit f).toArray) (hy : ρ y = .agg (fcells 2 kdExit f).toArray) :
    (execOp ρ o).run Tryd.prog W = .ok (.value (.bool true)) W := by
  rw [run_eql_agg W 24 24 x y ho (fcells 2 kdExit f) (fcells 2 kdExit f) hx hy asVal_exit guard_exit 10 _ leafs_exit (by decide) (fits_f 2 kdExit f) (fits_f 2 kdExit f), eqCells_f]
set_option maxHeartbeats 8000000 in
theorem awake_any (w : World) (hT : Tabs w) : Calls Tryd.prog 15 #[] w fun e w' => e = .returned (.bool true) ∧ Below w.heap.size w w' := by
  have hS := Lib.hid (Law.start hT)
  have hx := Lib.hid x0E_ok
  have hrd := Lib.hid (fcells_congr (kd := kdExit) (rdenc_Exit x0E x0E_ok))
  clear hT
  go_enter Tryd.func15, Tryd.ntmps15
  go_wp2_with (first
    | ((with_reducible refine at_build 24 ?_); go_loud (refine wpList_value (by rfl) _ (run_build _ _ rfl _ (builtX0 _)) ?_))
    | ((with_reducible refine at_build 110 ?_); go_loud (refine wpList_value (by rfl) _ (run_build _ _ rfl _ (builtValidator _)) ?_))
    | ((with_reducible refine at_build 42 ?_); go_loud (refine wpList_value (by rfl) _ (run_build _ _ rfl _ (builtFork _)) ?_))
    | ((with_reducible refine at_build 29 ?_); go_loud (refine wpList_value (by rfl) _ (run_build_root0 _ rfl) ?_))
    | ((with_reducible refine at_alloc 24 ?_); go_loud (refine wpList_alloc_store rfl rfl 24 _ _ rfl rfl rfl (fcells 2 kdExit x0E).toArray rfl rfl (zeroOf Tryd.prog 24) (row_zero rowExit).1 (row_zero rowExit).2 (fcells_one _ _ _) ?_)
       have hS1 := hS.out.addB (fcells 2 kdExit x0E).toArray 24
       refine gen_l _ hS1 ?_
       clear hS hS1
       intro W hS1
       have hS := Lib.hid hS1
       clear hS1)
    | ((with_reducible refine at_load 24 ?_); refine wpList_value (by rfl) _ (run_load_box _ 24 _ (by rfl) _ rfl _ _ (0, 0) _ (hS.out.bx 0 rfl) Tryd.underlying24 rfl (by rw [row_size rowExit]; simp [fcells])) ?_)
    | ((with_reducible refine at_load 24 ?_); refine wpList_value (by rfl) _ (run_load_box _ 24 _ (by rfl) _ rfl _ _ (0, 0) _ (hS.out.bx 1 rfl) Tryd.underlying24 rfl (by rw [row_size rowExit]; simp [fcells])) ?_)
    | ((with_reducible refine (enc_Exit x0E hx.out _).mono ?_)
       rintro e W ⟨⟨va1, c1, rfl, hn1, ho1⟩, hb1⟩
       have hS1 := hS.out.later hb1
       have hl := Lib.hid (SlB.of_own ho1 (encExit_ok hx.out) hn1)
       clear hS hn1 ho1 hb1
       have hS := Lib.hid hS1
       clear hS1)
    | ((with_reducible refine (readExit_ok (encLExit x0E) va1 c1 _ hl.out.row hl.out.cap hl.out.nil (fun ad e => hl.out.low ad.block ad.off (by
          obtain ⟨b, o, e2, _⟩ := hl.out.row.cell 0 (by rw [encExit_length]; decide)
          rw [e] at e2
          cases e2
          exact e)) (encExit_length _)).mono ?_)
       rintro e W ⟨rfl, hb1⟩
       rw [hrd.out]
       have hS1 := hS.out.later hb1
       clear hS hb1 hl
       have hS := Lib.hid hS1
       clear hS1)
    | ((with_reducible refine at_bin .eql 24 ?_); go_loud (refine wpList_value (by rfl) _ (run_eql_exit _ _ _ rfl x0E rfl rfl) ?_))
    | ((with_reducible refine (enc_Validator (fun _ => 0) (zero_ok _) _).mono ?_)
       rintro e W ⟨⟨va1, c1, rfl, hn1, ho1⟩, hb1⟩
       have hS1 := hS.out.later hb1
       clear hS hn1 ho1 hb1
       have hS := Lib.hid hS1
       clear hS1)
    | ((with_reducible refine (root_Fork (fun _ => 0) (zero_ok _) _ hS.out.hT).mono ?_)
       rintro e W ⟨rfl, hb1⟩
       have hS1 := hS.out.later hb1
       clear hS hb1
       have hS := Lib.hid hS1
       clear hS1)
    | ((with_reducible refine at_bin .neq 29 ?_); go_loud (refine wpList_value (by rfl) _ (run_neq_root _ _ _ rfl (rootFork (fun _ => 0)) zeroR true rfl rfl fork_not) ?_)))
  exact ret_t1 rfl _ rfl rfl ⟨rfl, hS.out.hB⟩
end Go.Proofs.YtmoofccblbaepaaDoor
/- The laws of the containers: what all have in common. -/
namespace Go.Proofs.YtmoofccblbaepaaDoor
open Go.RowKit BigFrame
set_option maxRecDepth 100000
theorem getD_app (l : List Int) (x : Int) (j : Nat) (h : j < l.length) : (l ++ [x]).getD j 0 = l.getD j 0 := by
  simp only [List.getD, List.getElem?_append_left h]
/-- A slice's first elements. -/
theorem SlB.pre {g c : Nat} {l : List Int} {x : Int} {W : World} (h : SlB (some ⟨g, 0, none⟩) c (l ++ [x]) W) : SlB (some ⟨g, 0, none⟩) c l W := by
  refine ⟨⟨fun j hj => ?_, fun m hm => h.row.ok m (by simp [hm])⟩, h.nil, by have := h.cap; simp at this; omega, h.low⟩
  obtain ⟨b, o, e, hc⟩ := h.row.cell j (by simp; omega)
  exact ⟨b, o, e, by rw [hc, getD_app l x j hj]⟩
theorem SlB.last {g c : Nat} {l : List Int} {x : Int} {W : World} (h : SlB (some ⟨g, 0, none⟩) c (l ++ [x]) W) : W.cell? ⟨g, l.length, none⟩ = some (.int .u8 x) := by
  obtain ⟨b, o, e, hc⟩ := h.row.cell l.length (by simp)
  cases e
  rw [Nat.zero_add] at hc
  rw [hc]
  simp [List.getD, CK.mk]
theorem SlB.own1 {base : Nat} {v : Value} {l : List Int} {x : Int} {W : World} (h : OwnB base v (l ++ [x]) W) (hl : ∀ m ∈ l, CK.ok .u8 m) (hx : CK.ok .u8 x) : ∃ g c, v = .slice (some ⟨g, 0, none⟩) (l.length + 1) c ∧ l.length + 1 ≤ c ∧ SlB (some ⟨g, 0, none⟩) c (l ++ [x]) W := by
  have hok : ∀ m ∈ l ++ [x], CK.ok .u8 m := fun m hm => by
    rcases List.mem_append.1 hm with hm | hm
    · exact hl m hm
    · rw [List.mem_singleton.1 hm]; exact hx
  obtain ⟨b, c, e, _, hc, hr⟩ := own_at1 h hok (by simp)
  have hlen : (l ++ [x]).length = l.length + 1 := by simp
  rw [hlen] at e hc
  subst e
  exact ⟨b, c, rfl, hc, hr, (fun e => by cases e), by rw [hlen]; exact hc, fun b' o' e => by cases e; exact block_lt_own h (by simp)⟩
theorem SlB.lowA {va : Option Addr} {c : Nat} {l : List Int} {W : World} (h : SlB va c l W) (h0 : 0 < l.length) : ∀ ad, va = some ad → ad.block < W.heap.size := fun ad e => by
  obtain ⟨b, o, e2, _⟩ := h.row.cell 0 h0
  rw [e] at e2
  cases e2
  exact h.low b o e
theorem SlB.lowG {g c : Nat} {l : List Int} {W : World} (h : SlB (some ⟨g, 0, none⟩) c l W) : ∀ ad, some (⟨g, 0, none⟩ : Addr) = some ad → ad.block < W.heap.size := fun ad e => by
  cases e
  exact h.low g 0 rfl
theorem eqCells_root (r : Nat → Int) : eqCells (fcells 32 (fun _ => .u8) r) (fcells 32 (fun _ => .u8) r) = !false := eqCells_f 32 _ r
end Go.Proofs.YtmoofccblbaepaaDoor
