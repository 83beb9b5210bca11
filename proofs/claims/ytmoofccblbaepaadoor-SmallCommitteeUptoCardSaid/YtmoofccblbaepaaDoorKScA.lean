import Derived.Test.YtmoofccblbaepaaDoorJBoxR
set_option linter.unusedVariables false
set_option linter.unusedSimpArgs false
set_option linter.unnecessarySimpa false
/- The committee: eight keys and their sum: its bytes, by the program. -/
namespace Go.Proofs.YtmoofccblbaepaaDoor
open Go.RowKit BigFrame
set_option maxRecDepth 100000
def kdCommittee (_ : Nat) : CK := .u8
theorem kdC (off len : Nat) : ∀ j, j < len → kdCommittee (off + j) = .u8 := fun _ _ => rfl
/-- The bytes. -/
def encLCommittee (f : Nat → Int) : List Int := byL f 0 432
theorem encCommittee_length (f : Nat → Int) : (encLCommittee f).length = 432 := byL_length _ _ _
theorem encCommittee_ok {f : Nat → Int} (hf : ∀ j, j < 432 → (kdCommittee j).ok (f j)) : ∀ m ∈ encLCommittee f, CK.ok .u8 m := byL_ok (ok_u8 hf (kdC 0 432) (by decide))
theorem rowCommittee : rowB Tryd.prog 92 432 = true := by kernel_rfl
theorem row_key : rowB Tryd.prog 69 48 = true := by kernel_rfl
theorem row_keys : rowB Tryd.prog 90 384 = true := by kernel_rfl
theorem byL_app (f : Nat → Int) (o a b c : Nat) (h : o + a = b) (hc : a + c = b - o + c) : byL f o a ++ byL f b c = byL f o (a + c) := by
  subst h
  unfold byL
  rw [List.range_add, List.map_append, List.map_map]
  congr 1
  apply List.map_congr_left
  intro j _
  simp [Nat.add_assoc]
theorem run_ix {P : Program} {ρ : Operand → Value} {o : Oper} (w : World) (t e n s : Nat) (x y : Operand) (ho : o.op = .index t x y) (hu : P.underlying t = some (.array n e)) {d : TypeDesc} (he : P.underlying e = some d) (hd : d.isRow = true) (hs : (P.info? e).map (·.size) = some s)
    (cs : Array Value) (hx : ρ x = .agg cs) (k : IntKind) (i : Nat) (hy : ρ y = .int k i) (hi : i < n) (z : Array Value) (hz : cs.extract (i * s) (i * s + s) = z) : (execOp ρ o).run P w = .ok (.value (.agg z)) w := by
  subst hz
  unfold execOp
  simp only [ho, hx, hy, Sem.run_bind, run_index_rows w t e n s hu he hd hs cs k i hi, Result.andThen, Sem.run_pure]
/-- A key of the eight. -/
theorem key_part (f : Nat → Int) (N o i : Nat) (h : i * 48 + 48 ≤ N) : ((fcells N (fun _ => CK.u8) (shF f o)).toArray.extract (i * 48) (i * 48 + 48)) = (fcells 48 (fun _ => CK.u8) (shF f (o + 48 * i))).toArray := by
  refine cells_eq (by rw [extract_size _ _ _ (by simpa [fcells] using h)]) (fun j hj => ?_)
  rw [extract_get _ _ _ _ hj, List.getElem?_toArray, fcells_get _ _ _ _ (by omega)]
  unfold shF
  rw [show o + (i * 48 + j) = o + 48 * i + j by omega]
theorem row_of_key {g : Nat} {f : Nat → Int} {o : Nat} {t : TypeId} {W : World} (h : W.heap[g]? = some (.cells (fcells 48 (fun _ => CK.u8) (shF f o)).toArray t (0, 0))) (hf : ∀ j, j < 48 → IsB (f (o + j))) : SlB (some ⟨g, 0, none⟩) 48 (byL f o 48) W := by
  refine ⟨⟨fun i hi => ⟨g, 0, rfl, ?_⟩, byL_ok hf⟩, (fun e => by cases e), by rw [byL_length]; exact Nat.le_refl _, fun b o' e => by cases e; exact block_lt h⟩
  rw [byL_length] at hi
  rw [cell_of_row W g _ _ _ _ h, List.getElem?_toArray, fcells_get _ _ _ _ (by omega), byL_get _ _ _ _ hi]
  simp [shF]
set_option maxHeartbeats 8000000 in
theorem enc_Committee (f : Nat → Int) (hf0 : ∀ j, j < 432 → (kdCommittee j).ok (f j)) (w : World) :
    Calls Tryd.prog 52 #[.agg (fcells 432 kdCommittee f).toArray] w fun e w' => (∃ va c, e = .returned (.slice va 432 c) ∧ (va = none → c = 0) ∧ OwnB w.heap.size (.slice va 432 c) (encLCommittee f) w') ∧ Below w.heap.size w w' := by
  have hf := Lib.hid hf0
  clear hf0
  go_enter Tryd.func52, Tryd.ntmps52
  go_wp2_with (first
    | ((with_reducible refine at_alloc 148 ?_); go_loud (refine wpList_plain rfl fun K hK => wp_alloc_row 148 rfl 3 rfl _ 5 info_out (hK _ _ ?_)); clear hK K
       refine gen_l (fun W => EncS w.heap.size 432 kdCommittee f 92 [] w W) (EncS.begin (heap_new _ _ _ _ rfl) rfl) ?_
       intro W hS0
       have hS := Lib.hid hS0
       clear hS0)
    | ((with_reducible refine at_load 90 ?_); refine wpList_value (by rfl) _ (run_load_rows _ 90 _ (by rfl) w.heap.size 0 (by rfl) (fcells 384 (fun _ => .u8) (shF f 0)) _ (hS.out.toBox.sub 0 384 (fun _ => .u8) (kdC 0 384) (by decide)) Tryd.underlying90 rfl (by rw [row_size row_keys, fcells_length])) ?_
       obtain ⟨X, hX0⟩ : ∃ X, X = (fcells 384 (fun _ => CK.u8) (shF f 0)).toArray := ⟨_, rfl⟩
       rw [← hX0]
       have hX := Lib.hid hX0
       clear hX0))
  go_loopw [10] (fun i wr => ∃ k : Nat, k ≤ 8 ∧ i = .int .i64 (k : Int) ∧ EncS w.heap.size 432 kdCommittee f 92 (byL f 0 (48 * k)) w wr) (fun i _ => 8 - (intOf i).toNat)
  case atStart => exact ⟨0, by omega, rfl, hS.out⟩
  case round =>
    obtain ⟨k, hk, rfl, hS1⟩ := hrel
    clear hS
    have hS := Lib.hid hS1
    clear hS1
    by_cases hlt : k < 8
    · have lk : (k : Int) < 8 := by omega
      go_wp2_with (first
        | ((with_reducible refine at_index 90 ?_); refine wpList_value (by rfl) _ (run_ix _ 90 69 8 48 _ _ rfl Tryd.underlying90 Tryd.underlying69 rfl (row_size row_key) X rfl .i64 k rfl hlt (fcells 48 (fun _ => .u8) (shF f (0 + 48 * k))).toArray (by rw [hX.out]; exact key_part f 384 0 k (by omega))) ?_)
        | ((with_reducible refine at_alloc 69 ?_); refine wpList_alloc_store rfl rfl 69 _ _ rfl rfl rfl (fcells 48 (fun _ => .u8) (shF f (0 + 48 * k))).toArray rfl rfl (zeroOf Tryd.prog 69) (row_zero row_key).1 (row_zero row_key).2 (fcells_one _ _ _) ?_
           go_loud (refine gen_l (fun W => EncS w.heap.size 432 kdCommittee f 92 (byL f 0 (48 * k)) w W ∧ SlB (some ⟨wr.heap.size, 0, none⟩) 48 (byL f (48 * k) 48) W) ⟨hS.out.later ((Below.refl _ _).alloc (Nat.le_refl _) _), row_of_key (by rw [Nat.zero_add]; exact heap_new _ _ _ _ rfl) (ok_u8 hf.out (kdC (48 * k) 48) (by omega))⟩ ?_)
           rintro W ⟨hS1, hK1⟩
           clear hS
           have hS := Lib.hid hS1
           have hK := Lib.hid hK1
           clear hS1 hK1)
        | ((with_reducible refine (EncS.app hS.out _ 48 _ _ hK.out (byL_length _ _ _) (by rw [byL_length]; omega)).mono ?_)
           rintro e W ⟨rfl, hS1⟩
           rw [byL_app f 0 (48 * k) (48 * k) 48 (by omega) (by omega)] at hS1
           clear hS
           have hS := Lib.hid hS1
           clear hS1))
      first
        | exact ⟨⟨k + 1, by omega, by go_num, hS.out⟩, by simp [intOf]; omega⟩
        | (refine ⟨?_, by simp [intOf]; omega⟩
           (repeat apply Exists.intro)
           exact ⟨⟨k + 1, by omega, by go_num, hS.out⟩, rfl⟩)
    · have e : k = 8 := by omega
      subst e
      clear hlt hk
      go_wp2_with (first
        | ((with_reducible refine (EncS.bytes hS.out 384 48 (kdC 384 48) (by decide) hf.out (by rw [byL_length]; decide)).mono ?_)
           rintro e W ⟨rfl, hS1⟩
           rw [byL_app f 0 (48 * 8) 384 48 rfl rfl] at hS1
           clear hS
           have hS := Lib.hid hS1
           clear hS1)
        | ((with_reducible refine (EncS.done hS.out 432 (by rw [byL_length]) (by decide)).mono ?_)
           rintro e W ⟨⟨va, c, rfl, hva, hOw⟩, hBf⟩
           have hOw1 := Lib.hid hOw
           have hva1 := Lib.hid hva
           clear hOw hva))
      exact ret_t1 rfl _ rfl rfl ⟨⟨va, c, rfl, hva1.out, hOw1.out⟩, hBf⟩
end Go.Proofs.YtmoofccblbaepaaDoor
