import Derived.Test.YtmoofccblbaepaaDoorJBoxR
set_option linter.unusedVariables false
set_option linter.unusedSimpArgs false
set_option linter.unnecessarySimpa false
/- The committee: eight keys and their sum: its bytes, by the program. -/
namespace Go.Proofs.YtmoofccblbaepaaDoor
open Go.RowKit BigFrame
set_option maxRecDepth 100000
def kdCommittee (_ : Nat) : CK := .u8
theorem kdC (off len : Nat) : ∀ j, j < len → kdCommittee (off + j) = .u8 := fun _ _ => rfl
/-- The bytes. -/
def encLCommittee (f : Nat → Int) : List Int := byL f 0 432
theorem encCommittee_length (f : Nat → Int) : (encLCommittee f).length = 432 := byL_length _ _ _
theorem encCommittee_ok {f : Nat → Int} (hf : ∀ j, j < 432 → (kdCommittee j).ok (f j)) : ∀ m ∈ encLCommittee f, CK.ok .u8 m := byL_ok (ok_u8 hf (kdC 0 432) (by decide))
theorem rowCommittee : rowB Tryd.prog 92 432 = true := by kernel_rfl
theorem row_key : rowB Tryd.prog 69 48 = true := by kernel_rfl
theorem row_keys : rowB Tryd.prog 90 384 = true := by kernel_rfl
theorem byL_app (f : Nat → Int) (o a b c : Nat) (h : o + a = b) (hc : a + c = b - o + c) : byL f o a ++ byL f b c = byL f o (a + c) := by
  subst h
  unfold byL
  rw [List.range_add, List.map_append, List.map_map]
  congr 1
  apply List.map_congr_left
  intro j _
  simp [Nat.add_assoc]
theorem run_ix {P : Program} {ρ : Operand → Value} {o : Oper} (w : World) (t e n s : Nat) (x y : Operand) (ho : o.op = .index t x y) (hu : P.underlying t = some (.array n e)) {d : TypeDesc} (he : P.underlying e = some d) (hd : d.isRow = true) (hs : (P.info? e).map (·.size) = some s)
    (cs : Array Value) (hx : ρ x = .agg cs) (k : IntKind) (i : Nat) (hy : ρ y = .int k i) (hi : i < n) (z : Array Value) (hz : cs.extract (i * s) (i * s + s) = z) : (execOp ρ o).run P w = .ok (.value (.agg z)) w := by
  subst hz
  unfold execOp
  simp only [ho, hx, hy, Sem.run_bind, run_index_rows w t e n s hu he hd hs cs k i hi, Result.andThen, Sem.run_pure]
/-- A key of the eight. -/
theorem key_part (f : Nat → Int) (N o i : Nat) (h : i * 48 + 48 ≤ N) : ((fcells N (fun _ => CK.u8) (shF f o)).toArray.extract (i * 48) (i * 48 + 48)) = (fcells 48 (fun _ => CK.u8) (shF f (o + 48 * i))).toArray := by
  refine cells_eq (by rw [extract_size _ _ _ (by simpa [fcells] using h)]) (fun j hj => ?_)
  rw [extract_get _ _ _ _ hj, List.getElem?_toArray, fcells_get _ _ _ _ (by omega)]
  unfold shF
  rw [show o + (i * 48 + j) = o + 48 * i + j by omega]
theorem row_of_key {g : Nat} {f : Nat → Int} {o : Nat} {t : TypeId} {W : World} (h : W.heap[g]? = some (.cells (fcells 48 (fun _ => CK.u8) (shF f o)).toArray t (0, 0))) (hf : ∀ j, j < 48 → IsB (f (o + j))) : SlB (some ⟨g, 0, none⟩) 48 (byL f o 48) W := by
  refine ⟨⟨fun i hi => ⟨g, 0, rfl, ?_⟩, byL_ok hf⟩, (fun e => by cases e), by rw [byL_length]; exact Nat.le_refl _, fun b o' e => by cases e; exact block_lt h⟩
  rw [byL_length] at hi
  rw [cell_of_row W g _ _ _ _ h, List.getElem?_toArray, fcells_get _ _ _ _ (by omega), byL_get _ _ _ _ hi]
  simp [shF]
set_option maxHeartbeats 8000000 in
theorem enc_Committee (f : Nat → Int) (hf0 : ∀ j, j < 432 → (kdCommittee j).ok (f j)) (w : World) :
    Calls Tryd.prog 52 #[.agg (fcells 432 kdCommittee f).toArray] w fun e w' => (∃ va c, e = .returned (.slice va 432 c) ∧ (va = none → c = 0) ∧ OwnB w.heap.size (.slice va 432 c) (encLCommittee f) w') ∧ Below w.heap.size w w' := by
  have hf := Lib.hid hf0
  clear hf0
  go_enter Tryd.func52, Tryd.ntmps52
  go_wp2_with (first
    | ((with_reducible refine at_alloc 148 ?_); go_loud (refine wpList_plain rfl fun K hK => wp_alloc_row 148 rfl 3 rfl _ 5 info_out (hK _ _ ?_)); clear hK K
       refine gen_l (fun W => EncS w.heap.size 432 kdCommittee f 92 [] w W) (EncS.begin (heap_new _ _ _ _ rfl) rfl) ?_
       intro W hS0
       have hS := Lib.hid hS0
       clear hS0)
    | ((with_reducible refine at_load 90 ?_); refine wpList_value (by rfl) _ (run_load_rows _ 90 _ (by rfl) w.heap.size 0 (by rfl) (fcells 384 (fun _ => .u8) (shF f 0)) _ (hS.out.toBox.sub 0 384 (fun _ => .u8) (kdC 0 384) (by decide)) Tryd.underlying90 rfl (by rw [row_size row_keys, fcells_length])) ?_
       obtain ⟨X, hX0⟩ : ∃ X, X = (fcells 384 (fun _ => CK.u8) (shF f 0)).toArray := ⟨_, rfl⟩
       rw [← hX0]
       have hX := Lib.hid hX0
       clear hX0))
  go_loopw [10] (fun i wr => ∃ k : Nat, k ≤ 8 ∧ i = .int .i64 (k : Int) ∧ EncS w.heap.size 432 kdCommittee f 92 (byL f 0 (48 * k)) w wr) (fun i _ => 8 - (intOf i).toNat)
  case atStart => exact ⟨0, by omega, rfl, hS.out⟩
  case round =>
    obtain ⟨k, hk, rfl, hS1⟩ := hrel
    clear hS
    have hS := Lib.hid hS1
    clear hS1
    by_cases hlt : k < 8
    · have lk : (k : Int) < 8 := by omega
      go_wp2_with (first
        | ((with_reducible refine at_index 90 ?_); refine wpList_value (by rfl) _ (run_ix _ 90 69 8 48 _ _ rfl Tryd.underlying90 Tryd.underlying69 rfl (row_size row_key) X rfl .i64 k rfl hlt (fcells 48 (fun _ => .u8) (shF f (0 + 48 * k))).toArray (by rw [hX.out]; exact key_part f 384 0 k (by omega))) ?_)
        | ((with_reducible refine at_alloc 69 ?_); refine wpList_alloc_store rfl rfl 69 _ _ rfl rfl rfl (fcells 48 (fun _ => .u8) (shF f (0 + 48 * k))).toArray rfl rfl (zeroOf Tryd.prog 69) (row_zero row_key).1 (row_zero row_key).2 (fcells_one _ _ _) ?_
           go_loud (refine gen_l (fun W => EncS w.heap.size 432 kdCommittee f 92 (byL f 0 (48 * k)) w W ∧ SlB (some ⟨wr.heap.size, 0, none⟩) 48 (byL f (48 * k) 48) W) ⟨hS.out.later ((Below.refl _ _).alloc (Nat.le_refl _) _), row_of_key (by rw [Nat.zero_add]; exact heap_new _ _ _ _ rfl) (ok_u8 hf.out (kdC (48 * k) 48) (by omega))⟩ ?_)
           rintro W ⟨hS1, hK1⟩
           clear hS
           have hS := Lib.hid hS1
           have hK := Lib.hid hK1
           clear hS1 hK1)
        | ((with_reducible refine (EncS.app hS.out _ 48 _ _ hK.out (byL_length _ _ _) (by rw [byL_length]; omega)).mono ?_)
           rintro e W ⟨rfl, hS1⟩
           rw [byL_app f 0 (48 * k) (48 * k) 48 (by omega) (by omega)] at hS1
           clear hS
           have hS := Lib.hid hS1
           clear hS1))
      first
        | exact ⟨⟨k + 1, by omega, by go_num, hS.out⟩, by simp [intOf]; omega⟩
        | (refine ⟨?_, by simp [intOf]; omega⟩
           (repeat apply Exists.intro)
           exact ⟨⟨k + 1, by omega, by go_num, hS.out⟩, rfl⟩)
    · have e : k = 8 := by omega
      subst e
      clear hlt hk
      go_wp2_with (first
        | ((with_reducible refine (EncS.bytes hS.out 384 48 (kdC 384 48) (by decide) hf.out (by rw [byL_length]; decide)).mono ?_)
           rintro e W ⟨rfl, hS1⟩
           rw [byL_app f 0 (48 * 8) 384 48 rfl rfl] at hS1
           clear hS
           have hS := Lib.hid hS1
           clear hS1)
        | ((with_reducible refine (EncS.done hS.out 432 (by rw [byL_length]) (by decide)).mono ?_)
           rintro e W ⟨⟨va, c, rfl, hva, hOw⟩, hBf⟩
           have hOw1 := Lib.hid hOw
           have hva1 := Lib.hid hva
           clear hOw hva))
      exact ret_t1 rfl _ rfl rfl ⟨⟨va, c, rfl, hva1.out, hOw1.out⟩, hBf⟩
end Go.Proofs.YtmoofccblbaepaaDoor
/- The committee: its root, by the program. -/
namespace Go.Proofs.YtmoofccblbaepaaDoor
open Go.RowKit BigFrame
set_option maxRecDepth 100000
/-- The roots of the first k keys. -/
def keyRs (f : Nat → Int) (k : Nat) : List (Nat → Int) := (List.range k).map fun i => byR 1 (byL f (48 * i) 48)
theorem keyRs_length (f : Nat → Int) (k : Nat) : (keyRs f k).length = k := by simp [keyRs]
theorem keyRs_succ (f : Nat → Int) (k : Nat) : keyRs f k ++ [byR 1 (byL f (48 * k) 48)] = keyRs f (k + 1) := by simp [keyRs, List.range_succ]
theorem keyRs_is {f : Nat → Int} (hf : ∀ j, j < 432 → (kdCommittee j).ok (f j)) (k : Nat) (hk : k ≤ 8) : ∀ r ∈ keyRs f k, IsR r := fun r hr => by
  obtain ⟨i, hi, rfl⟩ := List.mem_map.1 hr
  have hi' := List.mem_range.1 hi
  exact byR_is (byL_ok (ok_u8 hf (kdC (48 * i) 48) (by omega)))
def keysR (f : Nat → Int) : Nat → Int := fullT 3 (leaf (keyRs f 8))
/-- The root. -/
def rootCommittee (f : Nat → Int) : Nat → Int := fullT 1 (leaf [keysR f, byR 1 (byL f 384 48)])
theorem keysR_is {f : Nat → Int} (hf : ∀ j, j < 432 → (kdCommittee j).ok (f j)) : IsR (keysR f) := fullT_is 3 (leaf_is (keyRs_is hf 8 (by decide)))
theorem rootCommittee_is {f : Nat → Int} (hf : ∀ j, j < 432 → (kdCommittee j).ok (f j)) : IsR (rootCommittee f) := fullT_is 1 (leaf_is (is_cons (keysR_is hf) (is_cons (byR_is (byL_ok (ok_u8 hf (kdC 384 48) (by decide)))) is_nil)))
/-- While the keys are hashed: the outer hasher is empty, the inner one holds the roots of the first k. -/
structure HashK (n : Nat) (f : Nat → Int) (k : Nat) (w W : World) : Prop extends Box n 432 kdCommittee f 92 w W where
  hR : W.heap[n + 1]? = some (.cells zr 29 (0, 0))
  hh : W.heap[n + 1 + 1]? = some (.cells (hashC (.slice none 0 0)) 153 (0, 0))
  hl : HashW (n + 1 + 1 + 1) (keyRs f k) W
  hT : Tabs W
  h3 : 3 ≤ n
section
variable {n k : Nat} {f : Nat → Int} {w W W' : World}
theorem HashK.step {k' : Nat} (h : HashK n f k w W) (hl : HashW (n + 1 + 1 + 1) (keyRs f k') W') (hb : Below (n + 1 + 1 + 1) W W') : HashK n f k' w W' :=
  ⟨h.toBox.later (hb.mono (by omega)), (hb.block (n + 1) (by omega)).trans h.hR, (hb.block (n + 1 + 1) (by omega)).trans h.hh, hl, h.hT.below (by have := h.h3; omega) hb, h.h3⟩
theorem HashK.later (h : HashK n f k w W) (hb : Below W.heap.size W W') : HashK n f k w W' := h.step (h.hl.later hb) (hb.mono h.hl.size |>.mono (by omega))
theorem HashK.key (h : HashK n f k w W) (hf : ∀ j, j < 432 → (kdCommittee j).ok (f j)) (hk : k < 8) {va : Option Addr} {c : Nat} (hs : SlB va c (byL f (48 * k) 48) W) :
    Calls Tryd.prog 101 #[.pointer (some ⟨n + 1 + 1 + 1, 0, none⟩), .slice va 48 c] W fun e w' => e = .returned (.tuple #[]) ∧ HashK n f (k + 1) w w' := by
  have hl := byL_length f (48 * k) 48
  have hc := hs.cap
  have hc' := hash_bytes (n + 1 + 1 + 1) 1 (keyRs f k) (byL f (48 * k) 48) va c W h.hl h.hT (by have := h.h3; omega) hs.row hc (by rw [hl]; decide) (by rw [hl]; decide) (by rw [hl]; unfold Dep; decide) (by decide) (by rw [keyRs_length]; omega)
  rw [hl] at hc'
  refine hc'.mono fun _ _ ⟨h1, h2, h3⟩ => ⟨h1, h.step ?_ h3⟩
  have e : fullT 1 (leaf (chunks (byL f (48 * k) 48))) = byR 1 (byL f (48 * k) 48) := rfl
  rw [e, keyRs_succ] at h2
  exact h2
theorem HashK.done (h : HashK n f 8 w W) :
    Calls Tryd.prog 91 #[.pointer (some ⟨n + 1 + 1 + 1, 0, none⟩)] W fun e w' => e = .returned (.tuple #[.agg (rootV (keysR f)), .int .i64 0]) ∧ HashS n 432 kdCommittee f 92 [] w w' :=
  (hash_done (n + 1 + 1 + 1) 3 (keyRs f 8) W h.hl h.hT (by have := h.h3; omega) (by rw [keyRs_length]; unfold Dep; decide) (by rw [keyRs_length]; decide) (by decide)).mono fun _ _ ⟨h1, hb⟩ => by
    have hs := h.hl.size
    exact ⟨h1, h.toBox.later (hb.mono (by omega)), (hb.block (n + 1) (by omega)).trans h.hR, ⟨fun r hr => (by simp at hr), _, (hb.block (n + 1 + 1) (by omega)).trans h.hh, rfl, Or.inl ⟨rfl, rfl⟩⟩, h.hT.below (by have := h.h3; omega) hb, h.h3⟩
theorem HashK.begin (h1 : (w.alloc (.cells (fcells 432 kdCommittee f).toArray 92)).heap[n]? = some (.cells (fcells 432 kdCommittee f).toArray 92 (0, 0))) (hn : w.heap.size = n) (hT : Tabs w) :
    HashK n f 0 w ((((w.alloc (.cells (fcells 432 kdCommittee f).toArray 92)).alloc (.cells zr 29)).alloc (.cells (hashC (.slice none 0 0)) 153)).alloc (.cells (hashC (.slice none 0 0)) 153)) := by
  have h := HashS.begin h1 hn hT
  have hh := h.hH.size
  subst hn
  have hb := (Below.refl _ (((w.alloc (.cells (fcells 432 kdCommittee f).toArray 92)).alloc (.cells zr 29)).alloc (.cells (hashC (.slice none 0 0)) 153))).alloc (Nat.le_refl _) (.cells (hashC (.slice none 0 0)) 153)
  have h2 := h.later hb
  exact ⟨h2.toBox, h2.hR, heap_past _ _ _ _ (heap_new _ _ _ _ (by simp)), ⟨fun r hr => (by simp [keyRs] at hr), _, heap_new _ _ _ _ (by simp), rfl, Or.inl ⟨rfl, rfl⟩⟩, h2.hT, h2.h3⟩
end
set_option maxHeartbeats 8000000 in
theorem root_Committee (f : Nat → Int) (hf0 : ∀ j, j < 432 → (kdCommittee j).ok (f j)) (w : World) (hT0 : Tabs w) :
    Calls Tryd.prog 53 #[.agg (fcells 432 kdCommittee f).toArray] w fun e w' => e = .returned (.agg (rootV (rootCommittee f))) ∧ Below w.heap.size w w' := by
  have hf := Lib.hid hf0
  have hT := Lib.hid hT0
  clear hf0 hT0
  go_enter Tryd.func53, Tryd.ntmps53
  go_wp2_with (first
    | ((with_reducible refine at_alloc 29 ?_); refine wpList_plain rfl fun K hK => wp_alloc_row 29 rfl 2 rfl zr 32 info_zr (hK _ _ ?_); clear hK K)
    | ((with_reducible refine at_alloc 153 ?_); refine wpList_plain rfl fun K hK => wp_alloc_row 153 rfl 3 rfl _ 2 info_hash (hK _ _ ?_); clear hK K)
    | ((with_reducible refine at_alloc 153 ?_); go_loud (refine wpList_plain rfl fun K hK => wp_alloc_row 153 rfl 4 rfl _ 2 info_hash (hK _ _ ?_)); clear hK K
       go_loud (refine gen_l (fun W => HashK w.heap.size f 0 w W) (HashK.begin (heap_new _ _ _ _ rfl) rfl hT.out) ?_)
       intro W hS0
       have hS := Lib.hid hS0
       clear hS0)
    | ((with_reducible refine at_load 90 ?_); refine wpList_value (by rfl) _ (run_load_rows _ 90 _ (by rfl) w.heap.size 0 (by rfl) (fcells 384 (fun _ => .u8) (shF f 0)) _ (hS.out.toBox.sub 0 384 (fun _ => .u8) (kdC 0 384) (by decide)) Tryd.underlying90 rfl (by rw [row_size row_keys, fcells_length])) ?_
       obtain ⟨X, hX0⟩ : ∃ X, X = (fcells 384 (fun _ => CK.u8) (shF f 0)).toArray := ⟨_, rfl⟩
       rw [← hX0]
       have hX := Lib.hid hX0
       clear hX0))
  go_loopw [11] (fun i wr => ∃ k : Nat, k ≤ 8 ∧ i = .int .i64 (k : Int) ∧ HashK w.heap.size f k w wr) (fun i _ => 8 - (intOf i).toNat)
  case atStart => exact ⟨0, by omega, rfl, hS.out⟩
  case round =>
    obtain ⟨k, hk, rfl, hS1⟩ := hrel
    clear hS
    have hS := Lib.hid hS1
    clear hS1
    by_cases hlt : k < 8
    · have lk : (k : Int) < 8 := by omega
      go_wp2_with (first
        | ((with_reducible refine at_index 90 ?_); refine wpList_value (by rfl) _ (run_ix _ 90 69 8 48 _ _ rfl Tryd.underlying90 Tryd.underlying69 rfl (row_size row_key) X rfl .i64 k rfl hlt (fcells 48 (fun _ => .u8) (shF f (0 + 48 * k))).toArray (by rw [hX.out]; exact key_part f 384 0 k (by omega))) ?_)
        | ((with_reducible refine at_alloc 69 ?_); refine wpList_alloc_store rfl rfl 69 _ _ rfl rfl rfl (fcells 48 (fun _ => .u8) (shF f (0 + 48 * k))).toArray rfl rfl (zeroOf Tryd.prog 69) (row_zero row_key).1 (row_zero row_key).2 (fcells_one _ _ _) ?_
           go_loud (refine gen_l (fun W => HashK w.heap.size f k w W ∧ SlB (some ⟨wr.heap.size, 0, none⟩) 48 (byL f (48 * k) 48) W) ⟨hS.out.later ((Below.refl _ _).alloc (Nat.le_refl _) _), row_of_key (by rw [Nat.zero_add]; exact heap_new _ _ _ _ rfl) (ok_u8 hf.out (kdC (48 * k) 48) (by omega))⟩ ?_)
           rintro W ⟨hS1, hK1⟩
           clear hS
           have hS := Lib.hid hS1
           have hK := Lib.hid hK1
           clear hS1 hK1)
        | ((with_reducible refine (HashK.key hS.out hf.out hlt hK.out).mono ?_)
           rintro e W ⟨rfl, hS1⟩
           clear hS
           have hS := Lib.hid hS1
           clear hS1))
      first
        | exact ⟨⟨k + 1, by omega, by go_num, hS.out⟩, by simp [intOf]; omega⟩
        | (refine ⟨?_, by simp [intOf]; omega⟩
           (repeat apply Exists.intro)
           exact ⟨⟨k + 1, by omega, by go_num, hS.out⟩, rfl⟩)
    · have e : k = 8 := by omega
      subst e
      clear hlt hk
      go_wp2_with (first
        | ((with_reducible refine (HashK.done hS.out).mono ?_)
           rintro e W ⟨rfl, hS1⟩
           clear hS
           have hS := Lib.hid hS1
           clear hS1)
        | ((with_reducible refine (HashS.put hS.out (keysR f) (keysR_is hf.out) (by simp)).mono ?_)
           rintro e W ⟨rfl, hS1⟩
           clear hS
           have hS := Lib.hid hS1
           clear hS1)
        | ((with_reducible refine (HashS.bytes hS.out 384 48 1 (kdC 384 48) (by decide) hf.out (by decide) (by decide) (by unfold Dep; decide) (by decide) (by simp)).mono ?_)
           rintro e W ⟨rfl, hS1⟩
           clear hS
           have hS := Lib.hid hS1
           clear hS1)
        | ((with_reducible refine (HashS.done hS.out 1 (by simp [Dep]) (by simp) (by decide)).mono ?_)
           rintro e W ⟨rfl, hBf, hRf⟩
           have hRf1 := Lib.hid hRf
           have hbs := hBf.size
           clear hRf hS)
        | ((with_reducible refine at_alloc 29 ?_); go_loud (refine wpList_alloc_store rfl rfl 29 _ _ rfl rfl rfl (rootV _) rfl rfl (zeroOf Tryd.prog 29) (row_zero row_root).1 (row_zero row_root).2 (fcells_one _ _ _) ?_))
        | ((with_reducible refine at_load 29 ?_); go_loud (refine wpList_value (by rfl) _ (run_load_box _ 29 _ (by rfl) W.heap.size (by rfl) _ _ (0, 0) _ (heap_new W _ 29 W.heap.size rfl) Tryd.underlying29 rfl (by rw [row_size row_root]; simp [fcells])) ?_))
        | ((with_reducible refine at_store 29 ?_); go_loud (refine wpList_store_row_gen (w0 := w) (n0 := w.heap.size) 29 _ _ rfl rfl (w.heap.size + 1) rfl _ rfl (fcells_one _ _ _) (by rw [row_size row_root]; simp [fcells]) _ 29 (heap_past _ _ _ _ hRf1.out) (by rw [zr_size]; simp [fcells]) (by omega) (hBf.alloc hbs _) (fun W9 hW9 hBW _ => ?_))))
      exact ret_cell rfl (w.heap.size + 1) 0 (fcells 32 (fun _ => .u8) (rootCommittee f)) _ rfl hW9 Tryd.underlying29 rfl (by rw [row_size row_root, fcells_length]) rfl ⟨rfl, hBW⟩
end Go.Proofs.YtmoofccblbaepaaDoor
/- The committee: its bytes, by the reference. -/
namespace Go.Proofs.YtmoofccblbaepaaDoor
open Go.RowKit BigFrame
set_option maxRecDepth 100000
theorem encC_two (f : Nat → Int) : byL f 0 384 ++ byL f 384 48 = encLCommittee f := byL_app f 0 384 384 48 rfl rfl
set_option maxHeartbeats 8000000 in
theorem renc_Committee (f : Nat → Int) (hf0 : ∀ j, j < 432 → (kdCommittee j).ok (f j)) (w : World) :
    Calls Tryd.prog 54 #[.agg (fcells 432 kdCommittee f).toArray] w fun e w' => (∃ va c, e = .returned (.tuple #[.slice va 432 c, .int .i64 0]) ∧ (va = none → c = 0) ∧ OwnB w.heap.size (.slice va 432 c) (encLCommittee f) w') ∧ Below w.heap.size w w' := by
  have hf := Lib.hid hf0
  clear hf0
  go_enter Tryd.func54, Tryd.ntmps54
  go_wp2_with (first
    | ((with_reducible refine at_box 92 ?_); go_loud (refine wpList_box rfl 92 _ rfl _ rfl ?_)
       refine gen_l (fun W => RefE w.heap.size 432 kdCommittee f 92 [] w W) (RefE.begin (heap_new _ _ _ _ rfl) rfl) ?_
       intro W hS0
       have hS := Lib.hid hS0
       clear hS0))
  go_loopw [5, 7] (fun v i wr => ∃ k : Nat, k ≤ 8 ∧ i = .int .i64 (k : Int) ∧ (∃ va c, v = .slice va (48 * k) c) ∧ OwnB (w.heap.size + 1) v (byL f 0 (48 * k)) wr ∧ RefE w.heap.size 432 kdCommittee f 92 [] w wr) (fun _ i _ => 8 - (intOf i).toNat)
  case atStart => exact ⟨0, by omega, rfl, ⟨_, _, rfl⟩, OwnB.nil _ _, hS.out⟩
  case round =>
    obtain ⟨k, hk, rfl, ⟨va, c, rfl⟩, hO1, hS1⟩ := hrel
    clear hS
    have hS := Lib.hid hS1
    have hO := Lib.hid hO1
    clear hS1 hO1
    by_cases hlt : k < 8
    · have lk : (k : Int) < 8 := by omega
      have hn := block_lt hS.out.hX
      go_wp2_with (first
        | ((with_reducible refine at_bslice 25 ?_); go_loud (refine wpList_plain rfl fun K hK => wp_build0 rfl (hK _ _ ?_)); clear hK K)
        | ((with_reducible refine at_app 25 ?_); refine wpList_app (w0 := wr) rfl _ _ rfl wr.heap.size [] (byL f (k * 48) 48) _ rfl (OwnB.new (Nat.le_refl _) [] (by decide) (heap_new _ _ _ _ rfl)) (some ⟨w.heap.size, k * 48, none⟩) 48 rfl ((hS.out.toBox.row (k * 48) 48 (kdC _ 48) (by omega) hf.out).later ((Below.refl _ _).alloc (Nat.le_refl _) _)) (by simp [byL_length]) (by simp) (fun h => by cases h) ((Below.refl _ _).alloc (Nat.le_refl _) _) (fun v1 W1 h1 b1 z1 => ?_)
           rw [List.nil_append] at h1
           obtain ⟨va1, c1, e1, hv1⟩ := own_form h1
           rw [byL_length] at e1
           subst e1
           have hOa := Lib.hid h1
           have hb1 := Lib.hid b1
           have hn1 := Lib.hid hv1
           clear h1 b1 hv1)
        | ((with_reducible refine at_app 25 ?_); go_loud (refine wpList_app (w0 := wr) rfl _ _ rfl (w.heap.size + 1) (byL f 0 (48 * k)) (byL f (k * 48) 48) _ rfl (hO.out.later hb1.out) va1 c1 rfl (SlB.of_own hOa.out (byL_ok (ok_u8 hf.out (kdC _ 48) (by omega))) hn1.out).row (by simp only [byL_length]; omega) (by have := hb1.out.size; omega) hn1.out (hb1.out.mono (by omega)) (fun v2 W2 h2 b2 z2 => ?_))
           rw [Nat.mul_comm k 48, byL_app f 0 (48 * k) (48 * k) 48 (by omega) (by omega)] at h2
           obtain ⟨va2, c2, e2, _⟩ := own_form h2
           rw [byL_length] at e2
           subst e2
           have hO2 := Lib.hid h2
           have hS2 := Lib.hid (show RefE w.heap.size 432 kdCommittee f 92 [] w W2 from ⟨hS.out.toBox.later b2, fun p hp => by simp at hp⟩)
           clear h2 b2))
      first
        | exact ⟨⟨k + 1, by omega, by go_num, ⟨_, _, rfl⟩, hO2.out, hS2.out⟩, by simp [intOf]; omega⟩
        | (refine ⟨?_, by simp [intOf]; omega⟩
           (repeat apply Exists.intro)
           exact ⟨⟨k + 1, by omega, by go_num, ⟨_, _, rfl⟩, hO2.out, hS2.out⟩, rfl⟩)
    · have e : k = 8 := by omega
      subst e
      clear hlt hk
      obtain ⟨vb, cb, eb, hbn⟩ := own_form hO.out
      rw [byL_length] at eb
      cases eb
      have hS3 := Lib.hid (hS.out.add (SlB.of_own hO.out (byL_ok (ok_u8 hf.out (kdC 0 (48 * 8)) (by decide))) hbn) (byL_length f 0 (48 * 8)))
      clear hS
      have hS := Lib.hid hS3.out
      clear hS3 hbn
      go_wp2_with (first
        | ((with_reducible refine at_bslice 25 ?_); go_loud (refine wpList_plain rfl fun K hK => wp_build0 rfl (hK _ _ ?_)); clear hK K)
        | ((with_reducible refine at_app 25 ?_); refine wpList_app (w0 := wr) rfl _ _ rfl wr.heap.size [] (byL f 384 48) _ rfl (OwnB.new (Nat.le_refl _) [] (by decide) (heap_new _ _ _ _ rfl)) (some ⟨w.heap.size, 384, none⟩) 48 rfl ((hS.out.toBox.row 384 48 (kdC _ 48) (by decide) hf.out).later ((Below.refl _ _).alloc (Nat.le_refl _) _)) (by simp [byL_length]) (by simp) (fun h => by cases h) ((Below.refl _ _).alloc (Nat.le_refl _) _) (fun v1 W1 h1 b1 z1 => ?_)
           obtain ⟨va1, c1, e1, hS1⟩ := hS.out.own h1 b1 (byL_ok (ok_u8 hf.out (kdC 384 48) (by decide))) (byL_length f 384 48)
           subst e1
           clear h1 b1 z1
           obtain ⟨W, hWW⟩ : ∃ W, W = W1 := ⟨_, rfl⟩
           subst hWW
           clear hS
           have hS := Lib.hid hS1
           clear hS1)
        | ((with_reducible refine (RefE.lay2 hS.out (k := 2) (S := 432) (L := encLCommittee f) [384, 48] ?hV ?hZ rfl (by decide) (by decide) (by simp [msOf, byL_length]) (by decide) (by simp [msOf, encC_two]) (encCommittee_length f) (by decide)).mono ?hM)
           case hV => rfl
           case hZ => rfl
           rintro e W ⟨⟨va, c, rfl, hva, hOw⟩, hBf⟩
           have hOw1 := Lib.hid hOw
           have hva1 := Lib.hid hva
           clear hOw hva))
      exact ret_t2 rfl _ _ rfl rfl rfl ⟨⟨va, c, rfl, hva1.out, hOw1.out⟩, hBf⟩
end Go.Proofs.YtmoofccblbaepaaDoor
/- The committee: its root, by the reference. -/
namespace Go.Proofs.YtmoofccblbaepaaDoor
open Go.RowKit BigFrame
set_option maxRecDepth 100000
section
variable {n N : Nat} {kd : Nat → CK} {f : Nat → Int} {t tc : TypeId} {K : Nat} {rs : List (Nat → Int)} {w W W' : World}
theorem RefR.later3 (h : RefR n N kd f t tc K rs w W) (hb : Below (n + 3) W W') : RefR n N kd f t tc K rs w W' :=
  ⟨h.toBox.later (hb.mono (by omega)), (hb.block _ (by omega)).trans h.hR, h.hC.block (hb.block _ (by omega)), h.is, h.hT.below (by have := h.h3; omega) hb, h.h3⟩
end
/-- Pack, told of worlds. -/
theorem pack_at (l : List Int) (va : Option Addr) (c k q : Nat) (W : World) (hl : SlB va c l W) (hk : l.length = k) (hq : (k + 31) / 32 = q) (h1 : 1 ≤ k) (h2 : k ≤ 100000) :
    Calls Tryd.prog 104 #[.slice va k c] W fun e w' => ∃ va' c', e = .returned (.slice va' q c') ∧ RowR w' va' (chunks l) ∧ (∀ b o, va' = some ⟨b, o, none⟩ → b < w'.heap.size) ∧ q ≤ c' ∧ Below W.heap.size W w' := by
  subst hk
  refine (rpack_any l va c W hl.row hl.low (by omega)).mono fun _ _ ⟨⟨va', c', h3, h4⟩, h5⟩ => ?_
  have hq' : (chunks l).length = q := by rw [chunks_length, hq]
  obtain ⟨g, cap, e, hg, hR⟩ := roots_of_own h4 (by omega)
  injection e with e1 e2 e3
  subst e1
  subst e3
  have hc := hR.choose_spec.2.2.1
  rw [hq'] at hR hc h3
  exact ⟨_, _, h3, hR.row (chunks l) (by omega) (fun _ _ => rfl) (chunks_is hl.row.ok), (fun b o e => by cases e; exact hR.lt), hc, h5⟩
theorem must_at (l : List Int) (va : Option Addr) (c q d : Nat) (m : Int) (W : World) (hT : Tabs W) (hl : RowR W va (chunks l)) (hlow : ∀ b o, va = some ⟨b, o, none⟩ → b < W.heap.size) (hc : q ≤ c) (hq : (l.length + 31) / 32 = q) (hm : m = (q : Int)) (hd : Dep q d) (hd40 : d ≤ 40) :
    Calls Tryd.prog 95 #[.slice va q c, .int .i64 m] W fun e w' => e = .returned (.agg (rootV (byR d l))) ∧ Below W.heap.size W w' := by
  subst hm
  exact must_any (chunks l) q q d va c W (by rw [chunks_length, hq]) (Nat.le_refl _) hd hd40 hl hlow hc hT
theorem must_rs (rs : List (Nat → Int)) (va : Option Addr) (c q d : Nat) (m : Int) (W : World) (hT : Tabs W) (hn : rs.length = q) (hl : RowR W va rs) (hlow : ∀ b o, va = some ⟨b, o, none⟩ → b < W.heap.size) (hc : q ≤ c) (hm : m = (q : Int)) (hd : Dep q d) (hd40 : d ≤ 40) :
    Calls Tryd.prog 95 #[.slice va q c, .int .i64 m] W fun e w' => e = .returned (.agg (rootV (fullT d (leaf rs)))) ∧ Below W.heap.size W w' := by
  subst hm
  exact must_any rs q q d va c W hn (Nat.le_refl _) hd hd40 hl hlow hc hT
set_option maxHeartbeats 8000000 in
theorem rroot_Committee (f : Nat → Int) (hf0 : ∀ j, j < 432 → (kdCommittee j).ok (f j)) (w : World) (hT0 : Tabs w) :
    Calls Tryd.prog 55 #[.agg (fcells 432 kdCommittee f).toArray] w fun e w' => e = .returned (.tuple #[.agg (rootV (rootCommittee f)), .int .i64 0]) ∧ Below w.heap.size w w' := by
  have hf := Lib.hid hf0
  have hT := Lib.hid hT0
  clear hf0 hT0
  go_enter Tryd.func55, Tryd.ntmps55
  go_wp2_with (first
    | ((with_reducible refine at_alloc 29 ?_); refine wpList_plain rfl fun K hK => wp_alloc_row 29 rfl 2 rfl zr 32 info_zr (hK _ _ ?_); clear hK K)
    | ((with_reducible refine at_alloc 158 ?_); go_loud (refine wpList_plain rfl fun K hK => wp_alloc_row 158 rfl 5 rfl (rep 64) 64 (by kernel_rfl) (hK _ _ ?_)); clear hK K
       refine gen_l (fun W => RefR w.heap.size 432 kdCommittee f 92 158 2 [] w W) (RefR.begin (heap_new _ _ _ _ rfl) rfl hT.out (by simp) (rep_get _)) ?_
       intro W hS0
       have hS := Lib.hid hS0
       clear hS0))
  go_loopw [6, 7] (fun v i wr => ∃ k : Nat, k ≤ 8 ∧ i = .int .i64 (k : Int) ∧ (∃ va c, v = .slice va k c) ∧ OwnR (w.heap.size + 3) v (keyRs f k) wr ∧ RefR w.heap.size 432 kdCommittee f 92 158 2 [] w wr) (fun _ i _ => 8 - (intOf i).toNat)
  case atStart => exact ⟨0, by omega, rfl, ⟨_, _, rfl⟩, ⟨rfl, Or.inl ⟨rfl, rfl⟩⟩, hS.out⟩
  case round =>
    obtain ⟨k, hk, rfl, ⟨va, c, rfl⟩, hO1, hS1⟩ := hrel
    clear hS
    have hS := Lib.hid hS1
    have hO := Lib.hid hO1
    clear hS1 hO1
    have hsz := hS.out.size
    by_cases hlt : k < 8
    · have lk : (k : Int) < 8 := by omega
      go_wp2_with (first
        | ((with_reducible refine at_alloc 29 ?_); go_loud (refine wpList_plain rfl fun K hK => wp_alloc_row 29 rfl 8 rfl zr 32 info_zr (hK _ _ ?_)); clear hK K
           refine gen_l (fun W => W.heap[wr.heap.size]? = some (.cells zr 29 (0, 0)) ∧ Below wr.heap.size wr W ∧ wr.heap.size < W.heap.size) ⟨heap_new _ _ _ _ rfl, (Below.refl _ _).alloc (Nat.le_refl _) _, by simp⟩ ?_
           rintro W ⟨hP1, hB1, hz1⟩
           have hP := Lib.hid hP1
           have hB := Lib.hid hB1
           have hz := Lib.hid hz1
           clear hP1 hB1 hz1)
        | ((with_reducible refine (pack_at (byL f (k * 48) 48) (some ⟨w.heap.size, k * 48, none⟩) 48 48 2 _ ((hS.out.later hB.out).toBox.sl (k * 48) 48 (kdC _ 48) (by omega) hf.out) (byL_length _ _ _) (by decide) (by decide) (by decide)).mono ?_)
           rintro e W1 ⟨va1, c1, rfl, hrw1, hlw1, hcq, hb1⟩
           have hrw := Lib.hid hrw1
           have hlw := Lib.hid hlw1
           have hP1 := Lib.hid ((hb1.block _ hz.out).trans hP.out)
           have hz1 := Lib.hid (Nat.lt_of_lt_of_le hz.out hb1.size)
           have hB1 := Lib.hid (hB.out.trans (hb1.mono (Nat.le_of_lt hz.out)))
           clear hrw1 hlw1 hb1 hP hB hz
           have hP := hP1
           have hB := hB1
           have hz := hz1
           clear hP1 hB1 hz1
           obtain ⟨W, hWW⟩ : ∃ W, W = W1 := ⟨_, rfl⟩
           subst hWW)
        | ((with_reducible refine (must_at (byL f (k * 48) 48) va1 c1 2 1 (2 : Int) _ (hS.out.later hB.out).hT hrw.out hlw.out hcq (by rw [byL_length]) rfl (by unfold Dep; decide) (by decide)).mono ?_)
           rintro e W1 ⟨rfl, hb1⟩
           have hP1 := Lib.hid ((hb1.block _ hz.out).trans hP.out)
           have hz1 := Lib.hid (Nat.lt_of_lt_of_le hz.out hb1.size)
           have hB1 := Lib.hid (hB.out.trans (hb1.mono (Nat.le_of_lt hz.out)))
           clear hrw hlw hcq hb1 hP hB hz
           have hP := hP1
           have hB := hB1
           have hz := hz1
           clear hP1 hB1 hz1
           obtain ⟨W, hWW⟩ : ∃ W, W = W1 := ⟨_, rfl⟩
           subst hWW)
        | ((with_reducible refine at_store 29 ?_); refine at_staddr 29 wr.heap.size 0 rfl ?_; go_loud (refine wpList_store_row_gen (w0 := wr) (n0 := wr.heap.size) 29 _ _ rfl rfl wr.heap.size rfl (rootV (byR 1 (byL f (k * 48) 48))) rfl (fcells_one _ _ _) (by rw [row_size row_root]; simp [fcells]) _ 29 hP.out (by rw [zr_size]; simp [fcells]) (Nat.le_refl _) hB.out (fun W1 hW1 hB1 _ => ?_))
           have hQ := Lib.hid hW1
           clear hP hB hW1
           have hB := Lib.hid hB1
           clear hB1
           obtain ⟨W, hWW⟩ : ∃ W, W = W1 := ⟨_, rfl⟩
           subst hWW)
        | ((with_reducible refine at_load 29 ?_); go_loud (refine wpList_value (by rfl) _ (run_load_rows _ 29 _ (by rfl) wr.heap.size 0 (by rfl) (fcells 32 (fun _ => .u8) (byR 1 (byL f (k * 48) 48))) _ hQ.out Tryd.underlying29 rfl (by rw [row_size row_root, fcells_length])) ?_))
        | ((with_reducible refine at_bslice 151 ?_); go_loud (refine wpList_plain rfl fun K hK => wp_ran _ (run_bslice_root _ _ rfl (byR 1 (byL f (k * 48) 48)) (by rfl)) (hK _ _ ?_)); clear hK K)
        | ((with_reducible refine at_call_builtin .append ?_); go_loud (refine wpList_plain rfl fun K hK => wp_appS (w0 := wr) (n0 := w.heap.size + 3) (.tmp 19) (.tmp 21) 151 29 rfl Tryd.underlying151 (.agg (rep 32)) 32 32 info_root rfl (by decide) (w.heap.size + 3) (keyRs f k).length _ (rcells (keyRs f k)) rfl (own_later (own_later hO.out hB.out) ((Below.refl _ _).alloc (Nat.le_refl _) _)) ⟨W.heap.size, 0, none⟩ 1 1 rfl (fcells 32 (fun _ => .u8) (byR 1 (byL f (k * 48) 48))) (by rw [fcells_length]) (range_whole (heap_new _ _ _ _ rfl)) rfl fcells_mem (by rw [keyRs_length]; omega) (by rw [keyRs_length]; omega) (by have := hB.out.size; rw [World.size_alloc]; omega) (Nat.le_refl _) ((hB.out.mono hsz).alloc (by have := hB.out.size; omega) _) (fun v1 W2 h1 b1 z1 o1 q1 => hK _ _ ?_)); clear hK K
           rw [Nat.mul_comm k 48] at h1
           rw [show rcells (keyRs f k) ++ fcells 32 (fun _ => .u8) (byR 1 (byL f (48 * k) 48)) = rcells (keyRs f (k + 1)) by rw [← keyRs_succ, rcells_append, rcells_one], show (keyRs f k).length + 1 = (keyRs f (k + 1)).length by simp [keyRs_length]] at h1
           obtain ⟨va2, c2, e2, _⟩ := own_form h1
           rw [keyRs_length] at e2
           subst e2
           have hO2 := Lib.hid h1
           have hS2 := Lib.hid (hS.out.later3 b1)
           clear h1 b1 z1 o1 q1))
      first
        | exact ⟨⟨k + 1, by omega, by go_num, ⟨_, _, rfl⟩, hO2.out, hS2.out⟩, by simp [intOf]; omega⟩
        | (refine ⟨?_, by simp [intOf]; omega⟩
           (repeat apply Exists.intro)
           exact ⟨⟨k + 1, by omega, by go_num, ⟨_, _, rfl⟩, hO2.out, hS2.out⟩, rfl⟩)
    · have e : k = 8 := by omega
      subst e
      clear hlt hk
      obtain ⟨g, cap, eg, hg, hR0⟩ := roots_of_own hO.out (by rw [keyRs_length]; decide)
      rw [keyRs_length] at eg hR0
      cases eg
      have hcap := hR0.choose_spec.2.2.1
      have hrk := Lib.hid (hR0.row (keyRs f 8) (by rw [keyRs_length]; exact Nat.le_refl _) (fun _ _ => rfl) (keyRs_is hf.out 8 (by decide)))
      have hgl := Lib.hid hR0.lt
      clear hR0
      go_wp2_with (first
        | ((with_reducible refine (must_rs (keyRs f 8) _ _ 8 3 (8 : Int) _ hS.out.hT (keyRs_length f 8) hrk.out (fun b o e => by cases e; exact hgl.out) hcap rfl (by unfold Dep; decide) (by decide)).mono ?_)
           rintro e W ⟨rfl, hb1⟩
           have hS1 := hS.out.later hb1
           clear hb1
           clear hS
           have hS := Lib.hid hS1
           clear hS1)
        | ((with_reducible refine at_store 29 ?_); refine at_staddr 29 (w.heap.size + 1 + 1) (32 * 0) rfl ?_; refine wpList_rootT rfl _ _ rfl 0 (keysR f) rfl rfl hS.out rfl (by decide) (keysR_is hf.out) (fun W1 hS1 => ?_)
           obtain ⟨W, hWW⟩ : ∃ W, W = W1 := ⟨_, rfl⟩
           subst hWW
           clear hS
           have hS := Lib.hid hS1
           clear hS1)
        | ((with_reducible refine (RefR.pack hS.out (byL f 384 48) (some ⟨w.heap.size, 384, none⟩) 48 48 2 (hS.out.toBox.sl 384 48 (kdC 384 48) (by decide) hf.out) (byL_length _ _ _) (by decide) (by decide) (by decide)).mono ?_)
           rintro e W ⟨va1, c1, rfl, hrw1, hlw1, hcq, hS1⟩
           have hrw := Lib.hid hrw1
           have hlw := Lib.hid hlw1
           clear hrw1 hlw1
           clear hS
           have hS := Lib.hid hS1
           clear hS1)
        | ((with_reducible refine (RefR.must hS.out (byL f 384 48) va1 c1 2 1 (2 : Int) hrw.out hlw.out hcq (by rw [byL_length]) rfl (by unfold Dep; decide) (by decide)).mono ?_)
           rintro e W ⟨rfl, hS1⟩
           clear hrw hlw hcq
           clear hS
           have hS := Lib.hid hS1
           clear hS1)
        | ((with_reducible refine at_store 29 ?_); refine at_staddr 29 (w.heap.size + 1 + 1) (32 * 1) rfl ?_; refine wpList_rootT rfl _ _ rfl 1 (byR 1 (byL f 384 48)) rfl rfl hS.out rfl (by decide) (byR_is (byL_ok (ok_u8 hf.out (kdC 384 48) (by decide)))) (fun W1 hS1 => ?_)
           obtain ⟨W, hWW⟩ : ∃ W, W = W1 := ⟨_, rfl⟩
           subst hWW
           clear hS
           have hS := Lib.hid hS1
           clear hS1)
        | ((with_reducible refine (RefR.last hS.out 1 (2 : Int) rfl rfl (by unfold Dep; decide) (by decide)).mono ?_)
           rintro e W ⟨rfl, hBf, hRf⟩
           have hRf1 := Lib.hid hRf
           clear hRf hS)
        | ((with_reducible refine at_store 29 ?_); go_loud (refine wpList_store_row_gen (w0 := w) (n0 := w.heap.size) 29 _ _ rfl rfl (w.heap.size + 1) rfl _ rfl (fcells_one _ _ _) (by rw [row_size row_root]; simp [fcells]) _ 29 hRf1.out (by rw [zr_size]; simp [fcells]) (by omega) hBf (fun W9 hW9 hBW _ => ?_))))
      exact ret_mid_tmp rfl (w.heap.size + 1) 0 (fcells 32 (fun _ => .u8) (rootCommittee f)) _ rfl hW9 Tryd.underlying29 rfl (by rw [row_size row_root, fcells_length]) rfl ⟨rfl, hBW⟩
end Go.Proofs.YtmoofccblbaepaaDoor
