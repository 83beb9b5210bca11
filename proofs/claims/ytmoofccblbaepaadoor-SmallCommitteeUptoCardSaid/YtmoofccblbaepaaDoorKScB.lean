import Derived.Test.YtmoofccblbaepaaDoorKScA
set_option linter.unusedVariables false
set_option linter.unusedSimpArgs false
set_option linter.unnecessarySimpa false
/- The committee: its root, by the program. -/
namespace Go.Proofs.YtmoofccblbaepaaDoor
open Go.RowKit BigFrame
set_option maxRecDepth 100000
/-- The roots of the first k keys. -/
def keyRs (f : Nat → Int) (k : Nat) : List (Nat → Int) := (List.range k).map fun i => byR 1 (byL f (48 * i) 48)
theorem keyRs_length (f : Nat → Int) (k : Nat) : (keyRs f k).length = k := by simp [keyRs]
theorem keyRs_succ (f : Nat → Int) (k : Nat) : keyRs f k ++ [byR 1 (byL f (48 * k) 48)] = keyRs f (k + 1) := by simp [keyRs, List.range_succ]
theorem keyRs_is {f : Nat → Int} (hf : ∀ j, j < 432 → (kdCommittee j).ok (f j)) (k : Nat) (hk : k ≤ 8) : ∀ r ∈ keyRs f k, IsR r := fun r hr => by
  obtain ⟨i, hi, rfl⟩ := List.mem_map.1 hr
  have hi' := List.mem_range.1 hi
  exact byR_is (byL_ok (ok_u8 hf (kdC (48 * i) 48) (by omega)))
def keysR (f : Nat → Int) : Nat → Int := fullT 3 (leaf (keyRs f 8))
/-- The root. -/
def rootCommittee (f : Nat → Int) : Nat → Int := fullT 1 (leaf [keysR f, byR 1 (byL f 384 48)])
theorem keysR_is {f : Nat → Int} (hf : ∀ j, j < 432 → (kdCommittee j).ok (f j)) : IsR (keysR f) := fullT_is 3 (leaf_is (keyRs_is hf 8 (by decide)))
theorem rootCommittee_is {f : Nat → Int} (hf : ∀ j, j < 432 → (kdCommittee j).ok (f j)) : IsR (rootCommittee f) := fullT_is 1 (leaf_is (is_cons (keysR_is hf) (is_cons (byR_is (byL_ok (ok_u8 hf (kdC 384 48) (by decide)))) is_nil)))
/-- While the keys are hashed: the outer hasher is empty, the inner one holds the roots of the first k. -/
structure HashK (n : Nat) (f : Nat → Int) (k : Nat) (w W : World) : Prop extends Box n 432 kdCommittee f 92 w W where
  hR : W.heap[n + 1]? = some (.cells zr 29 (0, 0))
  hh : W.heap[n + 1 + 1]? = some (.cells (hashC (.slice none 0 0)) 153 (0, 0))
  hl : HashW (n + 1 + 1 + 1) (keyRs f k) W
  hT : Tabs W
  h3 : 3 ≤ n
section
variable {n k : Nat} {f : Nat → Int} {w W W' : World}
theorem HashK.step {k' : Nat} (h : HashK n f k w W) (hl : HashW (n + 1 + 1 + 1) (keyRs f k') W') (hb : Below (n + 1 + 1 + 1) W W') : HashK n f k' w W' :=
  ⟨h.toBox.later (hb.mono (by omega)), (hb.block (n + 1) (by omega)).trans h.hR, (hb.block (n + 1 + 1) (by omega)).trans h.hh, hl, h.hT.below (by have := h.h3; omega) hb, h.h3⟩
theorem HashK.later (h : HashK n f k w W) (hb : Below W.heap.size W W') : HashK n f k w W' := h.step (h.hl.later hb) (hb.mono h.hl.size |>.mono (by omega))
theorem HashK.key (h : HashK n f k w W) (hf : ∀ j, j < 432 → (kdCommittee j).ok (f j)) (hk : k < 8) {va : Option Addr} {c : Nat} (hs : SlB va c (byL f (48 * k) 48) W) :
    Calls Tryd.prog 101 #[.pointer (some ⟨n + 1 + 1 + 1, 0, none⟩), .slice va 48 c] W fun e w' => e = .returned (.tuple #[]) ∧ HashK n f (k + 1) w w' := by
  have hl := byL_length f (48 * k) 48
  have hc := hs.cap
  have hc' := hash_bytes (n + 1 + 1 + 1) 1 (keyRs f k) (byL f (48 * k) 48) va c W h.hl h.hT (by have := h.h3; omega) hs.row hc (by rw [hl]; decide) (by rw [hl]; decide) (by rw [hl]; unfold Dep; decide) (by decide) (by rw [keyRs_length]; omega)
  rw [hl] at hc'
  refine hc'.mono fun _ _ ⟨h1, h2, h3⟩ => ⟨h1, h.step ?_ h3⟩
  have e : fullT 1 (leaf (chunks (byL f (48 * k) 48))) = byR 1 (byL f (48 * k) 48) := rfl
  rw [e, keyRs_succ] at h2
  exact h2
theorem HashK.done (h : HashK n f 8 w W) :
    Calls Tryd.prog 91 #[.pointer (some ⟨n + 1 + 1 + 1, 0, none⟩)] W fun e w' => e = .returned (.tuple #[.agg (rootV (keysR f)), .int .i64 0]) ∧ HashS n 432 kdCommittee f 92 [] w w' :=
  (hash_done (n + 1 + 1 + 1) 3 (keyRs f 8) W h.hl h.hT (by have := h.h3; omega) (by rw [keyRs_length]; unfold Dep; decide) (by rw [keyRs_length]; decide) (by decide)).mono fun _ _ ⟨h1, hb⟩ => by
    have hs := h.hl.size
    exact ⟨h1, h.toBox.later (hb.mono (by omega)), (hb.block (n + 1) (by omega)).trans h.hR, ⟨fun r hr => (by simp at hr), _, (hb.block (n + 1 + 1) (by omega)).trans h.hh, rfl, Or.inl ⟨rfl, rfl⟩⟩, h.hT.below (by have := h.h3; omega) hb, h.h3⟩
theorem HashK.begin (h1 : (w.alloc (.cells (fcells 432 kdCommittee f).toArray 92)).heap[n]? = some (.cells (fcells 432 kdCommittee f).toArray 92 (0, 0))) (hn : w.heap.size = n) (hT : Tabs w) :
    HashK n f 0 w ((((w.alloc (.cells (fcells 432 kdCommittee f).toArray 92)).alloc (.cells zr 29)).alloc (.cells (hashC (.slice none 0 0)) 153)).alloc (.cells (hashC (.slice none 0 0)) 153)) := by
  have h := HashS.begin h1 hn hT
  have hh := h.hH.size
  subst hn
  have hb := (Below.refl _ (((w.alloc (.cells (fcells 432 kdCommittee f).toArray 92)).alloc (.cells zr 29)).alloc (.cells (hashC (.slice none 0 0)) 153))).alloc (Nat.le_refl _) (.cells (hashC (.slice none 0 0)) 153)
  have h2 := h.later hb
  exact ⟨h2.toBox, h2.hR, heap_past _ _ _ _ (heap_new _ _ _ _ (by simp)), ⟨fun r hr => (by simp [keyRs] at hr), _, heap_new _ _ _ _ (by simp), rfl, Or.inl ⟨rfl, rfl⟩⟩, h2.hT, h2.h3⟩
end
set_option maxHeartbeats 8000000 in
theorem root_Committee (f : Nat → Int) (hf0 : ∀ j, j < 432 → (kdCommittee j).ok (f j)) (w : World) (hT0 : Tabs w) :
    Calls Tryd.prog 53 #[.agg (fcells 432 kdCommittee f).toArray] w fun e w' => e = .returned (.agg (rootV (rootCommittee f))) ∧ Below w.heap.size w w' := by
  have hf := Lib.hid hf0
  have hT := Lib.hid hT0
  clear hf0 hT0
  go_enter Tryd.func53, Tryd.ntmps53
  go_wp2_with (first
    | ((with_reducible refine at_alloc 29 ?_); refine wpList_plain rfl fun K hK => wp_alloc_row 29 rfl 2 rfl zr 32 info_zr (hK _ _ ?_); clear hK K)
    | ((with_reducible refine at_alloc 153 ?_); refine wpList_plain rfl fun K hK => wp_alloc_row 153 rfl 3 rfl _ 2 info_hash (hK _ _ ?_); clear hK K)
    | ((with_reducible refine at_alloc 153 ?_); go_loud (refine wpList_plain rfl fun K hK => wp_alloc_row 153 rfl 4 rfl _ 2 info_hash (hK _ _ ?_)); clear hK K
       go_loud (refine gen_l (fun W => HashK w.heap.size f 0 w W) (HashK.begin (heap_new _ _ _ _ rfl) rfl hT.out) ?_)
       intro W hS0
       have hS := Lib.hid hS0
       clear hS0)
    | ((with_reducible refine at_load 90 ?_); refine wpList_value (by rfl) _ (run_load_rows _ 90 _ (by rfl) w.heap.size 0 (by rfl) (fcells 384 (fun _ => .u8) (shF f 0)) _ (hS.out.toBox.sub 0 384 (fun _ => .u8) (kdC 0 384) (by decide)) Tryd.underlying90 rfl (by rw [row_size row_keys, fcells_length])) ?_
       obtain ⟨X, hX0⟩ : ∃ X, X = (fcells 384 (fun _ => CK.u8) (shF f 0)).toArray := ⟨_, rfl⟩
       rw [← hX0]
       have hX := Lib.hid hX0
       clear hX0))
  go_loopw [11] (fun i wr => ∃ k : Nat, k ≤ 8 ∧ i = .int .i64 (k : Int) ∧ HashK w.heap.size f k w wr) (fun i _ => 8 - (intOf i).toNat)
  case atStart => exact ⟨0, by omega, rfl, hS.out⟩
  case round =>
    obtain ⟨k, hk, rfl, hS1⟩ := hrel
    clear hS
    have hS := Lib.hid hS1
    clear hS1
    by_cases hlt : k < 8
    · have lk : (k : Int) < 8 := by omega
      go_wp2_with (first
        | ((with_reducible refine at_index 90 ?_); refine wpList_value (by rfl) _ (run_ix _ 90 69 8 48 _ _ rfl Tryd.underlying90 Tryd.underlying69 rfl (row_size row_key) X rfl .i64 k rfl hlt (fcells 48 (fun _ => .u8) (shF f (0 + 48 * k))).toArray (by rw [hX.out]; exact key_part f 384 0 k (by omega))) ?_)
        | ((with_reducible refine at_alloc 69 ?_); refine wpList_alloc_store rfl rfl 69 _ _ rfl rfl rfl (fcells 48 (fun _ => .u8) (shF f (0 + 48 * k))).toArray rfl rfl (zeroOf Tryd.prog 69) (row_zero row_key).1 (row_zero row_key).2 (fcells_one _ _ _) ?_
           go_loud (refine gen_l (fun W => HashK w.heap.size f k w W ∧ SlB (some ⟨wr.heap.size, 0, none⟩) 48 (byL f (48 * k) 48) W) ⟨hS.out.later ((Below.refl _ _).alloc (Nat.le_refl _) _), row_of_key (by rw [Nat.zero_add]; exact heap_new _ _ _ _ rfl) (ok_u8 hf.out (kdC (48 * k) 48) (by omega))⟩ ?_)
           rintro W ⟨hS1, hK1⟩
           clear hS
           have hS := Lib.hid hS1
           have hK := Lib.hid hK1
           clear hS1 hK1)
        | ((with_reducible refine (HashK.key hS.out hf.out hlt hK.out).mono ?_)
           rintro e W ⟨rfl, hS1⟩
           clear hS
           have hS := Lib.hid hS1
           clear hS1))
      first
        | exact ⟨⟨k + 1, by omega, by go_num, hS.out⟩, by simp [intOf]; omega⟩
        | (refine ⟨?_, by simp [intOf]; omega⟩
           (repeat apply Exists.intro)
           exact ⟨⟨k + 1, by omega, by go_num, hS.out⟩, rfl⟩)
    · have e : k = 8 := by omega
      subst e
      clear hlt hk
      go_wp2_with (first
        | ((with_reducible refine (HashK.done hS.out).mono ?_)
           rintro e W ⟨rfl, hS1⟩
           clear hS
           have hS := Lib.hid hS1
           clear hS1)
        | ((with_reducible refine (HashS.put hS.out (keysR f) (keysR_is hf.out) (by simp)).mono ?_)
           rintro e W ⟨rfl, hS1⟩
           clear hS
           have hS := Lib.hid hS1
           clear hS1)
        | ((with_reducible refine (HashS.bytes hS.out 384 48 1 (kdC 384 48) (by decide) hf.out (by decide) (by decide) (by unfold Dep; decide) (by decide) (by simp)).mono ?_)
           rintro e W ⟨rfl, hS1⟩
           clear hS
           have hS := Lib.hid hS1
           clear hS1)
        | ((with_reducible refine (HashS.done hS.out 1 (by simp [Dep]) (by simp) (by decide)).mono ?_)
           rintro e W ⟨rfl, hBf, hRf⟩
           have hRf1 := Lib.hid hRf
           have hbs := hBf.size
           clear hRf hS)
        | ((with_reducible refine at_alloc 29 ?_); go_loud (refine wpList_alloc_store rfl rfl 29 _ _ rfl rfl rfl (rootV _) rfl rfl (zeroOf Tryd.prog 29) (row_zero row_root).1 (row_zero row_root).2 (fcells_one _ _ _) ?_))
        | ((with_reducible refine at_load 29 ?_); go_loud (refine wpList_value (by rfl) _ (run_load_box _ 29 _ (by rfl) W.heap.size (by rfl) _ _ (0, 0) _ (heap_new W _ 29 W.heap.size rfl) Tryd.underlying29 rfl (by rw [row_size row_root]; simp [fcells])) ?_))
        | ((with_reducible refine at_store 29 ?_); go_loud (refine wpList_store_row_gen (w0 := w) (n0 := w.heap.size) 29 _ _ rfl rfl (w.heap.size + 1) rfl _ rfl (fcells_one _ _ _) (by rw [row_size row_root]; simp [fcells]) _ 29 (heap_past _ _ _ _ hRf1.out) (by rw [zr_size]; simp [fcells]) (by omega) (hBf.alloc hbs _) (fun W9 hW9 hBW _ => ?_))))
      exact ret_cell rfl (w.heap.size + 1) 0 (fcells 32 (fun _ => .u8) (rootCommittee f)) _ rfl hW9 Tryd.underlying29 rfl (by rw [row_size row_root, fcells_length]) rfl ⟨rfl, hBW⟩
end Go.Proofs.YtmoofccblbaepaaDoor
