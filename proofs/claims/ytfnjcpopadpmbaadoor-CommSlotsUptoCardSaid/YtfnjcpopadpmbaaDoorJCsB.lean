/- The shuffle place by place, in plain words; the reference's sum of few bytes is the program's. -/
/- The seed of the reference. -/
import Derived.Test.YtfnjcpopadpmbaaDoorKCmI
import Derived.Test.YtfnjcpopadpmbaaDoorJRead
import Derived.Test.YtfnjcpopadpmbaaDoorJCmM
set_option linter.unusedVariables false
set_option linter.unusedSimpArgs false
set_option linter.unnecessarySimpa false
namespace Go.Proofs.YtfnjcpopadpmbaaDoor
open Go.RowKit BigFrame
set_option maxRecDepth 100000
theorem flipN_flip {p n i : Nat} (hp : p < n) (hi : i < n) : flipN p n (flipN p n i) = i := by
  unfold flipN
  split <;> split <;> omega
/-- Where a round takes a place. -/
def placeR (p n : Nat) (b : Nat → Bool) (i : Nat) : Nat := if b (max i (flipN p n i)) = true then flipN p n i else i
theorem placeR_lt {p n i : Nat} {b : Nat → Bool} (hp : p < n) (hi : i < n) : placeR p n b i < n := by
  unfold placeR
  split
  · exact flipN_lt hp hi
  · exact hi
theorem swap1_get (p n : Nat) (b : Nat → Bool) (l : List Int) (k i : Nat) (hn : l.length = n) (hp : p < n) (hk : k < n) : (swap1 p n b l k).getD i 0 = if k < flipN p n k ∧ b (flipN p n k) = true then (if i = flipN p n k then l.getD k 0 else if i = k then l.getD (flipN p n k) 0 else l.getD i 0) else l.getD i 0 := by
  have hf := flipN_lt hp hk
  unfold swap1
  split
  · have gs : ∀ (m : List Int) (a z : Nat) (x : Int), a < m.length → (m.set a x).getD z 0 = if z = a then x else m.getD z 0 := fun m a z x h => by
      simp only [List.getD, List.getElem?_set]
      by_cases e : a = z
      · subst e; simp [h]
      · rw [if_neg e, if_neg (fun h => e h.symm)]
    rw [gs _ _ _ _ (by rw [List.length_set]; omega), gs _ _ _ _ (by omega)]
  · rfl
theorem roundL_get (p n : Nat) (b : Nat → Bool) (l : List Int) (hn : l.length = n) (hp : p < n) : ∀ k, k ≤ n → ∀ i, i < n → (roundL p n b l k).getD i 0 = if min i (flipN p n i) < k ∧ b (max i (flipN p n i)) = true then l.getD (flipN p n i) 0 else l.getD i 0
  | 0, _, i, hi => by rw [if_neg (by omega)]; rfl
  | k + 1, hk, i, hi => by
    have ih := roundL_get p n b l hn hp k (by omega)
    have hkn : k < n := by omega
    have hf := flipN_lt hp hkn
    have hff := flipN_flip hp hkn
    have hfi := flipN_lt hp hi
    have hffi := flipN_flip hp hi
    rw [roundL, swap1_get p n b _ k i (by rw [roundL_length]; exact hn) hp hkn]
    by_cases c : k < flipN p n k ∧ b (flipN p n k) = true
    · rw [if_pos c]
      by_cases e1 : i = flipN p n k
      · rw [if_pos e1, ih k hkn, if_neg (by omega), e1, hff, if_pos ⟨by omega, by rw [show max (flipN p n k) k = flipN p n k by omega]; exact c.2⟩]
      · rw [if_neg e1]
        by_cases e2 : i = k
        · rw [if_pos e2, ih _ hf, hff, if_neg (by omega), e2, if_pos ⟨by omega, by rw [show max k (flipN p n k) = flipN p n k by omega]; exact c.2⟩]
        · rw [if_neg e2, ih i hi]
          have h3 : flipN p n i ≠ k := fun h => e1 (by rw [← h, hffi])
          by_cases c2 : min i (flipN p n i) < k ∧ b (max i (flipN p n i)) = true
          · rw [if_pos c2, if_pos ⟨by omega, c2.2⟩]
          · rw [if_neg c2, if_neg (fun h => c2 ⟨by omega, h.2⟩)]
    · rw [if_neg c, ih i hi]
      by_cases c2 : min i (flipN p n i) < k ∧ b (max i (flipN p n i)) = true
      · rw [if_pos c2, if_pos ⟨by omega, c2.2⟩]
      · rw [if_neg c2]
        by_cases c3 : min i (flipN p n i) < k + 1 ∧ b (max i (flipN p n i)) = true
        · rw [if_pos c3]
          have hm : min i (flipN p n i) = k := by
            rcases Nat.lt_or_ge (min i (flipN p n i)) k with h | h
            · exact absurd ⟨h, c3.2⟩ c2
            · omega
          by_cases e1 : i = k
          · rw [e1] at hm c3 ⊢
            by_cases e2 : flipN p n k = k
            · rw [e2]
            · exact absurd ⟨by omega, by rw [show max k (flipN p n k) = flipN p n k by omega] at c3; exact c3.2⟩ c
          · have e2 : flipN p n i = k := by omega
            have e3 : flipN p n k = i := by rw [← e2, hffi]
            rw [e2] at c3
            exact absurd ⟨by omega, by rw [e3]; rw [show max i k = i by omega] at c3; exact c3.2⟩ c
        · rw [if_neg c3]
theorem roundL_place (p n : Nat) (b : Nat → Bool) (l : List Int) (hn : l.length = n) (hp : p < n) (i : Nat) (hi : i < n) : (roundL p n b l n).getD i 0 = l.getD (placeR p n b i) 0 := by
  rw [roundL_get p n b l hn hp n (Nat.le_refl _) i hi]
  unfold placeR
  by_cases c : b (max i (flipN p n i)) = true
  · rw [if_pos c, if_pos ⟨by omega, c⟩]
  · rw [if_neg c, if_neg (fun h => c h.2)]
/-- A place behind k rounds. -/
def plK (pv : Nat → Nat) (b : Nat → Nat → Bool) (n : Nat) : Nat → Nat → Nat
  | 0, i => i
  | k + 1, i => placeR (pv k) n (b k) (plK pv b n k i)
theorem plK_lt {pv : Nat → Nat} {b : Nat → Nat → Bool} {n : Nat} (hp : ∀ k, pv k < n) : ∀ (k i : Nat), i < n → plK pv b n k i < n
  | 0, _, h => h
  | k + 1, i, h => placeR_lt (hp k) (plK_lt hp k i h)
theorem shufK_place (pv : Nat → Nat) (b : Nat → Nat → Bool) (l : List Int) (n : Nat) (hn : l.length = n) (hp : ∀ k, pv k < n) (i : Nat) (hi : i < n) : ∀ k, k ≤ 6 → (shufK pv b 6 l k).getD (plK pv b n (6 - k) i) 0 = l.getD (plK pv b n 6 i) 0
  | 0, _ => rfl
  | k + 1, h => by
    have ih := shufK_place pv b l n hn hp i hi k (by omega)
    rw [shufK, hn, roundL_place _ _ _ _ (by rw [shufK_length]; exact hn) (hp _) _ (plK_lt hp _ _ hi)]
    rw [show 6 - k = (6 - 1 - k) + 1 by omega] at ih
    rw [show 6 - (k + 1) = 6 - 1 - k by omega]
    exact ih
/-- Where the shuffle by a seed takes a place. -/
def plS (sd : Nat → Int) (n k i : Nat) : Nat := plK (fun r => (pvI sd n r).toNat) (fun r f => bitF (blkS sd r (f / 256)) f) n k i
theorem pvT_lt (sd : Nat → Int) {n : Nat} (h : 0 < n) (r : Nat) : (pvI sd n r).toNat < n := by
  have := pvI_ge sd n r h
  generalize pvI sd n r = z at this ⊢
  omega
theorem plS_lt (sd : Nat → Int) {n i : Nat} (k : Nat) (h : i < n) : plS sd n k i < n := plK_lt (fun r => pvT_lt sd (by omega) r) k i h
theorem shufL_place (sd : Nat → Int) (l : List Int) (n : Nat) (hn : l.length = n) (i : Nat) (hi : i < n) : (shufL sd l).getD i 0 = l.getD (plS sd n 6 i) 0 := by
  unfold shufL plS
  rw [hn]
  exact shufK_place _ _ l n hn (fun r => pvT_lt sd (by omega) r) i hi 6 (Nat.le_refl _)
theorem msg_last {l : List Int} (h : l.length ≤ 55) (j : Nat) (hj : j < 64) : (padL l).getD (64 * 0 + j) 0 = lastS l 8 j := by
  have hz : zerosN l.length = 55 - l.length := by unfold zerosN; omega
  rw [Nat.mul_zero, Nat.zero_add]
  unfold padL lastS
  rw [hz]
  by_cases c1 : j < l.length
  · rw [if_pos c1]
    simp only [List.getD, List.append_assoc]
    rw [List.getElem?_append_left c1]
  · rw [if_neg c1]
    by_cases c2 : j = l.length
    · rw [if_pos c2]
      simp only [List.getD, List.append_assoc]
      rw [List.getElem?_append_right (by omega), c2, Nat.sub_self]
      rfl
    · rw [if_neg c2]
      simp only [List.getD, List.append_assoc]
      rw [List.getElem?_append_right (by omega), List.getElem?_append_right (by simp; omega)]
      simp only [List.length_singleton]
      by_cases c3 : 56 ≤ j
      · rw [if_pos ⟨by omega, hj⟩, List.getElem?_append_right (by simp; omega), List.length_replicate]
        unfold be8
        rw [List.getElem?_map, List.getElem?_range (by omega)]
        simp only [Option.map_some, Option.getD_some]
        unfold leB
        rw [show 7 - (j - l.length - 1 - (55 - l.length)) = 63 - j by omega]
        simp
      · rw [if_neg (by omega), List.getElem?_append_left (by simp; omega)]
        simp only [List.getElem?_replicate]
        rw [if_pos (by omega)]
        rfl
theorem sumS_sha {l : List Int} (h : l.length ≤ 55) : shaSum l = sumS l := by
  have hz : zerosN l.length = 55 - l.length := by unfold zerosN; omega
  have h64 : (padL l).length / 64 = 1 := by rw [padL_length, hz]; omega
  unfold shaSum sumS
  rw [h64]
  have e : shaFold shaIv (fun j => (padL l).getD j 0) 1 = shaIv.mix (msgW fun j => (padL l).getD (64 * 0 + j) 0) := shaFold_succ _ _ 0
  rw [e, Hs.mix_congr shaIv (M' := msgW (lastS l 8)) (fun t ht => msgW_congr (fun j hj => msg_last h j hj) t ht)]
end Go.Proofs.YtfnjcpopadpmbaaDoor
namespace Go.Proofs.YtfnjcpopadpmbaaDoor
open Go.RowKit BigFrame
set_option maxRecDepth 100000
structure SrW (n0 : Nat) (w : World) (xs : Array Value) (W : World) : Prop where
  below : Below n0 w W
  hx : W.heap[n0]? = some (.cells xs 49 (0, 0))
  hr : W.heap[n0 + 1]? = some (.cells (rep 32) 24 (0, 0))
theorem SrW.lt {n0 : Nat} {w : World} {xs : Array Value} {W : World} (h : SrW n0 w xs W) : n0 + 1 < W.heap.size := blk_lt h.hr
theorem SrW.later {n0 : Nat} {w : World} {xs : Array Value} {W W' : World} (h : SrW n0 w xs W) (hb : Below W.heap.size W W') : SrW n0 w xs W' := by
  have := h.lt
  exact ⟨h.below.trans (hb.mono (by omega)), (hb.block _ (by omega)).trans h.hx, (hb.block _ this).trans h.hr⟩
theorem SrW.apart {n0 g : Nat} {w : World} {xs : Array Value} {W W' : World} (h : SrW n0 w xs W) (hb : Apart g W W') (h1 : n0 + 1 < g) : SrW n0 w xs W' := by
  have := h.lt
  exact ⟨hb.below h.below (by omega) (by omega), (hb.block _ (by omega) (by omega)).trans h.hx, (hb.block _ this (by omega)).trans h.hr⟩
/-- A mix as a root. -/
def mixF (mx : Nat → Int) (r j : Nat) : Int := mx (32 * r + j)
theorem row_mixF {W : World} {g r : Nat} {mx : Nat → Int} (h : W.heap[g]? = some (.cells (rootV (mixF mx r)) 24 (0, 0))) (hm : ∀ k, k < 256 → IsB (mx k)) (hr : r < 8) : Row W (some ⟨g, 0, none⟩) .u8 (mixL mx r) :=
  row_root_at (a := mixF mx r) h (fun j hj => hm _ (by omega))
set_option maxHeartbeats 8000000 in
theorem rseed_any (xs : Array Value) (vs : List (Nat → Int)) (mx : Nat → Int) (e kk : Int) (he : 0 ≤ e) (he2 : e ≤ 4611686018427387904) (hk : 0 ≤ kk) (hk2 : kk ≤ 100) (w : World) (h : VsRep w xs vs mx) (hT0 : Tabs w) :
    Calls Tryd.prog 26 #[.agg xs, .int .u64 e, .int .i64 kk] w fun r w' => r = .returned (.agg (rootV (seedS mx kk e))) ∧ Below w.heap.size w w' := by
  have hmix := Lib.hid h.mix
  have hT := Lib.hid hT0
  have hT3 := hT0.size
  obtain ⟨n0, hn0⟩ : ∃ n0, n0 = w.heap.size := ⟨_, rfl⟩
  have hn0' := Lib.hid hn0
  obtain ⟨r, hr⟩ : ∃ r, r = mixR e := ⟨_, rfl⟩
  have hbs := Lib.hid (show shaSum (le4 kk ++ le8 e ++ mixL mx r) = seedS mx kk e by
    rw [sumS_sha (by rw [List.length_append, List.length_append, le4_length, le8_length, mixL_length]; omega), hr]
    rfl)
  have hr8 : r < 8 := by rw [hr]; unfold mixR; omega
  have hrI : (e % 8 + 6) % 8 = (r : Int) := by rw [hr]; unfold mixR; omega
  have hr8I : (r : Int) < 8 := by omega
  have wk0 : IntKind.u32.wrap kk = kk := by rw [IntKind.wrap_u32]; omega
  have wk : IntKind.u64.wrap kk = kk := by rw [IntKind.wrap_u64]; omega
  have w1 : IntKind.u64.wrap (e % 8 + 8) = e % 8 + 8 := by rw [IntKind.wrap_u64]; omega
  have w2 : IntKind.u64.wrap (e % 8 + 8 - 1) = e % 8 + 7 := by rw [IntKind.wrap_u64]; omega
  have w3 : IntKind.u64.wrap (e % 8 + 7 - 1) = e % 8 + 6 := by rw [IntKind.wrap_u64]; omega
  have hrng := Lib.hid (fun (W : World) (hx : W.heap[n0]? = some (.cells xs 49 (0, 0))) => show W.rangeAt n0 (723 + r * 32) (fcells 32 (fun _ => .u8) (mixF mx r)) from fun j v hv => by
    have hj : j < 32 := by have := (List.getElem?_eq_some_iff.1 hv).1; rwa [fcells_length] at this
    rw [fcells_get _ _ _ _ hj] at hv
    rw [cell_of_row W n0 _ _ _ _ hx, show 723 + r * 32 + j = 723 + (32 * r + j) by omega, (h.mix (32 * r + j) (by omega)).1]
    exact hv)
  have hok := Lib.hid (show ∀ m ∈ le4 kk ++ le8 e ++ mixL mx r, CK.ok .u8 m from fun m hm => by
    rcases List.mem_append.1 hm with hm | hm
    · rcases List.mem_append.1 hm with hm | hm
      · exact le4_ok _ m hm
      · exact le8_ok _ m hm
    · obtain ⟨j, hj, rfl⟩ := List.mem_map.1 hm
      have := List.mem_range.1 hj
      exact (h.mix (32 * r + j) (by omega)).2)
  clear h hT0 hn0 hr
  go_enter Tryd.func26, Tryd.ntmps26
  go_wp2_with (first
    | ((with_reducible refine (rbytes_any kk _).mono ?_)
       rintro e W1 ⟨rfl, b1⟩
       simp only [World.size_alloc] at b1 ⊢
       rw [← hn0'.out] at b1 ⊢
       have g1 := Lib.hid (show SrW n0 w xs W1 from by
         refine ⟨?_, ?_, ?_⟩
         · exact (((Below.refl _ _).alloc (by rw [hn0'.out]; exact Nat.le_refl _) _).alloc (by rw [World.size_alloc, hn0'.out]; omega) _).trans (b1.mono (by omega))
         · exact (b1.block _ (by omega)).trans (heap_past _ _ _ _ (heap_new _ _ _ _ hn0'.out))
         · exact (b1.block _ (by omega)).trans (heap_new _ _ _ _ (by rw [World.size_alloc, hn0'.out])))
       clear b1)
    | ((with_reducible refine at_store 90 ?_)
       refine wpList_store_row 90 (.tmp 7) (.tmp 13) rfl rfl W1.heap.size rfl (numV kk) rfl (fcells_one _ _ _) (by rw [num8_size]; exact row_size row_b8) _ 90 (heap_new _ _ _ _ rfl) (by rw [num8_size]; rfl) (fun W2 hC2 hA2 => ?_)
       obtain ⟨q7, hq7⟩ : ∃ q7, q7 = W1.heap.size := ⟨_, rfl⟩
       rw [← hq7] at hC2 hA2 ⊢
       have s7 := Lib.hid (show n0 + 1 < q7 by rw [hq7]; exact g1.out.lt)
       have g2 := Lib.hid ((g1.out.later ((Below.refl _ _).alloc (Nat.le_refl _) _)).apart hA2 s7.out)
       have c7 := Lib.hid hC2
       clear hC2 hA2 hq7)
    | ((with_reducible refine (rbytes_any e W2).mono ?_)
       rintro e W3 ⟨rfl, b3⟩
       have g3 := Lib.hid (g2.out.later b3)
       have d7 := Lib.hid ((b3.block _ (blk_lt c7.out)).trans c7.out)
       clear b3)
    | ((with_reducible refine at_store 90 ?_)
       refine wpList_store_row 90 (.tmp 8) (.tmp 15) rfl rfl W3.heap.size rfl (numV e) rfl (fcells_one _ _ _) (by rw [num8_size]; exact row_size row_b8) _ 90 (heap_new _ _ _ _ rfl) (by rw [num8_size]; rfl) (fun W4 hC4 hA4 => ?_)
       obtain ⟨q8, hq8⟩ : ∃ q8, q8 = W3.heap.size := ⟨_, rfl⟩
       rw [← hq8] at hC4 hA4 ⊢
       have s8 := Lib.hid (show n0 + 1 < q8 by rw [hq8]; exact g3.out.lt)
       have g4 := Lib.hid ((g3.out.later ((Below.refl _ _).alloc (Nat.le_refl _) _)).apart hA4 s8.out)
       have e7 := Lib.hid ((hA4.block q7 (by have := blk_lt d7.out; rw [World.size_alloc]; omega) (by have := blk_lt d7.out; omega)).trans ((((Below.refl W3.heap.size W3).alloc (Nat.le_refl _) _).block q7 (blk_lt d7.out)).trans d7.out))
       have c8 := Lib.hid hC4
       clear hC4 hA4 hq8)
    | ((with_reducible refine at_load 24 ?_); go_loud (refine wpList_value (by rfl) _ (run_load_rows _ 24 _ (by rfl) n0 (723 + r * 32) rfl (fcells 32 (fun _ => .u8) (mixF mx r)) _ (hrng.out W4 g4.out.hx) Tryd.underlying24 rfl (by rw [row_size row_root, fcells_length])) ?_))
    | ((with_reducible refine at_store 24 ?_)
       go_loud (refine wpList_store_row 24 (.tmp 9) (.tmp 24) rfl rfl W4.heap.size rfl (rootV (mixF mx r)) rfl (fcells_one _ _ _) (by rw [row_size row_root]; simp [fcells]) _ 24 (heap_new _ _ _ _ rfl) (by simp [fcells]) (fun W5 hC5 hA5 => ?_))
       obtain ⟨q9, hq9⟩ : ∃ q9, q9 = W4.heap.size := ⟨_, rfl⟩
       rw [← hq9] at hC5 hA5 ⊢
       have s9 := Lib.hid (show n0 + 1 < q9 by rw [hq9]; exact g4.out.lt)
       have g5 := Lib.hid ((g4.out.later ((Below.refl _ _).alloc (Nat.le_refl _) _)).apart hA5 s9.out)
       have f7 := Lib.hid ((hA5.block q7 (by have := blk_lt e7.out; rw [World.size_alloc]; omega) (by have := blk_lt e7.out; omega)).trans ((((Below.refl W4.heap.size W4).alloc (Nat.le_refl _) _).block q7 (blk_lt e7.out)).trans e7.out))
       have f8 := Lib.hid ((hA5.block q8 (by have := blk_lt c8.out; rw [World.size_alloc]; omega) (by have := blk_lt c8.out; omega)).trans ((((Below.refl W4.heap.size W4).alloc (Nat.le_refl _) _).block q8 (blk_lt c8.out)).trans c8.out))
       have c9 := Lib.hid hC5
       clear hC5 hA5 hq9))
  refine wp_nopan ?_
  refine wp_region_held (S := Apart (n0 + 1) W5) (by kernel_rfl) ?_
  have hS := Apart.begin (n0 + 1) W5
  refine takeL (i := 1) (v := (.slice (some ⟨q7, 0, none⟩) 4 8)) rfl (by kernel_rfl) (by kernel_rfl) (by kernel_rfl) (fun _ _ _ h => h) rfl (by assumption) (fun w' _ => run_acut_to _ 90 5 8 (.tmp 7) _ rfl Tryd.underlying90 1 sz_u8 q7 0 rfl .i64 4 rfl (by omega)) ?_
  simp only [Act.put, List.setIfInBounds_toArray, List.set_cons_zero, List.set_cons_succ]
  refine takeL (i := 3) (v := (.slice (some ⟨q8, 0, none⟩) 8 8)) rfl (by kernel_rfl) (by kernel_rfl) (by kernel_rfl) (fun _ _ _ h => h) rfl (by assumption) (fun w' _ => run_acut_all _ 90 5 8 (.tmp 8) rfl Tryd.underlying90 1 sz_u8 q8 0 rfl) ?_
  simp only [Act.put, List.setIfInBounds_toArray, List.set_cons_zero, List.set_cons_succ]
  refine takeL (i := 5) (v := (.slice (some ⟨q9, 0, none⟩) 32 32)) rfl (by kernel_rfl) (by kernel_rfl) (by kernel_rfl) (fun _ _ _ h => h) rfl (by assumption) (fun w' _ => run_acut_all _ 24 5 32 (.tmp 9) rfl Tryd.underlying24 1 sz_u8 q9 0 rfl) ?_
  simp only [Act.put, List.setIfInBounds_toArray, List.set_cons_zero, List.set_cons_succ]
  refine oneL (i := 0) rfl (by kernel_rfl) rfl (wp_build0 rfl ?_)
  refine ⟨hS.alloc _, ?_⟩
  simp only [Act.put, List.setIfInBounds_toArray, List.set_cons_zero, List.set_cons_succ]
  have hwa : Below W5.heap.size W5 (({ W5 with drawn := W5.drawn + 1 } : World).alloc (.cells #[] 5)) := (⟨rfl, rfl, rfl, Nat.le_refl _, fun _ _ => rfl⟩ : Below W5.heap.size W5 { W5 with drawn := W5.drawn + 1 }).alloc (Nat.le_refl _) _
  have l4 := le4_length kk
  have l8 := le8_length e
  have l32 := mixL_length mx r
  refine oneL (i := 2) rfl (by kernel_rfl) rfl (wp_app (.tmp 25) (.tmp 26) rfl W5.heap.size [] (le4 kk) _ rfl (OwnB.new (Nat.le_refl _) [] (by decide) (heap_new _ _ _ _ rfl)) (some ⟨q7, 0, none⟩) 8 rfl (row_le4 ((hwa.block _ (blk_lt f7.out)).trans f7.out)) (by rw [l4]; decide) hwa.size (fun h => by cases h) hwa ?_)
  intro v1 V1 h1 b1 z1
  refine ⟨Apart.of_below b1, ?_⟩
  simp only [Act.put, List.setIfInBounds_toArray, List.set_cons_zero, List.set_cons_succ]
  rw [List.nil_append] at h1
  refine oneL (i := 4) rfl (by kernel_rfl) rfl (wp_app (.tmp 27) (.tmp 28) rfl W5.heap.size _ (le8 e) _ rfl h1 (some ⟨q8, 0, none⟩) 8 rfl (row_le8 ((b1.block _ (blk_lt f8.out)).trans f8.out)) (by rw [l4, l8]; decide) z1 (fun h => by cases h) b1 ?_)
  intro v2 V2 h2 b2 z2
  refine ⟨Apart.of_below b2, ?_⟩
  simp only [Act.put, List.setIfInBounds_toArray, List.set_cons_zero, List.set_cons_succ]
  refine oneL (i := 6) rfl (by kernel_rfl) rfl (wp_app (.tmp 29) (.tmp 30) rfl W5.heap.size _ (mixL mx r) _ rfl h2 (some ⟨q9, 0, none⟩) 32 (by rw [l32]; rfl) (row_mixF ((b2.block _ (blk_lt c9.out)).trans c9.out) (fun k hk => (hmix.out k hk).2) hr8) (by rw [List.length_append, l4, l8, l32]; decide) z2 (fun h => by cases h) b2 ?_)
  intro v3 V3 h3 b3 z3
  refine ⟨Apart.of_below b3, ?_⟩
  simp only [Act.put, List.setIfInBounds_toArray, List.set_cons_zero, List.set_cons_succ]
  have hlen : (le4 kk ++ le8 e ++ mixL mx r).length = 44 := by rw [List.length_append, List.length_append, l4, l8, l32]
  obtain ⟨g, cap, rfl, hg, hcap, _, hcells⟩ := h3.at (by omega)
  have hT5 := hT.out.below (n := n0) (by rw [hn0'.out]; exact hT3) (g5.out.below.trans (b3.mono (by have := g5.out.lt; omega)))
  have hsum := sum_any (le4 kk ++ le8 e ++ mixL mx r) (some ⟨g, 0, none⟩) cap V3 (by omega) ⟨fun i hi => ⟨g, 0, rfl, by rw [Nat.zero_add]; exact hcells i hi⟩, hok.out⟩ (fun h => by cases h) hT5
  rw [hbs.out] at hsum
  refine oneL (i := 7) rfl (by kernel_rfl) rfl (wp_call 40 #[.slice (some ⟨g, 0, none⟩) (le4 kk ++ le8 e ++ mixL mx r).length cap] (by go_simp) _ _ hsum ?_)
  intro V4 b4
  have b4' := b3.trans (b4.mono b3.size)
  refine ⟨Apart.of_below b4', ?_⟩
  simp only [Act.put, List.setIfInBounds_toArray, List.set_cons_zero, List.set_cons_succ]
  have hlt5 := g5.out.lt
  refine oneL (i := 8) rfl (by kernel_rfl) rfl (wp_store_row 24 _ _ rfl (n0 + 1) rfl _ rfl (fcells_one _ _ _) (by rw [row_size row_root]; simp [fcells]) (rep 32) 24 ((b4'.block _ (by omega)).trans g5.out.hr) (by simp [fcells]) ?_)
  intro V5 hC5 hA5
  refine ⟨(Apart.of_below b4').trans hA5, ?_⟩
  simp only [Act.put]
  refine wpAnyH_done (by kernel_rfl) ?_ _
  simp only [NoPan]
  have hB5 := Lib.hid (hA5.below (g5.out.below.trans (b4'.mono (by omega))) (by omega) (by have := b4'.size; omega))
  have hC5' := Lib.hid hC5
  clear hC5
  go_wp2
  exact ret_cell rfl (n0 + 1) 0 (fcells 32 (fun _ => .u8) (seedS mx kk e)) _ rfl (range_whole hC5'.out) Tryd.underlying24 rfl (by rw [row_size row_root, fcells_length]) rfl ⟨rfl, hn0'.out ▸ hB5.out⟩
end Go.Proofs.YtfnjcpopadpmbaaDoor
