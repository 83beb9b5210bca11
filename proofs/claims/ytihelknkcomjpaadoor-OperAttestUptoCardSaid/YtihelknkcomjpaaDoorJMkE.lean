/- merkle of the program: Tree. -/
/- Mix of the program and of the reference. -/
/- merkle.Tree where the chunks are too many; wire.Numbers. -/
import Derived.Test.YtihelknkcomjpaaDoorJMkB
import Derived.Test.YtihelknkcomjpaaDoorJRef5c
import Derived.Test.YtihelknkcomjpaaDoorJIxA
set_option linter.unusedVariables false
set_option linter.unusedSimpArgs false
set_option linter.unnecessarySimpa false
namespace Go.Proofs.YtihelknkcomjpaaDoor
open Go.RowKit BigFrame
set_option maxRecDepth 100000
/-- What is there, then the zero root of this height. -/
def fillZ (rs : List (Nat → Int)) (n j : Nat) (i : Nat) : Nat → Int := if i < n then leaf rs i else fullT j fun _ => zeroR
theorem fillZ_level (rs : List (Nat → Int)) (n H j : Nat) (hH : (n + 1) / 2 = H) : fillZ ((List.range H).map fun i => sha2 (fillZ rs n j (2 * i)) (fillZ rs n j (2 * i + 1))) H (j + 1) = level (fillZ rs n j) := by
  funext i
  unfold level
  by_cases h : i < H
  · show (if i < H then _ else _) = _
    rw [if_pos h]
    simp [leaf, List.getD, h]
  · show (if i < H then _ else _) = _
    rw [if_neg h]
    have e1 : fillZ rs n j (2 * i) = fullT j fun _ => zeroR := if_neg (by omega)
    have e2 : fillZ rs n j (2 * i + 1) = fullT j fun _ => zeroR := if_neg (by omega)
    rw [e1, e2]
    rfl
/-- While the levels are gone up. -/
structure TreeJ (d : Nat) (R : Nat → Int) (zg : Nat) (w : World) (j n b o c : Nat) (rs : List (Nat → Int)) (W : World) : Prop where
  hn : rs.length = n
  h1 : 1 ≤ n
  h2 : n ≤ 2 ^ (d - j)
  hc : n ≤ c
  hr : RowR W (some ⟨b, o, none⟩) rs
  hb : b < W.heap.size
  hR : fullT (d - j) (fillZ rs n j) = R
  hz : RootsAt zg (d + 1) (d + 1) (fun k => fullT k fun _ => zeroR) W
  h4 : W.heap[w.heap.size]? = some (.cells zr 23 (0, 0))
  hB : Below w.heap.size w W
set_option maxHeartbeats 16000000 in
theorem mtree_any (rs : List (Nat → Int)) (n m d : Nat) (va : Option Addr) (c : Nat) (w : World) (hn : rs.length = n) (hm : n ≤ m) (hd0 : Dep m d) (hd40 : d ≤ 32) (hrow0 : RowR w va rs) (hlow0 : ∀ b o, va = some ⟨b, o, none⟩ → b < w.heap.size) (hc : n ≤ c) (hT0 : Tabs w) :
    Calls Tryd.prog 107 #[.slice va n c, .int .i64 (m : Int)] w fun e w' => e = .returned (.tuple #[.agg (rootV (fullT d (leaf rs))), .int .i64 0]) ∧ Below w.heap.size w w' := by
  obtain ⟨R, hR⟩ : ∃ R, R = fullT d (leaf rs) := ⟨_, rfl⟩
  rw [← hR]
  have hd := Lib.hid hd0
  have hrow := Lib.hid hrow0
  have hlow := Lib.hid hlow0
  have hT := Lib.hid hT0
  have hTl := Lib.hid (fun W (h : Below w.heap.size w W) => hT0.below hT0.size h)
  have hp : 2 ^ d ≤ 2 ^ 32 := Nat.pow_le_pow_right (by decide) hd40
  have hm40 : m ≤ 4294967296 := Nat.le_trans hd0.1 hp
  have hRR := Lib.hid hR
  have hnn := Lib.hid hn
  have g1 : decide (1099511627776 < (m : Int)) = false := by simp; omega
  have g2 : decide ((m : Int) < (n : Int)) = false := by simp; omega
  have g3 : ¬ ((m : Int) < 0) := by omega
  clear hd0 hrow0 hlow0 hT0 hp hR hn
  by_cases h0 : n = 0
  · subst h0
    have hrs0 : rs = [] := List.eq_nil_of_length_eq_zero hnn.out
    have hR0 := hRR.out
    rw [hrs0, leaf_nil] at hR0
    have hRz := Lib.hid hR0
    clear hR0 hRR hrow hlow hnn hrs0
    go_enter Tryd.func107, Tryd.ntmps107
    go_wp2_with (first
      | ((with_reducible refine at_alloc 23 ?_); refine wpList_plain rfl fun K hK => wp_alloc_row 23 rfl 4 rfl zr 32 info_zr (hK _ _ ?_); clear hK K)
      | ((with_reducible refine (mdepth_any m d _ hd.out (by omega)).mono ?_)
         rintro e W ⟨rfl, rfl⟩)
      | ((with_reducible refine (mzeros_any d _ (hTl.out _ ((Below.refl _ w).alloc (Nat.le_refl _) (.cells zr 23))) (by omega)).mono ?_)
         rintro e W ⟨rfl, hZ, hB1⟩
         have hzr := Lib.hid (hZ.range d (by omega))
         have h4 := Lib.hid ((hB1.block w.heap.size (by rw [World.size_alloc]; omega)).trans (heap_new w zr 23 _ rfl))
         have hB := Lib.hid (((Below.refl _ w).alloc (Nat.le_refl _) (.cells zr 23)).trans (hB1.mono (by rw [World.size_alloc]; omega)))
         generalize (w.alloc (.cells zr 23)).heap.size = zg at *
         clear hZ hB1)
      | ((with_reducible refine at_iaddr 88 ?_); go_loud (refine wpList_value (by rfl) _ (run_index_slice _ 88 23 _ _ rfl Tryd.underlying88 32 (row_size row_root) zg 0 (d + 1) (d + 1) rfl .i64 d rfl (by omega) (32 * d) (by omega)) ?_))
      | ((with_reducible refine at_load 23 ?_); go_loud (refine wpList_value (by rfl) _ (run_load_rows _ 23 _ (by rfl) zg (32 * d) (by rfl) _ _ hzr.out Tryd.underlying23 rfl (by rw [row_size row_root, fcells_length])) ?_))
      | ((with_reducible refine at_store 23 ?_); go_loud (refine wpList_store_row_gen (w0 := w) (n0 := w.heap.size) 23 _ _ rfl rfl w.heap.size rfl _ rfl (fcells_one _ _ _) (by rw [row_size row_root]; simp [fcells]) _ 23 h4.out (by rw [zr_size]; simp [fcells]) (Nat.le_refl _) hB.out (fun W9 hW9 hBW _ => ?_))))
    rw [← hRz.out] at hW9
    exact ret_mid_tmp rfl w.heap.size 0 (fcells 32 (fun _ => .u8) R) _ rfl hW9 Tryd.underlying23 rfl (by rw [row_size row_root, fcells_length]) rfl ⟨rfl, hBW⟩
  · obtain ⟨b, o, hva, _⟩ := hrow.out.cell 0 (by rw [hnn.out]; omega)
    subst hva
    have q0 : ((n : Int) == 0) = false := by simp [h0]
    go_enter Tryd.func107, Tryd.ntmps107
    go_wp2_with (first
      | ((with_reducible refine at_alloc 23 ?_); refine wpList_plain rfl fun K hK => wp_alloc_row 23 rfl 4 rfl zr 32 info_zr (hK _ _ ?_); clear hK K)
      | ((with_reducible refine (mdepth_any m d _ hd.out (by omega)).mono ?_)
         rintro e W ⟨rfl, rfl⟩)
      | ((with_reducible refine (mzeros_any d _ (hTl.out _ ((Below.refl _ w).alloc (Nat.le_refl _) (.cells zr 23))) (by omega)).mono ?_)
         rintro e W ⟨rfl, hZ, hB1⟩
         have hJ1 := Lib.hid (show TreeJ d R (w.alloc (.cells zr 23)).heap.size w 0 n b o c rs W from ⟨hnn.out, by omega, by have := hd.out.1; simp; omega, hc, hrow.out.later (((Below.refl _ w).alloc (Nat.le_refl _) (.cells zr 23)).trans (hB1.mono (by rw [World.size_alloc]; omega))) (fun b' o' e => by cases e; exact hlow.out b o rfl), by have := hlow.out b o rfl; have := hB1.size; rw [World.size_alloc] at this; omega, by
           rw [hRR.out, Nat.sub_zero]
           congr 1
           funext i
           unfold fillZ
           by_cases h : i < n
           · rw [if_pos h]
           · rw [if_neg h, leaf_end rs i (by rw [hnn.out]; omega)]
             rfl, hZ, (hB1.block w.heap.size (by rw [World.size_alloc]; omega)).trans (heap_new _ _ _ _ rfl), ((Below.refl _ w).alloc (Nat.le_refl _) (.cells zr 23)).trans (hB1.mono (by rw [World.size_alloc]; omega))⟩)
         generalize (w.alloc (.cells zr 23)).heap.size = zg at *
         clear hZ hB1))
    clear hrow hlow hT hRR hnn g1 g2 g3 q0 h0 hc hm hd
    go_loopw [0, 35] (fun ch i wr => ∃ (j n b o c : Nat) (rs : List (Nat → Int)), j ≤ d ∧ i = .int .i64 (j : Int) ∧ ch = .slice (some ⟨b, o, none⟩) n c ∧ TreeJ d R zg w j n b o c rs wr) (fun _ i _ => d - (intOf i).toNat)
    case atStart => exact ⟨0, n, b, o, c, rs, by omega, rfl, rfl, hJ1.out⟩
    case round =>
      obtain ⟨j, n, b, o, c, rs, hj, rfl, rfl, hJ2⟩ := hrel
      clear hJ1
      have hJ := Lib.hid hJ2
      clear hJ2
      have hJB := hJ.out.hB
      by_cases hlt : j < d
      · have lj : (j : Int) < (d : Int) := by omega
        obtain ⟨H, hH⟩ : ∃ H, (n + 1) / 2 = H := ⟨_, rfl⟩
        have hn32 : n ≤ 4294967296 := Nat.le_trans hJ.out.h2 (Nat.le_trans (Nat.pow_le_pow_right (by decide) (show d - j ≤ 32 by omega)) (by decide))
        have hzr := Lib.hid (hJ.out.hz.range j (by omega))
        have hup := Lib.hid (up_any rs n H (fullT j fun _ => zeroR) b o c (fillZ rs n j) wr hJ.out.hn hH hJ.out.h1 hn32 hJ.out.hr hJ.out.hb hJ.out.hc (fullT_is j fun _ => zeroR_is) (fun i => rfl) (hTl.out _ hJ.out.hB))
        have hlv := fillZ_level rs n H j hH
        have hlen : ((List.range H).map fun i => sha2 (fillZ rs n j (2 * i)) (fillZ rs n j (2 * i + 1))).length = H := by simp
        have hp2 := Nat.pow_succ 2 (d - (j + 1))
        rw [show (d - (j + 1)).succ = d - j by omega] at hp2
        have hH1 : 1 ≤ H := by have := hJ.out.h1; omega
        have hH2 : H ≤ 2 ^ (d - (j + 1)) := by have := hJ.out.h2; omega
        have hRn : fullT (d - (j + 1)) (fillZ ((List.range H).map fun i => sha2 (fillZ rs n j (2 * i)) (fillZ rs n j (2 * i + 1))) H (j + 1)) = R := by
          rw [hlv, ← fullT_level, show d - (j + 1) + 1 = d - j by omega]
          exact hJ.out.hR
        have hRnH := Lib.hid hRn
        have hrs := Lib.hid (show ∀ r ∈ (List.range H).map fun i => sha2 (fillZ rs n j (2 * i)) (fillZ rs n j (2 * i + 1)), IsR r from fun r hr => by
          obtain ⟨i, _, rfl⟩ := List.mem_map.1 hr
          exact sha2_is _ _)
        have hlf := Lib.hid (show ∀ i, i < H → leaf ((List.range H).map fun i => sha2 (fillZ rs n j (2 * i)) (fillZ rs n j (2 * i + 1))) i = sha2 (fillZ rs n j (2 * i)) (fillZ rs n j (2 * i + 1)) from fun i hi => by simp [leaf, List.getD, hi])
        have hlenH := Lib.hid hlen
        clear hlv hp2 hRn hH hlen
        generalize ((List.range H).map fun i => sha2 (fillZ rs n j (2 * i)) (fillZ rs n j (2 * i + 1))) = rs2 at *
        go_wp2_with (first
          | ((with_reducible refine at_iaddr 88 ?_); go_loud (refine wpList_value (by rfl) _ (run_index_slice _ 88 23 _ _ rfl Tryd.underlying88 32 (row_size row_root) zg 0 (d + 1) (d + 1) rfl .i64 j rfl (by omega) (32 * j) (by omega)) ?_))
          | ((with_reducible refine at_load 23 ?_); go_loud (refine wpList_value (by rfl) _ (run_load_rows _ 23 _ (by rfl) zg (32 * j) (by rfl) _ _ hzr.out Tryd.underlying23 rfl (by rw [row_size row_root, fcells_length])) ?_))
          | ((with_reducible refine hup.out.mono ?_)
             rintro e W2 ⟨g, rfl, hR2, hg, hB2⟩
             have hJn := Lib.hid (show TreeJ d R zg w (j + 1) H g 0 H rs2 W2 from ⟨hlenH.out, hH1, hH2, Nat.le_refl _, hR2.row rs2 (by rw [hlenH.out]; exact Nat.le_refl _) (fun i hi => hlf.out i (by rw [hlenH.out] at hi; exact hi)) hrs.out, hR2.lt, hRnH.out, hJ.out.hz.block (hB2.block zg hJ.out.hz.lt), (hB2.block w.heap.size (block_lt hJ.out.h4)).trans hJ.out.h4, hJ.out.hB.trans (hB2.mono hJ.out.hB.size)⟩)
             clear hup hR2 hB2))
        first
          | exact ⟨⟨j + 1, H, g, 0, H, rs2, by omega, by go_num, rfl, hJn.out⟩, by simp [intOf]; omega⟩
          | (refine ⟨?_, by simp [intOf]; omega⟩
             (repeat apply Exists.intro)
             exact ⟨⟨j + 1, H, g, 0, H, rs2, by omega, by go_num, rfl, hJn.out⟩, rfl⟩)
      · have e : j = d := by omega
        subst e
        have hn1 : n = 1 := by have h1 := hJ.out.h1; have h2 := hJ.out.h2; rw [Nat.sub_self] at h2; simp at h2; omega
        have hrow0 : wr.rangeAt b o (fcells 32 (fun _ => .u8) R) := by
          obtain ⟨b', o', e, h⟩ := hJ.out.hr.cell 0 (by rw [hJ.out.hn]; omega)
          cases e
          have h2 := hJ.out.hR
          rw [Nat.sub_self] at h2
          have h3 : fillZ rs n j 0 = R := h2
          unfold fillZ at h3
          rw [if_pos (by omega)] at h3
          rw [h3] at h
          exact h
        have hrH := Lib.hid hrow0
        have hc1 := hJ.out.hc
        subst hn1
        go_wp2_with (first
          | ((with_reducible refine at_iaddr 88 ?_); go_loud (refine wpList_value (by rfl) _ (run_index_slice _ 88 23 _ _ rfl Tryd.underlying88 32 (row_size row_root) b o 1 c rfl .i64 0 rfl (by decide) o (by omega)) ?_))
          | ((with_reducible refine at_load 23 ?_); go_loud (refine wpList_value (by rfl) _ (run_load_rows _ 23 _ (by rfl) b o (by rfl) _ _ hrH.out Tryd.underlying23 rfl (by rw [row_size row_root, fcells_length])) ?_))
          | ((with_reducible refine at_store 23 ?_); go_loud (refine wpList_store_row_gen (w0 := w) (n0 := w.heap.size) 23 _ _ rfl rfl w.heap.size rfl _ rfl (fcells_one _ _ _) (by rw [row_size row_root]; simp [fcells]) _ 23 hJ.out.h4 (by rw [zr_size]; simp [fcells]) (Nat.le_refl _) hJ.out.hB (fun W9 hW9 hBW _ => ?_))))
        exact ret_mid_tmp rfl w.heap.size 0 (fcells 32 (fun _ => .u8) R) _ rfl hW9 Tryd.underlying23 rfl (by rw [row_size row_root, fcells_length]) rfl ⟨rfl, hBW⟩
end Go.Proofs.YtihelknkcomjpaaDoor
namespace Go.Proofs.YtihelknkcomjpaaDoor
open Go.RowKit BigFrame
set_option maxRecDepth 100000
def MixW (r : Nat → Int) (m : Int) (b n4 n5 n6 : Nat) (w W : World) : Prop :=
  W.heap[b]? = some (.cells (rootV r) 23 (0, 0)) ∧ W.heap[n4]? = some (.cells zr 23 (0, 0)) ∧ W.heap[n5]? = some (.cells zr 23 (0, 0)) ∧ W.heap[n6]? = some (.cells (numV m) 155 (0, 0)) ∧ Below b w W ∧ b < n4 ∧ n4 < n5 ∧ n5 < n6
set_option maxHeartbeats 8000000 in
theorem mmix_any (r : Nat → Int) (m : Int) (w : World) (hr0 : IsR r) (hT0 : Tabs w) :
    Calls Tryd.prog 66 #[.agg (rootV r), .int .u64 m] w fun e w' => e = .returned (.agg (rootV (sha2 r (numR m)))) ∧ Below w.heap.size w w' := by
  have hr := Lib.hid hr0
  have hTl := Lib.hid (fun W (h : Below w.heap.size w W) => hT0.below hT0.size h)
  have hz := Lib.hid (numR_is m)
  clear hr0 hT0
  have hm1 := Lib.hid (fun W => bytes_any m W)
  go_enter Tryd.func66, Tryd.ntmps66
  go_wp2_with (first
    | ((with_reducible refine at_alloc 23 ?_); go_loud (first | refine wpList_plain rfl fun K hK => wp_alloc_row 23 rfl 4 rfl zr 32 info_zr (hK _ _ ?_) | refine wpList_plain rfl fun K hK => wp_alloc_row 23 rfl 5 rfl zr 32 info_zr (hK _ _ ?_)); clear hK K)
    | ((with_reducible refine (hm1.out _).mono ?_)
       rintro e W ⟨rfl, hbW⟩
       have hbW' := Lib.hid hbW
       clear hbW)
    | ((with_reducible refine at_alloc 155 ?_); go_loud (refine wpList_alloc_store rfl rfl 155 6 _ rfl rfl rfl (numV m) rfl rfl (zeroOf Tryd.prog 155) (row_zero row_b8).1 (row_zero row_b8).2 (numV_one _) ?_)))
  try simp only [Act.put, List.setIfInBounds_toArray, List.set_cons_zero, List.set_cons_succ]
  have hs1 := hbW'.out.size
  simp only [World.size_alloc] at hs1
  have hb0 : Below w.heap.size w (((w.alloc (.cells (rootV r) 23)).alloc (.cells zr 23)).alloc (.cells zr 23)) := (((Below.refl _ w).alloc (Nat.le_refl _) _).alloc (by simp only [World.size_alloc]; omega) _).alloc (by simp only [World.size_alloc]; omega) _
  have hk : ∀ i, i < (((w.alloc (.cells (rootV r) 23)).alloc (.cells zr 23)).alloc (.cells zr 23)).heap.size → (W.alloc (.cells (numV m) 155)).heap[i]? = (((w.alloc (.cells (rootV r) 23)).alloc (.cells zr 23)).alloc (.cells zr 23)).heap[i]? := fun i hi => ((Below.refl W.heap.size W).alloc (Nat.le_refl _) _).block i (Nat.lt_of_lt_of_le hi hbW'.out.size) |>.trans (hbW'.out.block i hi)
  refine gen_world (MixW r m w.heap.size (w.heap.size + 1) (w.heap.size + 1 + 1) W.heap.size w) ⟨(hk _ (by simp only [World.size_alloc]; omega)).trans (heap_past _ _ _ _ (heap_past _ _ _ _ (heap_new _ _ _ _ rfl))), (hk _ (by simp only [World.size_alloc]; omega)).trans (heap_past _ _ _ _ (heap_new _ _ _ _ (by simp))), (hk _ (by simp only [World.size_alloc]; omega)).trans (heap_new _ _ _ _ (by simp)), heap_new _ _ _ _ rfl, (hb0.trans (hbW'.out.mono (by simp only [World.size_alloc]; omega))).alloc (by omega) _, by omega, by omega, by omega⟩ ?_
  clear hbW' hb0 hk hs1
  generalize hn4 : w.heap.size + 1 + 1 = n5 at *
  generalize hn5 : w.heap.size + 1 = n4 at *
  clear hn4 hn5
  generalize W.heap.size = n6 at *
  clear W
  intro W0 hW0
  obtain ⟨kb, k4, k5, k6, kB, z4, z5, z6⟩ := hW0
  rename_i K hK
  refine wp_region_held (S := fun _ => True) (by kernel_rfl) ?_
  have hS : True := trivial
  refine takeL (i := 0) (v := (.slice (some ⟨n5, 0, none⟩) 32 32)) rfl (by kernel_rfl) (by kernel_rfl) (by kernel_rfl) (fun _ _ _ h => h) rfl (by assumption) (fun w' hS' => by go_simp) ?_
  simp only [Act.put, List.setIfInBounds_toArray, List.set_cons_zero, List.set_cons_succ]
  refine takeL (i := 1) (v := (.slice (some ⟨n6, 0, none⟩) 8 8)) rfl (by kernel_rfl) (by kernel_rfl) (by kernel_rfl) (fun _ _ _ h => h) rfl (by assumption) (fun w' hS' => by go_simp) ?_
  simp only [Act.put, List.setIfInBounds_toArray, List.set_cons_zero, List.set_cons_succ]
  refine oneL (i := 2) rfl (by kernel_rfl) rfl (wp_copy_gen (.tmp 9) (.tmp 10) 34 34 rfl 5 Tryd.underlying34 sz_u8 n5 0 n6 0 32 32 8 8 rfl rfl zr 23 k5 (fcells 8 (fun _ => .u8) (leB m)) (by simp [fcells]) (range_whole k6) (by rw [zr_size]; simp [fcells]) (fun u hu => fcells_mem u hu) ?_)
  intro W2 hc0 hx2
  refine ⟨trivial, ?_⟩
  simp only [Act.put, List.setIfInBounds_toArray, List.set_cons_zero, List.set_cons_succ]
  refine wpAnyH_done (by kernel_rfl) ?_ _
  refine hK _ _ ?_
  clear hK K
  have hc2 : W2.heap[n5]? = some (.cells (rootV (numR m)) 23 (0, 0)) := (num_cells m) ▸ hc0
  have hx2' : Apart n5 W0 W2 := (Apart.begin _ W0).trans hx2
  have hB2 := Lib.hid (hx2'.below kB (by omega) (by have := block_lt k5; omega))
  have hr2 := Lib.hid (range_whole ((hx2'.block _ (block_lt kb) (by omega)).trans kb))
  have h42 := Lib.hid ((hx2'.block n4 (block_lt k4) (by omega)).trans k4)
  have h52 := Lib.hid (range_whole hc2)
  have hT2 := Lib.hid (hTl.out _ hB2.out)
  clear hx2 hx2' hc2 hc0 kb k4 k5 k6 kB hS hTl
  go_wp2_with (first
    | ((with_reducible refine at_load 23 ?_); go_loud (first | refine wpList_value (by rfl) _ (run_load_rows _ 23 _ (by rfl) w.heap.size 0 (by rfl) _ _ hr2.out Tryd.underlying23 rfl (by rw [row_size row_root, fcells_length])) ?_ | refine wpList_value (by rfl) _ (run_load_rows _ 23 _ (by rfl) n5 0 (by rfl) _ _ h52.out Tryd.underlying23 rfl (by rw [row_size row_root, fcells_length])) ?_))
    | ((with_reducible refine (two_any r (numR m) hr.out hz.out _ hT2.out).mono ?_)
       rintro e W4 ⟨rfl, hB4⟩
       have hB5 := Lib.hid (hB2.out.trans (hB4.mono hB2.out.size))
       have h45 := Lib.hid ((hB4.block n4 (block_lt h42.out)).trans h42.out)
       clear hB4)
    | ((with_reducible refine at_store 23 ?_); go_loud (refine wpList_store_row_gen (w0 := w) (n0 := w.heap.size) 23 _ _ rfl rfl n4 rfl _ rfl (fcells_one _ _ _) (by rw [row_size row_root]; simp [fcells]) _ 23 h45.out (by rw [zr_size]; simp [fcells]) (by omega) hB5.out (fun W9 hW9 hBW _ => ?_))))
  exact ret_cell rfl n4 0 (fcells 32 (fun _ => .u8) (sha2 r (numR m))) _ rfl hW9 Tryd.underlying23 rfl (by rw [row_size row_root, fcells_length]) rfl ⟨rfl, hBW⟩
set_option maxHeartbeats 8000000 in
theorem rmmix_any (r : Nat → Int) (m : Int) (w : World) (hr0 : IsR r) (hT0 : Tabs w) :
    Calls Tryd.prog 72 #[.agg (rootV r), .int .u64 m] w fun e w' => e = .returned (.agg (rootV (sha2 r (numR m)))) ∧ Below w.heap.size w w' := by
  have hr := Lib.hid hr0
  have hTl := Lib.hid (fun W (h : Below w.heap.size w W) => hT0.below hT0.size h)
  have hz := Lib.hid (numR_is m)
  clear hr0 hT0
  have hm1 := Lib.hid (fun W => rbytes_any m W)
  go_enter Tryd.func72, Tryd.ntmps72
  go_wp2_with (first
    | ((with_reducible refine at_alloc 23 ?_); go_loud (first | refine wpList_plain rfl fun K hK => wp_alloc_row 23 rfl 4 rfl zr 32 info_zr (hK _ _ ?_) | refine wpList_plain rfl fun K hK => wp_alloc_row 23 rfl 5 rfl zr 32 info_zr (hK _ _ ?_)); clear hK K)
    | ((with_reducible refine (hm1.out _).mono ?_)
       rintro e W ⟨rfl, hbW⟩
       have hbW' := Lib.hid hbW
       clear hbW)
    | ((with_reducible refine at_alloc 155 ?_); go_loud (refine wpList_alloc_store rfl rfl 155 6 _ rfl rfl rfl (numV m) rfl rfl (zeroOf Tryd.prog 155) (row_zero row_b8).1 (row_zero row_b8).2 (numV_one _) ?_)))
  try simp only [Act.put, List.setIfInBounds_toArray, List.set_cons_zero, List.set_cons_succ]
  have hs1 := hbW'.out.size
  simp only [World.size_alloc] at hs1
  have hb0 : Below w.heap.size w (((w.alloc (.cells (rootV r) 23)).alloc (.cells zr 23)).alloc (.cells zr 23)) := (((Below.refl _ w).alloc (Nat.le_refl _) _).alloc (by simp only [World.size_alloc]; omega) _).alloc (by simp only [World.size_alloc]; omega) _
  have hk : ∀ i, i < (((w.alloc (.cells (rootV r) 23)).alloc (.cells zr 23)).alloc (.cells zr 23)).heap.size → (W.alloc (.cells (numV m) 155)).heap[i]? = (((w.alloc (.cells (rootV r) 23)).alloc (.cells zr 23)).alloc (.cells zr 23)).heap[i]? := fun i hi => ((Below.refl W.heap.size W).alloc (Nat.le_refl _) _).block i (Nat.lt_of_lt_of_le hi hbW'.out.size) |>.trans (hbW'.out.block i hi)
  refine gen_world (MixW r m w.heap.size (w.heap.size + 1) (w.heap.size + 1 + 1) W.heap.size w) ⟨(hk _ (by simp only [World.size_alloc]; omega)).trans (heap_past _ _ _ _ (heap_past _ _ _ _ (heap_new _ _ _ _ rfl))), (hk _ (by simp only [World.size_alloc]; omega)).trans (heap_past _ _ _ _ (heap_new _ _ _ _ (by simp))), (hk _ (by simp only [World.size_alloc]; omega)).trans (heap_new _ _ _ _ (by simp)), heap_new _ _ _ _ rfl, (hb0.trans (hbW'.out.mono (by simp only [World.size_alloc]; omega))).alloc (by omega) _, by omega, by omega, by omega⟩ ?_
  clear hbW' hb0 hk hs1
  generalize hn4 : w.heap.size + 1 + 1 = n5 at *
  generalize hn5 : w.heap.size + 1 = n4 at *
  have hn45 := Lib.hid (show w.heap.size < n4 ∧ w.heap.size < n5 by omega)
  clear hn4 hn5
  generalize W.heap.size = n6 at *
  clear W
  intro W0 hW0
  have hW1 := Lib.hid hW0
  clear hW0
  go_loopw [7] (fun i wr => ∃ k : Nat, k ≤ 8 ∧ i = .int .i64 (k : Int) ∧ PartI n5 0 k (numL m) wr ∧ Apart n5 W0 wr) (fun i _ => 8 - (intOf i).toNat)
  case atStart => exact ⟨0, by omega, rfl, PartI.start _ _ _ _ hW1.out.2.2.1, Apart.refl _ _⟩
  case round =>
    obtain ⟨k, hk, rfl, hP, hA⟩ := hrel
    obtain ⟨kb, k4, k5, k6, kB, z4, z5, z6⟩ := hW1.out
    have hc6 := Lib.hid ((hA.block n6 (block_lt k6) (by omega)).trans k6)
    have hB2 := Lib.hid (hA.below kB (by omega) (by have := block_lt k5; omega))
    have hr2 := Lib.hid (range_whole ((hA.block _ (block_lt kb) (by omega)).trans kb))
    have h42 := Lib.hid ((hA.block n4 (block_lt k4) (by omega)).trans k4)
    clear kb k4 k5 k6 kB
    by_cases hlt : k < 8
    · have t1 : decide ((k : Int) < 8) = true := by simp; omega
      have l8 : (k : Int) < 8 := by omega
      have l32 : (k : Int) < 32 := by omega
      obtain ⟨O, hC, hOs, hOc⟩ := hP
      have hC' := Lib.hid hC
      have hOc' := Lib.hid hOc
      have hA' := Lib.hid hA
      clear hC hOc hA hW1
      have hyv := Lib.hid (show (numL m).getD (32 * 0 + k) 0 = leB m k by
        simp [numL, List.getD, hlt])
      have hcell' := Lib.hid (show wr.cell? ⟨n6, k, none⟩ = some (.int .u8 (leB m k)) by
        have h1 := range_whole hc6.out k _ (fcells_get 8 (fun _ => .u8) (leB m) k hlt)
        rw [Nat.zero_add] at h1
        exact h1)
      generalize hy : leB m k = y at *
      clear hy
      go_wp2_with (first
        | ((with_reducible refine at_load 5 ?_); go_loud (refine wpList_value (by rfl) _ (run_load_cell _ 5 _ (by rfl) ⟨n6, k, none⟩ (by rfl) (.int .u8 y) hcell'.out _ Tryd.underlying5 rfl) ?_))
        | ((with_reducible refine at_store 5 ?_); go_loud (refine wpList_store_apart 5 _ _ rfl rfl n5 k rfl .u8 y rfl (by kernel_rfl) O 23 hC'.out (by omega) (fun W5 hC5 hx5 => ?_))))
      exact ⟨⟨k + 1, by omega, by go_num, PartI.step hOc'.out hOs (by omega) (by rw [hyv.out]; exact hC5), hA'.out.trans hx5⟩, by simp [intOf]; omega⟩
    · have e : k = 8 := by omega
      subst e
      have h52 := Lib.hid (show wr.rangeAt n5 0 (fcells 32 (fun _ => .u8) (numR m)) from range_whole (hP.done (Or.inr (by simp [numL]))))
      have hT2 := Lib.hid (hTl.out _ hB2.out)
      clear hP hTl hW1 hA
      have z5 := hn45.out
      go_wp2_with (first
        | ((with_reducible refine at_load 23 ?_); go_loud (first | refine wpList_value (by rfl) _ (run_load_rows _ 23 _ (by rfl) w.heap.size 0 (by rfl) _ _ hr2.out Tryd.underlying23 rfl (by rw [row_size row_root, fcells_length])) ?_ | refine wpList_value (by rfl) _ (run_load_rows _ 23 _ (by rfl) n5 0 (by rfl) _ _ h52.out Tryd.underlying23 rfl (by rw [row_size row_root, fcells_length])) ?_))
        | ((with_reducible refine (rtwo_any r (numR m) hr.out hz.out _ hT2.out).mono ?_)
           rintro e W4 ⟨rfl, hB4⟩
           have hB5 := Lib.hid (hB2.out.trans (hB4.mono hB2.out.size))
           have h45 := Lib.hid ((hB4.block n4 (block_lt h42.out)).trans h42.out)
           clear hB4)
        | ((with_reducible refine at_store 23 ?_); go_loud (refine wpList_store_row_gen (w0 := w) (n0 := w.heap.size) 23 _ _ rfl rfl n4 rfl _ rfl (fcells_one _ _ _) (by rw [row_size row_root]; simp [fcells]) _ 23 h45.out (by rw [zr_size]; simp [fcells]) (by omega) hB5.out (fun W9 hW9 hBW _ => ?_))))
      exact ret_cell rfl n4 0 (fcells 32 (fun _ => .u8) (sha2 r (numR m))) _ rfl hW9 Tryd.underlying23 rfl (by rw [row_size row_root, fcells_length]) rfl ⟨rfl, hBW⟩
end Go.Proofs.YtihelknkcomjpaaDoor
namespace Go.Proofs.YtihelknkcomjpaaDoor
open Go.RowKit BigFrame
set_option maxRecDepth 100000
theorem OwnR.rowR {base n c : Nat} {va : Option Addr} {rs : List (Nat → Int)} {w : World} (h : OwnR base (.slice va n c) rs w) (hn : rs.length = n) (hi : ∀ r ∈ rs, IsR r) : RowR w va rs ∧ (∀ b o, va = some ⟨b, o, none⟩ → b < w.heap.size) ∧ n ≤ c := by
  by_cases h0 : n = 0
  · subst h0
    have e0 : rs = [] := List.eq_nil_of_length_eq_zero hn
    subst e0
    refine ⟨⟨fun i hi => absurd hi (by simp), hi⟩, fun b o e => ?_, Nat.zero_le _⟩
    subst e
    rcases h.2 with ⟨e, _⟩ | ⟨g, cap, cur, h1, h2, h3, _⟩
    · cases e
    · cases h1
      exact block_lt h3
  · obtain ⟨g, cap, e, hg, hR⟩ := roots_of_own h (by omega)
    have hcc := hR.choose_spec.2.2.1
    rw [hn] at e hR hcc
    obtain ⟨rfl, rfl⟩ : va = some ⟨g, 0, none⟩ ∧ c = cap := by injection e with e1 e2 e3; exact ⟨e1, e3⟩
    exact ⟨hR.row rs (by omega) (fun _ _ => rfl) hi, fun b o e => by cases e; exact hR.lt, hcc⟩
end Go.Proofs.YtihelknkcomjpaaDoor
