/- The seed of an epoch. -/
import Derived.Test.YtfnjcpopadpmbaaDoorKCmJ
set_option linter.unusedVariables false
set_option linter.unusedSimpArgs false
set_option linter.unnecessarySimpa false
namespace Go.Proofs.YtfnjcpopadpmbaaDoor
open Go.RowKit BigFrame
set_option maxRecDepth 100000
def le8 (n : Int) : List Int := (List.range 8).map (leB n)
theorem le8_length (n : Int) : (le8 n).length = 8 := rfl
theorem le8_ok (n : Int) : ∀ m ∈ le8 n, CK.ok .u8 m := fun m hm => by
  obtain ⟨j, _, rfl⟩ := List.mem_map.1 hm
  exact leB_is n j
/-- The mix that a seed takes. -/
def mixR (e : Int) : Nat := ((e + 6) % 8).toNat
def mixL (mx : Nat → Int) (r : Nat) : List Int := (List.range 32).map fun j => mx (32 * r + j)
theorem mixL_length (mx : Nat → Int) (r : Nat) : (mixL mx r).length = 32 := by simp [mixL]
/-- The seed. -/
def seedS (mx : Nat → Int) (k e : Int) : Nat → Int := sumS (le4 k ++ le8 e ++ mixL mx (mixR e))
theorem seedS_is (mx : Nat → Int) (k e : Int) : IsR (seedS mx k e) := sumS_is _
structure SeW (n0 d : Nat) (w : World) (xs : Array Value) (l : List Int) (W : World) : Prop where
  below : Below n0 w W
  hx : W.heap[n0]? = some (.cells xs 49 (0, 0))
  hr : W.heap[n0 + 1]? = some (.cells (rep 32) 24 (0, 0))
  hd : W.heap[d]? = some (.cells (dgC l) 104 (0, 0))
theorem SeW.later {n0 d : Nat} {w : World} {xs : Array Value} {l : List Int} {W W' : World} (h : SeW n0 d w xs l W) (hb : Below W.heap.size W W') : SeW n0 d w xs l W' := by
  have := blk_lt h.hr
  exact ⟨h.below.trans (hb.mono (by omega)), (hb.block _ (blk_lt h.hx)).trans h.hx, (hb.block _ this).trans h.hr, (hb.block _ (blk_lt h.hd)).trans h.hd⟩
theorem SeW.apart {n0 d g : Nat} {w : World} {xs : Array Value} {l : List Int} {W W' : World} (h : SeW n0 d w xs l W) (hb : Apart g W W') (h1 : n0 + 1 < g) (h2 : d ≠ g) : SeW n0 d w xs l W' := by
  have := blk_lt h.hr
  exact ⟨hb.below h.below (by omega) (by omega), (hb.block _ (blk_lt h.hx) (by omega)).trans h.hx, (hb.block _ this (by omega)).trans h.hr, (hb.block _ (blk_lt h.hd) h2).trans h.hd⟩
theorem SeW.wrote {n0 d : Nat} {w : World} {xs : Array Value} {l l' : List Int} {W W' : World} (h : SeW n0 d w xs l W) (hb : Apart d W W') (h1 : n0 + 1 < d) (h2 : W'.heap[d]? = some (.cells (dgC l') 104 (0, 0))) : SeW n0 d w xs l' W' := by
  have := blk_lt h.hr
  exact ⟨hb.below h.below (by omega) (by omega), (hb.block _ (blk_lt h.hx) (by omega)).trans h.hx, (hb.block _ this (by omega)).trans h.hr, h2⟩
theorem row_le8 {W : World} {g : Nat} {n : Int} (h : W.heap[g]? = some (.cells (numV n) 90 (0, 0))) : Row W (some ⟨g, 0, none⟩) .u8 (le8 n) := by
  refine ⟨fun i hi => ⟨g, 0, rfl, ?_⟩, le8_ok n⟩
  have hi' : i < 8 := by simpa [le8] using hi
  rw [cell_of_row W g (0 + i) _ _ _ h, Nat.zero_add, List.getElem?_toArray, fcells_get _ _ _ _ (by omega)]
  simp [le8, List.getD, hi']
theorem row_mix {W : World} {n0 r : Nat} {xs : Array Value} {mx : Nat → Int} (h : W.heap[n0]? = some (.cells xs 49 (0, 0))) (hm : ∀ k, k < 256 → xs[723 + k]? = some (.int .u8 (mx k)) ∧ IsB (mx k)) (hr : r < 8) : Row W (some ⟨n0, 723 + r * 32, none⟩) .u8 (mixL mx r) := by
  refine ⟨fun i hi => ⟨n0, 723 + r * 32, rfl, ?_⟩, fun m hm2 => ?_⟩
  · have hi' : i < 32 := by simpa [mixL] using hi
    rw [cell_of_row W n0 _ _ _ _ h, show 723 + r * 32 + i = 723 + (32 * r + i) by omega, (hm _ (by omega)).1]
    simp [mixL, List.getD, hi', CK.mk]
  · obtain ⟨j, hj, rfl⟩ := List.mem_map.1 hm2
    have := List.mem_range.1 hj
    exact (hm (32 * r + j) (by omega)).2
theorem num8_size (k : Int) : (numV k).size = 8 := by simp [fcells]
set_option maxHeartbeats 8000000 in
theorem seed_any (xs : Array Value) (vs : List (Nat → Int)) (mx : Nat → Int) (e kk : Int) (he : 0 ≤ e) (he2 : e ≤ 4611686018427387904) (hk : 0 ≤ kk) (hk2 : kk ≤ 100) (w : World) (h : VsRep w xs vs mx) (hT0 : TabC w) :
    Calls Tryd.prog 22 #[.agg xs, .int .u64 e, .int .i64 kk] w fun r w' => r = .returned (.agg (rootV (seedS mx kk e))) ∧ Below w.heap.size w w' := by
  have hmix := Lib.hid h.mix
  have hT := Lib.hid hT0
  have hT3 := hT0.size
  obtain ⟨n0, hn0⟩ : ∃ n0, n0 = w.heap.size := ⟨_, rfl⟩
  have hn0' := Lib.hid hn0
  have hbs := Lib.hid (show sumS (le4 kk ++ le8 e ++ mixL mx (mixR e)) = seedS mx kk e from rfl)
  obtain ⟨r, hr⟩ : ∃ r, r = mixR e := ⟨_, rfl⟩
  rw [← hr] at hbs
  have hr8 : r < 8 := by rw [hr]; unfold mixR; omega
  have hrI : (e + 6) % 8 = (r : Int) := by rw [hr]; unfold mixR; omega
  have hr8I : (r : Int) < 8 := by omega
  have wk : IntKind.u64.wrap kk = kk := by rw [IntKind.wrap_u64]; omega
  have w1 : IntKind.u64.wrap (e + 8) = e + 8 := by rw [IntKind.wrap_u64]; omega
  have w2 : IntKind.u64.wrap (e + 8 - 1) = e + 7 := by rw [IntKind.wrap_u64]; omega
  have w3 : IntKind.u64.wrap (e + 7 - 1) = e + 6 := by rw [IntKind.wrap_u64]; omega
  have l4 := Lib.hid (le4_length kk)
  have l8 := Lib.hid (le8_length e)
  have l12 := Lib.hid (show (le4 kk ++ le8 e).length = 12 by rw [List.length_append, le4_length, le8_length])
  have l32 := Lib.hid (mixL_length mx r)
  have l44 := Lib.hid (show (le4 kk ++ le8 e ++ mixL mx r).length = 44 by rw [List.length_append, List.length_append, le4_length, le8_length, mixL_length])
  have hok := Lib.hid (show ∀ m ∈ le4 kk ++ le8 e ++ mixL mx r, CK.ok .u8 m from fun m hm => by
    rcases List.mem_append.1 hm with hm | hm
    · rcases List.mem_append.1 hm with hm | hm
      · exact le4_ok _ m hm
      · exact le8_ok _ m hm
    · obtain ⟨j, hj, rfl⟩ := List.mem_map.1 hm
      have := List.mem_range.1 hj
      exact (h.mix (32 * r + j) (by omega)).2)
  clear h hT0 hn0 hr
  go_enter Tryd.func22, Tryd.ntmps22
  go_wp2_with (first
    | ((with_reducible refine (new_any _ (hT.out.below (n := w.heap.size) hT3 (((Below.refl _ _).alloc (Nat.le_refl _) _).alloc (by rw [World.size_alloc]; exact Nat.le_succ _) _))).mono ?_)
       rintro e W1 ⟨rfl, e1⟩
       simp only [World.size_alloc]
       rw [← hn0'.out]
       have g1 := Lib.hid (show SeW n0 (n0 + 1 + 1) w xs [] W1 by
         rw [e1]
         refine ⟨?_, ?_, ?_, ?_⟩
         · exact ((((Below.refl _ _).alloc (by rw [hn0'.out]; exact Nat.le_refl _) _).alloc (by rw [World.size_alloc, hn0'.out]; omega) _).alloc (by rw [World.size_alloc, World.size_alloc, hn0'.out]; omega) _)
         · exact heap_past _ _ _ _ (heap_past _ _ _ _ (heap_new _ _ _ _ hn0'.out))
         · exact heap_past _ _ _ _ (heap_new _ _ _ _ (by rw [World.size_alloc, hn0'.out]))
         · exact heap_new _ _ _ _ (by rw [World.size_alloc, World.size_alloc, hn0'.out]))
       clear e1)
    | ((with_reducible refine (bytes_any kk W1).mono ?_)
       rintro e W2 ⟨rfl, b2⟩
       have g2 := Lib.hid (g1.out.later b2)
       clear b2)
    | ((with_reducible refine (bytes_any e W2).mono ?_)
       rintro e W3 ⟨rfl, b3⟩
       have g3 := Lib.hid (g2.out.later b3)
       clear b3)
    | ((with_reducible refine at_store 90 ?_)
       refine wpList_store_row 90 (.tmp 8) (.tmp 13) rfl rfl W3.heap.size rfl (numV kk) rfl (fcells_one _ _ _) (by rw [num8_size]; exact row_size row_b8) _ 90 (heap_past _ _ _ _ (heap_new _ _ _ _ rfl)) (by rw [num8_size]; rfl) (fun W4 hC4 hA4 => ?_)
       have s3 := blk_lt g3.out.hd
       have g4 := Lib.hid ((g3.out.later (((Below.refl _ _).alloc (Nat.le_refl _) _).alloc (by rw [World.size_alloc]; omega) _)).apart hA4 (by omega) (by omega))
       have c4 := Lib.hid hC4
       have z4 := Lib.hid ((hA4.block (W3.heap.size + 1) (by simp) (by omega)).trans (heap_new _ _ _ _ (by rw [World.size_alloc])))
       have s3' := Lib.hid s3
       clear hC4 hA4 s3)
    | ((with_reducible refine at_store 90 ?_)
       go_loud (refine wpList_store_row 90 (.tmp 9) (.tmp 15) rfl rfl (W3.heap.size + 1) rfl (numV e) rfl (fcells_one _ _ _) (by rw [num8_size]; exact row_size row_b8) _ 90 z4.out (by rw [num8_size]; rfl) (fun W5 hC5 hA5 => ?_))
       obtain ⟨q8, hq8⟩ : ∃ q8, q8 = W3.heap.size := ⟨_, rfl⟩
       have g5 := Lib.hid (g4.out.apart hA5 (by have := s3'.out; omega) (by have := s3'.out; omega))
       have c5 := Lib.hid ((hA5.block W3.heap.size (blk_lt c4.out) (by omega)).trans c4.out)
       have z5 := Lib.hid hC5
       have s8 := Lib.hid (show n0 + 1 + 1 < q8 by rw [hq8]; exact s3'.out)
       rw [← hq8] at c5 z5 ⊢
       clear hC5 hA5 hq8)
    | ((with_reducible refine at_sliceC 90 ?_); refine wpList_value (by rfl) (.slice (some ⟨q8, 0, none⟩) 4 8) (run_acut_to _ 90 5 8 (.tmp 8) _ rfl Tryd.underlying90 1 sz_u8 q8 0 rfl .i64 4 rfl (by omega)) ?_)
    | ((with_reducible refine at_sliceC 90 ?_); refine wpList_value (by rfl) (.slice (some ⟨q8 + 1, 0, none⟩) 8 8) (run_acut_all _ 90 5 8 (.tmp 9) rfl Tryd.underlying90 1 sz_u8 (q8 + 1) 0 rfl) ?_)
    | ((with_reducible refine at_sliceC 24 ?_); go_loud (refine wpList_value (by rfl) (.slice (some ⟨n0, 723 + r * 32, none⟩) 32 32) (run_acut_all _ 24 5 32 (.tmp 29) rfl Tryd.underlying24 1 sz_u8 n0 (723 + r * 32) rfl) ?_))
    | ((with_reducible refine (write0_any (n0 + 1 + 1) q8 0 8 (le4 kk) _ g5.out.hd (row_le4 c5.out) (Nat.ne_of_gt s8.out) 4 l4.out (by omega)).mono ?_)
       rintro e W6 ⟨rfl, h6, x6⟩
       have g6 := Lib.hid (g5.out.wrote x6 (by omega) h6)
       have z6 := Lib.hid ((x6.block (q8 + 1) (blk_lt z5.out) (by have := s8.out; omega)).trans z5.out)
       clear h6 x6)
    | ((with_reducible refine (write1_any (n0 + 1 + 1) (q8 + 1) 0 8 (le4 kk) (le8 e) _ g6.out.hd (row_le8 z6.out) (Nat.ne_of_gt (Nat.lt_succ_of_lt s8.out)) 4 8 l4.out l8.out (by omega) (by omega)).mono ?_)
       rintro e W7 ⟨rfl, h7, x7⟩
       have g7 := Lib.hid (g6.out.wrote x7 (by omega) h7)
       clear h7 x7)
    | ((with_reducible refine (write1_any (n0 + 1 + 1) n0 (723 + r * 32) 32 (le4 kk ++ le8 e) (mixL mx r) _ g7.out.hd (row_mix g7.out.hx hmix.out hr8) (by omega) 12 32 l12.out l32.out (by omega) (by omega)).mono ?_)
       rintro e W8 ⟨rfl, h8, x8⟩
       have g8 := Lib.hid (g7.out.wrote x8 (by omega) h8)
       clear h8 x8)
    | ((with_reducible refine (dsum_any (n0 + 1 + 1) (le4 kk ++ le8 e ++ mixL mx r) _ g8.out.hd hok.out 44 l44.out (by omega) (hT.out.below (n := n0) (by rw [hn0'.out]; exact hT3) g8.out.below)).mono ?_)
       rintro e W9 ⟨rfl, b9⟩
       rw [hbs.out]
       have g9 := Lib.hid (g8.out.later b9)
       clear b9)
    | ((with_reducible refine at_store 24 ?_); go_loud (refine wpList_store_row_gen 24 _ _ rfl rfl (n0 + 1) rfl (rootV (seedS mx kk e)) rfl (fcells_one _ _ _) (by rw [row_size row_root]; simp [fcells]) _ 24 g9.out.hr (by simp [fcells]) (Nat.le_succ n0) g9.out.below (fun W10 hW10 hBW _ => ?_))))
  exact ret_cell rfl (n0 + 1) 0 (fcells 32 (fun _ => .u8) (seedS mx kk e)) _ rfl hW10 Tryd.underlying24 rfl (by rw [row_size row_root, fcells_length]) rfl ⟨rfl, hn0'.out ▸ hBW⟩
end Go.Proofs.YtfnjcpopadpmbaaDoor
