/- A block of a round, a bit of it, a place's fellow. -/
import Derived.Test.YtfnjcpopadpmbaaDoorKCmD
import Derived.Test.YtfnjcpopadpmbaaDoorKCmP
import Derived.Test.YtfnjcpopadpmbaaDoorJRead
set_option linter.unusedVariables false
set_option linter.unusedSimpArgs false
set_option linter.unnecessarySimpa false
namespace Go.Proofs.YtfnjcpopadpmbaaDoor
open Go.RowKit BigFrame
set_option maxRecDepth 100000
set_option maxHeartbeats 1000000 in
theorem flip_any (p : Nat) (dv : Value) (i n : Nat) (hp : p < n) (hi : i < n) (hn : n ≤ 4294967296) (w : World) :
    Calls Tryd.prog 31 #[.agg #[.int .u64 (p : Int), dv], .int .u64 (i : Int), .int .u64 (n : Int)] w fun e w' => e = .returned (.int .u64 (flipN p n i : Nat)) ∧ Below w.heap.size w w' := by
  by_cases c : i ≤ p
  · have e1 : IntKind.u64.wrap ((p : Int) - (i : Int)) = ((flipN p n i : Nat) : Int) := by rw [IntKind.wrap_u64]; unfold flipN; rw [if_pos c]; omega
    have c1 : (i : Int) ≤ (p : Int) := by omega
    generalize flipN p n i = f at *
    go_enter Tryd.func31, Tryd.ntmps31
    go_wp2_with (first
      | ((with_reducible refine at_load 22 ?_); go_loud (refine wpList_value (by rfl) _ (run_load_cell _ 22 _ (by rfl) ⟨w.heap.size, 0, none⟩ (by rfl) (.int .u64 (p : Int)) ((cell_of_row _ w.heap.size 0 _ _ _ (heap_new _ _ _ _ rfl))) _ Tryd.underlying22 rfl) ?_)))
    exact ret_t1 rfl _ (by simp [e1]) rfl ⟨rfl, (Below.refl _ _).alloc (Nat.le_refl _) _⟩
  · have e0 : IntKind.u64.wrap ((p : Int) + (n : Int)) = ((p + n : Nat) : Int) := by rw [IntKind.wrap_u64]; omega
    have e1 : IntKind.u64.wrap (((p + n : Nat) : Int) - (i : Int)) = ((flipN p n i : Nat) : Int) := by rw [IntKind.wrap_u64]; unfold flipN; rw [if_neg c]; omega
    have c1 : (p : Int) < (i : Int) := by omega
    generalize flipN p n i = f at *
    generalize p + n = pn at *
    go_enter Tryd.func31, Tryd.ntmps31
    go_wp2_with (first
      | ((with_reducible refine at_load 22 ?_); go_loud (refine wpList_value (by rfl) _ (run_load_cell _ 22 _ (by rfl) ⟨w.heap.size, 0, none⟩ (by rfl) (.int .u64 (p : Int)) ((cell_of_row _ w.heap.size 0 _ _ _ (heap_new _ _ _ _ rfl))) _ Tryd.underlying22 rfl) ?_)))
    exact ret_t1 rfl _ rfl rfl ⟨rfl, (Below.refl _ _).alloc (Nat.le_refl _) _⟩
/-- A bit of a block. -/
def bitF (f : Nat → Int) (pl : Nat) : Bool := decide (f (pl % 256 / 8) / 2 ^ (pl % 8) % 2 = 1)
theorem and255u (n : Nat) (h : n ≤ 4294967296) : bits .and .u64 (n : Int) 255 = ((n % 256 : Nat) : Int) := by
  have h2 := bits_mask .u64 64 (by decide) (fun n h0 h1 => by rw [IntKind.wrap_u64]; omega) 8 (by decide) (n : Int) (by omega) (by omega)
  have e : ((2 : Int) ^ 8 - 1) = 255 := rfl
  have e2 : ((2 : Int) ^ 8) = 256 := rfl
  rw [e, e2] at h2
  rw [h2]
  omega
theorem and7u (n : Nat) (h : n ≤ 4294967296) : bits .and .u64 (n : Int) 7 = ((n % 8 : Nat) : Int) := by
  have h2 := bits_mask .u64 64 (by decide) (fun n h0 h1 => by rw [IntKind.wrap_u64]; omega) 3 (by decide) (n : Int) (by omega) (by omega)
  have e : ((2 : Int) ^ 3 - 1) = 7 := rfl
  have e2 : ((2 : Int) ^ 3) = 8 := rfl
  rw [e, e2] at h2
  rw [h2]
  omega
theorem and1u8 (z : Int) (h0 : 0 ≤ z) (h1 : z ≤ 255) : bits BinOp.and IntKind.u8 z 1 = z % 2 := by
  have h : ∀ n : Fin 256, bits BinOp.and IntKind.u8 ((n : Nat) : Int) 1 = ((n : Nat) : Int) % 2 := by decide +kernel
  have h2 := h ⟨z.toNat, by omega⟩
  rw [show ((z.toNat : Nat) : Int) = z by omega] at h2
  exact h2
set_option maxHeartbeats 1000000 in
theorem bit_any (f : Nat → Int) (hf : IsR f) (b o pl : Nat) (hpl : pl ≤ 4294967296) (w : World) (hc : ∀ j, j < 32 → w.cell? ⟨b, o + j, none⟩ = some (.int .u8 (f j))) :
    Calls Tryd.prog 32 #[.pointer (some ⟨b, o, none⟩), .int .u64 (pl : Int)] w fun e w' => e = .returned (.bool (bitF f pl)) ∧ w = w' := by
  have a1 := and255u pl hpl
  have a2 := and7u pl hpl
  have hj : pl % 256 / 8 < 32 := by omega
  have hq : (((pl % 256 : Nat) : Int) / 8) = ((pl % 256 / 8 : Nat) : Int) := by omega
  have hr : pl % 8 < 8 := by omega
  have hx := hc _ hj
  have hb := hf _ hj
  unfold IsB at hb
  have hdef : bitF f pl = decide (f (pl % 256 / 8) / 2 ^ (pl % 8) % 2 = 1) := rfl
  generalize f (pl % 256 / 8) = y at *
  have hjI : ((pl % 256 / 8 : Nat) : Int) < 32 := by omega
  generalize pl % 256 / 8 = j at *
  generalize ((pl % 256 : Nat) : Int) = p8 at *
  have hrI : ((pl % 8 : Nat) : Int) < 64 := by omega
  have hp2 : (0 : Int) ≤ 2 ^ (pl % 8) := Int.pow_nonneg (by decide)
  have hy1 : 0 ≤ y / 2 ^ (pl % 8) := Int.ediv_nonneg hb.1 hp2
  have hy2 : y / 2 ^ (pl % 8) ≤ 255 := by have := Int.ediv_le_self (2 ^ (pl % 8)) hb.1; omega
  have hand := and1u8 _ hy1 hy2
  have hbe : (bits BinOp.and IntKind.u8 (y / 2 ^ (pl % 8)) 1 == 1) = bitF f pl := by rw [hand, hdef]; rfl
  generalize pl % 8 = r at *
  clear hdef hand hp2
  have hx' := Lib.hid hx
  clear hx hf hc
  go_enter Tryd.func32, Tryd.ntmps32
  go_wp2_with (first
    | ((with_reducible refine at_load 5 ?_); go_loud (refine wpList_value (by rfl) _ (run_load_cell _ 5 _ (by rfl) ⟨b, o + j, none⟩ (by rfl) (.int .u8 y) hx'.out _ Tryd.underlying5 rfl) ?_)))
  exact ret_t1 rfl _ rfl rfl ⟨rfl, rfl⟩
/-- Block k of a round. -/
def blkS (sd : Nat → Int) (r k : Nat) : Nat → Int := sumS (dgl sd r ++ le4 (k : Int))
theorem blkS_is (sd : Nat → Int) (r k : Nat) : IsR (blkS sd r k) := sumS_is _
theorem row_le4 {W : World} {g : Nat} {n : Int} (h : W.heap[g]? = some (.cells (numV n) 90 (0, 0))) : Row W (some ⟨g, 0, none⟩) .u8 (le4 n) := by
  refine ⟨fun i hi => ⟨g, 0, rfl, ?_⟩, le4_ok n⟩
  have hi' : i < 4 := by simpa [le4] using hi
  rw [cell_of_row W g (0 + i) _ _ _ h, Nat.zero_add, List.getElem?_toArray, fcells_get _ _ _ _ (by omega)]
  simp [le4, List.getD, hi']
set_option maxHeartbeats 4000000 in
theorem block_any14 (d r k : Nat) (pv : Int) (sd : Nat → Int) (hsd0 : IsR sd) (hr : r < 256) (w : World) (hd0 : w.heap[d]? = some (.cells (dgC (dgl sd r)) 104 (0, 0))) (hT0 : TabC w) :
    Calls Tryd.prog 30 #[.agg #[.int .u64 pv, .pointer (some ⟨d, 0, none⟩)], .int .u64 (k : Int)] w fun e w' => e = .returned (.agg (rootV (blkS sd r k))) ∧ Below w.heap.size w w' := by
  have hd := Lib.hid hd0
  have hT := Lib.hid hT0
  have hdl := Lib.hid (dgl_length sd r)
  have hdo := dgl_ok hsd0 hr
  have hl4 := Lib.hid (le4_length (k : Int))
  have hdl2 := Lib.hid (show (dgl sd r ++ le4 (k : Int)).length = 37 by rw [List.length_append, dgl_length, le4_length])
  have hok := Lib.hid (show ∀ m ∈ dgl sd r ++ le4 (k : Int), CK.ok .u8 m from fun m hm => (List.mem_append.1 hm).elim (hdo m) (le4_ok _ m))
  have hbs := Lib.hid (show sumS (dgl sd r ++ le4 (k : Int)) = blkS sd r k from rfl)
  obtain ⟨n0, hn0⟩ : ∃ n0, n0 = w.heap.size := ⟨_, rfl⟩
  have hn0' := Lib.hid hn0
  clear hd0 hT0 hsd0 hdo hn0
  have hNu := Lib.hid (fun c => (rfl : ((numV c).size) = 8))
  go_enter Tryd.func30, Tryd.ntmps30
  go_wp2_with (first
    | ((with_reducible refine at_load 81 ?_); go_loud (refine wpList_value (by rfl) _ (run_load_cell _ 81 _ (by rfl) ⟨w.heap.size, 1, none⟩ (by rfl) (.pointer (some ⟨d, 0, none⟩)) ((cell_of_row _ w.heap.size 1 _ _ _ (heap_past _ _ _ _ (heap_new _ _ _ _ rfl)))) _ Tryd.underlying81 rfl) ?_))
    | ((with_reducible refine (dcopy_any d (dgl sd r) _ (heap_past _ _ _ _ (heap_past _ _ _ _ hd.out))).mono ?_)
       rintro e W1 ⟨rfl, h1, b1⟩
       go_loud (simp only [World.size_alloc] at h1 b1 ⊢)
       go_loud (rw [← hn0'.out] at h1 b1 ⊢)
       have d1 := Lib.hid h1
       go_loud (have R1 := Lib.hid ((b1.block (n0 + 1) (by omega)).trans (heap_new _ _ _ _ (by rw [World.size_alloc, hn0'.out]))))
       have B1 := Lib.hid (show Below n0 w W1 from (((Below.refl n0 w).alloc (by rw [hn0'.out]; exact Nat.le_refl _) _).alloc (by rw [World.size_alloc, hn0'.out]; omega) _).trans (b1.mono (by omega)))
       clear h1 b1)
    | ((with_reducible refine (bytes_any (k : Int) _).mono ?_)
       rintro e W2 ⟨rfl, b2⟩
       have d2 := Lib.hid ((b2.block _ (blk_lt d1.out)).trans d1.out)
       have R2 := Lib.hid ((b2.block _ (blk_lt R1.out)).trans R1.out)
       have B2 := Lib.hid (B1.out.trans (b2.mono (by have := blk_lt R1.out; omega)))
       clear b2)
    | ((with_reducible refine at_alloc 90 ?_)
       go_loud (refine wpList_alloc_store rfl rfl 90 6 _ rfl rfl rfl (numV (k : Int)) rfl rfl (zeroOf Tryd.prog 90) (by rw [show (numV (k : Int)).size = 8 by simp [fcells]]; exact (row_zero row_b8).1) (by rw [show (numV (k : Int)).size = 8 by simp [fcells]]; exact (row_zero row_b8).2) (fcells_one _ _ _) ?_)
       obtain ⟨g, hg⟩ : ∃ g, g = W2.heap.size := ⟨_, rfl⟩
       rw [← hg]
       refine gen_l (fun W3 => Below n0 w W3 ∧ W3.heap[n0 + 1 + 1]? = some (.cells (dgC (dgl sd r)) 104 (0, 0)) ∧ W3.heap[n0 + 1]? = some (.cells (rep 32) 24 (0, 0)) ∧ Row W3 (some ⟨g, 0, none⟩) .u8 (le4 (k : Int))) ⟨?_, ?_, ?_, ?_⟩ ?_
       · exact B2.out.alloc (by have := blk_lt R2.out; omega) _
       · exact heap_past _ _ _ _ d2.out
       · exact heap_past _ _ _ _ R2.out
       · exact row_le4 (heap_new _ _ _ _ hg)
       have hgd := Lib.hid (show g ≠ n0 + 1 + 1 by have := blk_lt d2.out; omega)
       clear hg
       rintro W3 ⟨h3, h4, h5, h6⟩
       have B3 := Lib.hid h3
       have d3 := Lib.hid h4
       have R3 := Lib.hid h5
       have r3 := Lib.hid h6
       clear h3 h4 h5 h6)
    | ((with_reducible refine at_sliceC 90 ?_); go_loud (refine wpList_value (by rfl) (.slice (some ⟨g, 0, none⟩) 4 8) (run_acut_to _ 90 5 8 (.tmp 6) _ rfl Tryd.underlying90 1 sz_u8 g 0 rfl .i64 4 rfl (by omega)) ?_))
    | ((with_reducible refine (write1_any (n0 + 1 + 1) g 0 8 (dgl sd r) (le4 (k : Int)) _ d3.out r3.out hgd.out 33 4 hdl.out hl4.out (by omega) (by omega)).mono ?_)
       rintro e W4 ⟨rfl, h4, x4⟩
       have d4 := Lib.hid h4
       have R4 := Lib.hid ((x4.block (n0 + 1) (blk_lt R3.out) (by omega)).trans R3.out)
       have B4 := Lib.hid (x4.below B3.out (by omega) (by have := blk_lt R3.out; omega))
       clear h4 x4)
    | ((with_reducible refine (dsum_any (n0 + 1 + 1) (dgl sd r ++ le4 (k : Int)) _ d4.out hok.out 37 hdl2.out (by omega) (hT.out.below (by have := hT.out.size; have := hn0'.out; omega) B4.out)).mono ?_)
       rintro e W5 ⟨rfl, b5⟩
       rw [hbs.out]
       have R5 := Lib.hid ((b5.block _ (blk_lt R4.out)).trans R4.out)
       have B5 := Lib.hid (B4.out.trans (b5.mono (by have := blk_lt R4.out; omega)))
       clear b5)
    | ((with_reducible refine at_store 24 ?_); go_loud (refine wpList_store_row_gen 24 _ _ rfl rfl (n0 + 1) rfl (rootV (blkS sd r k)) rfl (fcells_one _ _ _) (by rw [row_size row_root]; simp [fcells]) _ 24 R5.out (by simp [fcells]) (Nat.le_succ n0) B5.out (fun W9 hW9 hBW _ => ?_))))
  exact ret_cell rfl (n0 + 1) 0 (fcells 32 (fun _ => .u8) (blkS sd r k)) _ rfl hW9 Tryd.underlying24 rfl (by rw [row_size row_root, fcells_length]) rfl ⟨rfl, hn0'.out ▸ hBW⟩
end Go.Proofs.YtfnjcpopadpmbaaDoor
