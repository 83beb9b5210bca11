/- The seed of an epoch. -/
/- A committee. -/
/- A committee: Of. -/
import Derived.Test.YtfnjcpopadpmbaaDoorKCmJ
set_option linter.unusedVariables false
set_option linter.unusedSimpArgs false
set_option linter.unnecessarySimpa false
namespace Go.Proofs.YtfnjcpopadpmbaaDoor
open Go.RowKit BigFrame
set_option maxRecDepth 100000
def le8 (n : Int) : List Int := (List.range 8).map (leB n)
theorem le8_length (n : Int) : (le8 n).length = 8 := rfl
theorem le8_ok (n : Int) : ∀ m ∈ le8 n, CK.ok .u8 m := fun m hm => by
  obtain ⟨j, _, rfl⟩ := List.mem_map.1 hm
  exact leB_is n j
/-- The mix that a seed takes. -/
def mixR (e : Int) : Nat := ((e + 6) % 8).toNat
def mixL (mx : Nat → Int) (r : Nat) : List Int := (List.range 32).map fun j => mx (32 * r + j)
theorem mixL_length (mx : Nat → Int) (r : Nat) : (mixL mx r).length = 32 := by simp [mixL]
/-- The seed. -/
def seedS (mx : Nat → Int) (k e : Int) : Nat → Int := sumS (le4 k ++ le8 e ++ mixL mx (mixR e))
theorem seedS_is (mx : Nat → Int) (k e : Int) : IsR (seedS mx k e) := sumS_is _
structure SeW (n0 d : Nat) (w : World) (xs : Array Value) (l : List Int) (W : World) : Prop where
  below : Below n0 w W
  hx : W.heap[n0]? = some (.cells xs 49 (0, 0))
  hr : W.heap[n0 + 1]? = some (.cells (rep 32) 24 (0, 0))
  hd : W.heap[d]? = some (.cells (dgC l) 104 (0, 0))
theorem SeW.later {n0 d : Nat} {w : World} {xs : Array Value} {l : List Int} {W W' : World} (h : SeW n0 d w xs l W) (hb : Below W.heap.size W W') : SeW n0 d w xs l W' := by
  have := blk_lt h.hr
  exact ⟨h.below.trans (hb.mono (by omega)), (hb.block _ (blk_lt h.hx)).trans h.hx, (hb.block _ this).trans h.hr, (hb.block _ (blk_lt h.hd)).trans h.hd⟩
theorem SeW.apart {n0 d g : Nat} {w : World} {xs : Array Value} {l : List Int} {W W' : World} (h : SeW n0 d w xs l W) (hb : Apart g W W') (h1 : n0 + 1 < g) (h2 : d ≠ g) : SeW n0 d w xs l W' := by
  have := blk_lt h.hr
  exact ⟨hb.below h.below (by omega) (by omega), (hb.block _ (blk_lt h.hx) (by omega)).trans h.hx, (hb.block _ this (by omega)).trans h.hr, (hb.block _ (blk_lt h.hd) h2).trans h.hd⟩
theorem SeW.wrote {n0 d : Nat} {w : World} {xs : Array Value} {l l' : List Int} {W W' : World} (h : SeW n0 d w xs l W) (hb : Apart d W W') (h1 : n0 + 1 < d) (h2 : W'.heap[d]? = some (.cells (dgC l') 104 (0, 0))) : SeW n0 d w xs l' W' := by
  have := blk_lt h.hr
  exact ⟨hb.below h.below (by omega) (by omega), (hb.block _ (blk_lt h.hx) (by omega)).trans h.hx, (hb.block _ this (by omega)).trans h.hr, h2⟩
theorem row_le8 {W : World} {g : Nat} {n : Int} (h : W.heap[g]? = some (.cells (numV n) 90 (0, 0))) : Row W (some ⟨g, 0, none⟩) .u8 (le8 n) := by
  refine ⟨fun i hi => ⟨g, 0, rfl, ?_⟩, le8_ok n⟩
  have hi' : i < 8 := by simpa [le8] using hi
  rw [cell_of_row W g (0 + i) _ _ _ h, Nat.zero_add, List.getElem?_toArray, fcells_get _ _ _ _ (by omega)]
  simp [le8, List.getD, hi']
theorem row_mix {W : World} {n0 r : Nat} {xs : Array Value} {mx : Nat → Int} (h : W.heap[n0]? = some (.cells xs 49 (0, 0))) (hm : ∀ k, k < 256 → xs[723 + k]? = some (.int .u8 (mx k)) ∧ IsB (mx k)) (hr : r < 8) : Row W (some ⟨n0, 723 + r * 32, none⟩) .u8 (mixL mx r) := by
  refine ⟨fun i hi => ⟨n0, 723 + r * 32, rfl, ?_⟩, fun m hm2 => ?_⟩
  · have hi' : i < 32 := by simpa [mixL] using hi
    rw [cell_of_row W n0 _ _ _ _ h, show 723 + r * 32 + i = 723 + (32 * r + i) by omega, (hm _ (by omega)).1]
    simp [mixL, List.getD, hi', CK.mk]
  · obtain ⟨j, hj, rfl⟩ := List.mem_map.1 hm2
    have := List.mem_range.1 hj
    exact (hm (32 * r + j) (by omega)).2
theorem num8_size (k : Int) : (numV k).size = 8 := by simp [fcells]
set_option maxHeartbeats 8000000 in
theorem seed_any (xs : Array Value) (vs : List (Nat → Int)) (mx : Nat → Int) (e kk : Int) (he : 0 ≤ e) (he2 : e ≤ 4611686018427387904) (hk : 0 ≤ kk) (hk2 : kk ≤ 100) (w : World) (h : VsRep w xs vs mx) (hT0 : TabC w) :
    Calls Tryd.prog 22 #[.agg xs, .int .u64 e, .int .i64 kk] w fun r w' => r = .returned (.agg (rootV (seedS mx kk e))) ∧ Below w.heap.size w w' := by
  have hmix := Lib.hid h.mix
  have hT := Lib.hid hT0
  have hT3 := hT0.size
  obtain ⟨n0, hn0⟩ : ∃ n0, n0 = w.heap.size := ⟨_, rfl⟩
  have hn0' := Lib.hid hn0
  have hbs := Lib.hid (show sumS (le4 kk ++ le8 e ++ mixL mx (mixR e)) = seedS mx kk e from rfl)
  obtain ⟨r, hr⟩ : ∃ r, r = mixR e := ⟨_, rfl⟩
  rw [← hr] at hbs
  have hr8 : r < 8 := by rw [hr]; unfold mixR; omega
  have hrI : (e + 6) % 8 = (r : Int) := by rw [hr]; unfold mixR; omega
  have hr8I : (r : Int) < 8 := by omega
  have wk : IntKind.u64.wrap kk = kk := by rw [IntKind.wrap_u64]; omega
  have w1 : IntKind.u64.wrap (e + 8) = e + 8 := by rw [IntKind.wrap_u64]; omega
  have w2 : IntKind.u64.wrap (e + 8 - 1) = e + 7 := by rw [IntKind.wrap_u64]; omega
  have w3 : IntKind.u64.wrap (e + 7 - 1) = e + 6 := by rw [IntKind.wrap_u64]; omega
  have l4 := Lib.hid (le4_length kk)
  have l8 := Lib.hid (le8_length e)
  have l12 := Lib.hid (show (le4 kk ++ le8 e).length = 12 by rw [List.length_append, le4_length, le8_length])
  have l32 := Lib.hid (mixL_length mx r)
  have l44 := Lib.hid (show (le4 kk ++ le8 e ++ mixL mx r).length = 44 by rw [List.length_append, List.length_append, le4_length, le8_length, mixL_length])
  have hok := Lib.hid (show ∀ m ∈ le4 kk ++ le8 e ++ mixL mx r, CK.ok .u8 m from fun m hm => by
    rcases List.mem_append.1 hm with hm | hm
    · rcases List.mem_append.1 hm with hm | hm
      · exact le4_ok _ m hm
      · exact le8_ok _ m hm
    · obtain ⟨j, hj, rfl⟩ := List.mem_map.1 hm
      have := List.mem_range.1 hj
      exact (h.mix (32 * r + j) (by omega)).2)
  clear h hT0 hn0 hr
  go_enter Tryd.func22, Tryd.ntmps22
  go_wp2_with (first
    | ((with_reducible refine (new_any _ (hT.out.below (n := w.heap.size) hT3 (((Below.refl _ _).alloc (Nat.le_refl _) _).alloc (by rw [World.size_alloc]; exact Nat.le_succ _) _))).mono ?_)
       rintro e W1 ⟨rfl, e1⟩
       simp only [World.size_alloc]
       rw [← hn0'.out]
       have g1 := Lib.hid (show SeW n0 (n0 + 1 + 1) w xs [] W1 by
         rw [e1]
         refine ⟨?_, ?_, ?_, ?_⟩
         · exact ((((Below.refl _ _).alloc (by rw [hn0'.out]; exact Nat.le_refl _) _).alloc (by rw [World.size_alloc, hn0'.out]; omega) _).alloc (by rw [World.size_alloc, World.size_alloc, hn0'.out]; omega) _)
         · exact heap_past _ _ _ _ (heap_past _ _ _ _ (heap_new _ _ _ _ hn0'.out))
         · exact heap_past _ _ _ _ (heap_new _ _ _ _ (by rw [World.size_alloc, hn0'.out]))
         · exact heap_new _ _ _ _ (by rw [World.size_alloc, World.size_alloc, hn0'.out]))
       clear e1)
    | ((with_reducible refine (bytes_any kk W1).mono ?_)
       rintro e W2 ⟨rfl, b2⟩
       have g2 := Lib.hid (g1.out.later b2)
       clear b2)
    | ((with_reducible refine (bytes_any e W2).mono ?_)
       rintro e W3 ⟨rfl, b3⟩
       have g3 := Lib.hid (g2.out.later b3)
       clear b3)
    | ((with_reducible refine at_store 90 ?_)
       refine wpList_store_row 90 (.tmp 8) (.tmp 13) rfl rfl W3.heap.size rfl (numV kk) rfl (fcells_one _ _ _) (by rw [num8_size]; exact row_size row_b8) _ 90 (heap_past _ _ _ _ (heap_new _ _ _ _ rfl)) (by rw [num8_size]; rfl) (fun W4 hC4 hA4 => ?_)
       have s3 := blk_lt g3.out.hd
       have g4 := Lib.hid ((g3.out.later (((Below.refl _ _).alloc (Nat.le_refl _) _).alloc (by rw [World.size_alloc]; omega) _)).apart hA4 (by omega) (by omega))
       have c4 := Lib.hid hC4
       have z4 := Lib.hid ((hA4.block (W3.heap.size + 1) (by simp) (by omega)).trans (heap_new _ _ _ _ (by rw [World.size_alloc])))
       have s3' := Lib.hid s3
       clear hC4 hA4 s3)
    | ((with_reducible refine at_store 90 ?_)
       go_loud (refine wpList_store_row 90 (.tmp 9) (.tmp 15) rfl rfl (W3.heap.size + 1) rfl (numV e) rfl (fcells_one _ _ _) (by rw [num8_size]; exact row_size row_b8) _ 90 z4.out (by rw [num8_size]; rfl) (fun W5 hC5 hA5 => ?_))
       obtain ⟨q8, hq8⟩ : ∃ q8, q8 = W3.heap.size := ⟨_, rfl⟩
       have g5 := Lib.hid (g4.out.apart hA5 (by have := s3'.out; omega) (by have := s3'.out; omega))
       have c5 := Lib.hid ((hA5.block W3.heap.size (blk_lt c4.out) (by omega)).trans c4.out)
       have z5 := Lib.hid hC5
       have s8 := Lib.hid (show n0 + 1 + 1 < q8 by rw [hq8]; exact s3'.out)
       rw [← hq8] at c5 z5 ⊢
       clear hC5 hA5 hq8)
    | ((with_reducible refine at_sliceC 90 ?_); refine wpList_value (by rfl) (.slice (some ⟨q8, 0, none⟩) 4 8) (run_acut_to _ 90 5 8 (.tmp 8) _ rfl Tryd.underlying90 1 sz_u8 q8 0 rfl .i64 4 rfl (by omega)) ?_)
    | ((with_reducible refine at_sliceC 90 ?_); refine wpList_value (by rfl) (.slice (some ⟨q8 + 1, 0, none⟩) 8 8) (run_acut_all _ 90 5 8 (.tmp 9) rfl Tryd.underlying90 1 sz_u8 (q8 + 1) 0 rfl) ?_)
    | ((with_reducible refine at_sliceC 24 ?_); go_loud (refine wpList_value (by rfl) (.slice (some ⟨n0, 723 + r * 32, none⟩) 32 32) (run_acut_all _ 24 5 32 (.tmp 29) rfl Tryd.underlying24 1 sz_u8 n0 (723 + r * 32) rfl) ?_))
    | ((with_reducible refine (write0_any (n0 + 1 + 1) q8 0 8 (le4 kk) _ g5.out.hd (row_le4 c5.out) (Nat.ne_of_gt s8.out) 4 l4.out (by omega)).mono ?_)
       rintro e W6 ⟨rfl, h6, x6⟩
       have g6 := Lib.hid (g5.out.wrote x6 (by omega) h6)
       have z6 := Lib.hid ((x6.block (q8 + 1) (blk_lt z5.out) (by have := s8.out; omega)).trans z5.out)
       clear h6 x6)
    | ((with_reducible refine (write1_any (n0 + 1 + 1) (q8 + 1) 0 8 (le4 kk) (le8 e) _ g6.out.hd (row_le8 z6.out) (Nat.ne_of_gt (Nat.lt_succ_of_lt s8.out)) 4 8 l4.out l8.out (by omega) (by omega)).mono ?_)
       rintro e W7 ⟨rfl, h7, x7⟩
       have g7 := Lib.hid (g6.out.wrote x7 (by omega) h7)
       clear h7 x7)
    | ((with_reducible refine (write1_any (n0 + 1 + 1) n0 (723 + r * 32) 32 (le4 kk ++ le8 e) (mixL mx r) _ g7.out.hd (row_mix g7.out.hx hmix.out hr8) (by omega) 12 32 l12.out l32.out (by omega) (by omega)).mono ?_)
       rintro e W8 ⟨rfl, h8, x8⟩
       have g8 := Lib.hid (g7.out.wrote x8 (by omega) h8)
       clear h8 x8)
    | ((with_reducible refine (dsum_any (n0 + 1 + 1) (le4 kk ++ le8 e ++ mixL mx r) _ g8.out.hd hok.out 44 l44.out (by omega) (hT.out.below (n := n0) (by rw [hn0'.out]; exact hT3) g8.out.below)).mono ?_)
       rintro e W9 ⟨rfl, b9⟩
       rw [hbs.out]
       have g9 := Lib.hid (g8.out.later b9)
       clear b9)
    | ((with_reducible refine at_store 24 ?_); go_loud (refine wpList_store_row_gen 24 _ _ rfl rfl (n0 + 1) rfl (rootV (seedS mx kk e)) rfl (fcells_one _ _ _) (by rw [row_size row_root]; simp [fcells]) _ 24 g9.out.hr (by simp [fcells]) (Nat.le_succ n0) g9.out.below (fun W10 hW10 hBW _ => ?_))))
  exact ret_cell rfl (n0 + 1) 0 (fcells 32 (fun _ => .u8) (seedS mx kk e)) _ rfl hW10 Tryd.underlying24 rfl (by rw [row_size row_root, fcells_length]) rfl ⟨rfl, hn0'.out ▸ hBW⟩
end Go.Proofs.YtfnjcpopadpmbaaDoor
namespace Go.Proofs.YtfnjcpopadpmbaaDoor
open Go.RowKit BigFrame
set_option maxRecDepth 100000
/-- How many committees a slot has. -/
def cntN (n : Nat) : Nat := if n / 8 < 1 then 1 else if 2 < n / 8 then 2 else n / 8
theorem cntN_ge (n : Nat) : 1 ≤ cntN n ∧ cntN n ≤ 2 := by unfold cntN; split <;> (try split) <;> omega
set_option maxHeartbeats 1000000 in
theorem count_any (n : Nat) (hn : n ≤ 1000000) (w : World) :
    Calls Tryd.prog 19 #[.int .i64 (n : Int)] w fun e w' => e = .returned (.int .u64 (cntN n : Nat)) ∧ w = w' := by
  have wn : IntKind.u64.wrap (n : Int) = (n : Int) := by rw [IntKind.wrap_u64]; omega
  obtain ⟨q, hq⟩ : ∃ q, q = n / 8 := ⟨_, rfl⟩
  have hqI : (n : Int) / 8 = (q : Int) := by omega
  by_cases c : q ≤ 1
  · have hc : cntN n = 1 := by unfold cntN; rw [← hq]; split <;> (try split) <;> omega
    rw [hc]
    have h1 : ¬ ((1 : Int) < (q : Int)) := by omega
    clear hq hc c
    go_enter Tryd.func19, Tryd.ntmps19
    go_wp2
    all_goals first
      | exact ret_t1 rfl _ rfl rfl ⟨rfl, rfl⟩
      | (exfalso; omega)
  · have hc : cntN n = 2 := by unfold cntN; rw [← hq]; split <;> (try split) <;> omega
    rw [hc]
    have h1 : (1 : Int) < (q : Int) := by omega
    have h2 : ¬ ((q : Int) < 2) := by omega
    clear hq hc c
    go_enter Tryd.func19, Tryd.ntmps19
    go_wp2
    all_goals first
      | exact ret_t1 rfl _ rfl rfl ⟨rfl, rfl⟩
      | (exfalso; omega)
theorem row_state : rowB Tryd.prog 49 1957 = true := by kernel_rfl
set_option maxHeartbeats 4000000 in
theorem Count_any (xs : Array Value) (vs : List (Nat → Int)) (mx : Nat → Int) (e : Int) (w : World) (h : VsRep w xs vs mx) (hN2 : vs.length ≤ 65536) :
    Calls Tryd.prog 8 #[.agg xs, .int .u64 e] w fun r w' => r = .returned (.int .u64 (cntN (actL vs e).length : Nat)) ∧ Below w.heap.size w w' := by
  have hrow := Lib.hid (show (Tryd.prog.info? 49).map (·.size) = some xs.size by rw [h.size]; exact row_size row_state)
  have hb1 : Below w.heap.size w (w.alloc (.cells xs 49)) := (Below.refl _ _).alloc (Nat.le_refl _) _
  have hac := Lib.hid (actives_any xs vs mx e _ (h.later hb1) vs.length rfl hN2)
  obtain ⟨L, hL⟩ : ∃ L, L = actL vs e := ⟨_, rfl⟩
  have hl : L.length ≤ 1000000 := by rw [hL]; have := actL_length vs e; omega
  rw [← hL] at hac ⊢
  have hB1 := Lib.hid hb1
  clear h hL hb1
  go_enter Tryd.func8, Tryd.ntmps8
  go_wp2_with (first
    | ((with_reducible refine at_load 49 ?_); go_loud (refine wpList_value (by rfl) _ (run_load_box _ 49 (.tmp 2) rfl w.heap.size rfl _ xs (0, 0) _ (heap_new _ _ _ _ rfl) Tryd.underlying49 rfl hrow.out) ?_))
    | ((with_reducible refine hac.out.mono ?_)
       rintro r W1 ⟨v, rfl, hO, _, b1⟩
       obtain ⟨va, cv, rfl, _⟩ := own_form hO
       have B2 := Lib.hid (hB1.out.trans (b1.mono (by simp)))
       clear hO b1)
    | ((with_reducible refine (count_any L.length hl _).mono ?_)
       rintro r W2 ⟨rfl, rfl⟩))
  exact ret_t1 rfl _ rfl rfl ⟨rfl, B2.out⟩
end Go.Proofs.YtfnjcpopadpmbaaDoor
namespace Go.Proofs.YtfnjcpopadpmbaaDoor
open Go.RowKit BigFrame
set_option maxRecDepth 100000
/-- Part k of s of a list of n. -/
def segL (L : List Int) (n s k : Nat) : List Int := (L.drop (cut n s k)).take (cut n s (k + 1) - cut n s k)
theorem segL_length {L : List Int} {n s k : Nat} (hL : L.length = n) (hs : 0 < s) (hk : k < s) : (segL L n s k).length = cut n s (k + 1) - cut n s k := by
  have h1 := cut_le (n := n) hs (show k + 1 ≤ s by omega)
  have h2 := (cut_step (n := n) (k := k) hs).1
  unfold segL
  rw [List.length_take, List.length_drop, hL]
  omega
theorem segL_get {L : List Int} {n s k j : Nat} (hL : L.length = n) (hs : 0 < s) (hk : k < s) (hj : j < cut n s (k + 1) - cut n s k) : (segL L n s k).getD j 0 = L.getD (cut n s k + j) 0 := by
  unfold segL
  simp only [List.getD, List.getElem?_take_of_lt hj, List.getElem?_drop]
/-- x[lo:hi] of a slice. -/
theorem run_scut_mid {P : Program} {ρ : Operand → Value} {o : Oper} (w : World) (t e : TypeId) (x y z : Operand) (ho : o.op = .slice t x (some y) (some z) none) (hu : P.underlying t = some (.slice e)) (sz : Nat) (hsz : (P.info? e).map (·.size) = some sz) (b off len cap lo hi : Nat) (hx : ρ x = .slice (some ⟨b, off, none⟩) len cap) (k1 k2 : IntKind) (hy : ρ y = .int k1 (lo : Int)) (hz : ρ z = .int k2 (hi : Int)) (h1 : lo ≤ hi) (h2 : hi ≤ cap) :
    (execOp ρ o).run P w = .ok (.value (.slice (some ⟨b, if cap = lo then off else off + lo * sz, none⟩) (hi - lo) (cap - lo))) w := by
  have e1 : (0 : Int) ≤ (lo : Int) := by omega
  have e2 : (lo : Int) ≤ (hi : Int) := by omega
  have e3 : (0 : Int) ≤ (hi : Int) := by omega
  have e4 : (hi : Int) ≤ (cap : Int) := by omega
  unfold execOp
  simp only [ho, hx, hy, hz, Option.map_some, Option.map_none, Instr.sliceAt, Instr.slice, Instr.sliceBounds, Instr.sliceBound, asIntOf, Sem.run_bind, Sem.run_pure, Result.andThen_ok, run_underlying hu, size_of hsz, if_pos (And.intro e1 e2), if_pos (And.intro e3 e4), Int.toNat_natCast, Addr.add_mid]
  by_cases c : cap = lo
  · simp only [if_pos c]
  · simp only [if_neg c, Option.map_some]
theorem OwU.range {base g n cap : Nat} {l : List Int} {w : World} (h : OwU base (.slice (some ⟨g, 0, none⟩) n cap) l w) : w.rangeAt g 0 (l.map (Value.int .u64)) := fun j v hv => by
  have hj : j < l.length := by have := (List.getElem?_eq_some_iff.1 hv).1; simpa using this
  rw [Nat.zero_add, h.cell j hj]
  rw [List.getElem?_map] at hv
  simp [List.getD, hj] at hv ⊢
  exact hv
theorem OwU.cap {base g n cap : Nat} {l : List Int} {w : World} (h : OwU base (.slice (some ⟨g, 0, none⟩) n cap) l w) : l.length ≤ cap := by
  rcases h.2 with ⟨h', _⟩ | ⟨g', cap', cur, h', hb, hg, hnc, _⟩
  · cases h'
  · cases h'; exact hnc
theorem OwU.seg {base g n cap s k : Nat} {l : List Int} {w : World} (h : OwU base (.slice (some ⟨g, 0, none⟩) n cap) l w) (hl : l.length = n) (hs : 0 < s) (hk : k < s) :
    w.rangeAt g (if cap = cut n s k then 0 else 0 + cut n s k * 1) ((segL l n s k).map (Value.int .u64)) := fun j v hv => by
  have hj : j < (segL l n s k).length := by have := (List.getElem?_eq_some_iff.1 hv).1; simpa using this
  have hj2 := hj
  rw [segL_length hl hs hk] at hj2
  have hc := h.cap
  have h1 := cut_le (n := n) hs (show k + 1 ≤ s by omega)
  rw [if_neg (by omega), show 0 + cut n s k * 1 + j = cut n s k + j by omega, h.cell _ (by omega), ← segL_get hl hs hk hj2]
  rw [List.getElem?_map] at hv
  simp [List.getD, hj] at hv ⊢
  exact hv
theorem wp_callV {P : Program} {o : Oper} {a : Act} {K : Act → World → Prop} {Q : Exit → Act → World → Prop} {w : World} (f : FuncId) (args : Array Value) (he : (execOp a.eval o).run P w = .ok (.enter f args) w) (R : Value → World → Prop)
    (hc : Calls P f args w fun e w' => ∃ v, e = .returned v ∧ R v w') (h : ∀ v w', R v w' → K (a.put o.dst v) w') : o.wp P a w K Q := by
  unfold Oper.wp
  rw [he]
  simp only [Oper.upon]
  exact hc.mono fun e w' ⟨v, h1, h2⟩ => by subst h1; exact h v w' h2
set_option maxHeartbeats 4000000 in
theorem of_bad (xs : Array Value) (vs : List (Nat → Int)) (mx : Nat → Int) (slot idx n : Nat) (hslot : slot ≤ 18446744073709551615) (w : World) (h : VsRep w xs vs mx) (hN2 : vs.length ≤ 65536) (hT0 : TabC w) (hn : (actL vs ((slot / 4 : Nat) : Int)).length = n) (hix : cntN n ≤ idx) :
    Calls Tryd.prog 9 #[.agg xs, .int .u64 (slot : Int), .int .u64 (idx : Int)] w fun r w' => r = .returned (.tuple #[.slice none 0 0, .int .i64 1]) ∧ Below w.heap.size w w' := by
  have hrow := Lib.hid (show (Tryd.prog.info? 49).map (·.size) = some xs.size by rw [h.size]; exact row_size row_state)
  have hb1 : Below w.heap.size w (w.alloc (.cells xs 49)) := (Below.refl _ _).alloc (Nat.le_refl _) _
  have hac := Lib.hid (actives_any xs vs mx ((slot / 4 : Nat) : Int) _ (h.later hb1) vs.length rfl hN2)
  have hvs := Lib.hid (h.later hb1)
  have hT := Lib.hid hT0
  have hT3 := hT0.size
  have hB1 := Lib.hid hb1
  have hs4 : (slot : Int) / 4 = ((slot / 4 : Nat) : Int) := by omega
  have hsm : (slot : Int) % 4 = ((slot % 4 : Nat) : Int) := by omega
  have hse : slot / 4 ≤ 4611686018427387904 := by omega
  have hsm4 : slot % 4 < 4 := by omega
  generalize slot / 4 = ep at *
  generalize slot % 4 = sm at *
  obtain ⟨L, hL⟩ : ∃ L, L = actL vs (ep : Int) := ⟨_, rfl⟩
  have hLn : L.length ≤ 65536 := by rw [hL]; have := actL_length vs (ep : Int); omega
  rw [← hL] at hac hn
  have hL' := Lib.hid hL
  have hn' := Lib.hid hn
  clear h hb1 hT0 hL
  have hn6 : n ≤ 65536 := by have := hn'.out; omega
  rw [hn] at hLn
  clear hn
  have hcn := cntN_ge n
  have hct := Lib.hid (fun W => count_any n (by omega) W)
  obtain ⟨c, hc⟩ : ∃ c, c = cntN n := ⟨_, rfl⟩
  have hc' := Lib.hid hc
  rw [← hc] at hcn hct hix
  clear hc
  have hixI : (c : Int) ≤ (idx : Int) := by omega
  go_enter Tryd.func9, Tryd.ntmps9
  go_wp2_with (first
    | ((with_reducible refine hac.out.mono ?_)
       rintro r W1 ⟨v, rfl, hO, hZ, b1⟩
       obtain ⟨va, cv, rfl, _⟩ := own_form hO
       rw [hn'.out]
       have B2 := Lib.hid (hB1.out.trans (b1.mono (by simp)))
       clear hO hZ b1)
    | ((with_reducible refine at_load 49 ?_); refine wpList_value (by rfl) _ (run_load_box _ 49 (.tmp 3) rfl w.heap.size rfl _ xs (0, 0) _ (heap_new _ _ _ _ rfl) Tryd.underlying49 rfl hrow.out) ?_)
    | ((with_reducible refine hct.out _ |>.mono ?_)
       rintro r W ⟨rfl, rfl⟩)
    )
  exact ret_t2 rfl _ _ rfl rfl rfl ⟨rfl, B2.out⟩
set_option maxHeartbeats 8000000 in
theorem of_some (xs : Array Value) (vs : List (Nat → Int)) (mx : Nat → Int) (slot idx n : Nat) (hslot : slot ≤ 18446744073709551615) (w : World) (h : VsRep w xs vs mx) (hN2 : vs.length ≤ 65536) (hT0 : TabC w) (hn : (actL vs ((slot / 4 : Nat) : Int)).length = n) (hix : idx < cntN n) (h0 : 0 < n) :
    Calls Tryd.prog 9 #[.agg xs, .int .u64 (slot : Int), .int .u64 (idx : Int)] w fun r w' => ∃ v, r = .returned (.tuple #[v, .int .i64 0]) ∧ OwU w.heap.size v (segL (shufL (seedS mx 1 ((slot / 4 : Nat) : Int)) (actL vs ((slot / 4 : Nat) : Int))) n (4 * cntN n) (slot % 4 * cntN n + idx)) w' ∧ Below w.heap.size w w' := by
  have hrow := Lib.hid (show (Tryd.prog.info? 49).map (·.size) = some xs.size by rw [h.size]; exact row_size row_state)
  have hb1 : Below w.heap.size w (w.alloc (.cells xs 49)) := (Below.refl _ _).alloc (Nat.le_refl _) _
  have hac := Lib.hid (actives_any xs vs mx ((slot / 4 : Nat) : Int) _ (h.later hb1) vs.length rfl hN2)
  have hvs := Lib.hid (h.later hb1)
  have hT := Lib.hid hT0
  have hT3 := hT0.size
  have hB1 := Lib.hid hb1
  have hs4 : (slot : Int) / 4 = ((slot / 4 : Nat) : Int) := by omega
  have hsm : (slot : Int) % 4 = ((slot % 4 : Nat) : Int) := by omega
  have hse : slot / 4 ≤ 4611686018427387904 := by omega
  have hsm4 : slot % 4 < 4 := by omega
  generalize slot / 4 = ep at *
  generalize slot % 4 = sm at *
  obtain ⟨L, hL⟩ : ∃ L, L = actL vs (ep : Int) := ⟨_, rfl⟩
  have hLn : L.length ≤ 65536 := by rw [hL]; have := actL_length vs (ep : Int); omega
  rw [← hL] at hac hn
  have hL' := Lib.hid hL
  have hn' := Lib.hid hn
  clear h hb1 hT0 hL
  have hn6 : n ≤ 65536 := by have := hn'.out; omega
  rw [hn] at hLn
  clear hn
  have hcn := cntN_ge n
  have hct := Lib.hid (fun W => count_any n (by omega) W)
  obtain ⟨c, hc⟩ : ∃ c, c = cntN n := ⟨_, rfl⟩
  have hc' := Lib.hid hc
  rw [← hc] at hcn hct hix
  clear hc
  rw [← hc'.out, ← hL'.out]
  have hixI : (idx : Int) < (c : Int) := by omega
  obtain ⟨sd, hsd⟩ : ∃ sd, sd = seedS mx 1 (ep : Int) := ⟨_, rfl⟩
  have hsR := Lib.hid (show IsR sd by rw [hsd]; exact seedS_is _ _ _)
  have hse' := Lib.hid (fun W (hb : Below (w.heap.size + 1) (w.alloc (.cells xs 49)) W) => seed_any xs vs mx (ep : Int) 1 (by omega) (by omega) (by omega) (by omega) W (hvs.out.later (by rw [World.size_alloc]; exact hb)) (hT.out.below (n := w.heap.size) hT3 (hB1.out.trans (hb.mono (Nat.le_succ _)))))
  rw [← hsd] at hse' ⊢
  obtain ⟨s, hs⟩ : ∃ s, s = 4 * c := ⟨_, rfl⟩
  obtain ⟨k, hk⟩ : ∃ k, k = sm * c + idx := ⟨_, rfl⟩
  have hks : k < s := by
    have : sm * c ≤ 3 * c := Nat.mul_le_mul_right c (by omega)
    omega
  have hs0 : 0 < s := by omega
  have hs8 : s ≤ 8 := by omega
  rw [← hs, ← hk]
  have wc4 : IntKind.u64.wrap ((c : Int) * 4) = (s : Int) := by rw [IntKind.wrap_u64]; omega
  have wsc : IntKind.u64.wrap ((sm : Int) * (c : Int)) = ((sm * c : Nat) : Int) := by
    have h1 : ((sm : Int) * (c : Int)) = ((sm * c : Nat) : Int) := by simp
    have h2 : sm * c ≤ 3 * c := Nat.mul_le_mul_right c (by omega)
    rw [IntKind.wrap_u64, h1]
    omega
  have wk0 : IntKind.u64.wrap (((sm * c : Nat) : Int) + (idx : Int)) = (k : Int) := by rw [IntKind.wrap_u64]; omega
  have wnk : IntKind.u64.wrap ((n : Int) * (k : Int)) = ((n * k : Nat) : Int) := by
    have h1 : ((n : Int) * (k : Int)) = ((n * k : Nat) : Int) := by simp
    have h2 : n * k ≤ 65536 * 8 := Nat.mul_le_mul hn6 (by omega)
    rw [IntKind.wrap_u64, h1]
    omega
  have wk1 : IntKind.u64.wrap ((k : Int) + 1) = ((k + 1 : Nat) : Int) := by rw [IntKind.wrap_u64]; omega
  have wnk1 : IntKind.u64.wrap ((n : Int) * ((k + 1 : Nat) : Int)) = ((n * (k + 1) : Nat) : Int) := by
    have h1 : ((n : Int) * ((k + 1 : Nat) : Int)) = ((n * (k + 1) : Nat) : Int) := by simp
    have h2 : n * (k + 1) ≤ 65536 * 8 := Nat.mul_le_mul hn6 (by omega)
    rw [IntKind.wrap_u64, h1]
    omega
  have q1 : ((n * k : Nat) : Int) / (s : Int) = (cut n s k : Nat) := by unfold cut; rw [Int.natCast_ediv]
  have q2 : ((n * (k + 1) : Nat) : Int) / (s : Int) = (cut n s (k + 1) : Nat) := by unfold cut; rw [Int.natCast_ediv]
  have hcs := (cut_step (n := n) (k := k) hs0).1
  have hcl := cut_le (n := n) hs0 (show k + 1 ≤ s by omega)
  have hsI : (s : Int) ≠ 0 := by omega
  have hwn : IntKind.u64.wrap (n : Int) = (n : Int) := by rw [IntKind.wrap_u64]; omega
  have hsl := Lib.hid (show (shufL sd L).length = n by rw [shufL_length]; exact hn'.out)
  have hsg := Lib.hid (segL_length (L := shufL sd L) (k := k) hsl.out hs0 hks)
  have gck := Lib.hid hk
  have gcs := Lib.hid hs
  clear hk hs hsd hix hslot
  generalize n * k = nk at *
  generalize n * (k + 1) = nk1 at *
  generalize sm * c = smc at *
  obtain ⟨lo, hlo⟩ : ∃ lo, lo = cut n s k := ⟨_, rfl⟩
  obtain ⟨hi, hhi⟩ : ∃ hi, hi = cut n s (k + 1) := ⟨_, rfl⟩
  rw [← hlo] at q1 hcs hsg
  rw [← hhi] at q2 hcs hcl hsg
  have glo := Lib.hid hlo
  have ghi := Lib.hid hhi
  clear hlo hhi
  generalize k + 1 = k1 at *
  have hsn : s ≠ 0 := by omega
  have wlo : IntKind.u64.wrap (lo : Int) = (lo : Int) := by rw [IntKind.wrap_u64]; omega
  have whi : IntKind.u64.wrap (hi : Int) = (hi : Int) := by rw [IntKind.wrap_u64]; omega
  go_enter Tryd.func9, Tryd.ntmps9
  go_wp2_with (first
    | ((with_reducible refine hac.out.mono ?_)
       rintro r W1 ⟨v, rfl, hO, hZ, b1⟩
       obtain ⟨g, cv, rfl, hg1, hg2⟩ := hO.some_form hn'.out h0
       rw [World.size_alloc] at b1
       have O1 := Lib.hid hO
       have X1 := Lib.hid ((b1.block w.heap.size (by omega)).trans (heap_new w xs 49 _ rfl))
       have B1 := Lib.hid b1
       have Z1 := Lib.hid (show w.heap.size + 1 ≤ W1.heap.size by have := b1.size; rw [World.size_alloc] at this; exact this)
       clear hO hZ b1)
    | ((with_reducible refine at_load 49 ?_); refine wpList_value (by rfl) _ (run_load_box _ 49 (.tmp 3) rfl w.heap.size rfl _ xs (0, 0) _ X1.out Tryd.underlying49 rfl hrow.out) ?_)
    | ((with_reducible refine at_load 49 ?_); refine wpList_value (by rfl) _ (run_load_box _ 49 (.tmp 3) rfl w.heap.size rfl _ xs (0, 0) _ (heap_new _ _ _ _ rfl) Tryd.underlying49 rfl hrow.out) ?_)
    | ((with_reducible refine hct.out _ |>.mono ?_)
       rintro r W ⟨rfl, rfl⟩)
    | ((with_reducible refine (hse'.out W1 B1.out).mono ?_)
       rintro r W2 ⟨rfl, b2⟩
       have O2 := Lib.hid (O1.out.later b2)
       have B2 := Lib.hid (hB1.out.trans ((B1.out.mono (Nat.le_succ _)).trans (b2.mono (by have := Z1.out; omega))))
       have hli := Lib.hid (list_some sd hsR.out L n hn'.out h0 hn6 g 0 cv W2 O2.out.range (hT.out.below (n := w.heap.size) hT3 B2.out))
       have Z2 := Lib.hid (Nat.le_trans (show w.heap.size ≤ W1.heap.size by have := Z1.out; omega) b2.size)
       clear b2)
    | ((with_reducible refine hli.out.mono ?_)
       rintro r W3 ⟨v3, rfl, hO3, b3⟩
       obtain ⟨g3, c3, rfl, hg31, hg32⟩ := hO3.some_form hsl.out h0
       have O3 := Lib.hid hO3
       have B3 := Lib.hid (B2.out.trans (b3.mono Z2.out))
       have Z3 := Lib.hid (Nat.le_trans Z2.out b3.size)
       clear hO3 b3))
  have hseg := O3.out.seg hsl.out hs0 hks
  rw [← glo.out] at hseg
  have hcap := O3.out.cap
  rw [hsl.out] at hcap
  refine wp_region_held (S := fun _ => True) (by kernel_rfl) ?_
  have hS : True := trivial
  have hcl2 := Lib.hid (clone_some (segL (shufL sd L) n s k) g3 (if c3 = lo then 0 else 0 + lo * 1) (c3 - lo) { W3 with drawn := W3.drawn + 1 } hseg (by rw [hsg.out]; omega))
  rw [hsg.out] at hcl2
  clear hseg
  refine takeL (i := 0) (v := (.slice (some ⟨g3, 0, none⟩) n c3)) rfl (by kernel_rfl) (by kernel_rfl) (by kernel_rfl) (fun _ _ _ h => h) rfl (by assumption) (fun w' hS' => by go_simp) ?_
  simp only [Act.put, List.setIfInBounds_toArray, List.set_cons_zero, List.set_cons_succ]
  refine takeL (i := 1) (v := (.int .u64 (n : Int))) rfl (by kernel_rfl) (by kernel_rfl) (by kernel_rfl) (fun _ _ _ h => h) rfl (by assumption) (fun w' hS' => by go_simp) ?_
  simp only [Act.put, List.setIfInBounds_toArray, List.set_cons_zero, List.set_cons_succ]
  refine takeL (i := 2) (v := (.int .u64 (k : Int))) rfl (by kernel_rfl) (by kernel_rfl) (by kernel_rfl) (fun _ _ _ h => h) rfl (by assumption) (fun w' hS' => by go_simp) ?_
  simp only [Act.put, List.setIfInBounds_toArray, List.set_cons_zero, List.set_cons_succ]
  refine takeL (i := 3) (v := (.int .u64 (nk : Int))) rfl (by kernel_rfl) (by kernel_rfl) (by kernel_rfl) (fun _ _ _ h => h) rfl (by assumption) (fun w' hS' => by go_simp) ?_
  simp only [Act.put, List.setIfInBounds_toArray, List.set_cons_zero, List.set_cons_succ]
  refine takeL (i := 4) (v := (.int .u64 (s : Int))) rfl (by kernel_rfl) (by kernel_rfl) (by kernel_rfl) (fun _ _ _ h => h) rfl (by assumption) (fun w' hS' => by go_simp) ?_
  simp only [Act.put, List.setIfInBounds_toArray, List.set_cons_zero, List.set_cons_succ]
  refine takeL (i := 5) (v := (.int .u64 (lo : Int))) rfl (by kernel_rfl) (by kernel_rfl) (by kernel_rfl) (fun _ _ _ h => h) rfl (by assumption) (fun w' hS' => by go_simp) ?_
  simp only [Act.put, List.setIfInBounds_toArray, List.set_cons_zero, List.set_cons_succ]
  refine takeL (i := 6) (v := (.int .u64 (n : Int))) rfl (by kernel_rfl) (by kernel_rfl) (by kernel_rfl) (fun _ _ _ h => h) rfl (by assumption) (fun w' hS' => by go_simp) ?_
  simp only [Act.put, List.setIfInBounds_toArray, List.set_cons_zero, List.set_cons_succ]
  refine takeL (i := 7) (v := (.int .u64 (k : Int))) rfl (by kernel_rfl) (by kernel_rfl) (by kernel_rfl) (fun _ _ _ h => h) rfl (by assumption) (fun w' hS' => by go_simp) ?_
  simp only [Act.put, List.setIfInBounds_toArray, List.set_cons_zero, List.set_cons_succ]
  refine takeL (i := 8) (v := (.int .u64 (k1 : Int))) rfl (by kernel_rfl) (by kernel_rfl) (by kernel_rfl) (fun _ _ _ h => h) rfl (by assumption) (fun w' hS' => by go_simp) ?_
  simp only [Act.put, List.setIfInBounds_toArray, List.set_cons_zero, List.set_cons_succ]
  refine takeL (i := 9) (v := (.int .u64 (nk1 : Int))) rfl (by kernel_rfl) (by kernel_rfl) (by kernel_rfl) (fun _ _ _ h => h) rfl (by assumption) (fun w' hS' => by go_simp) ?_
  simp only [Act.put, List.setIfInBounds_toArray, List.set_cons_zero, List.set_cons_succ]
  refine takeL (i := 10) (v := (.int .u64 (s : Int))) rfl (by kernel_rfl) (by kernel_rfl) (by kernel_rfl) (fun _ _ _ h => h) rfl (by assumption) (fun w' hS' => by go_simp) ?_
  simp only [Act.put, List.setIfInBounds_toArray, List.set_cons_zero, List.set_cons_succ]
  refine takeL (i := 11) (v := (.int .u64 (hi : Int))) rfl (by kernel_rfl) (by kernel_rfl) (by kernel_rfl) (fun _ _ _ h => h) rfl (by assumption) (fun w' hS' => by go_simp) ?_
  simp only [Act.put, List.setIfInBounds_toArray, List.set_cons_zero, List.set_cons_succ]
  refine takeL (i := 12) (v := (.slice (some ⟨g3, if c3 = lo then 0 else 0 + lo * 1, none⟩) (hi - lo) (c3 - lo))) rfl (by kernel_rfl) (by kernel_rfl) (by kernel_rfl) (fun _ _ _ h => h) rfl (by assumption) (fun w' hS' => run_scut_mid w' 37 22 (.tmp 46) (.tmp 51) (.tmp 57) rfl Tryd.underlying37 1 sz_u64 g3 0 n c3 lo hi rfl .u64 .u64 rfl rfl hcs (by omega)) ?_
  simp only [Act.put, List.setIfInBounds_toArray, List.set_cons_zero, List.set_cons_succ]
  refine takeL (i := 14) (v := (.int .i64 0)) rfl (by kernel_rfl) (by kernel_rfl) (by kernel_rfl) (fun _ _ _ h => h) rfl (by assumption) (fun w' hS' => by go_simp) ?_
  simp only [Act.put, List.setIfInBounds_toArray, List.set_cons_zero, List.set_cons_succ]
  generalize (if c3 = lo then 0 else 0 + lo * 1) = off at *
  refine oneL (i := 13) rfl (by kernel_rfl) rfl (wp_callV 23 #[.slice (some ⟨g3, off, none⟩) (hi - lo) (c3 - lo)] (by go_simp) _ hcl2.out ?_)
  rintro v4 W4 ⟨hO4, b4⟩
  refine ⟨trivial, ?_⟩
  have O4 := Lib.hid (hO4.weak (show w.heap.size ≤ _ from Z3.out))
  have B4 := Lib.hid (show Below w.heap.size w W4 from B3.out.drew.trans (b4.mono Z3.out))
  simp only [Act.put, List.setIfInBounds_toArray, List.set_cons_zero, List.set_cons_succ]
  refine takeL (i := 15) (v := v4) rfl (by kernel_rfl) (by kernel_rfl) (by kernel_rfl) (fun _ _ _ h => h) rfl (by assumption) (fun w' hS' => by go_simp) ?_
  simp only [Act.put, List.setIfInBounds_toArray, List.set_cons_zero, List.set_cons_succ]
  refine takeL (i := 16) (v := (.int .i64 0)) rfl (by kernel_rfl) (by kernel_rfl) (by kernel_rfl) (fun _ _ _ h => h) rfl (by assumption) (fun w' hS' => by go_simp) ?_
  simp only [Act.put, List.setIfInBounds_toArray, List.set_cons_zero, List.set_cons_succ]
  refine wpAnyH_done (by kernel_rfl) ?_ _
  clear hO4 b4 hcl2
  go_wp2
  exact ret_t2 rfl _ _ rfl rfl rfl ⟨_, rfl, O4.out, B4.out⟩
set_option maxHeartbeats 8000000 in
theorem of_nil (xs : Array Value) (vs : List (Nat → Int)) (mx : Nat → Int) (slot idx n : Nat) (hslot : slot ≤ 18446744073709551615) (w : World) (h : VsRep w xs vs mx) (hN2 : vs.length ≤ 65536) (hT0 : TabC w) (hn : (actL vs ((slot / 4 : Nat) : Int)).length = n) (hix : idx < cntN n) (h0 : n = 0) :
    Calls Tryd.prog 9 #[.agg xs, .int .u64 (slot : Int), .int .u64 (idx : Int)] w fun r w' => r = .returned (.tuple #[.slice none 0 0, .int .i64 0]) ∧ Below w.heap.size w w' := by
  have hrow := Lib.hid (show (Tryd.prog.info? 49).map (·.size) = some xs.size by rw [h.size]; exact row_size row_state)
  have hb1 : Below w.heap.size w (w.alloc (.cells xs 49)) := (Below.refl _ _).alloc (Nat.le_refl _) _
  have hac := Lib.hid (actives_any xs vs mx ((slot / 4 : Nat) : Int) _ (h.later hb1) vs.length rfl hN2)
  have hvs := Lib.hid (h.later hb1)
  have hT := Lib.hid hT0
  have hT3 := hT0.size
  have hB1 := Lib.hid hb1
  have hs4 : (slot : Int) / 4 = ((slot / 4 : Nat) : Int) := by omega
  have hsm : (slot : Int) % 4 = ((slot % 4 : Nat) : Int) := by omega
  have hse : slot / 4 ≤ 4611686018427387904 := by omega
  have hsm4 : slot % 4 < 4 := by omega
  generalize slot / 4 = ep at *
  generalize slot % 4 = sm at *
  obtain ⟨L, hL⟩ : ∃ L, L = actL vs (ep : Int) := ⟨_, rfl⟩
  have hLn : L.length ≤ 65536 := by rw [hL]; have := actL_length vs (ep : Int); omega
  rw [← hL] at hac hn
  have hL' := Lib.hid hL
  have hn' := Lib.hid hn
  clear h hb1 hT0 hL
  have hn6 : n ≤ 65536 := by have := hn'.out; omega
  rw [hn] at hLn
  clear hn
  have hcn := cntN_ge n
  have hct := Lib.hid (fun W => count_any n (by omega) W)
  obtain ⟨c, hc⟩ : ∃ c, c = cntN n := ⟨_, rfl⟩
  have hc' := Lib.hid hc
  rw [← hc] at hcn hct hix
  clear hc
  have hc1 : c = 1 := by rw [hc'.out, h0]; rfl
  have hL0 := Lib.hid (List.eq_nil_of_length_eq_zero (hn'.out.trans h0))
  subst h0 hc1
  have hi0 : idx = 0 := by omega
  subst hi0
  have hse' := Lib.hid (fun W (hb : Below (w.heap.size + 1) (w.alloc (.cells xs 49)) W) => seed_any xs vs mx (ep : Int) 1 (by omega) (by omega) (by omega) (by omega) W (hvs.out.later (by rw [World.size_alloc]; exact hb)) (hT.out.below (n := w.heap.size) hT3 (hB1.out.trans (hb.mono (Nat.le_succ _)))))
  obtain ⟨sd, hsd⟩ : ∃ sd, sd = seedS mx 1 (ep : Int) := ⟨_, rfl⟩
  rw [← hsd] at hse'
  clear hsd hslot hix
  have hct0 := Lib.hid (show ∀ W, Calls Tryd.prog 19 #[.int .i64 0] W (fun e w' => e = .returned (.int .u64 1) ∧ W = w') from fun W => hct.out W)
  have hsmI : (sm : Int) < 4 := by omega
  have wsm : IntKind.u64.wrap (sm : Int) = (sm : Int) := by rw [IntKind.wrap_u64]; omega
  have wz : IntKind.u64.wrap 0 = 0 := by rw [IntKind.wrap_u64]; rfl
  have wsm1 : IntKind.u64.wrap ((sm : Int) + 1) = (sm : Int) + 1 := by rw [IntKind.wrap_u64]; omega
  go_enter Tryd.func9, Tryd.ntmps9
  go_wp2_with (first
    | ((with_reducible refine hac.out.mono ?_)
       rintro r W1 ⟨v, rfl, hO, hZ, b1⟩
       obtain rfl := hZ hL0.out
       rw [World.size_alloc] at b1
       have X1 := Lib.hid ((b1.block w.heap.size (by omega)).trans (heap_new w xs 49 _ rfl))
       have B1 := Lib.hid b1
       have Z1 := Lib.hid (show w.heap.size + 1 ≤ W1.heap.size by have := b1.size; rw [World.size_alloc] at this; exact this)
       clear hO hZ b1)
    | ((with_reducible refine at_load 49 ?_); refine wpList_value (by rfl) _ (run_load_box _ 49 (.tmp 3) rfl w.heap.size rfl _ xs (0, 0) _ X1.out Tryd.underlying49 rfl hrow.out) ?_)
    | ((with_reducible refine at_load 49 ?_); refine wpList_value (by rfl) _ (run_load_box _ 49 (.tmp 3) rfl w.heap.size rfl _ xs (0, 0) _ (heap_new _ _ _ _ rfl) Tryd.underlying49 rfl hrow.out) ?_)
    | ((with_reducible refine hct.out _ |>.mono ?_)
       rintro r W ⟨rfl, rfl⟩)
    | ((with_reducible refine (hse'.out W1 B1.out).mono ?_)
       rintro r W2 ⟨rfl, b2⟩
       have B2 := Lib.hid (hB1.out.trans ((B1.out.mono (Nat.le_succ _)).trans (b2.mono (by have := Z1.out; omega))))
       have Z2 := Lib.hid (Nat.le_trans (show w.heap.size ≤ W1.heap.size by have := Z1.out; omega) b2.size)
       clear b2)
    | ((with_reducible refine (hct0.out _).mono ?_)
       rintro r W ⟨rfl, rfl⟩)
    | ((with_reducible refine (list_nil sd W2).mono ?_)
       rintro r W3 ⟨rfl, b3⟩
       have B3 := Lib.hid (B2.out.trans (b3.mono Z2.out))
       have Z3 := Lib.hid (Nat.le_trans Z2.out b3.size)
       clear b3))
  refine wp_region_held (S := fun _ => True) (by kernel_rfl) ?_
  have hS : True := trivial
  refine takeL (i := 0) (v := (.slice none 0 0)) rfl (by kernel_rfl) (by kernel_rfl) (by kernel_rfl) (fun _ _ _ h => h) rfl (by assumption) (fun w' hS' => by go_simp) ?_
  simp only [Act.put, List.setIfInBounds_toArray, List.set_cons_zero, List.set_cons_succ]
  refine takeL (i := 1) (v := (.int .u64 0)) rfl (by kernel_rfl) (by kernel_rfl) (by kernel_rfl) (fun _ _ _ h => h) rfl (by assumption) (fun w' hS' => by go_simp) ?_
  simp only [Act.put, List.setIfInBounds_toArray, List.set_cons_zero, List.set_cons_succ]
  refine takeL (i := 2) (v := (.int .u64 (sm : Int))) rfl (by kernel_rfl) (by kernel_rfl) (by kernel_rfl) (fun _ _ _ h => h) rfl (by assumption) (fun w' hS' => by go_simp) ?_
  simp only [Act.put, List.setIfInBounds_toArray, List.set_cons_zero, List.set_cons_succ]
  refine takeL (i := 3) (v := (.int .u64 0)) rfl (by kernel_rfl) (by kernel_rfl) (by kernel_rfl) (fun _ _ _ h => h) rfl (by assumption) (fun w' hS' => by go_simp) ?_
  simp only [Act.put, List.setIfInBounds_toArray, List.set_cons_zero, List.set_cons_succ]
  refine takeL (i := 4) (v := (.int .u64 4)) rfl (by kernel_rfl) (by kernel_rfl) (by kernel_rfl) (fun _ _ _ h => h) rfl (by assumption) (fun w' hS' => by go_simp) ?_
  simp only [Act.put, List.setIfInBounds_toArray, List.set_cons_zero, List.set_cons_succ]
  refine takeL (i := 5) (v := (.int .u64 0)) rfl (by kernel_rfl) (by kernel_rfl) (by kernel_rfl) (fun _ _ _ h => h) rfl (by assumption) (fun w' hS' => by go_simp) ?_
  simp only [Act.put, List.setIfInBounds_toArray, List.set_cons_zero, List.set_cons_succ]
  refine takeL (i := 6) (v := (.int .u64 0)) rfl (by kernel_rfl) (by kernel_rfl) (by kernel_rfl) (fun _ _ _ h => h) rfl (by assumption) (fun w' hS' => by go_simp) ?_
  simp only [Act.put, List.setIfInBounds_toArray, List.set_cons_zero, List.set_cons_succ]
  refine takeL (i := 7) (v := (.int .u64 (sm : Int))) rfl (by kernel_rfl) (by kernel_rfl) (by kernel_rfl) (fun _ _ _ h => h) rfl (by assumption) (fun w' hS' => by go_simp) ?_
  simp only [Act.put, List.setIfInBounds_toArray, List.set_cons_zero, List.set_cons_succ]
  refine takeL (i := 8) (v := (.int .u64 ((sm : Int) + 1))) rfl (by kernel_rfl) (by kernel_rfl) (by kernel_rfl) (fun _ _ _ h => h) rfl (by assumption) (fun w' hS' => by go_simp) ?_
  simp only [Act.put, List.setIfInBounds_toArray, List.set_cons_zero, List.set_cons_succ]
  refine takeL (i := 9) (v := (.int .u64 0)) rfl (by kernel_rfl) (by kernel_rfl) (by kernel_rfl) (fun _ _ _ h => h) rfl (by assumption) (fun w' hS' => by go_simp) ?_
  simp only [Act.put, List.setIfInBounds_toArray, List.set_cons_zero, List.set_cons_succ]
  refine takeL (i := 10) (v := (.int .u64 4)) rfl (by kernel_rfl) (by kernel_rfl) (by kernel_rfl) (fun _ _ _ h => h) rfl (by assumption) (fun w' hS' => by go_simp) ?_
  simp only [Act.put, List.setIfInBounds_toArray, List.set_cons_zero, List.set_cons_succ]
  refine takeL (i := 11) (v := (.int .u64 0)) rfl (by kernel_rfl) (by kernel_rfl) (by kernel_rfl) (fun _ _ _ h => h) rfl (by assumption) (fun w' hS' => by go_simp) ?_
  simp only [Act.put, List.setIfInBounds_toArray, List.set_cons_zero, List.set_cons_succ]
  refine takeL (i := 12) (v := (.slice none 0 0)) rfl (by kernel_rfl) (by kernel_rfl) (by kernel_rfl) (fun _ _ _ h => h) rfl (by assumption) (fun w' hS' => by go_simp) ?_
  simp only [Act.put, List.setIfInBounds_toArray, List.set_cons_zero, List.set_cons_succ]
  refine takeL (i := 14) (v := (.int .i64 0)) rfl (by kernel_rfl) (by kernel_rfl) (by kernel_rfl) (fun _ _ _ h => h) rfl (by assumption) (fun w' hS' => by go_simp) ?_
  simp only [Act.put, List.setIfInBounds_toArray, List.set_cons_zero, List.set_cons_succ]
  refine oneL (i := 13) rfl (by kernel_rfl) rfl (wp_call 23 #[.slice none 0 0] (by go_simp) _ _ (clone_nil _) ?_)
  rintro W4 rfl
  refine ⟨trivial, ?_⟩
  have B4 := Lib.hid (show Below w.heap.size w { W3 with drawn := W3.drawn + 1 } from B3.out.drew)
  simp only [Act.put, List.setIfInBounds_toArray, List.set_cons_zero, List.set_cons_succ]
  refine takeL (i := 15) (v := (.slice none 0 0)) rfl (by kernel_rfl) (by kernel_rfl) (by kernel_rfl) (fun _ _ _ h => h) rfl (by assumption) (fun w' hS' => by go_simp) ?_
  simp only [Act.put, List.setIfInBounds_toArray, List.set_cons_zero, List.set_cons_succ]
  refine takeL (i := 16) (v := (.int .i64 0)) rfl (by kernel_rfl) (by kernel_rfl) (by kernel_rfl) (fun _ _ _ h => h) rfl (by assumption) (fun w' hS' => by go_simp) ?_
  simp only [Act.put, List.setIfInBounds_toArray, List.set_cons_zero, List.set_cons_succ]
  refine wpAnyH_done (by kernel_rfl) ?_ _
  go_wp2
  exact ret_t2 rfl _ _ rfl rfl rfl ⟨rfl, B4.out⟩
/-- A committee that there is. -/
theorem of_good (xs : Array Value) (vs : List (Nat → Int)) (mx : Nat → Int) (slot idx n : Nat) (hslot : slot ≤ 18446744073709551615) (w : World) (h : VsRep w xs vs mx) (hN2 : vs.length ≤ 65536) (hT0 : TabC w) (hn : (actL vs ((slot / 4 : Nat) : Int)).length = n) (hix : idx < cntN n) :
    Calls Tryd.prog 9 #[.agg xs, .int .u64 (slot : Int), .int .u64 (idx : Int)] w fun r w' => ∃ v, r = .returned (.tuple #[v, .int .i64 0]) ∧ OwU w.heap.size v (segL (shufL (seedS mx 1 ((slot / 4 : Nat) : Int)) (actL vs ((slot / 4 : Nat) : Int))) n (4 * cntN n) (slot % 4 * cntN n + idx)) w' ∧ Below w.heap.size w w' := by
  by_cases h0 : 0 < n
  · exact of_some xs vs mx slot idx n hslot w h hN2 hT0 hn hix h0
  · refine (of_nil xs vs mx slot idx n hslot w h hN2 hT0 hn hix (by omega)).mono ?_
    rintro r w' ⟨rfl, hb⟩
    refine ⟨_, rfl, ?_, hb⟩
    have e : segL (shufL (seedS mx 1 ((slot / 4 : Nat) : Int)) (actL vs ((slot / 4 : Nat) : Int))) n (4 * cntN n) (slot % 4 * cntN n + idx) = [] := by
      have h1 : (shufL (seedS mx 1 ((slot / 4 : Nat) : Int)) (actL vs ((slot / 4 : Nat) : Int))) = [] := List.eq_nil_of_length_eq_zero (by rw [shufL_length, hn]; omega)
      rw [h1]
      simp [segL]
    rw [e]
    exact OwU.nil _ _
end Go.Proofs.YtfnjcpopadpmbaaDoor
