/- The rounds of a shuffle. -/
import Derived.Test.YtfnjcpopadpmbaaDoorKCmC
set_option linter.unusedVariables false
set_option linter.unusedSimpArgs false
set_option linter.unnecessarySimpa false
namespace Go.Proofs.YtfnjcpopadpmbaaDoor
open Go.RowKit BigFrame
set_option maxRecDepth 100000
/-- What a round's source has been given. -/
def dgl (sd : Nat → Int) (r : Nat) : List Int := rootL sd ++ [(r : Int)]
theorem dgl_length (sd : Nat → Int) (r : Nat) : (dgl sd r).length = 33 := by simp [dgl, rootL_length]
theorem dgl_ok {sd : Nat → Int} (h : IsR sd) {r : Nat} (hr : r < 256) : ∀ m ∈ dgl sd r, CK.ok .u8 m := fun m hm => by
  rcases List.mem_append.1 hm with hm | hm
  · exact rootL_ok h m hm
  · rw [List.mem_singleton.1 hm]
    exact ⟨by omega, by omega⟩
/-- The pivot of a round. -/
def pvI (sd : Nat → Int) (n r : Nat) : Int := rdI (sumS (dgl sd r)) 8 % (n : Int)
theorem pvI_ge (sd : Nat → Int) (n r : Nat) (h : 0 < n) : 0 ≤ pvI sd n r ∧ pvI sd n r < n := ⟨Int.emod_nonneg _ (by omega), Int.emod_lt_of_pos _ (by omega)⟩
def rcell (pv : Nat → Int) (d : Nat → Nat) (j : Nat) : Value := if j % 2 = 0 then .int .u64 (pv (j / 2)) else .pointer (some ⟨d (j / 2), 0, none⟩)
/-- The cells of the first k rounds. -/
def rnC (pv : Nat → Int) (d : Nat → Nat) (k : Nat) : List Value := (List.range (2 * k)).map (rcell pv d)
theorem rnC_succ (pv : Nat → Int) (d : Nat → Nat) (k m : Nat) : rnC pv d k ++ [.int .u64 (pv k), .pointer (some ⟨m, 0, none⟩)] = rnC pv (fun r => if r = k then m else d r) (k + 1) := by
  unfold rnC
  rw [show 2 * (k + 1) = 2 * k + 1 + 1 by omega, List.range_succ, List.range_succ, List.map_append, List.map_append, List.append_assoc]
  congr 1
  · apply List.map_congr_left
    intro j hj
    have hj' : j < 2 * k := List.mem_range.1 hj
    unfold rcell
    by_cases c : j % 2 = 0
    · rw [if_pos c, if_pos c]
    · rw [if_neg c, if_neg c]
      dsimp only
      rw [if_neg (by omega)]
  · simp only [List.map_cons, List.map_nil, List.singleton_append]
    unfold rcell
    rw [if_pos (by omega), if_neg (by omega)]
    dsimp only
    rw [if_pos (by omega), show 2 * k / 2 = k by omega]
structure RnW (base : Nat) (sd : Nat → Int) (pv : Nat → Int) (k : Nat) (v : Value) (d : Nat → Nat) (W : World) : Prop where
  own : W.ownsRow base 83 2 v k (rnC pv d k)
  dg : ∀ r, r < k → W.heap[d r]? = some (.cells (dgC (dgl sd r)) 104 (0, 0)) ∧ base ≤ d r ∧ v.ownBlock ≠ some (d r)
theorem RnW.later {base : Nat} {sd pv : Nat → Int} {k : Nat} {v : Value} {d : Nat → Nat} {W W' : World} (h : RnW base sd pv k v d W) (hb : Below W.heap.size W W') : RnW base sd pv k v d W' :=
  ⟨own_later h.own hb, fun r hr => ⟨(hb.block _ (Array.getElem?_eq_some_iff.1 (h.dg r hr).1).1).trans (h.dg r hr).1, (h.dg r hr).2⟩⟩
theorem RnW.next {base : Nat} {sd pv : Nat → Int} {k m : Nat} {v v' : Value} {d : Nat → Nat} {W W' : World} (h : RnW base sd pv k v d W)
    (hown : W'.ownsRow base 83 2 v' (k + 1) (rnC pv d k ++ [.int .u64 (pv k), .pointer (some ⟨m, 0, none⟩)])) (hm : W.heap[m]? = some (.cells (dgC (dgl sd k)) 104 (0, 0))) (hbm : base ≤ m) (hvm : v.ownBlock ≠ some m)
    (ho : ∀ j, j < W.heap.size → some j ≠ v.ownBlock → W'.heap[j]? = W.heap[j]?) (hf : v'.ownBlock = v.ownBlock ∨ v'.ownBlock = some W.heap.size) : RnW base sd pv (k + 1) v' (fun r => if r = k then m else d r) W' := by
  rw [rnC_succ] at hown
  have hlt : m < W.heap.size := (Array.getElem?_eq_some_iff.1 hm).1
  refine ⟨hown, fun r hr => ?_⟩
  by_cases c : r = k
  · subst c
    rw [if_pos rfl]
    refine ⟨(ho m hlt (fun e => hvm e.symm)).trans hm, hbm, ?_⟩
    rcases hf with hf | hf
    · rw [hf]; exact hvm
    · rw [hf]; intro e; have e2 := Option.some.inj e; omega
  · rw [if_neg c]
    obtain ⟨h1, h2, h3⟩ := h.dg r (by omega)
    have hlr : d r < W.heap.size := (Array.getElem?_eq_some_iff.1 h1).1
    refine ⟨(ho _ hlr (fun e => h3 e.symm)).trans h1, h2, ?_⟩
    rcases hf with hf | hf
    · rw [hf]; exact h3
    · rw [hf]; intro e; have e2 := Option.some.inj e; omega
theorem info_round : (Tryd.prog.info? 83).map (fun i => (i.zero, i.size, i.bytes)) = some (some (.agg #[.int .u64 0, .pointer none]), 2, 16) := by kernel_rfl
theorem info_round2 : (Tryd.prog.info? 83).map (fun i => (i.zero, i.size)) = some (some (.agg #[.int .u64 0, .pointer none]), 2) := by kernel_rfl
theorem build_round (p : Int) (d : Nat) (w : World) : (Instr.build 83 #[(0, .int .u64 p), (1, .pointer (some ⟨d, 0, none⟩))]).run Tryd.prog w = .ok (.agg #[.int .u64 p, .pointer (some ⟨d, 0, none⟩)]) w := by kernel_rfl
theorem run_build2 {P : Program} {ρ : Operand → Value} {o : Oper} {w : World} (t : TypeId) (i j : Nat) (x y : Operand) (ho : o.op = .build t #[(i, x), (j, y)]) (u u' v : Value) (hx : ρ x = u) (hy : ρ y = u') (h : (Instr.build t #[(i, u), (j, u')]).run P w = .ok v w) :
    (execOp ρ o).run P w = .ok (.value v) w := by
  subst hx hy
  unfold execOp
  simp only [ho, List.map_toArray, List.map_cons, List.map_nil, Sem.run_bind, h, Result.andThen_ok, Sem.run_pure]
theorem info_byte2 : (Tryd.prog.info? 5).map (fun i => (i.zero, i.size)) = some (some (.int .u8 0), 1) := by kernel_rfl
theorem sum_row8 {W : World} {b : Nat} {a : Nat → Int} (h : W.heap[b]? = some (.cells (rootV a) 24 (0, 0))) (ha : IsR a) : Row W (some ⟨b, 0, none⟩) .u8 ((List.range 8).map a) := by
  refine ⟨fun i hi => ⟨b, 0, rfl, ?_⟩, fun m hm => ?_⟩
  · have hi' : i < 8 := by simpa using hi
    rw [cell_of_row W b (0 + i) _ _ _ h, Nat.zero_add, List.getElem?_toArray, fcells_get _ _ _ _ (by omega)]
    simp [List.getD, hi']
  · obtain ⟨j, hj, rfl⟩ := List.mem_map.1 hm
    have := ha j (by have := List.mem_range.1 hj; omega)
    exact this
theorem sum_rd8 (a : Nat → Int) : rdI (fun j => ((List.range 8).map a).getD j 0) 8 = rdI a 8 := rfl
theorem one_row8 {W : World} {g : Nat} {x : Int} (hg : g = W.heap.size) (hx : 0 ≤ x ∧ x ≤ 255) : Row (W.alloc (.cells (([Value.int .u8 x].map fun v => v.cells.toList).flatten.toArray) 5)) (some ⟨g, 0, none⟩) .u8 [x] := by
  refine ⟨fun i hi => ⟨g, 0, rfl, ?_⟩, fun m hm => ?_⟩
  · have hi' : i = 0 := by simpa using hi
    subst hi'
    rw [cell_of_row _ g 0 _ _ _ (heap_new _ _ _ _ hg)]
    rfl
  · rw [List.mem_singleton.1 hm]
    exact hx
theorem two_one {a b : Value} (ha : a.oneCell' = true) (hb : b.oneCell' = true) : ∀ u ∈ [a, b], u.oneCell' = true := fun u hu => by
  rcases List.mem_cons.1 hu with rfl | hu
  · exact ha
  · rw [List.mem_singleton.1 hu]
    exact hb
theorem read_sum8 {sm : Nat → Int} {W : World} {g : Nat} (h : W.heap[g]? = some (.cells (rootV sm) 24 (0, 0))) (hr : IsR sm) :
    Calls Tryd.prog 43 #[.slice (some ⟨g, 0, none⟩) 8 32] W fun e w' => e = .returned (.tuple #[.int .u64 (rdI (fun j => ((List.range 8).map sm).getD j 0) 8), .int .i64 0]) ∧ W = w' := by
  have h1 := read_any ((List.range 8).map sm) (some ⟨g, 0, none⟩) 32 W (sum_row8 h hr)
  have e : ((List.range 8).map sm).length = 8 := by simp
  rw [e, if_pos rfl, if_pos rfl] at h1
  exact h1
theorem RnW.weak {n0 : Nat} {sd pv : Nat → Int} {k : Nat} {v : Value} {d : Nat → Nat} {W : World} (h : RnW (n0 + 1) sd pv k v d W) : RnW n0 sd pv k v d W := by
  refine ⟨⟨h.own.1, ?_⟩, fun r hr => ⟨(h.dg r hr).1, by have := (h.dg r hr).2.1; omega, (h.dg r hr).2.2⟩⟩
  rcases h.own.2 with hn | ⟨g, cap, cur, h1, h2, h3⟩
  · exact Or.inl hn
  · exact Or.inr ⟨g, cap, cur, h1, by omega, h3⟩
set_option maxHeartbeats 8000000 in
theorem rounds_any (n : Nat) (hn : 0 < n) (hn2 : n ≤ 4294967296) (sd : Nat → Int) (hsd0 : IsR sd) (w : World) (hT0 : TabC w) :
    Calls Tryd.prog 29 #[.int .u64 (n : Int), .agg (rootV sd)] w fun e w' => ∃ v d, e = .returned v ∧ RnW w.heap.size sd (pvI sd n) 6 v d w' ∧ Below w.heap.size w w' := by
  have hsd := Lib.hid hsd0
  have hT := Lib.hid hT0
  have hsl := Lib.hid (rootL_length sd)
  clear hsd0 hT0
  obtain ⟨n0, hn0⟩ : ∃ n0, n0 = w.heap.size := ⟨_, rfl⟩
  have hn0' := Lib.hid hn0
  go_enter Tryd.func29, Tryd.ntmps29
  go_wp2
  refine gen_world (fun W => W.heap[n0]? = some (.cells (rootV sd) 24 (0, 0)) ∧ Below n0 w W ∧ n0 + 1 ≤ W.heap.size ∧ RnW (n0 + 1) sd (pvI sd n) 0 (.slice none 0 0) (fun _ => 0) W) ⟨?_, ?_, ?_, ?_, ?_⟩ ?_
  · rw [hn0]; exact heap_new _ _ _ _ rfl
  · rw [hn0]; exact (Below.refl _ _).alloc (Nat.le_refl _) _
  · rw [hn0]; simp
  · exact ⟨rfl, Or.inl ⟨rfl, rfl⟩⟩
  · exact fun r hr => absurd hr (by omega)
  rintro W0 ⟨hA, hB, hC, hD⟩
  rw [← hn0]
  clear hn0
  go_loopw [5, 11] (fun v i wr => ∃ k : Nat, ∃ d, k ≤ 6 ∧ i = .int .i64 k ∧ wr.heap[n0]? = some (.cells (rootV sd) 24 (0, 0)) ∧ Below n0 w wr ∧ n0 + 1 ≤ wr.heap.size ∧ RnW (n0 + 1) sd (pvI sd n) k v d wr) (fun _ i _ => 6 - (intOf i).toNat)
  case atStart => exact ⟨0, _, by omega, rfl, hA, hB, hC, hD⟩
  case round =>
    obtain ⟨k, d, hk, rfl, hA1, hB1, hC1, hD1⟩ := hrel
    clear hA hB hC hD W0
    have gA := Lib.hid hA1
    have gB := Lib.hid hB1
    have gD := Lib.hid hD1
    clear hA1 hB1 hD1
    by_cases hlt : k < 6
    · have lk : (k : Int) < 6 := by omega
      have wk : IntKind.u8.wrap (k : Int) = (k : Int) := by rw [IntKind.wrap_u8]; omega
      obtain ⟨m, hm⟩ : ∃ m, m = wr.heap.size := ⟨_, rfl⟩
      have hm' := Lib.hid hm
      have hTr := Lib.hid (hT.out.below (by have := hT.out.size; have := hn0'.out; omega) gB.out)
      clear hm
      have hdl := Lib.hid (dgl_length sd k)
      have hdo := Lib.hid (dgl_ok hsd.out (show k < 256 by omega))
      have hdd := Lib.hid (show rootL sd ++ [(k : Int)] = dgl sd k from rfl)
      have hdk := Lib.hid (show ([(k : Int)] : List Int).length = 1 from rfl)
      obtain ⟨z, hz⟩ : ∃ z, z = rdI (sumS (dgl sd k)) 8 := ⟨_, rfl⟩
      have hz0 := rdI_lt (f := sumS (dgl sd k)) (fun j => rootB_is _ _) 8
      rw [← hz] at hz0
      have hz1 : 0 ≤ z := hz0.1
      have hz' := Lib.hid hz
      have hpv := Lib.hid (show pvI sd n k = z % (n : Int) by rw [hz]; rfl)
      have hsr := Lib.hid (sumS_is (dgl sd k))
      have hrd8 := Lib.hid (show rdI (fun j => ((List.range 8).map (sumS (dgl sd k))).getD j 0) 8 = z by rw [hz]; exact sum_rd8 _)
      clear hz hz0
      obtain ⟨sm, hsm⟩ : ∃ sm, sm = sumS (dgl sd k) := ⟨_, rfl⟩
      rw [← hsm] at hsr hrd8
      have hsm' := Lib.hid hsm
      clear hsm
      have hnp : (n : Int) ≠ 0 := by omega
      go_wp2_with (first
        | ((with_reducible refine (new_any _ hTr.out).mono ?_)
           rintro e W1 ⟨rfl, e1⟩
           have b1 : Below m wr W1 := by rw [e1, hm'.out]; exact (Below.refl _ _).alloc (Nat.le_refl _) _
           have d1 := Lib.hid (show W1.heap[m]? = some (.cells (dgC []) 104 (0, 0)) by rw [e1]; exact heap_new _ _ _ _ hm'.out)
           have B1 := Lib.hid b1
           have hne := Lib.hid (show n0 ≠ m by have := hm'.out; omega)
           have A1 := Lib.hid ((b1.block n0 (by have := hm'.out; omega)).trans gA.out)
           clear e1 b1
           rw [← hm'.out])
        | ((with_reducible refine at_sliceC 24 ?_); refine wpList_value (by rfl) (.slice (some ⟨n0, 0, none⟩) 32 32) (run_acut_all _ 24 5 32 (.tmp 3) rfl Tryd.underlying24 1 sz_u8 n0 0 rfl) ?_)
        | ((with_reducible refine (write0_any m n0 0 32 (rootL sd) _ d1.out (row_root_at A1.out hsd.out) hne.out 32 hsl.out (by omega)).mono ?_)
           rintro e W2 ⟨rfl, h2, x2⟩
           have d2 := Lib.hid h2
           have B2 := Lib.hid (x2.below B1.out (Nat.le_refl _) (by have := blk_lt d1.out; omega))
           have s2 := Lib.hid (blk_lt h2)
           clear h2 x2)
        | ((with_reducible refine at_bslice 39 ?_)
           go_loud (refine wpList_plain rfl fun K hK => wp_ran _ (run_buildSlice _ 39 5 1 _ rfl Tryd.underlying39 (.int .u8 0) 1 info_byte2 (by decide) (by decide) [.int .u8 (k : Int)] rfl (by rfl) (fun v hv => by rw [List.mem_singleton.1 hv]; rfl)) (hK _ _ ?_))
           clear hK K
           obtain ⟨g, hg⟩ : ∃ g, g = W2.heap.size := ⟨_, rfl⟩
           rw [← hg]
           refine gen_l (fun W3 => Below m wr W3 ∧ W3.heap[m]? = some (.cells (dgC (rootL sd)) 104 (0, 0)) ∧ Row W3 (some ⟨g, 0, none⟩) .u8 [(k : Int)]) ⟨?_, ?_, ?_⟩ ?_
           · exact B2.out.alloc (by have := s2.out; omega) _
           · exact heap_past _ _ _ _ d2.out
           · exact one_row8 hg (by omega)
           have hgm := Lib.hid (show g ≠ m by have := s2.out; omega)
           clear hg
           rintro W3 ⟨h3, h4, h5⟩
           have B3 := Lib.hid h3
           have d3 := Lib.hid h4
           have r3 := Lib.hid h5
           clear h3 h4 h5)
        | ((with_reducible refine (write1_any m g 0 1 (rootL sd) [(k : Int)] _ d3.out r3.out hgm.out 32 1 hsl.out hdk.out (by omega) (by omega)).mono ?_)
           rintro e W4 ⟨rfl, h4, x4⟩
           rw [hdd.out] at h4
           have d4 := Lib.hid h4
           have B4 := Lib.hid (x4.below B3.out (Nat.le_refl _) (by have := blk_lt d3.out; omega))
           clear h4 x4)
        | ((with_reducible refine (dsum_any m (dgl sd k) _ d4.out hdo.out 33 hdl.out (by omega) (hTr.out.below (by have := hTr.out.size; have := hm'.out; omega) B4.out)).mono ?_)
           rintro e W5 ⟨rfl, b5⟩
           rw [← hsm'.out]
           have d5 := Lib.hid ((b5.block m (blk_lt d4.out)).trans d4.out)
           have B5 := Lib.hid (B4.out.trans (b5.mono (by have := blk_lt d4.out; omega)))
           clear b5)
        | ((with_reducible refine at_alloc 24 ?_)
           go_loud (refine wpList_alloc_store rfl rfl 24 8 _ rfl rfl rfl (rootV sm) rfl rfl (zeroOf Tryd.prog 24) (by rw [show (rootV sm).size = 32 by simp [fcells]]; exact (row_zero row_root).1) (by rw [show (rootV sm).size = 32 by simp [fcells]]; exact (row_zero row_root).2) (fcells_one _ _ _) ?_)
           obtain ⟨g2, hg2⟩ : ∃ g2, g2 = W5.heap.size := ⟨_, rfl⟩
           rw [← hg2]
           refine gen_l (fun W6 => Below m wr W6 ∧ W6.heap[m]? = some (.cells (dgC (dgl sd k)) 104 (0, 0)) ∧ W6.heap[g2]? = some (.cells (rootV sm) 24 (0, 0))) ⟨?_, ?_, ?_⟩ ?_
           · exact B5.out.alloc (by have := blk_lt d5.out; omega) _
           · exact heap_past _ _ _ _ d5.out
           · exact heap_new _ _ _ _ hg2
           clear hg2
           rintro W6 ⟨h6, h7, h8⟩
           have B6 := Lib.hid h6
           have d6 := Lib.hid h7
           have hrd := Lib.hid (read_sum8 (sm := sm) h8 hsr.out)
           have hzz := hrd8.out
           clear h6 h7 h8)
        | ((with_reducible refine at_sliceC 24 ?_); refine wpList_value (by rfl) (.slice (some ⟨g2, 0, none⟩) 8 32) (run_acut_to _ 24 5 32 (.tmp 8) _ rfl Tryd.underlying24 1 sz_u8 g2 0 rfl .i64 8 rfl (by omega)) ?_)
        | ((with_reducible refine hrd.out.mono ?_)
           rintro e W7 ⟨rfl, rfl⟩
           rw [hzz])
        | ((with_reducible refine at_build 83 ?_); go_loud (refine wpList_value (by rfl) (.agg #[.int .u64 (z % (n : Int)), .pointer (some ⟨m, 0, none⟩)]) (run_build2 83 0 1 (.tmp 33) (.tmp 34) rfl (.int .u64 (z % (n : Int))) (.pointer (some ⟨m, 0, none⟩)) _ rfl rfl (build_round _ _ _)) ?_))
        | ((with_reducible refine at_bslice 79 ?_)
           go_loud (refine wpList_plain rfl fun K hK => wp_ran _ (run_buildSlice _ 79 83 1 _ rfl Tryd.underlying79 (.agg #[.int .u64 0, .pointer none]) 2 info_round2 (by decide) (by decide) [.agg #[.int .u64 (z % (n : Int)), .pointer (some ⟨m, 0, none⟩)]] rfl (by rfl) (fun v hv => by rw [List.mem_singleton.1 hv]; rfl)) (hK _ _ ?_))
           clear hK K
           obtain ⟨g3, hg3⟩ : ∃ g3, g3 = W6.heap.size := ⟨_, rfl⟩
           rw [← hg3]
           refine gen_l (fun W8 => Below m wr W8 ∧ W8.heap[m]? = some (.cells (dgC (dgl sd k)) 104 (0, 0)) ∧ W8.rangeAt g3 0 [.int .u64 (z % (n : Int)), .pointer (some ⟨m, 0, none⟩)]) ⟨?_, ?_, ?_⟩ ?_
           · exact B6.out.alloc (by have := blk_lt d6.out; omega) _
           · exact heap_past _ _ _ _ d6.out
           · exact range_whole (heap_new _ _ _ _ hg3)
           clear hg3
           rintro W8 ⟨h6, h7, h8⟩
           have B8 := Lib.hid h6
           have d8 := Lib.hid h7
           have r8 := Lib.hid h8
           clear h6 h7 h8)
        | ((with_reducible refine at_appC 79 ?_)
           have hbm : Below n0 w W8 := gB.out.trans (B8.out.mono (by have := hm'.out; omega))
           have hown := own_later gD.out.own (hm'.out ▸ B8.out)
           have hge := own_ge gD.out.own
           have hlt8 := gD.out.own.lt
           go_loud (refine wpList_plain rfl fun K hK => wp_appS (.tmp 30) (.tmp 36) 79 83 rfl Tryd.underlying79 (.agg #[.int .u64 0, .pointer none]) 2 16 info_round rfl (by decide) (n0 + 1) k u5 (rnC (pvI sd n) d k) rfl hown ⟨g3, 0, none⟩ 1 1 rfl _ rfl r8.out rfl (two_one rfl rfl) (by omega) (by omega) (by have := blk_lt d8.out; have := hm'.out; omega) (Nat.le_succ n0) hbm (fun v' W9 h1 h2 h3 h4 h5 => hK _ _ ?_))
           clear hK K
           rw [← hpv.out] at h1
           have D9 := Lib.hid (RnW.next (gD.out.later (hm'.out ▸ B8.out)) h1 d8.out (by have := hm'.out; omega) (fun e => by have := (hlt8 _ e).2; have := hm'.out; omega) h4 h5)
           have A9 := Lib.hid ((h4 n0 (by have := blk_lt d8.out; have := hm'.out; omega) (fun e => by have := hge _ e.symm; omega)).trans ((B8.out.block n0 (by have := hm'.out; omega)).trans gA.out))
           have B9 := Lib.hid h2
           have C9 := Lib.hid h3
           clear h1 h2 h3 h4 h5 hbm hown hge hlt8))
      exact ⟨⟨k + 1, _, by omega, by go_num, A9.out, B9.out, C9.out, D9.out⟩, by simp [intOf]; omega⟩
    · have e : k = 6 := by omega
      subst e
      go_wp2
      have hB9 := gB.out
      have hD9 := gD.out
      rw [hn0'.out] at hB9 hD9
      exact ret_t1 rfl _ rfl rfl ⟨_, _, rfl, hD9.weak, hB9⟩
end Go.Proofs.YtfnjcpopadpmbaaDoor
