/- The pairs of a round change. -/
import Derived.Test.YtfnjcpopadpmbaaDoorKCmF
set_option linter.unusedVariables false
set_option linter.unusedSimpArgs false
set_option linter.unnecessarySimpa false
namespace Go.Proofs.YtfnjcpopadpmbaaDoor
open Go.RowKit BigFrame
set_option maxRecDepth 100000
/-- v is a slice of the call's own that holds these numbers. -/
def OwU (base : Nat) (v : Value) (l : List Int) (w : World) : Prop := w.ownsRow base 22 1 v l.length (l.map (Value.int .u64))
theorem OwU.later {base : Nat} {v : Value} {l : List Int} {w w' : World} (h : OwU base v l w) (hb : Below w.heap.size w w') : OwU base v l w' := own_later h hb
theorem OwU.cell {base g n cap : Nat} {l : List Int} {w : World} (h : OwU base (.slice (some ⟨g, 0, none⟩) n cap) l w) (j : Nat) (hj : j < l.length) : w.cell? ⟨g, j, none⟩ = some (.int .u64 (l.getD j 0)) := by
  rcases h.2 with ⟨h', _⟩ | ⟨g', cap', cur, h', hb, hg, hnc, hcm, hcs, htake⟩
  · cases h'
  · cases h'
    rw [cell_of_row w g j _ _ _ hg]
    have e : (cur.toList.take (l.length * 1))[j]? = some (.int .u64 (l.getD j 0)) := by
      rw [htake]
      simp [List.getD, hj]
    rw [List.getElem?_take_of_lt (by omega)] at e
    simpa using e
theorem wp_storeU {o : Oper} {a : Act} {w : World} {K : Act → World → Prop} {Q : Exit → Act → World → Prop} (x y : Operand) (ho : o.op = .store 22 x y) (base g n cap k : Nat) (l : List Int) (hown : OwU base (.slice (some ⟨g, 0, none⟩) n cap) l w)
    (hx : a.eval x = .pointer (some ⟨g, k, none⟩)) (u : Int) (hy : a.eval y = .int .u64 u) (hk : k < l.length)
    (h : ∀ W, OwU base (.slice (some ⟨g, 0, none⟩) n cap) (l.set k u) W → Apart g w W → K (a.put o.dst undef) W) : o.wp Tryd.prog a w K Q := by
  have hm : (l.set k u).map (Value.int .u64) = (l.map (Value.int .u64)).set k (.int .u64 u) := by rw [List.map_set]
  rcases hown.2 with ⟨h', _⟩ | ⟨g', cap', cur, h', hb, hg, hnc, hcm, hcs, htake⟩
  · cases h'
  · cases h'
    have hkc : k < cur.size := by
      have : (l.map (Value.int .u64)).length ≤ cur.size := by rw [← htake, List.length_take, Array.length_toList]; exact Nat.min_le_right _ _
      rw [List.length_map] at this
      omega
    refine wp_store1 22 x y ho g k hx _ hy rfl sz_u64 cur 22 hg hkc fun W hC hA => h W ?_ hA
    refine ⟨by rw [hm]; simp, Or.inr ⟨g, cap, _, by rw [List.length_set], hb, hC, by rw [List.length_set]; exact hnc, hcm, by simpa using hcs, ?_⟩⟩
    rw [Array.toList_setIfInBounds, hm, ← htake, List.length_set, List.take_set]
/-- What holds at each end but a panic. -/
def NoPan (Q : Exit → Act → World → Prop) : Exit → Act → World → Prop
  | .panic _, _, _ => False
  | e, a, w => Q e a w
theorem wp_nopan {P : Program} {c : Code} {Q : Exit → Act → World → Prop} {a : Act} {w : World} (h : c.wp P (NoPan Q) a w) : c.wp P Q a w :=
  Code.wp_mono (fun e a' w' h' => by
    cases e <;> first | exact h' | exact h'.elim) h
noncomputable def swpBody : Code := blockIn 2 Tryd.f21
theorem BlkI.bit {gb nbl r k : Nat} {sd : Nat → Int} {W : World} (h : BlkI gb nbl sd r k W) (i : Nat) (hi : i < k) : ∀ j, j < 32 → W.cell? ⟨gb, 32 * i + j, none⟩ = some (.int .u8 (blkS sd r i j)) := fun j hj => by
  obtain ⟨B, h1, _, h3⟩ := h
  rw [cell_of_row W gb _ _ _ _ h1]
  exact h3 i hi j hj
theorem BlkI.at {gb nbl r k : Nat} {sd : Nat → Int} {W W' : World} (h : BlkI gb nbl sd r k W) (e : W'.heap[gb]? = W.heap[gb]?) : BlkI gb nbl sd r k W' := by
  obtain ⟨B, h1, h2⟩ := h
  exact ⟨B, e.trans h1, h2⟩
theorem BlkI.lt {gb nbl r k : Nat} {sd : Nat → Int} {W : World} (h : BlkI gb nbl sd r k W) : gb < W.heap.size := by
  obtain ⟨B, h1, _⟩ := h
  exact blk_lt h1
set_option maxHeartbeats 8000000 in
theorem swp_loop {Q : Exit → Act → World → Prop} {a : Act} (base g cap n : Nat) (vr : Value) (r : Int) (nb1 gb nbl d k0 p : Nat) (sd : Nat → Int) (L : List Int) (W : World) (hp : p < n) (hn : n ≤ 65536) (hnb : n ≤ 256 * nbl) (hL0 : L.length = n)
    (h1 : W.heap[nb1]? = some (.cells #[.int .u64 (p : Int), .pointer (some ⟨d, 0, none⟩)] 83 (0, 0))) (hB0 : BlkI gb nbl sd k0 nbl W) (hO0 : OwU base (.slice (some ⟨g, 0, none⟩) n cap) L W) (hn1 : nb1 ≠ g) (hn2 : gb ≠ g)
    (ha : a = LsC (.slice (some ⟨g, 0, none⟩) n cap) n vr r nb1 gb nbl (fun k => a.tmps.getD k undef)) (hQ : ∀ a w', a = LsD (.slice (some ⟨g, 0, none⟩) n cap) n vr r (fun k => a.tmps.getD k undef) → OwU base (.slice (some ⟨g, 0, none⟩) n cap) (roundL p n (fun f => bitF (blkS sd k0 (f / 256)) f) L n) w' → Apart g W w' → Q .normal a w') : swpBody.wp Tryd.prog (Exit.inBlock 2 Q) a W := by
  rw [ha]
  generalize (fun k => a.tmps.getD k undef) = u
  clear ha a
  unfold LsC
  have hr1 := Lib.hid h1
  have hBI := Lib.hid hB0
  have hO := Lib.hid hO0
  have hL := Lib.hid hL0
  have hQ' := Lib.hid hQ
  have hne1 := Lib.hid hn1
  have hne2 := Lib.hid hn2
  obtain ⟨bt, hbt⟩ : ∃ bt : Nat → Bool, bt = fun f => bitF (blkS sd k0 (f / 256)) f := ⟨_, rfl⟩
  have hbt' := Lib.hid hbt
  clear h1 hB0 hO0 hQ hn1 hn2 hbt hL0
  simp only [swpBody, blockIn, blockOf, Tryd.f21, reduceIte, Nat.reduceEqDiff]
  go_loopw [55] (fun i wr => ∃ k : Nat, k ≤ n ∧ i = .int .u64 k ∧ OwU base (.slice (some ⟨g, 0, none⟩) n cap) (roundL p n bt L k) wr ∧ Apart g W wr) (fun i _ => n - (intOf i).toNat)
  case atStart => exact ⟨0, by omega, rfl, hO.out, Apart.refl _ _⟩
  case round =>
    obtain ⟨k, hk, rfl, hO1, hA1⟩ := hrel
    have gO := Lib.hid hO1
    have gA := Lib.hid hA1
    clear hO1 hA1 hO
    by_cases hlt : k < n
    · have lk : (k : Int) < (n : Int) := by omega
      have wk : IntKind.u64.wrap ((k : Int) + 1) = ((k + 1 : Nat) : Int) := by rw [IntKind.wrap_u64]; omega
      have gr := Lib.hid ((gA.out.block nb1 (blk_lt hr1.out) hne1.out).trans hr1.out)
      have gB := Lib.hid (hBI.out.at (gA.out.block gb hBI.out.lt hne2.out))
      have hfl := Lib.hid (flip_any p (.pointer (some ⟨d, 0, none⟩)) k n hp hlt (by omega) wr)
      have hflt := flipN_lt hp hlt
      have hrl := roundL_length p n bt L k
      have hsw : roundL p n bt L (k + 1) = swap1 p n bt (roundL p n bt L k) k := rfl
      unfold swap1 at hsw
      obtain ⟨f, hf⟩ : ∃ f, f = flipN p n k := ⟨_, rfl⟩
      obtain ⟨M, hM⟩ : ∃ M, M = roundL p n bt L k := ⟨_, rfl⟩
      rw [← hf] at hfl hflt hsw
      rw [← hM] at hsw gO hrl
      have hsw' := Lib.hid hsw
      have hrl' := Lib.hid (hrl.trans hL.out)
      clear hf hM hsw hrl
      by_cases c1 : k < f
      · have c1I : decide ((k : Int) < (f : Int)) = true := by simp; omega
        have hq : ((f : Int) / 256) = ((f / 256 : Nat) : Int) := by omega
        have hql : f / 256 < nbl := by omega
        have hqlI : ((f / 256 : Nat) : Int) < (nbl : Int) := by omega
        obtain ⟨q, hqd⟩ : ∃ q, q = f / 256 := ⟨_, rfl⟩
        rw [← hqd] at hq hql hqlI
        have hbb : bitF (blkS sd k0 q) f = bt f := by rw [hbt'.out, hqd]
        have hqd' := Lib.hid hqd
        clear hqd
        have hbc := Lib.hid (fun W1 (hb : Below wr.heap.size wr W1) => bit_any (blkS sd k0 q) (blkS_is sd k0 q) gb (32 * q) f (by omega) W1 ((gB.out.at (hb.block gb gB.out.lt)).bit q hql))
        rw [hbb] at hbc
        by_cases c2 : bt f = true
        · rw [c2] at hbc
          go_wp2_with (first
            | ((with_reducible refine at_load 83 ?_); go_loud (refine wpList_value (by rfl) _ (run_load_box _ 83 _ (by rfl) nb1 (by rfl) _ #[.int .u64 (p : Int), .pointer (some ⟨d, 0, none⟩)] (0, 0) _ gr.out Tryd.underlying83 rfl (by rw [row_size row_round]; rfl)) ?_))
            | ((with_reducible refine hfl.out.mono ?_)
               rintro e W1 ⟨rfl, b1⟩
               have B1 := Lib.hid b1
               have hbc1 := Lib.hid (hbc.out _ b1)
               clear b1)
            | ((with_reducible refine at_iaddrC 32 ?_); go_loud (refine wpList_value (by rfl) _ (run_index_slice _ 32 24 (.tmp 66) (.tmp 68) rfl Tryd.underlying32 32 (row_size row_root) gb 0 nbl nbl rfl .u64 q rfl hql (32 * q) (by omega)) ?_))
            | ((with_reducible refine hbc1.out.mono ?_)
               rintro e W2 ⟨rfl, rfl⟩))
          refine wp_nopan ?_
          refine wp_region_held (S := fun _ => True) (by kernel_rfl) ?_
          have hS : True := trivial
          have B1' : Below wr.heap.size wr { W1 with drawn := W1.drawn + 1 } := B1.out.drew
          have O1 := gO.out.later B1'
          have cf := O1.cell f (by rw [hrl'.out]; exact hflt)
          have ck := O1.cell k (by rw [hrl'.out]; exact hlt)
          obtain ⟨xf, hxf⟩ : ∃ xf, xf = M.getD f 0 := ⟨_, rfl⟩
          obtain ⟨xk, hxk⟩ : ∃ xk, xk = M.getD k 0 := ⟨_, rfl⟩
          rw [← hxf] at cf
          rw [← hxk] at ck
          refine takeL (i := 0) (v := (.slice (some ⟨g, 0, none⟩) n cap)) rfl (by kernel_rfl) (by kernel_rfl) (by kernel_rfl) (fun _ _ _ h => h) rfl (by assumption) (fun w' hS' => by go_simp) ?_
          simp only [Act.put, List.setIfInBounds_toArray, List.set_cons_zero, List.set_cons_succ]
          refine takeL (i := 1) (v := (.int .u64 (k : Int))) rfl (by kernel_rfl) (by kernel_rfl) (by kernel_rfl) (fun _ _ _ h => h) rfl (by assumption) (fun w' hS' => by go_simp) ?_
          simp only [Act.put, List.setIfInBounds_toArray, List.set_cons_zero, List.set_cons_succ]
          refine takeL (i := 2) (v := (.slice (some ⟨g, 0, none⟩) n cap)) rfl (by kernel_rfl) (by kernel_rfl) (by kernel_rfl) (fun _ _ _ h => h) rfl (by assumption) (fun w' hS' => by go_simp) ?_
          simp only [Act.put, List.setIfInBounds_toArray, List.set_cons_zero, List.set_cons_succ]
          refine takeL (i := 3) (v := (.int .u64 (f : Int))) rfl (by kernel_rfl) (by kernel_rfl) (by kernel_rfl) (fun _ _ _ h => h) rfl (by assumption) (fun w' hS' => by go_simp) ?_
          simp only [Act.put, List.setIfInBounds_toArray, List.set_cons_zero, List.set_cons_succ]
          refine takeL (i := 4) (v := (.slice (some ⟨g, 0, none⟩) n cap)) rfl (by kernel_rfl) (by kernel_rfl) (by kernel_rfl) (fun _ _ _ h => h) rfl (by assumption) (fun w' hS' => by go_simp) ?_
          simp only [Act.put, List.setIfInBounds_toArray, List.set_cons_zero, List.set_cons_succ]
          refine takeL (i := 5) (v := (.int .u64 (f : Int))) rfl (by kernel_rfl) (by kernel_rfl) (by kernel_rfl) (fun _ _ _ h => h) rfl (by assumption) (fun w' hS' => by go_simp) ?_
          simp only [Act.put, List.setIfInBounds_toArray, List.set_cons_zero, List.set_cons_succ]
          refine takeL (i := 6) (v := (.pointer (some ⟨g, f, none⟩))) rfl (by kernel_rfl) (by kernel_rfl) (by kernel_rfl) (fun _ _ _ h => h) rfl (by assumption) (fun w' hS' => run_index_slice _ 37 22 (.tmp 77) (.tmp 78) rfl Tryd.underlying37 1 sz_u64 g 0 n cap rfl .u64 f rfl hflt f (by omega)) ?_
          simp only [Act.put, List.setIfInBounds_toArray, List.set_cons_zero, List.set_cons_succ]
          refine takeL (i := 8) (v := (.slice (some ⟨g, 0, none⟩) n cap)) rfl (by kernel_rfl) (by kernel_rfl) (by kernel_rfl) (fun _ _ _ h => h) rfl (by assumption) (fun w' hS' => by go_simp) ?_
          simp only [Act.put, List.setIfInBounds_toArray, List.set_cons_zero, List.set_cons_succ]
          refine takeL (i := 9) (v := (.int .u64 (k : Int))) rfl (by kernel_rfl) (by kernel_rfl) (by kernel_rfl) (fun _ _ _ h => h) rfl (by assumption) (fun w' hS' => by go_simp) ?_
          simp only [Act.put, List.setIfInBounds_toArray, List.set_cons_zero, List.set_cons_succ]
          refine takeL (i := 10) (v := (.pointer (some ⟨g, k, none⟩))) rfl (by kernel_rfl) (by kernel_rfl) (by kernel_rfl) (fun _ _ _ h => h) rfl (by assumption) (fun w' hS' => run_index_slice _ 37 22 (.tmp 81) (.tmp 82) rfl Tryd.underlying37 1 sz_u64 g 0 n cap rfl .u64 k rfl hlt k (by omega)) ?_
          simp only [Act.put, List.setIfInBounds_toArray, List.set_cons_zero, List.set_cons_succ]
          refine pairL (i := 7) (k := 11) (.int .u64 xf) (.int .u64 xk) (Wn := { W1 with drawn := W1.drawn + 1 }) rfl rfl (by kernel_rfl) (by kernel_rfl) (by kernel_rfl) rfl rfl rfl rfl (run_load_cell _ 22 _ (by rfl) ⟨g, f, none⟩ (by rfl) _ cf _ Tryd.underlying22 rfl) (run_load_cell _ 22 _ (by rfl) ⟨g, f, none⟩ (by rfl) _ cf _ Tryd.underlying22 rfl) (run_load_cell _ 22 _ (by rfl) ⟨g, k, none⟩ (by rfl) _ ck _ Tryd.underlying22 rfl) (run_load_cell _ 22 _ (by rfl) ⟨g, k, none⟩ (by rfl) _ ck _ Tryd.underlying22 rfl) trivial trivial (by kernel_rfl) (by rfl) ?_
          simp only [Act.put, List.setIfInBounds_toArray, List.set_cons_zero, List.set_cons_succ]
          refine takeL (i := 12) (v := (.pointer (some ⟨g, k, none⟩))) rfl (by kernel_rfl) (by kernel_rfl) (by kernel_rfl) (fun _ _ _ h => h) rfl (by assumption) (fun w' hS' => run_index_slice _ 37 22 (.tmp 73) (.tmp 74) rfl Tryd.underlying37 1 sz_u64 g 0 n cap rfl .u64 k rfl hlt k (by omega)) ?_
          simp only [Act.put, List.setIfInBounds_toArray, List.set_cons_zero, List.set_cons_succ]
          refine oneL (i := 13) rfl (by kernel_rfl) rfl (wp_storeU (.tmp 85) (.tmp 80) rfl base g n cap k M O1 rfl xf rfl (by rw [hrl'.out]; exact hlt) ?_)
          intro W3 hO3 hA3
          refine ⟨trivial, ?_⟩
          simp only [Act.put, List.setIfInBounds_toArray, List.set_cons_zero, List.set_cons_succ]
          refine takeL (i := 14) (v := (.pointer (some ⟨g, f, none⟩))) rfl (by kernel_rfl) (by kernel_rfl) (by kernel_rfl) (fun _ _ _ h => h) rfl (by assumption) (fun w' hS' => run_index_slice _ 37 22 (.tmp 75) (.tmp 76) rfl Tryd.underlying37 1 sz_u64 g 0 n cap rfl .u64 f rfl hflt f (by omega)) ?_
          simp only [Act.put, List.setIfInBounds_toArray, List.set_cons_zero, List.set_cons_succ]
          refine oneL (i := 15) rfl (by kernel_rfl) rfl (wp_storeU (.tmp 86) (.tmp 84) rfl base g n cap f (M.set k xf) hO3 rfl xk rfl (by rw [List.length_set, hrl'.out]; exact hflt) ?_)
          intro W4 hO4 hA4
          refine ⟨trivial, ?_⟩
          simp only [Act.put, List.setIfInBounds_toArray, List.set_cons_zero, List.set_cons_succ]
          refine wpAnyH_done (by kernel_rfl) ?_ _
          simp only [NoPan]
          have hfin : roundL p n bt L (k + 1) = (M.set k xf).set f xk := by rw [hsw'.out, if_pos ⟨c1, c2⟩, hxf, hxk]
          rw [← hfin] at hO4
          have gO4 := Lib.hid hO4
          have gA4 := Lib.hid (((gA.out.call B1').trans hA3).trans hA4)
          clear hO4 hA4 hO3 hA3 hfin hxf hxk cf ck O1 B1'
          go_wp2
          exact ⟨⟨k + 1, by omega, by go_num, gO4.out, gA4.out⟩, by simp [intOf]; omega⟩
        · have c3 : bt f = false := by simpa using c2
          rw [c3] at hbc
          go_wp2_with (first
            | ((with_reducible refine at_load 83 ?_); go_loud (refine wpList_value (by rfl) _ (run_load_box _ 83 _ (by rfl) nb1 (by rfl) _ #[.int .u64 (p : Int), .pointer (some ⟨d, 0, none⟩)] (0, 0) _ gr.out Tryd.underlying83 rfl (by rw [row_size row_round]; rfl)) ?_))
            | ((with_reducible refine hfl.out.mono ?_)
               rintro e W1 ⟨rfl, b1⟩
               have B1 := Lib.hid b1
               have hbc1 := Lib.hid (hbc.out _ b1)
               clear b1)
            | ((with_reducible refine at_iaddrC 32 ?_); go_loud (refine wpList_value (by rfl) _ (run_index_slice _ 32 24 (.tmp 66) (.tmp 68) rfl Tryd.underlying32 32 (row_size row_root) gb 0 nbl nbl rfl .u64 q rfl hql (32 * q) (by omega)) ?_))
            | ((with_reducible refine hbc1.out.mono ?_)
               rintro e W2 ⟨rfl, rfl⟩))
          exact ⟨⟨k + 1, by omega, by go_num, by rw [hsw'.out, if_neg (fun h => c2 h.2)]; exact gO.out.later B1.out, gA.out.call B1.out⟩, by simp [intOf]; omega⟩
      · have c1I : decide ((k : Int) < (f : Int)) = false := by simp; omega
        have hbc := Lib.hid (fun W1 (hb : Below wr.heap.size wr W1) => True.intro)
        have hql : 0 ≤ 0 := Nat.le_refl _
        go_wp2_with (first
          | ((with_reducible refine at_load 83 ?_); go_loud (refine wpList_value (by rfl) _ (run_load_box _ 83 _ (by rfl) nb1 (by rfl) _ #[.int .u64 (p : Int), .pointer (some ⟨d, 0, none⟩)] (0, 0) _ gr.out Tryd.underlying83 rfl (by rw [row_size row_round]; rfl)) ?_))
          | ((with_reducible refine hfl.out.mono ?_)
             rintro e W1 ⟨rfl, b1⟩
             have B1 := Lib.hid b1
             have hbc1 := Lib.hid (hbc.out _ b1)
             clear b1)
          | ((with_reducible refine at_iaddrC 32 ?_); go_loud (refine wpList_value (by rfl) _ (run_index_slice _ 32 24 (.tmp 66) (.tmp 68) rfl Tryd.underlying32 32 (row_size row_root) gb 0 nbl nbl rfl .u64 q rfl hql (32 * q) (by omega)) ?_))
          | ((with_reducible refine hbc1.out.mono ?_)
             rintro e W2 ⟨rfl, rfl⟩))
        exact ⟨⟨k + 1, by omega, by go_num, by rw [hsw'.out, if_neg (fun h => c1 h.1)]; exact gO.out.later B1.out, gA.out.call B1.out⟩, by simp [intOf]; omega⟩
    · have e : k = n := by omega
      subst e
      go_wp2
      exact hQ'.out _ _ (by kernel_rfl) (hbt'.out ▸ gO.out) gA.out
end Go.Proofs.YtfnjcpopadpmbaaDoor
