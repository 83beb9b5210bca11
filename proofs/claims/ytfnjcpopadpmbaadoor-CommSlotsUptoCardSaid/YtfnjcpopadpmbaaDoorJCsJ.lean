/- Are two lists the same, of the reference: at equal lists. -/
/- The law CommSlots for every state, slot, index and few enough bits. -/
import Derived.Test.YtfnjcpopadpmbaaDoorJCsH
import Derived.Test.YtfnjcpopadpmbaaDoorJCbC
import Derived.Test.YtfnjcpopadpmbaaDoorKCbE
set_option linter.unusedVariables false
set_option linter.unusedSimpArgs false
set_option linter.unnecessarySimpa false
namespace Go.Proofs.YtfnjcpopadpmbaaDoor
open Go.RowKit BigFrame
set_option maxRecDepth 100000
theorem run_slice_to {P : Program} {ρ : Operand → Value} {o : Oper} (w : World) (t e : TypeId) (x z : Operand) (ho : o.op = .slice t x none (some z) none) (hu : P.underlying t = some (.slice e)) (sz : Nat) (hsz : (P.info? e).map (·.size) = some sz) (b off len cap hi : Nat) (hx : ρ x = .slice (some ⟨b, off, none⟩) len cap) (hz : ρ z = .int .i64 (hi : Int)) (h : hi ≤ cap) :
    (execOp ρ o).run P w = .ok (.value (.slice (some ⟨b, off, none⟩) hi cap)) w := by
  have e1 : (0 : Int) ≤ (hi : Int) := by omega
  have e2 : (hi : Int) ≤ (cap : Int) := by omega
  unfold execOp
  simp only [ho, hx, hz, Option.map_some, Option.map_none, Instr.sliceAt, Instr.slice, Instr.sliceBounds, Instr.sliceBound, asIntOf, Sem.run_bind, Sem.run_pure, Result.andThen_ok, run_underlying hu, size_of hsz, if_pos (And.intro e1 e2), Int.toNat_natCast, Addr.add_mid, Nat.zero_mul, Nat.add_zero, ite_self, Nat.sub_zero]
theorem RowU.cellAt {w : World} {g n : Nat} {l : List Int} (h : RowU w (some ⟨g, 0, none⟩) n l) (j : Nat) (hj : j < n) : w.cell? ⟨g, j, none⟩ = some (.int .u64 (l.getD j 0)) := by
  obtain ⟨b, e, hc⟩ := h j hj
  cases e
  exact hc
set_option maxHeartbeats 8000000 in
theorem same_any (va vb : Option Addr) (n ca cb : Nat) (l : List Int) (w : World) (hra0 : RowU w va n l) (hrb0 : RowU w vb n l) (hn : n ≤ 1000000) :
    Calls Tryd.prog 14 #[.slice va n ca, .slice vb n cb] w fun e w' => e = .returned (.bool true) ∧ Below w.heap.size w w' := by
  have gra := Lib.hid hra0
  have grb := Lib.hid hrb0
  have lnn : ((n : Int) != (n : Int)) = false := by simp
  clear hra0 hrb0
  go_enter Tryd.func14, Tryd.ntmps14
  go_wp2
  go_loopw [5] (fun vi wr => ∃ k : Nat, k ≤ n ∧ vi = .int .i64 (k : Int) ∧ Below w.heap.size w wr) (fun vi _ => n - (intOf vi).toNat)
  case atStart => exact ⟨0, Nat.zero_le _, rfl, Below.refl _ _⟩
  case round =>
    obtain ⟨k, hk, rfl, hB⟩ := hrel
    have gB := Lib.hid hB
    clear hB
    by_cases hlt : k < n
    · have lk : decide ((k : Int) < (n : Int)) = true := by simp; omega
      have wk : IntKind.i64.wrap ((k : Int) + 1) = ((k + 1 : Nat) : Int) := by rw [IntKind.wrap_i64]; omega
      obtain ⟨ga, rfl, hx0⟩ := gra.out k hlt
      obtain ⟨gb, rfl, hy0⟩ := grb.out k hlt
      obtain ⟨x, hx⟩ : ∃ x, x = l.getD k 0 := ⟨_, rfl⟩
      rw [← hx] at hx0 hy0
      have gx := Lib.hid ((gB.out.cell (block_lt_of_cell hx0)).trans hx0)
      have gy := Lib.hid ((gB.out.cell (block_lt_of_cell hy0)).trans hy0)
      have lx : (x != x) = false := by simp
      clear hx0 hy0 hx
      go_wp2
      refine wp_nopan ?_
      refine wp_region_held (S := fun w' => w'.cell? ⟨ga, k, none⟩ = some (.int .u64 x) ∧ w'.cell? ⟨gb, k, none⟩ = some (.int .u64 x)) (by kernel_rfl) ?_
      have hS : ({ wr with drawn := wr.drawn + 1 } : World).cell? ⟨ga, k, none⟩ = some (.int .u64 x) ∧ ({ wr with drawn := wr.drawn + 1 } : World).cell? ⟨gb, k, none⟩ = some (.int .u64 x) := ⟨gx.out, gy.out⟩
      refine takeL (i := 0) (v := (.slice (some ⟨ga, 0, none⟩) n ca)) rfl (by kernel_rfl) (by kernel_rfl) (by kernel_rfl) (fun _ _ _ h => h) rfl (by assumption) (fun w' hS' => by go_simp) ?_
      simp only [Act.put, List.setIfInBounds_toArray, List.set_cons_zero, List.set_cons_succ]
      refine takeL (i := 1) (v := (.int .i64 (k : Int))) rfl (by kernel_rfl) (by kernel_rfl) (by kernel_rfl) (fun _ _ _ h => h) rfl (by assumption) (fun w' hS' => by go_simp) ?_
      simp only [Act.put, List.setIfInBounds_toArray, List.set_cons_zero, List.set_cons_succ]
      refine takeL (i := 2) (v := (.pointer (some ⟨ga, k, none⟩))) rfl (by kernel_rfl) (by kernel_rfl) (by kernel_rfl) (fun _ _ _ h => h) rfl (by assumption) (fun w' hS' => run_index_slice _ 37 22 (.tmp 17) (.tmp 18) rfl Tryd.underlying37 1 sz_u64 ga 0 n ca rfl .i64 k rfl hlt k (by omega)) ?_
      simp only [Act.put, List.setIfInBounds_toArray, List.set_cons_zero, List.set_cons_succ]
      refine takeL (i := 3) (v := (.int .u64 x)) rfl (by kernel_rfl) (by kernel_rfl) (by kernel_rfl) (fun _ _ _ h => h) rfl (by assumption) (fun w' hS' => run_load_cell _ 22 (.tmp 19) rfl ⟨ga, k, none⟩ rfl _ hS'.1 _ Tryd.underlying22 rfl) ?_
      simp only [Act.put, List.setIfInBounds_toArray, List.set_cons_zero, List.set_cons_succ]
      refine takeL (i := 4) (v := (.slice (some ⟨gb, 0, none⟩) n cb)) rfl (by kernel_rfl) (by kernel_rfl) (by kernel_rfl) (fun _ _ _ h => h) rfl (by assumption) (fun w' hS' => by go_simp) ?_
      simp only [Act.put, List.setIfInBounds_toArray, List.set_cons_zero, List.set_cons_succ]
      refine takeL (i := 5) (v := (.int .i64 (k : Int))) rfl (by kernel_rfl) (by kernel_rfl) (by kernel_rfl) (fun _ _ _ h => h) rfl (by assumption) (fun w' hS' => by go_simp) ?_
      simp only [Act.put, List.setIfInBounds_toArray, List.set_cons_zero, List.set_cons_succ]
      refine takeL (i := 6) (v := (.pointer (some ⟨gb, k, none⟩))) rfl (by kernel_rfl) (by kernel_rfl) (by kernel_rfl) (fun _ _ _ h => h) rfl (by assumption) (fun w' hS' => run_index_slice _ 37 22 (.tmp 21) (.tmp 22) rfl Tryd.underlying37 1 sz_u64 gb 0 n cb rfl .i64 k rfl hlt k (by omega)) ?_
      simp only [Act.put, List.setIfInBounds_toArray, List.set_cons_zero, List.set_cons_succ]
      refine takeL (i := 7) (v := (.int .u64 x)) rfl (by kernel_rfl) (by kernel_rfl) (by kernel_rfl) (fun _ _ _ h => h) rfl (by assumption) (fun w' hS' => run_load_cell _ 22 (.tmp 23) rfl ⟨gb, k, none⟩ rfl _ hS'.2 _ Tryd.underlying22 rfl) ?_
      simp only [Act.put, List.setIfInBounds_toArray, List.set_cons_zero, List.set_cons_succ]
      refine takeL (i := 8) (v := (.bool false)) rfl (by kernel_rfl) (by kernel_rfl) (by kernel_rfl) (fun _ _ _ h => h) rfl (by assumption) (fun w' hS' => by go_simp) ?_
      simp only [Act.put, List.setIfInBounds_toArray, List.set_cons_zero, List.set_cons_succ]
      refine wpAnyH_done (by kernel_rfl) ?_ _
      simp only [NoPan]
      refine gen_q (fun W' => Below w.heap.size w W') (gB.out.drew) ?_
      intro W1 hb
      have gB1 := Lib.hid hb
      clear hb hS
      go_wp2
      exact ⟨⟨k + 1, by omega, by go_num, gB1.out⟩, by simp [intOf]; omega⟩
    · have e2 : k = n := by omega
      have lk : decide ((k : Int) < (n : Int)) = false := by simp; omega
      subst e2
      go_wp2
      exact ret_t1 rfl _ rfl rfl ⟨rfl, gB.out⟩
end Go.Proofs.YtfnjcpopadpmbaaDoor
namespace Go.Proofs.YtfnjcpopadpmbaaDoor
open Go.RowKit BigFrame
set_option maxRecDepth 100000
theorem run_build0b (w : World) : (Instr.buildSlice 61 0 #[]).run Tryd.prog w = .ok (.slice (some ⟨w.heap.size, 0, none⟩) 0 0) (w.alloc (.cells #[] 4)) := by kernel_rfl
theorem wp_build0b {o : Oper} {a : Act} {w : World} {K : Act → World → Prop} {Q : Exit → Act → World → Prop} (ho : o.op = .buildSlice 61 0 #[]) (h : K (a.put o.dst (.slice (some ⟨w.heap.size, 0, none⟩) 0 0)) (w.alloc (.cells #[] 4))) : o.wp Tryd.prog a w K Q := by
  unfold Oper.wp execOp
  have e : (#[] : Array (Nat × Operand)).map (fun x => match x with | (i, x) => (i, a.eval x)) = #[] := by simp
  simp only [ho, e, Sem.run_bind, run_build0b w, Result.andThen_ok]
  exact h
theorem Tabs.c {w : World} (h : Tabs w) : TabC w := ⟨h.start, h.round⟩
theorem own_one {base sz n : Nat} {e : TypeId} {v : Value} {cs : List Value} {w : World} (h : w.ownsRow base e sz v n cs) : OwL base [⟨e, sz, v, n, cs⟩] w := by
  refine ⟨fun i x hx => ?_, fun i j x y hij hx hy k hk => ?_⟩
  · rcases i with _ | i
    · cases hx; exact h
    · simp at hx
  · rcases i with _ | i
    · rcases j with _ | j
      · exact absurd rfl hij
      · simp at hy
    · simp at hx
theorem bo_rowV {w : World} {va : Option Addr} {nb : Nat} {f : Nat → Bool} (h : RowBo w va nb f) : RowV w va (bl f nb) := fun j u hu => by
  have hj : j < nb := by have := (List.getElem?_eq_some_iff.1 hu).1; rwa [bl_length] at this
  obtain ⟨b, o, e, hc⟩ := h j hj
  rw [bl_get f nb j hj] at hu
  cases hu
  exact ⟨b, o, e, hc⟩
theorem bl_one (f : Nat → Bool) (n : Nat) : ∀ u ∈ bl f n, u.oneCell' = true := fun u hu => by
  obtain ⟨j, _, rfl⟩ := List.mem_map.1 hu
  rfl
theorem own_tail {base nb : Nat} {va : Option Addr} {c : Nat} {f : Nat → Bool} {w : World} (h : w.ownsRow base 4 1 (.slice va (nb + 1) c) (nb + 1) (bl f nb ++ [.bool true])) :
    ∃ gm cm, Value.slice va (nb + 1) c = .slice (some ⟨gm, 0, none⟩) (nb + 1) cm ∧ nb + 1 ≤ cm ∧ (∀ j, j < nb → w.cell? ⟨gm, j, none⟩ = some (.bool (f j))) ∧ w.cell? ⟨gm, nb, none⟩ = some (.bool true) := by
  rcases h.2 with ⟨_, h0⟩ | ⟨g, cap, cur, e1, _, hg, hc, hcm, hcs, htake⟩
  · omega
  · refine ⟨g, cap, e1, hc, fun j hj => ?_, ?_⟩
    · rw [cell_of_row w g j _ _ _ hg]
      have e : (cur.toList.take ((nb + 1) * 1))[j]? = some (.bool (f j)) := by
        rw [htake, List.getElem?_append_left (by rw [bl_length]; exact hj), bl_get f nb j hj]
      rw [List.getElem?_take_of_lt (by omega)] at e
      simpa using e
    · rw [cell_of_row w g nb _ _ _ hg]
      have e : (cur.toList.take ((nb + 1) * 1))[nb]? = some (.bool true) := by
        rw [htake, List.getElem?_append_right (by rw [bl_length]; exact Nat.le_refl _), bl_length, Nat.sub_self]
        rfl
      rw [List.getElem?_take_of_lt (by omega)] at e
      simpa using e
set_option maxHeartbeats 8000000 in
theorem slots_wrong (hAw0 : AwakeOk) (xs : Array Value) (st : Sx) (slot idx : Nat) (bv : Value) (w : World) (h : StRep w xs st) (hT0 : Tabs w) (hr : st.rightB = false) :
    Calls Tryd.prog 5 #[.agg xs, .int .u64 (slot : Int), .int .u64 (idx : Int), bv] w fun e w' => e = .returned (.bool true) ∧ Below w.heap.size w w' := by
  have hrow := Lib.hid (show (Tryd.prog.info? 49).map (·.size) = some xs.size by rw [h.size]; exact row_size row_state)
  obtain ⟨n0, hn0⟩ : ∃ n0, n0 = w.heap.size := ⟨_, rfl⟩
  obtain ⟨w1, hw1⟩ : ∃ w1, w1 = w.alloc (.cells xs 49) := ⟨_, rfl⟩
  have hb1 : Below (n0 + 1) w1 w1 := Below.refl _ _
  have hsz1 : n0 + 1 ≤ w1.heap.size := by rw [hw1, hn0, World.size_alloc]; exact Nat.le_refl _
  have hBX : ∀ W, Below (n0 + 1) w1 W → W.heap[n0]? = some (.cells xs 49 (0, 0)) ∧ Below n0 w W ∧ StRep W xs st ∧ Tabs W ∧ n0 + 1 ≤ W.heap.size := fun W hb => by
    have hbw : Below n0 w W := by
      rw [hn0] at hb ⊢
      rw [hw1] at hb
      exact below_box hb
    refine ⟨?_, hbw, stRep_later h (hn0 ▸ hbw), hT0.below hT0.size (hn0 ▸ hbw), Nat.le_trans hsz1 hb.size⟩
    exact (hb.block n0 (by omega)).trans (by rw [hw1]; exact heap_new _ _ _ _ hn0)
  have gBX := Lib.hid hBX
  have gw1 := Lib.hid hw1
  have gn0 := Lib.hid hn0
  have hRt := Lib.hid (fun (W : World) (hb : Below (n0 + 1) w1 W) => rright_any xs st W (gBX.out W hb).2.2.1)
  rw [hr] at hRt
  have hAw := Lib.hid (show ∀ (W : World), TabC W → Calls Tryd.prog 6 #[] W (fun e w' => e = .returned (.bool true) ∧ Below W.heap.size W w') from hAw0)
  have kT := Lib.hid (show TabC (w.alloc (.cells xs 49)) from hw1 ▸ (gBX.out w1 hb1).2.2.2.1.c)
  clear hBX hw1 hn0 h hT0 hr hAw0 hb1
  go_enter Tryd.func5, Tryd.ntmps5
  go_wp2_with (first
    | ((with_reducible refine (hAw.out _ kT.out).mono ?_)
       rintro e W1 ⟨rfl, b1⟩
       rw [← gw1.out] at b1
       rw [← gn0.out]
       have B1 := Lib.hid (show Below (n0 + 1) w1 W1 from (Below.refl _ _).trans (b1.mono hsz1))
       have k2 := Lib.hid (gBX.out W1 B1.out)
       clear b1)
    | ((with_reducible refine at_load 49 ?_); refine wpList_value (by rfl) _ (run_load_box _ 49 (.tmp 4) rfl n0 rfl _ xs (0, 0) _ k2.out.1 Tryd.underlying49 rfl hrow.out) ?_)
    | ((with_reducible refine (hRt.out _ B1.out).mono ?_)
       rintro e W2 ⟨rfl, b2⟩
       have B2 := Lib.hid (show Below (n0 + 1) w1 W2 from B1.out.trans (b2.mono k2.out.2.2.2.2))
       have k3 := Lib.hid (gBX.out W2 B2.out)
       clear b2)
    )
  exact ret_t1 rfl _ rfl rfl ⟨rfl, gn0.out ▸ k3.out.2.1⟩
set_option maxHeartbeats 32000000 in
theorem slots_core (hAw0 : AwakeOk) (xs : Array Value) (st : Sx) (slot idx : Nat) (va : Option Addr) (nb c : Nat) (f : Nat → Bool) (w : World) (h : StRep w xs st) (hT0 : Tabs w) (hN2 : st.vals.length ≤ 65536) (hr : st.rightB = true) (hslot : slot ≤ 18446744073709551615) (hbo0 : RowBo w va nb f) (hnb : nb ≤ 1048576) (hvc : va = none → c = 0)
    (E1 E2 : Int) (C1 C2 : List Int) (hl1 : C1.length ≤ 65536) (hl2 : C2.length ≤ 65536)
    (hOf0 : ∀ W, StRep W xs st → Tabs W → Calls Tryd.prog 9 #[.agg xs, .int .u64 (slot : Int), .int .u64 (idx : Int)] W fun r w' => ∃ v, r = .returned (.tuple #[v, .int .i64 E1]) ∧ OwU W.heap.size v C1 w' ∧ Below W.heap.size W w')
    (hrOf0 : ∀ W, StRep W xs st → Tabs W → Calls Tryd.prog 13 #[.agg xs, .int .u64 (slot : Int), .int .u64 (idx : Int)] W fun r w' => ∃ v, r = .returned (.tuple #[v, .int .i64 E1]) ∧ OwU W.heap.size v C1 w' ∧ Below W.heap.size W w')
    (hWho0 : ∀ W va c, StRep W xs st → Tabs W → RowBo W va nb f → Calls Tryd.prog 11 #[.agg xs, .int .u64 (slot : Int), .int .u64 (idx : Int), .slice va nb c] W fun r w' => ∃ v, r = .returned (.tuple #[v, .int .i64 E2]) ∧ OwU W.heap.size v C2 w' ∧ Below W.heap.size W w')
    (hrWho0 : ∀ W va c, StRep W xs st → Tabs W → RowBo W va nb f → Calls Tryd.prog 15 #[.agg xs, .int .u64 (slot : Int), .int .u64 (idx : Int), .slice va nb c] W fun r w' => ∃ v, r = .returned (.tuple #[v, .int .i64 E2]) ∧ OwU W.heap.size v C2 w' ∧ Below W.heap.size W w') :
    Calls Tryd.prog 5 #[.agg xs, .int .u64 (slot : Int), .int .u64 (idx : Int), .slice va nb c] w fun e w' => e = .returned (.bool true) ∧ Below w.heap.size w w' := by
  have hrow := Lib.hid (show (Tryd.prog.info? 49).map (·.size) = some xs.size by rw [h.size]; exact row_size row_state)
  obtain ⟨n0, hn0⟩ : ∃ n0, n0 = w.heap.size := ⟨_, rfl⟩
  obtain ⟨w1, hw1⟩ : ∃ w1, w1 = w.alloc (.cells xs 49) := ⟨_, rfl⟩
  have hb1 : Below (n0 + 1) w1 w1 := Below.refl _ _
  have hsz1 : n0 + 1 ≤ w1.heap.size := by rw [hw1, hn0, World.size_alloc]; exact Nat.le_refl _
  have hBX : ∀ W, Below (n0 + 1) w1 W → W.heap[n0]? = some (.cells xs 49 (0, 0)) ∧ Below n0 w W ∧ StRep W xs st ∧ Tabs W ∧ n0 + 1 ≤ W.heap.size := fun W hb => by
    have hbw : Below n0 w W := by
      rw [hn0] at hb ⊢
      rw [hw1] at hb
      exact below_box hb
    refine ⟨?_, hbw, stRep_later h (hn0 ▸ hbw), hT0.below hT0.size (hn0 ▸ hbw), Nat.le_trans hsz1 hb.size⟩
    exact (hb.block n0 (by omega)).trans (by rw [hw1]; exact heap_new _ _ _ _ hn0)
  have gBX := Lib.hid hBX
  have gw1 := Lib.hid hw1
  have gn0 := Lib.hid hn0
  have hRt := Lib.hid (fun (W : World) (hb : Below (n0 + 1) w1 W) => rright_any xs st W (gBX.out W hb).2.2.1)
  rw [hr] at hRt
  have hAw := Lib.hid (show ∀ (W : World), TabC W → Calls Tryd.prog 6 #[] W (fun e w' => e = .returned (.bool true) ∧ Below W.heap.size W w') from hAw0)
  have kT := Lib.hid (show TabC (w.alloc (.cells xs 49)) from hw1 ▸ (gBX.out w1 hb1).2.2.2.1.c)
  have hOf := Lib.hid (fun W hb => hOf0 W (gBX.out W hb).2.2.1 (gBX.out W hb).2.2.2.1)
  have hrOf := Lib.hid (fun W hb => hrOf0 W (gBX.out W hb).2.2.1 (gBX.out W hb).2.2.2.1)
  have hWho := Lib.hid (fun W va c hb => hWho0 W va c (gBX.out W hb).2.2.1 (gBX.out W hb).2.2.2.1)
  have hrWho := Lib.hid (fun W va c hb => hrWho0 W va c (gBX.out W hb).2.2.1 (gBX.out W hb).2.2.2.1)
  have gbo := Lib.hid (fun (W : World) (hb : Below (n0 + 1) w1 W) => (hbo0.later (show Below w.heap.size w W from hn0 ▸ (gBX.out W hb).2.1) : RowBo W va nb f))
  obtain ⟨ep, hep⟩ : ∃ ep, ep = slot / 4 := ⟨_, rfl⟩
  have hs4 : (slot : Int) / 4 = (ep : Int) := by omega
  obtain ⟨cn, hcn⟩ : ∃ cn : Nat, cn = cntN (actL st.vals (ep : Int)).length := ⟨_, rfl⟩
  have hct := Lib.hid (fun (W : World) (hb : Below (n0 + 1) w1 W) => Count_any xs st.vals (fun k => st.n (723 + k)) (ep : Int) W (gBX.out W hb).2.2.1.vs hN2)
  have hrct := Lib.hid (fun (W : World) (hb : Below (n0 + 1) w1 W) => rcount_any xs st.vals (fun k => st.n (723 + k)) (ep : Int) W (gBX.out W hb).2.2.1.vs hN2)
  rw [← hcn] at hct hrct
  have wep : IntKind.u64.wrap (ep : Int) = (ep : Int) := by rw [IntKind.wrap_u64]; omega
  have lcc : ((cn : Int) != (cn : Int)) = false := by simp
  have lE1 : (E1 != E1) = false := by simp
  have lE2 : (E2 != E2) = false := by simp
  have gvc := Lib.hid (show va = none → c = 0 ∧ nb = 0 from fun e => ⟨hvc e, by
    rcases Nat.eq_zero_or_pos nb with h0 | h0
    · exact h0
    · obtain ⟨b, o, e2, _⟩ := hbo0 0 h0
      rw [e] at e2
      cases e2⟩)
  have lnb : IntKind.i64.wrap ((nb : Int) + 1) = ((nb + 1 : Nat) : Int) := by rw [IntKind.wrap_i64]; omega
  clear hBX hw1 hn0 h hT0 hr hAw0 hb1 hOf0 hrOf0 hWho0 hrWho0 hbo0 hep hcn hN2 hslot hvc
  go_enter Tryd.func5, Tryd.ntmps5
  go_wp2_with (first
    | ((with_reducible refine (hAw.out _ kT.out).mono ?_)
       rintro e W1 ⟨rfl, b1⟩
       rw [← gw1.out] at b1
       rw [← gn0.out]
       have B1 := Lib.hid (show Below (n0 + 1) w1 W1 from (Below.refl _ _).trans (b1.mono hsz1))
       have k2 := Lib.hid (gBX.out W1 B1.out)
       clear b1)
    | ((with_reducible refine at_load 49 ?_); refine wpList_value (by rfl) _ (run_load_box _ 49 (.tmp 4) rfl n0 rfl _ xs (0, 0) _ k2.out.1 Tryd.underlying49 rfl hrow.out) ?_)
    | ((with_reducible refine (hRt.out _ B1.out).mono ?_)
       rintro e W2 ⟨rfl, b2⟩
       have B2 := Lib.hid (show Below (n0 + 1) w1 W2 from B1.out.trans (b2.mono k2.out.2.2.2.2))
       have k3 := Lib.hid (gBX.out W2 B2.out)
       clear b2)
    )
  refine wp_nopan ?_
  refine wp_region_held (S := fun w' => w'.heap[n0]? = some (.cells xs 49 (0, 0))) (by kernel_rfl) ?_
  have hS : ({ W2 with drawn := W2.drawn + 1 } : World).heap[n0]? = some (.cells xs 49 (0, 0)) := k3.out.1
  have hB3 := show Below (n0 + 1) w1 { W2 with drawn := W2.drawn + 1 } from B2.out.drew
  refine takeL (i := 0) (v := (.agg xs)) rfl (by kernel_rfl) (by kernel_rfl) (by kernel_rfl) (fun _ _ _ h => h) rfl (by assumption) (fun w' hS' => run_load_box w' 49 (.tmp 4) rfl n0 rfl _ xs (0, 0) _ hS' Tryd.underlying49 rfl hrow.out) ?_
  simp only [Act.put, List.setIfInBounds_toArray, List.set_cons_zero, List.set_cons_succ]
  refine takeL (i := 1) (v := (.int .u64 (slot : Int))) rfl (by kernel_rfl) (by kernel_rfl) (by kernel_rfl) (fun _ _ _ h => h) rfl (by assumption) (fun w' hS' => by go_simp) ?_
  simp only [Act.put, List.setIfInBounds_toArray, List.set_cons_zero, List.set_cons_succ]
  refine takeL (i := 2) (v := (.int .u64 (ep : Int))) rfl (by kernel_rfl) (by kernel_rfl) (by kernel_rfl) (fun _ _ _ h => h) rfl (by assumption) (fun w' hS' => by go_simp) ?_
  simp only [Act.put, List.setIfInBounds_toArray, List.set_cons_zero, List.set_cons_succ]
  refine takeL (i := 4) (v := (.agg xs)) rfl (by kernel_rfl) (by kernel_rfl) (by kernel_rfl) (fun _ _ _ h => h) rfl (by assumption) (fun w' hS' => run_load_box w' 49 (.tmp 4) rfl n0 rfl _ xs (0, 0) _ hS' Tryd.underlying49 rfl hrow.out) ?_
  simp only [Act.put, List.setIfInBounds_toArray, List.set_cons_zero, List.set_cons_succ]
  refine takeL (i := 5) (v := (.int .u64 (slot : Int))) rfl (by kernel_rfl) (by kernel_rfl) (by kernel_rfl) (fun _ _ _ h => h) rfl (by assumption) (fun w' hS' => by go_simp) ?_
  simp only [Act.put, List.setIfInBounds_toArray, List.set_cons_zero, List.set_cons_succ]
  refine takeL (i := 6) (v := (.int .u64 (ep : Int))) rfl (by kernel_rfl) (by kernel_rfl) (by kernel_rfl) (fun _ _ _ h => h) rfl (by assumption) (fun w' hS' => by go_simp) ?_
  simp only [Act.put, List.setIfInBounds_toArray, List.set_cons_zero, List.set_cons_succ]
  refine oneL (i := 3) rfl (by kernel_rfl) rfl (wp_call 8 #[.agg xs, .int .u64 (ep : Int)] (by go_simp) _ _ (hct.out _ hB3) ?_)
  intro V1 hV1
  have hB4 := show Below (n0 + 1) w1 V1 from hB3.trans (hV1.mono (gBX.out _ hB3).2.2.2.2)
  refine ⟨(gBX.out _ hB4).1, ?_⟩
  have hS := (gBX.out _ hB4).1
  simp only [Act.put, List.setIfInBounds_toArray, List.set_cons_zero, List.set_cons_succ]
  refine oneL (i := 7) rfl (by kernel_rfl) rfl (wp_call 12 #[.agg xs, .int .u64 (ep : Int)] (by go_simp) _ _ (hrct.out _ hB4) ?_)
  intro V2 hV2
  have hB5 := show Below (n0 + 1) w1 V2 from hB4.trans (hV2.mono (gBX.out _ hB4).2.2.2.2)
  refine ⟨(gBX.out _ hB5).1, ?_⟩
  have hS := (gBX.out _ hB5).1
  simp only [Act.put, List.setIfInBounds_toArray, List.set_cons_zero, List.set_cons_succ]
  refine takeL (i := 8) (v := (.bool false)) rfl (by kernel_rfl) (by kernel_rfl) (by kernel_rfl) (fun _ _ _ h => h) rfl (by assumption) (fun w' hS' => by go_simp) ?_
  simp only [Act.put, List.setIfInBounds_toArray, List.set_cons_zero, List.set_cons_succ]
  refine wpAnyH_done (by kernel_rfl) ?_ _
  simp only [NoPan]
  have B3 := Lib.hid hB5
  have k4 := Lib.hid (gBX.out V2 hB5)
  clear hS hB3 hB4 hB5 hV1 hV2
  go_wp2_with (first
    | ((with_reducible refine at_load 49 ?_); refine wpList_value (by rfl) _ (run_load_box _ 49 (.tmp 4) rfl n0 rfl _ xs (0, 0) _ k4.out.1 Tryd.underlying49 rfl hrow.out) ?_)
    | ((with_reducible refine (hOf.out _ B3.out).mono ?_)
       rintro e W4 ⟨v, rfl, o4, b4⟩
       obtain ⟨ala, ac, rfl, r4⟩ := o4.row
       have B4 := Lib.hid (show Below (n0 + 1) w1 W4 from B3.out.trans (b4.mono k4.out.2.2.2.2))
       have k5 := Lib.hid (gBX.out W4 B4.out)
       have R4 := Lib.hid r4
       clear b4 o4 r4)
    | ((with_reducible refine at_load 49 ?_); refine wpList_value (by rfl) _ (run_load_box _ 49 (.tmp 4) rfl n0 rfl _ xs (0, 0) _ k5.out.1 Tryd.underlying49 rfl hrow.out) ?_)
    | ((with_reducible refine (hrOf.out _ B4.out).mono ?_)
       rintro e W5 ⟨v, rfl, o5, b5⟩
       obtain ⟨alb, bc, rfl, r5⟩ := o5.row
       have B5 := Lib.hid (show Below (n0 + 1) w1 W5 from B4.out.trans (b5.mono k5.out.2.2.2.2))
       have k6 := Lib.hid (gBX.out W5 B5.out)
       have csm := Lib.hid (same_any ala alb C1.length ac bc C1 W5 (R4.out.later b5) r5 (by omega))
       clear b5 o5 r5)
    | ((with_reducible refine csm.out.mono ?_)
       rintro e W6 ⟨rfl, b6⟩
       have B6 := Lib.hid (show Below (n0 + 1) w1 W6 from B5.out.trans (b6.mono k6.out.2.2.2.2))
       have k7 := Lib.hid (gBX.out W6 B6.out)
       clear b6)
    | ((with_reducible refine at_bslice 61 ?_)
       go_loud (refine wpList_plain rfl fun K hK => wp_build0b rfl (hK _ _ ?_))
       clear hK K
       obtain ⟨base, hbase⟩ : ∃ b, b = W6.heap.size := ⟨_, rfl⟩
       rw [← hbase]
       refine gen_l (fun W => Below (n0 + 1) w1 W ∧ OwL base [⟨4, 1, .slice (some ⟨base, 0, none⟩) 0 0, 0, []⟩] W ∧ base ≤ W.heap.size) ⟨B6.out.trans (((Below.refl _ _).alloc (Nat.le_refl _) _).mono k7.out.2.2.2.2), own_one ⟨rfl, Or.inr ⟨base, 0, #[], rfl, Nat.le_refl _, heap_new _ _ _ _ hbase, by decide, by decide, by simp, by simp⟩⟩, by rw [World.size_alloc, hbase]; omega⟩ ?_
       rintro W7 ⟨h6, h7, h8⟩
       have B7 := Lib.hid h6
       have O7 := Lib.hid h7
       have z7 := Lib.hid h8
       have hbn := Lib.hid (show n0 + 1 ≤ base by rw [hbase]; exact k7.out.2.2.2.2)
       clear h6 h7 h8 hbase)
    | ((with_reducible refine at_appC 61 ?_)
       go_loud (refine wpList_plain rfl fun K hK => wp_appL (n0 := n0 + 1) (w0 := w1) (.tmp 56) (.tmp 57) 61 4 rfl Tryd.underlying61 (.bool false) 1 1 info_bool rfl (by decide) base [⟨4, 1, .slice (some ⟨base, 0, none⟩) 0 0, 0, []⟩] 0 0 (.slice (some ⟨base, 0, none⟩) 0 0) [] rfl rfl O7.out va nb c rfl gvc.out (bl f nb) (by rw [bl_length, Nat.mul_one]) (bo_rowV (gbo.out W7 B7.out)) (bl_one f nb) (by omega) (by omega) z7.out hbn.out B7.out (fun va2 c2 W h1 h2 h3 h4 h5 h6 => hK _ _ ?_))
       clear hK K
       rw [Nat.zero_add, List.nil_append] at h2
       rw [Nat.zero_add]
       obtain ⟨W8, hW8⟩ : ∃ X : World, X = W := ⟨_, rfl⟩
       rw [← hW8] at h2 h3 h4 ⊢
       have O8 := Lib.hid (show OwL base [⟨4, 1, .slice va2 nb c2, nb, bl f nb⟩] W8 from h2)
       have B8 := Lib.hid h3
       have z8 := Lib.hid h4
       clear h1 h2 h3 h4 h5 h6 hW8)
    | ((with_reducible refine at_bslice 61 ?_)
       refine wpList_plain rfl fun K hK => wp_ran _ (run_buildSlice _ 61 4 1 _ rfl Tryd.underlying61 (.bool false) 1 info_bool2 (by decide) (by decide) [.bool true] rfl (by rfl) (fun v hv => by rw [List.mem_singleton.1 hv]; rfl)) (hK _ _ ?_)
       clear hK K
       obtain ⟨q9, hq9⟩ : ∃ q, q = W8.heap.size := ⟨_, rfl⟩
       rw [← hq9]
       refine gen_l (fun W => Below (n0 + 1) w1 W ∧ OwL base [⟨4, 1, .slice va2 nb c2, nb, bl f nb⟩] W ∧ base ≤ W.heap.size ∧ W.rangeAt q9 0 [.bool true]) ⟨B8.out.trans (((Below.refl _ _).alloc (Nat.le_refl _) _).mono (by have := z8.out; have := hbn.out; omega)), O8.out.later ((Below.refl _ _).alloc (Nat.le_refl _) _), by rw [World.size_alloc]; have := z8.out; omega, range_whole (heap_new _ _ _ _ hq9)⟩ ?_
       clear hq9
       rintro W9 ⟨h6, h7, h8, h9⟩
       have B9 := Lib.hid h6
       have O9 := Lib.hid h7
       have z9 := Lib.hid h8
       have r9 := Lib.hid h9
       clear h6 h7 h8 h9)
    | ((with_reducible refine at_appC 61 ?_)
       go_loud (refine wpList_plain rfl fun K hK => wp_appL (n0 := n0 + 1) (w0 := w1) (.tmp 58) (.tmp 59) 61 4 rfl Tryd.underlying61 (.bool false) 1 1 info_bool rfl (by decide) base [⟨4, 1, .slice va2 nb c2, nb, bl f nb⟩] 0 nb (.slice va2 nb c2) (bl f nb) rfl rfl O9.out (some ⟨q9, 0, none⟩) 1 1 rfl (fun h => by cases h) [.bool true] rfl (RowV.range r9.out) (fun u hu => by rw [List.mem_singleton.1 hu]; rfl) (by omega) (by omega) z9.out hbn.out B9.out (fun va3 c3 W h1 h2 h3 h4 h5 h6 => hK _ _ ?_))
       clear hK K
       obtain ⟨W10, hW10⟩ : ∃ X : World, X = W := ⟨_, rfl⟩
       rw [← hW10] at h2 h3 ⊢
       have o10 : W10.ownsRow base 4 1 (.slice va3 (nb + 1) c3) (nb + 1) (bl f nb ++ [.bool true]) := h2.own 0 _ rfl
       obtain ⟨gm, cm, hvm, hcm, hcl, htl⟩ := own_tail o10
       have B10 := Lib.hid h3
       have k11 := Lib.hid (gBX.out W10 h3)
       have cl10 := Lib.hid hcl
       have tl10 := Lib.hid htl
       have cwm := Lib.hid (hWho.out W10 (some ⟨gm, 0, none⟩) cm B10.out (fun j hj => ⟨gm, 0, rfl, by rw [Nat.zero_add]; exact cl10.out j hj⟩))
       rw [hvm]
       clear h1 h2 h3 h4 h5 h6 hW10 o10 hvm hcl htl)
    | ((with_reducible refine at_sliceC 61 ?_); go_loud (refine wpList_value (by rfl) (.slice (some ⟨gm, 0, none⟩) nb cm) (run_slice_to _ 61 4 (.tmp 60) (.tmp 62) rfl Tryd.underlying61 1 sz_bool gm 0 (nb + 1) cm nb rfl rfl (by omega)) ?_))
    | ((with_reducible refine at_load 49 ?_); refine wpList_value (by rfl) _ (run_load_box _ 49 (.tmp 4) rfl n0 rfl _ xs (0, 0) _ k11.out.1 Tryd.underlying49 rfl hrow.out) ?_)
    | ((with_reducible refine cwm.out.mono ?_)
       rintro e W11 ⟨v, rfl, o11, b11⟩
       obtain ⟨alc, cc, rfl, r11⟩ := o11.row
       have B11 := Lib.hid (show Below (n0 + 1) w1 W11 from B10.out.trans (b11.mono k11.out.2.2.2.2))
       have k12 := Lib.hid (gBX.out W11 B11.out)
       have y11 := Lib.hid b11
       have R11 := Lib.hid r11
       clear b11 o11 r11)
    | ((with_reducible refine at_load 49 ?_); refine wpList_value (by rfl) _ (run_load_box _ 49 (.tmp 4) rfl n0 rfl _ xs (0, 0) _ k12.out.1 Tryd.underlying49 rfl hrow.out) ?_)
    | ((with_reducible refine (hrWho.out W11 va c B11.out (gbo.out W11 B11.out)).mono ?_)
       rintro e W12 ⟨v, rfl, o12, b12⟩
       obtain ⟨ald, dc, rfl, r12⟩ := o12.row
       have B12 := Lib.hid (show Below (n0 + 1) w1 W12 from B11.out.trans (b12.mono k12.out.2.2.2.2))
       have k13 := Lib.hid (gBX.out W12 B12.out)
       have y12 := Lib.hid (y11.out.trans (b12.mono y11.out.size))
       have csm2 := Lib.hid (same_any alc ald C2.length cc dc C2 W12 (R11.out.later b12) r12 (by omega))
       clear b12 o12 r12)
    | ((with_reducible refine csm2.out.mono ?_)
       rintro e W13 ⟨rfl, b13⟩
       have B13 := Lib.hid (show Below (n0 + 1) w1 W13 from B12.out.trans (b13.mono k13.out.2.2.2.2))
       have k14 := Lib.hid (gBX.out W13 B13.out)
       have y13 := Lib.hid (y12.out.trans (b13.mono y12.out.size))
       have tl13 : W13.cell? ⟨gm, nb, none⟩ = some (.bool true) := (y13.out.cell (block_lt_of_cell tl10.out)).trans tl10.out
       have cl13 := Lib.hid (show ∀ j, j < nb → W13.cell? ⟨gm, j, none⟩ = some (.bool (f j)) from fun j hj => (y13.out.cell (block_lt_of_cell (cl10.out j hj))).trans (cl10.out j hj))
       clear b13)
    | ((with_reducible refine at_sliceC 61 ?_); go_loud (refine wpList_value (by rfl) (.slice (some ⟨gm, 0, none⟩) (nb + 1) cm) (run_slice_to _ 61 4 (.tmp 90) (.tmp 93) rfl Tryd.underlying61 1 sz_bool gm 0 nb cm (nb + 1) rfl rfl hcm) ?_))
    | ((with_reducible refine at_iaddrC 61 ?_); go_loud (refine wpList_value (by rfl) _ (run_index_slice _ 61 4 (.tmp 94) (.tmp 96) rfl Tryd.underlying61 1 sz_bool gm 0 (nb + 1) cm rfl .i64 nb rfl (by omega) nb (by omega)) ?_)))
  have gbW := Lib.hid (gbo.out W13 B13.out)
  clear tl13
  go_loopw [18] (fun vi wr => ∃ k : Nat, k ≤ nb ∧ vi = .int .i64 (k : Int) ∧ Below W13.heap.size W13 wr) (fun vi _ => nb - (intOf vi).toNat)
  case atStart => exact ⟨0, Nat.zero_le _, rfl, Below.refl _ _⟩
  case round =>
    obtain ⟨k, hk, rfl, hB⟩ := hrel
    have gB := Lib.hid hB
    clear hB
    by_cases hlt : k < nb
    · have lk : decide ((k : Int) < (nb : Int)) = true := by simp; omega
      have wk : IntKind.i64.wrap ((k : Int) + 1) = ((k + 1 : Nat) : Int) := by rw [IntKind.wrap_i64]; omega
      obtain ⟨b, o, rfl, hf0⟩ := gbW.out k hlt
      have hc0 := cl13.out k hlt
      obtain ⟨fk, hfk⟩ : ∃ fk, fk = f k := ⟨_, rfl⟩
      rw [← hfk] at hf0 hc0
      have gx := Lib.hid ((gB.out.cell (block_lt_of_cell hc0)).trans hc0)
      have gy := Lib.hid ((gB.out.cell (block_lt_of_cell hf0)).trans hf0)
      have lx : (fk != fk) = false := by simp
      clear hf0 hc0 hfk
      go_wp2
      refine wp_nopan ?_
      refine wp_region_held (S := fun w' => w'.cell? ⟨gm, k, none⟩ = some (.bool fk) ∧ w'.cell? ⟨b, o + k, none⟩ = some (.bool fk)) (by kernel_rfl) ?_
      have hS : ({ wr with drawn := wr.drawn + 1 } : World).cell? ⟨gm, k, none⟩ = some (.bool fk) ∧ ({ wr with drawn := wr.drawn + 1 } : World).cell? ⟨b, o + k, none⟩ = some (.bool fk) := ⟨gx.out, gy.out⟩
      refine takeL (i := 0) (v := (.slice (some ⟨gm, 0, none⟩) nb cm)) rfl (by kernel_rfl) (by kernel_rfl) (by kernel_rfl) (fun _ _ _ h => h) rfl (by assumption) (fun w' hS' => by go_simp) ?_
      simp only [Act.put, List.setIfInBounds_toArray, List.set_cons_zero, List.set_cons_succ]
      refine takeL (i := 1) (v := (.int .i64 (k : Int))) rfl (by kernel_rfl) (by kernel_rfl) (by kernel_rfl) (fun _ _ _ h => h) rfl (by assumption) (fun w' hS' => by go_simp) ?_
      simp only [Act.put, List.setIfInBounds_toArray, List.set_cons_zero, List.set_cons_succ]
      refine takeL (i := 2) (v := (.pointer (some ⟨gm, k, none⟩))) rfl (by kernel_rfl) (by kernel_rfl) (by kernel_rfl) (fun _ _ _ h => h) rfl (by assumption) (fun w' hS' => run_index_slice _ 61 4 (.tmp 107) (.tmp 108) rfl Tryd.underlying61 1 sz_bool gm 0 nb cm rfl .i64 k rfl hlt k (by omega)) ?_
      simp only [Act.put, List.setIfInBounds_toArray, List.set_cons_zero, List.set_cons_succ]
      refine takeL (i := 3) (v := (.bool fk)) rfl (by kernel_rfl) (by kernel_rfl) (by kernel_rfl) (fun _ _ _ h => h) rfl (by assumption) (fun w' hS' => run_load_cell _ 4 (.tmp 109) rfl ⟨gm, k, none⟩ rfl _ hS'.1 _ Tryd.underlying4 rfl) ?_
      simp only [Act.put, List.setIfInBounds_toArray, List.set_cons_zero, List.set_cons_succ]
      refine takeL (i := 4) (v := (.slice (some ⟨b, o, none⟩) nb c)) rfl (by kernel_rfl) (by kernel_rfl) (by kernel_rfl) (fun _ _ _ h => h) rfl (by assumption) (fun w' hS' => by go_simp) ?_
      simp only [Act.put, List.setIfInBounds_toArray, List.set_cons_zero, List.set_cons_succ]
      refine takeL (i := 5) (v := (.int .i64 (k : Int))) rfl (by kernel_rfl) (by kernel_rfl) (by kernel_rfl) (fun _ _ _ h => h) rfl (by assumption) (fun w' hS' => by go_simp) ?_
      simp only [Act.put, List.setIfInBounds_toArray, List.set_cons_zero, List.set_cons_succ]
      refine takeL (i := 6) (v := (.pointer (some ⟨b, o + k, none⟩))) rfl (by kernel_rfl) (by kernel_rfl) (by kernel_rfl) (fun _ _ _ h => h) rfl (by assumption) (fun w' hS' => run_index_slice _ 61 4 (.tmp 111) (.tmp 112) rfl Tryd.underlying61 1 sz_bool b o nb c rfl .i64 k rfl hlt (o + k) (by omega)) ?_
      simp only [Act.put, List.setIfInBounds_toArray, List.set_cons_zero, List.set_cons_succ]
      refine takeL (i := 7) (v := (.bool fk)) rfl (by kernel_rfl) (by kernel_rfl) (by kernel_rfl) (fun _ _ _ h => h) rfl (by assumption) (fun w' hS' => run_load_cell _ 4 (.tmp 113) rfl ⟨b, o + k, none⟩ rfl _ hS'.2 _ Tryd.underlying4 rfl) ?_
      simp only [Act.put, List.setIfInBounds_toArray, List.set_cons_zero, List.set_cons_succ]
      refine takeL (i := 8) (v := (.bool false)) rfl (by kernel_rfl) (by kernel_rfl) (by kernel_rfl) (fun _ _ _ h => h) rfl (by assumption) (fun w' hS' => by go_simp) ?_
      simp only [Act.put, List.setIfInBounds_toArray, List.set_cons_zero, List.set_cons_succ]
      refine wpAnyH_done (by kernel_rfl) ?_ _
      simp only [NoPan]
      refine gen_q (fun W' => Below W13.heap.size W13 W') (gB.out.drew) ?_
      intro W14 hb
      have gB1 := Lib.hid hb
      clear hb hS
      go_wp2
      exact ⟨⟨k + 1, by omega, by go_num, gB1.out⟩, by simp [intOf]; omega⟩
    · have e2 : k = nb := by omega
      have lk : decide ((k : Int) < (nb : Int)) = false := by simp; omega
      have kf := Lib.hid (gBX.out wr (B13.out.trans (gB.out.mono k14.out.2.2.2.2)))
      subst e2
      go_wp2
      exact ret_t1 rfl _ rfl rfl ⟨rfl, gn0.out ▸ kf.out.2.1⟩
theorem slots_any (hAw0 : AwakeOk) (xs : Array Value) (st : Sx) (slot idx : Nat) (va : Option Addr) (nb c : Nat) (f : Nat → Bool) (w : World) (h : StRep w xs st) (hT0 : Tabs w) (hslot : slot ≤ 18446744073709551615) (hbo0 : RowBo w va nb f) (hnb : nb ≤ 1048576) (hvc : va = none → c = 0) :
    Calls Tryd.prog 5 #[.agg xs, .int .u64 (slot : Int), .int .u64 (idx : Int), .slice va nb c] w fun e w' => e = .returned (.bool true) ∧ Below w.heap.size w w' := by
  cases hr : st.rightB with
  | false => exact slots_wrong hAw0 xs st slot idx _ w h hT0 hr
  | true =>
    have hN : st.vals.length ≤ 65536 := right_len hr
    obtain ⟨mx, hmx⟩ : ∃ mx : Nat → Int, mx = fun k => st.n (723 + k) := ⟨_, rfl⟩
    have hv : ∀ W, StRep W xs st → VsRep W xs st.vals mx := fun W h => hmx ▸ h.vs
    by_cases hix : idx < cntN (actL st.vals ((slot / 4 : Nat) : Int)).length
    · have hCl : (comC st.vals mx slot idx).length ≤ 65536 := Nat.le_trans (comC_length _ _ _ _) hN
      have hOf := fun W (h : StRep W xs st) (ht : Tabs W) => (show Calls Tryd.prog 9 #[.agg xs, .int .u64 (slot : Int), .int .u64 (idx : Int)] W fun r w' => ∃ v, r = .returned (.tuple #[v, .int .i64 0]) ∧ OwU W.heap.size v (comC st.vals mx slot idx) w' ∧ Below W.heap.size W w' from of_good xs st.vals mx slot idx _ hslot W (hv W h) hN ht.c rfl hix)
      have hrOf := fun W (h : StRep W xs st) (ht : Tabs W) => rof_good xs st.vals mx slot idx hslot W (hv W h) hN ht hix
      by_cases hlen : (comC st.vals mx slot idx).length = nb
      · exact slots_core hAw0 xs st slot idx va nb c f w h hT0 hN hr hslot hbo0 hnb hvc 0 0 _ (msort (pickK f (comC st.vals mx slot idx) nb)) hCl (by rw [msort_length]; have := pickK_length f (comC st.vals mx slot idx) nb; omega) hOf hrOf
          (fun W va c h ht hb => who_ok xs st.vals mx slot idx va nb c f hslot W (hv W h) hN ht.c hix hlen hb) (fun W va c h ht hb => rwho_ok xs st.vals mx slot idx va nb c f hslot W (hv W h) hN ht hix hlen hb)
      · exact slots_core hAw0 xs st slot idx va nb c f w h hT0 hN hr hslot hbo0 hnb hvc 0 32 _ [] hCl (by simp) hOf hrOf
          (fun W va c h ht hb => (who_len xs st.vals mx slot idx va nb c hslot W (hv W h) hN ht.c hix (fun e => hlen e.symm)).mono fun r w' ⟨e, hb⟩ => ⟨_, e, OwU.nil _ _, hb⟩)
          (fun W va c h ht hb => (rwho_len xs st.vals mx slot idx va nb c hslot W (hv W h) hN ht hix (fun e => hlen e.symm)).mono fun r w' ⟨e, hb⟩ => ⟨_, e, OwU.nil _ _, hb⟩)
    · exact slots_core hAw0 xs st slot idx va nb c f w h hT0 hN hr hslot hbo0 hnb hvc 1 30 [] [] (by simp) (by simp)
        (fun W h ht => (of_bad xs st.vals mx slot idx _ hslot W (hv W h) hN ht.c rfl (by omega)).mono fun r w' ⟨e, hb⟩ => ⟨_, e, OwU.nil _ _, hb⟩)
        (fun W h ht => (rof_bad xs st.vals mx slot idx hslot W (hv W h) hN ht (by omega)).mono fun r w' ⟨e, hb⟩ => ⟨_, e, OwU.nil _ _, hb⟩)
        (fun W va c h ht hb => (who_bad xs st.vals mx slot idx _ hslot W (hv W h) hN ht.c (by omega)).mono fun r w' ⟨e, hb⟩ => ⟨_, e, OwU.nil _ _, hb⟩)
        (fun W va c h ht hb => (rwho_bad xs st.vals mx slot idx _ hslot W (hv W h) hN ht (by omega)).mono fun r w' ⟨e, hb⟩ => ⟨_, e, OwU.nil _ _, hb⟩)
end Go.Proofs.YtfnjcpopadpmbaaDoor
