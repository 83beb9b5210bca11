/- The law: each active stands in just one committee. -/
import Derived.Test.YtfnjcpopadpmbaaDoorKCmO
import Derived.Test.YtfnjcpopadpmbaaDoorKRefR2
set_option linter.unusedVariables false
set_option linter.unusedSimpArgs false
set_option linter.unnecessarySimpa false
namespace Go.Proofs.YtfnjcpopadpmbaaDoor
open Go.RowKit BigFrame
set_option maxRecDepth 100000
theorem tm_zero (SL : List Int) : Tryd.zeroCells52 = tmC SL 0 := by
  have h1 : Tryd.zeroCells52 = (List.replicate 300 (Value.int .i64 0)).toArray := by kernel_rfl
  rw [h1]
  apply Array.ext_getElem?
  intro j
  by_cases c : j < 300
  · rw [tmC_get _ _ _ c, List.getElem?_toArray, List.getElem?_replicate, if_pos c]
    simp [tmV]
  · rw [Array.getElem?_eq_none (by simp; omega), Array.getElem?_eq_none (by rw [tmC_size]; omega)]
theorem stRep_later {w w' : World} {xs : Array Value} {s : Sx} (h : StRep w xs s) (hb : Below w.heap.size w w') : StRep w' xs s := by
  have f1 : ∀ {k sz kd l}, SlS w xs k sz kd l → SlS w' xs k sz kd l := fun ⟨va, cap, h1, h2, h3⟩ => ⟨va, cap, h1, h2.later hb, h3⟩
  have f2 : ∀ {k c l}, SlI w xs k c l → SlI w' xs k c l := fun ⟨va, cap, h1, h2, h3⟩ => ⟨va, cap, h1, h2.later hb, h3⟩
  exact ⟨h.size, h.one, h.flat, f1 h.hist, f1 h.votes, f1 h.vals, f2 h.bals, f2 h.prev, f2 h.cur, f2 h.scores⟩
/-- What the law asks first. -/
def AwakeOk : Prop := ∀ (W : World), TabC W → Calls Tryd.prog 6 #[] W fun e w' => e = .returned (.bool true) ∧ Below W.heap.size W w'
set_option maxHeartbeats 16000000 in
theorem law_main (hAw0 : AwakeOk) (xs : Array Value) (st : Sx) (ep : Nat) (hep : ep < 2199023255552) (w : World) (h : StRep w xs st) (hT0 : TabC w) (hnv : st.vals.length ≤ 300) (hr : st.rightB = true) :
    Calls Tryd.prog 3 #[.agg xs, .int .u64 (ep : Int)] w fun e w' => e = .returned (.bool true) ∧ Below w.heap.size w w' := by
  obtain ⟨n0, hn0⟩ : ∃ n0, n0 = w.heap.size := ⟨_, rfl⟩
  have hn0' := Lib.hid hn0
  have hrow := Lib.hid (show (Tryd.prog.info? 49).map (·.size) = some xs.size by rw [h.size]; exact row_size row_state)
  have hvs := h.vs
  obtain ⟨vs, hvsd⟩ : ∃ vs, vs = st.vals := ⟨_, rfl⟩
  obtain ⟨mx, hmxd⟩ : ∃ mx : Nat → Int, mx = fun k => st.n (723 + k) := ⟨_, rfl⟩
  rw [← hvsd, ← hmxd] at hvs
  rw [← hvsd] at hnv
  obtain ⟨va, cap, hx721, _, _⟩ := hvs.vals
  have hRt := Lib.hid (fun (W : World) (hb : Below w.heap.size w W) => rright_any xs st W (stRep_later h hb))
  rw [hr] at hRt
  have hV := Lib.hid (fun (W : World) (hb : Below w.heap.size w W) => hvs.later hb)
  have hTt := Lib.hid (fun (W : World) (hb : Below w.heap.size w W) => hT0.below hT0.size hb)
  have gV0 := Lib.hid hvs
  have gT0 := Lib.hid hT0
  have hAw := Lib.hid (show ∀ (W : World), TabC W → Calls Tryd.prog 6 #[] W (fun e w' => e = .returned (.bool true) ∧ Below W.heap.size W w') from hAw0)
  obtain ⟨n, hn⟩ : ∃ n, n = (actL vs (ep : Int)).length := ⟨_, rfl⟩
  obtain ⟨c, hc⟩ : ∃ c, c = cntN n := ⟨_, rfl⟩
  obtain ⟨s, hs⟩ : ∃ s, s = 4 * c := ⟨_, rfl⟩
  obtain ⟨SL, hSL⟩ : ∃ SL, SL = shufL (seedS mx 1 (ep : Int)) (actL vs (ep : Int)) := ⟨_, rfl⟩
  obtain ⟨nv, hnvd⟩ : ∃ nv, nv = vs.length := ⟨_, rfl⟩
  rw [← hnvd] at hx721
  have hcn := cntN_ge n
  rw [← hc] at hcn
  have gx := Lib.hid hx721
  have gn := Lib.hid hn
  have gc := Lib.hid hc
  have gs := Lib.hid hs
  have gSL := Lib.hid hSL
  have gnv := Lib.hid hnvd
  have hnvv : nv ≤ 300 := by omega
  have hnvI : (nv : Int) ≤ 300 := by omega
  have hct := Lib.hid (fun (W : World) (hb : Below w.heap.size w W) => Count_any xs vs mx (ep : Int) W (hvs.later hb) (by omega))
  rw [← hn, ← hc] at hct
  obtain ⟨E, hE⟩ : ∃ E : Int, E = (ep : Int) := ⟨_, rfl⟩
  have hEI : E < 2199023255552 := by omega
  have hE0 : 0 ≤ E := by omega
  have hEd : decide (2199023255552 ≤ E) = false := by simp; omega
  have hnd : decide ((300 : Int) < (nv : Int)) = false := by simp; omega
  have w4 : IntKind.u64.wrap (4 * E) = ((4 * ep : Nat) : Int) := by rw [IntKind.wrap_u64]; omega
  generalize h4 : 4 * ep = ep4 at w4
  have g4 := Lib.hid h4
  rw [← hE] at hct ⊢
  have gE := Lib.hid hE
  have gep := Lib.hid hep
  clear hE h4
  clear hep h hT0 hr hvsd hmxd hx721 hAw0 hn hc hs hSL hnvd hvs hn0 hnv
  go_enter Tryd.func3, Tryd.ntmps3
  go_wp2_with (first
    | ((with_reducible refine (hAw.out _ ((hTt.out _ ((Below.refl _ _).alloc (Nat.le_refl _) _)))).mono ?_)
       rintro e W1 ⟨rfl, b1⟩
       rw [World.size_alloc] at b1
       have X1 := Lib.hid ((b1.block w.heap.size (by omega)).trans (heap_new w xs 49 _ rfl))
       have B1 := Lib.hid (((Below.refl w.heap.size w).alloc (Nat.le_refl _) (.cells xs 49)).trans (b1.mono (Nat.le_succ _)))
       clear b1)
    | ((with_reducible refine at_load 49 ?_); refine wpList_value (by rfl) _ (run_load_box _ 49 (.tmp 2) rfl w.heap.size rfl _ xs (0, 0) _ X1.out Tryd.underlying49 rfl hrow.out) ?_)
    | ((with_reducible refine (hRt.out _ B1.out).mono ?_)
       rintro e W2 ⟨rfl, b2⟩
       have X2 := Lib.hid ((b2.block w.heap.size (blk_lt X1.out)).trans X1.out)
       have B2 := Lib.hid (B1.out.trans (b2.mono (Nat.le_of_lt (blk_lt X1.out))))
       have cx2 : W2.cell? ⟨w.heap.size, 721, none⟩ = some (.slice va nv cap) := (cell_of_row _ w.heap.size 721 _ _ _ X2.out).trans gx.out
       clear b2)
    | ((with_reducible refine at_load 49 ?_); refine wpList_value (by rfl) _ (run_load_box _ 49 (.tmp 2) rfl w.heap.size rfl _ xs (0, 0) _ (heap_past _ _ _ _ X2.out) Tryd.underlying49 rfl hrow.out) ?_)
    | ((with_reducible refine (hct.out _ (B2.out.alloc (Nat.le_of_lt (blk_lt X2.out)) _)).mono ?_)
       rintro e W3 ⟨rfl, b3⟩
       rw [World.size_alloc] at b3
       have X3 := Lib.hid ((b3.block w.heap.size (by have := blk_lt X2.out; omega)).trans (heap_past _ _ _ _ X2.out))
       have B3 := Lib.hid ((B2.out.alloc (Nat.le_of_lt (blk_lt X2.out)) (.cells Tryd.zeroCells52 52)).trans (b3.mono (by have := blk_lt X2.out; omega)))
       have T3 := Lib.hid ((b3.block W2.heap.size (by omega)).trans (heap_new W2 Tryd.zeroCells52 52 _ rfl))
       obtain ⟨tb, htb⟩ : ∃ tb, tb = W2.heap.size := ⟨_, rfl⟩
       have hwtb := Lib.hid (show w.heap.size < tb by rw [htb]; exact blk_lt X2.out)
       rw [← htb] at T3 ⊢
       clear b3 cx2 htb))
  have hE := gE.out
  clear hEd hEI hE0 hnd w4
  subst hE
  have hT3 := T3.out
  rw [tm_zero SL] at hT3
  clear T3
  obtain ⟨q, hq⟩ : ∃ q, q = n / s := ⟨_, rfl⟩
  have hqn : q ≤ n := by rw [hq]; exact Nat.div_le_self n s
  have hn3 : n ≤ 300 := by rw [gn.out]; have := actL_length vs (ep : Int); have := gnv.out; omega
  have gq := Lib.hid hq
  clear hq
  have hLM0 : LM q 1048576 0 := by unfold LM; omega
  have gLM := Lib.hid hLM0
  have gT3 := Lib.hid hT3
  clear hLM0 hT3
  have w4 : IntKind.u64.wrap (4 * (ep : Int)) = (ep4 : Int) := by have := gep.out; have := g4.out; rw [IntKind.wrap_u64]; omega
  have w44 : IntKind.u64.wrap ((ep4 : Int) + 4) = ((4 * ep + 4 : Nat) : Int) := by have := gep.out; have := g4.out; rw [IntKind.wrap_u64]; omega
  obtain ⟨e44, h44⟩ : ∃ e44, e44 = 4 * ep + 4 := ⟨_, rfl⟩
  rw [← h44] at w44
  have g44 := Lib.hid h44
  clear h44
  have g0 := Lib.hid (show cut n s (0 * c) = 0 by rw [Nat.zero_mul]; exact cut_zero _ _)
  go_loopw [7, 8, 9] (fun vle vmo vsl wr => ∃ (sm sl : Nat) (le mo : Int), sm ≤ 4 ∧ vle = .int .i64 le ∧ vmo = .int .i64 mo ∧ vsl = .int .u64 (sl : Int) ∧ sl = 4 * ep + sm ∧ LM q le mo ∧ wr.heap[tb]? = some (.cells (tmC SL (cut n s (sm * c))) 52 (0, 0)) ∧ Apart tb W3 wr) (fun _ _ vsl _ => e44 - (intOf vsl).toNat)
  case atStart => exact ⟨0, ep4, _, _, by omega, rfl, rfl, rfl, by have := g4.out; omega, gLM.out, by rw [g0.out]; exact gT3.out, Apart.refl _ _⟩
  case round =>
    obtain ⟨sm, sl, le, mo, hsm, rfl, rfl, rfl, hsl, hLM, hT, hA⟩ := hrel
    have gl := Lib.hid hsl
    have gLM1 := Lib.hid hLM
    have gT1 := Lib.hid hT
    have gA1 := Lib.hid hA
    clear hLM hT hA hsl
    by_cases hlt : sm < 4
    · have lsl : (sl : Int) < (e44 : Int) := by have := gl.out; have := g44.out; omega
      have wsl : IntKind.u64.wrap ((sl : Int) + 1) = ((sl + 1 : Nat) : Int) := by have := gl.out; have := gep.out; rw [IntKind.wrap_u64]; omega
      have gX1 := Lib.hid ((gA1.out.block w.heap.size (blk_lt X3.out) (by have := hwtb.out; omega)).trans X3.out)
      have gB1 := Lib.hid (gA1.out.below B3.out (Nat.le_of_lt hwtb.out) (Nat.le_of_lt (blk_lt X3.out)))
      have hcI : decide ((c : Int) ≤ (c : Int)) = true := by simp
      go_wp2
      refine law_mid ep w.heap.size tb c n s sm le mo sl xs vs mx w wr gV0.out (by have := gnv.out; omega) gT0.out gn.out.symm gc.out gs.out gep.out hlt gl.out gB1.out (Nat.le_refl _) hwtb.out gX1.out (by rw [← gSL.out]; exact gT1.out) (by rw [← gq.out]; exact gLM1.out) _ _ _ _ _ _ _ _ _ _ _ _ _ _ _ _ _ _ _ _ _ _ _ _ _ _ _ _ _ _ _ _ _ _ _ _ _ _ _ _ _ _ _ _ _ _ _ _ _ _ _ _ _ _ _ _ _ _ _ _ _ _ _ _ _ _ _ _ _ _ _ _ _ _ _ _ _ _ _ _ _ _ _ _ _ _ _ _ _ _ _ _ _ _ _ _ _ _ _ _ _ _ _ _ _ _ _ _ _ _ _ _ _ _ _ _ _ _ _ _ _ _ _ _ _ _ _ ?_
      intro y4 y10 y11 y12 y13 y44 y45 y46 y47 y48 y49 y50 y51 y52 y53 y54 y55 y56 y57 y58 y59 y60 y61 y62 y63 y64 y65 y66 y67 y68 y69 y70 y71 y72 y73 y74 y75 y76 y77 y78 y79 y80 y81 y82 y83 y84 y85 y86 y87 y88 W4 le2 mo2 hLM2 hT2 hA2
      rw [← gSL.out, show sm * c + c = (sm + 1) * c by rw [Nat.add_mul, Nat.one_mul]] at hT2
      rw [← gq.out] at hLM2
      have gLM2 := Lib.hid hLM2
      have gT2 := Lib.hid hT2
      have gA2 := Lib.hid (gA1.out.trans hA2)
      have gX2 := Lib.hid ((hA2.block w.heap.size (blk_lt gX1.out) (by have := hwtb.out; omega)).trans gX1.out)
      have gB2 := Lib.hid (hA2.below gB1.out (Nat.le_of_lt hwtb.out) (Nat.le_of_lt (blk_lt gX1.out)))
      have hbad := Lib.hid (of_bad xs vs mx sl c n (by have := gl.out; have := gep.out; omega) W4 (hV.out _ gB2.out) (by have := gnv.out; omega) (hTt.out _ gB2.out) (by rw [show sl / 4 = ep by have := gl.out; omega]; exact gn.out.symm) (by rw [← gc.out]; exact Nat.le_refl _))
      clear hLM2 hT2 hA2
      go_wp2_with (first
        | ((with_reducible refine at_load 49 ?_); go_loud (refine wpList_value (by rfl) _ (run_load_box _ 49 (.tmp 2) rfl w.heap.size rfl _ xs (0, 0) _ gX2.out Tryd.underlying49 rfl hrow.out) ?_))
        | ((with_reducible refine hbad.out.mono ?_)
           rintro r W5 ⟨rfl, b5⟩
           have gT5 := Lib.hid ((b5.block tb (blk_lt gT2.out)).trans gT2.out)
           have gA5 := Lib.hid (gA2.out.call b5)
           clear b5))
      exact ⟨⟨sm + 1, sl + 1, le2, mo2, by omega, rfl, rfl, by go_num, by have := gl.out; omega, gLM2.out, gT5.out, gA5.out⟩, by have := gl.out; have := g44.out; simp [intOf]; omega⟩
    · have e : sm = 4 := by omega
      subst e
      have lsl0 : (e44 : Int) ≤ (sl : Int) := by have := gl.out; have := g44.out; omega
      have lsl : decide ((sl : Int) < (e44 : Int)) = false := by simp; omega
      have hcut : cut n s (4 * c) = n := by rw [← gs.out]; exact cut_all (by have := gs.out; omega)
      have gTn := gT1.out
      rw [hcut] at gTn
      have gTw := Lib.hid gTn
      have gXw := Lib.hid ((gA1.out.block w.heap.size (blk_lt X3.out) (by have := hwtb.out; omega)).trans X3.out)
      have gBw := Lib.hid (gA1.out.below B3.out (Nat.le_of_lt hwtb.out) (Nat.le_of_lt (blk_lt X3.out)))
      have htv := Lib.hid (fun v (hv : v < vs.length) => tmV_all (seedS mx 1 (ep : Int)) vs (ep : Int) n v gn.out.symm hv)
      rw [← gSL.out] at htv
      have hle := gLM1.out
      clear hcut gTn
      go_wp2
      rename World => w6
      go_loopw [16] (fun vi wr => ∃ k : Nat, k ≤ nv ∧ vi = .int .i64 (k : Int) ∧ wr.heap[tb]? = some (.cells (tmC SL n) 52 (0, 0)) ∧ Apart tb w6 wr) (fun vi _ => nv - (intOf vi).toNat)
      case atStart => exact ⟨0, by omega, rfl, gTw.out, Apart.refl _ _⟩
      case round =>
        obtain ⟨k, hk, rfl, hT7, hA7⟩ := hrel
        have gT7 := Lib.hid hT7
        have gA7 := Lib.hid hA7
        have gX7 := Lib.hid ((hA7.block w.heap.size (blk_lt gXw.out) (by have := hwtb.out; omega)).trans gXw.out)
        have gB7 := Lib.hid (hA7.below gBw.out (Nat.le_of_lt hwtb.out) (Nat.le_of_lt (blk_lt gXw.out)))
        have cx7 : wr.cell? ⟨w.heap.size, 721, none⟩ = some (.slice va nv cap) := (cell_of_row _ w.heap.size 721 _ _ _ gX7.out).trans gx.out
        clear hT7 hA7
        by_cases hlt7 : k < nv
        · have lk : (k : Int) < (nv : Int) := by omega
          have lk3 : (k : Int) < 300 := by omega
          have wk : IntKind.i64.wrap ((k : Int) + 1) = ((k + 1 : Nat) : Int) := by rw [IntKind.wrap_i64]; omega
          have hvv := (hV.out _ gB7.out).vals
          obtain ⟨va', cap', hx', hrows, _⟩ := hvv
          have hxe := gx.out
          rw [hx'] at hxe
          rw [← gnv.out] at hxe
          injection hxe with hxe
          injection hxe with e1 _ e3
          subst e1 e3
          obtain ⟨b, o, rfl, hrg⟩ := hrows.range k (by rw [← gnv.out]; exact hlt7)
          have htv7 := htv.out k (by rw [← gnv.out]; exact hlt7)
          have hac := Lib.hid (fun W => active_any (vs.getD k nil0) (ep : Int) W)
          obtain ⟨f, hf⟩ : ∃ f, f = vs.getD k nil0 := ⟨_, rfl⟩
          rw [← hf] at hrg htv7 hac
          obtain ⟨ab, hab⟩ : ∃ ab, ab = actB (ep : Int) f := ⟨_, rfl⟩
          rw [← hab] at htv7 hac
          have hct7 := tmC_get SL n k (by omega)
          obtain ⟨tv, htvd⟩ : ∃ tv, tv = tmV SL n k := ⟨_, rfl⟩
          rw [← htvd] at hct7 htv7
          have q1 : (tv == 1) = ab := by rw [htv7]; cases ab <;> rfl
          have q2 : decide ((1 : Int) < tv) = false := by rw [htv7]; cases ab <;> rfl
          have q3 : (ab != ab) = false := by cases ab <;> rfl
          have gct7 := Lib.hid hct7
          have grg := Lib.hid hrg
          clear hx' hrows htv7 hf hab htvd hct7 hrg
          go_wp2
          refine wp_nopan ?_
          refine wp_region_held (S := fun w' => w'.heap[tb]? = some (.cells (tmC SL n) 52 (0, 0)) ∧ w'.heap[w.heap.size]? = some (.cells xs 49 (0, 0)) ∧ w'.rangeAt b (o + k * 86) (fcells 86 valK f)) (by kernel_rfl) ?_
          have hS : ({ wr with drawn := wr.drawn + 1 } : World).heap[tb]? = some (.cells (tmC SL n) 52 (0, 0)) ∧ ({ wr with drawn := wr.drawn + 1 } : World).heap[w.heap.size]? = some (.cells xs 49 (0, 0)) ∧ ({ wr with drawn := wr.drawn + 1 } : World).rangeAt b (o + k * 86) (fcells 86 valK f) := ⟨gT7.out, gX7.out, grg.out⟩
          refine takeL (i := 0) (v := (.int .i64 (k : Int))) rfl (by kernel_rfl) (by kernel_rfl) (by kernel_rfl) (fun _ _ _ h => h) rfl (by assumption) (fun w' hS' => by go_simp) ?_
          simp only [Act.put, List.setIfInBounds_toArray, List.set_cons_zero, List.set_cons_succ]
          refine takeL (i := 1) (v := (.pointer (some ⟨tb, k, none⟩))) rfl (by kernel_rfl) (by kernel_rfl) (by kernel_rfl) (fun _ _ _ h => h) rfl (by assumption) (fun w' hS' => by go_simp) ?_
          simp only [Act.put, List.setIfInBounds_toArray, List.set_cons_zero, List.set_cons_succ]
          refine takeL (i := 2) (v := (.int .i64 tv)) rfl (by kernel_rfl) (by kernel_rfl) (by kernel_rfl) (fun _ _ _ h => h) rfl (by assumption) (fun w' hS' => run_load_cell _ 3 (.tmp 106) rfl ⟨tb, k, none⟩ rfl _ ((cell_of_row w' tb k _ _ _ hS'.1).trans gct7.out) _ Tryd.underlying3 rfl) ?_
          simp only [Act.put, List.setIfInBounds_toArray, List.set_cons_zero, List.set_cons_succ]
          refine takeL (i := 3) (v := (.bool ab)) rfl (by kernel_rfl) (by kernel_rfl) (by kernel_rfl) (fun _ _ _ h => h) rfl (by assumption) (fun w' hS' => by go_simp) ?_
          simp only [Act.put, List.setIfInBounds_toArray, List.set_cons_zero, List.set_cons_succ]
          refine takeL (i := 4) (v := (.pointer (some ⟨w.heap.size, 721, none⟩))) rfl (by kernel_rfl) (by kernel_rfl) (by kernel_rfl) (fun _ _ _ h => h) rfl (by assumption) (fun w' hS' => by go_simp) ?_
          simp only [Act.put, List.setIfInBounds_toArray, List.set_cons_zero, List.set_cons_succ]
          refine takeL (i := 5) (v := (.slice (some ⟨b, o, none⟩) nv cap')) rfl (by kernel_rfl) (by kernel_rfl) (by kernel_rfl) (fun _ _ _ h => h) rfl (by assumption) (fun w' hS' => run_load_cell _ 36 (.tmp 109) rfl ⟨w.heap.size, 721, none⟩ rfl _ ((cell_of_row w' w.heap.size 721 _ _ _ hS'.2.1).trans gx.out) _ Tryd.underlying36 rfl) ?_
          simp only [Act.put, List.setIfInBounds_toArray, List.set_cons_zero, List.set_cons_succ]
          refine takeL (i := 6) (v := (.int .i64 (k : Int))) rfl (by kernel_rfl) (by kernel_rfl) (by kernel_rfl) (fun _ _ _ h => h) rfl (by assumption) (fun w' hS' => by go_simp) ?_
          simp only [Act.put, List.setIfInBounds_toArray, List.set_cons_zero, List.set_cons_succ]
          refine takeL (i := 7) (v := (.pointer (some ⟨b, o + k * 86, none⟩))) rfl (by kernel_rfl) (by kernel_rfl) (by kernel_rfl) (fun _ _ _ h => h) rfl (by assumption) (fun w' hS' => run_index_slice _ 36 59 (.tmp 110) (.tmp 111) rfl Tryd.underlying36 86 (row_size row_val) b o nv cap' rfl .i64 k rfl hlt7 (o + k * 86) rfl) ?_
          simp only [Act.put, List.setIfInBounds_toArray, List.set_cons_zero, List.set_cons_succ]
          refine takeL (i := 8) (v := (.agg (fcells 86 valK f).toArray)) rfl (by kernel_rfl) (by kernel_rfl) (by kernel_rfl) (fun _ _ _ h => h) rfl (by assumption) (fun w' hS' => run_load_rows _ 59 (.tmp 112) rfl b (o + k * 86) rfl (fcells 86 valK f) _ hS'.2.2 Tryd.underlying59 rfl (by rw [row_size row_val, fcells_length])) ?_
          simp only [Act.put, List.setIfInBounds_toArray, List.set_cons_zero, List.set_cons_succ]
          refine takeL (i := 9) (v := (.int .u64 (ep : Int))) rfl (by kernel_rfl) (by kernel_rfl) (by kernel_rfl) (fun _ _ _ h => h) rfl (by assumption) (fun w' hS' => by go_simp) ?_
          simp only [Act.put, List.setIfInBounds_toArray, List.set_cons_zero, List.set_cons_succ]
          refine oneL (i := 10) rfl (by kernel_rfl) rfl (wp_call 10 #[.agg (fcells 86 valK f).toArray, .int .u64 (ep : Int)] (by go_simp) _ _ (hac.out _) ?_)
          intro W8 b8
          clear hS
          have hS : W8.heap[tb]? = some (.cells (tmC SL n) 52 (0, 0)) ∧ W8.heap[w.heap.size]? = some (.cells xs 49 (0, 0)) ∧ W8.rangeAt b (o + k * 86) (fcells 86 valK f) := ⟨(b8.block tb (blk_lt gT7.out)).trans gT7.out, (b8.block _ (blk_lt gX7.out)).trans gX7.out, fun j u hu => (b8.cell (block_lt_of_cell (grg.out j u hu))).trans (grg.out j u hu)⟩
          refine ⟨hS, ?_⟩
          simp only [Act.put, List.setIfInBounds_toArray, List.set_cons_zero, List.set_cons_succ]
          refine takeL (i := 11) (v := (.bool false)) rfl (by kernel_rfl) (by kernel_rfl) (by kernel_rfl) (fun _ _ _ h => h) rfl (by assumption) (fun w' hS' => by go_simp) ?_
          simp only [Act.put, List.setIfInBounds_toArray, List.set_cons_zero, List.set_cons_succ]
          refine takeL (i := 12) (v := (.bool false)) rfl (by kernel_rfl) (by kernel_rfl) (by kernel_rfl) (fun _ _ _ h => h) rfl (by assumption) (fun w' hS' => by go_simp) ?_
          simp only [Act.put, List.setIfInBounds_toArray, List.set_cons_zero, List.set_cons_succ]
          refine takeL (i := 13) (v := (.int .i64 (k : Int))) rfl (by kernel_rfl) (by kernel_rfl) (by kernel_rfl) (fun _ _ _ h => h) rfl (by assumption) (fun w' hS' => by go_simp) ?_
          simp only [Act.put, List.setIfInBounds_toArray, List.set_cons_zero, List.set_cons_succ]
          refine takeL (i := 14) (v := (.pointer (some ⟨tb, k, none⟩))) rfl (by kernel_rfl) (by kernel_rfl) (by kernel_rfl) (fun _ _ _ h => h) rfl (by assumption) (fun w' hS' => by go_simp) ?_
          simp only [Act.put, List.setIfInBounds_toArray, List.set_cons_zero, List.set_cons_succ]
          refine takeL (i := 15) (v := (.int .i64 tv)) rfl (by kernel_rfl) (by kernel_rfl) (by kernel_rfl) (fun _ _ _ h => h) rfl (by assumption) (fun w' hS' => run_load_cell _ 3 (.tmp 119) rfl ⟨tb, k, none⟩ rfl _ ((cell_of_row w' tb k _ _ _ hS'.1).trans gct7.out) _ Tryd.underlying3 rfl) ?_
          simp only [Act.put, List.setIfInBounds_toArray, List.set_cons_zero, List.set_cons_succ]
          refine takeL (i := 16) (v := (.bool false)) rfl (by kernel_rfl) (by kernel_rfl) (by kernel_rfl) (fun _ _ _ h => h) rfl (by assumption) (fun w' hS' => by go_simp) ?_
          simp only [Act.put, List.setIfInBounds_toArray, List.set_cons_zero, List.set_cons_succ]
          refine takeL (i := 17) (v := (.bool false)) rfl (by kernel_rfl) (by kernel_rfl) (by kernel_rfl) (fun _ _ _ h => h) rfl (by assumption) (fun w' hS' => by go_simp) ?_
          simp only [Act.put, List.setIfInBounds_toArray, List.set_cons_zero, List.set_cons_succ]
          refine wpAnyH_done (by kernel_rfl) ?_ _
          simp only [NoPan]
          have gT8 := Lib.hid hS.1
          have gA8 := Lib.hid ((gA7.out.trans (Apart.begin tb wr)).call b8)
          clear hS b8 q1 q2 q3
          go_wp2
          exact ⟨⟨k + 1, by omega, by go_num, gT8.out, gA8.out⟩, by simp [intOf]; omega⟩
        · have e : k = nv := by omega
          subst e
          unfold LM at hle
          have wml : IntKind.i64.wrap (mo - le) = mo - le := by rw [IntKind.wrap_i64]; omega
          have d1 : decide (mo - le ≤ 1) = true := by simp; omega
          have d2 : decide ((1 : Int) ≤ (c : Int)) = true := by simp; omega
          have d3 : decide ((c : Int) ≤ 2) = true := by simp; omega
          go_wp2
          exact ret_t1 rfl _ rfl rfl ⟨rfl, gB7.out⟩
end Go.Proofs.YtfnjcpopadpmbaaDoor
