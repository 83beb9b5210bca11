/- The law CommBits for every state, slot, index and list of bits. -/
import Derived.Test.YtfnjcpopadpmbaaDoorKCbD
import Derived.Test.YtfnjcpopadpmbaaDoorJCmR
import Derived.Test.YtfnjcpopadpmbaaDoorKCmU
set_option linter.unusedVariables false
set_option linter.unusedSimpArgs false
set_option linter.unnecessarySimpa false
namespace Go.Proofs.YtfnjcpopadpmbaaDoor
open Go.RowKit BigFrame
set_option maxRecDepth 100000
theorem Below.up {n0 n1 : Nat} {w1 W W' : World} (h : Below n1 w1 W) (hb : Below W.heap.size W W') (hn : n1 ≤ W.heap.size) : Below n1 w1 W' := h.trans (hb.mono hn)
theorem gen_S {P : Program} {l : List Oper} {Q : Exit → Act → World → Prop} {md : Region.Mode} {S : World → Prop} {fuel : Nat} {listed : Array Bool} {a : Act} {w : World} (R : World → Prop) (hr : R w) (h : ∀ W, R W → S W ∧ wpAnyH P md l.toArray Q S fuel listed a W) : S w ∧ wpAnyH P md l.toArray Q S fuel listed a w := h w hr
set_option maxHeartbeats 8000000 in
theorem bits_wrong (hAw0 : AwakeOk) (xs : Array Value) (st : Sx) (slot idx : Nat) (bv : Value) (w : World) (h : StRep w xs st) (hT0 : TabC w) (hr : st.rightB = false) :
    Calls Tryd.prog 4 #[.agg xs, .int .u64 (slot : Int), .int .u64 (idx : Int), bv] w fun e w' => e = .returned (.bool true) ∧ Below w.heap.size w w' := by
  have hrow := Lib.hid (show (Tryd.prog.info? 49).map (·.size) = some xs.size by rw [h.size]; exact row_size row_state)
  obtain ⟨n0, hn0⟩ : ∃ n0, n0 = w.heap.size := ⟨_, rfl⟩
  obtain ⟨w1, hw1⟩ : ∃ w1, w1 = w.alloc (.cells xs 49) := ⟨_, rfl⟩
  have hb1 : Below (n0 + 1) w1 w1 := Below.refl _ _
  have hsz1 : n0 + 1 ≤ w1.heap.size := by rw [hw1, hn0, World.size_alloc]; exact Nat.le_refl _
  have hBX : ∀ W, Below (n0 + 1) w1 W → W.heap[n0]? = some (.cells xs 49 (0, 0)) ∧ Below n0 w W ∧ StRep W xs st ∧ TabC W ∧ n0 + 1 ≤ W.heap.size := fun W hb => by
    have hbw : Below n0 w W := by
      rw [hn0] at hb ⊢
      rw [hw1] at hb
      exact below_box hb
    refine ⟨?_, hbw, stRep_later h (hn0 ▸ hbw), hT0.below hT0.size (hn0 ▸ hbw), Nat.le_trans hsz1 hb.size⟩
    exact (hb.block n0 (by omega)).trans (by rw [hw1]; exact heap_new _ _ _ _ hn0)
  have gBX := Lib.hid hBX
  have gw1 := Lib.hid hw1
  have gn0 := Lib.hid hn0
  have hRt := Lib.hid (fun (W : World) (hb : Below (n0 + 1) w1 W) => rright_any xs st W (gBX.out W hb).2.2.1)
  rw [hr] at hRt
  have hAw := Lib.hid (show ∀ (W : World), TabC W → Calls Tryd.prog 6 #[] W (fun e w' => e = .returned (.bool true) ∧ Below W.heap.size W w') from hAw0)
  have kT := Lib.hid (show TabC (w.alloc (.cells xs 49)) from hw1 ▸ (gBX.out w1 hb1).2.2.2.1)
  clear hBX hw1 hn0 h hT0 hr hAw0 hb1
  go_enter Tryd.func4, Tryd.ntmps4
  go_wp2_with (first
    | ((with_reducible refine (hAw.out _ kT.out).mono ?_)
       rintro e W1 ⟨rfl, b1⟩
       rw [← gw1.out] at b1
       rw [← gn0.out]
       have B1 := Lib.hid (show Below (n0 + 1) w1 W1 from (Below.refl _ _).trans (b1.mono hsz1))
       have k2 := Lib.hid (gBX.out W1 B1.out)
       clear b1)
    | ((with_reducible refine at_load 49 ?_); refine wpList_value (by rfl) _ (run_load_box _ 49 (.tmp 4) rfl n0 rfl _ xs (0, 0) _ k2.out.1 Tryd.underlying49 rfl hrow.out) ?_)
    | ((with_reducible refine (hRt.out _ B1.out).mono ?_)
       rintro e W2 ⟨rfl, b2⟩
       have B2 := Lib.hid (show Below (n0 + 1) w1 W2 from B1.out.trans (b2.mono k2.out.2.2.2.2))
       have k3 := Lib.hid (gBX.out W2 B2.out)
       clear b2)
    )
  exact ret_t1 rfl _ rfl rfl ⟨rfl, gn0.out ▸ k3.out.2.1⟩
set_option maxHeartbeats 8000000 in
theorem bits_out (hAw0 : AwakeOk) (xs : Array Value) (st : Sx) (slot idx : Nat) (bv : Value) (w : World) (h : StRep w xs st) (hT0 : TabC w) (hN2 : st.vals.length ≤ 65536) (hr : st.rightB = true) (hslot : slot ≤ 18446744073709551615) (hix : cntN (actL st.vals ((slot / 4 : Nat) : Int)).length ≤ idx) :
    Calls Tryd.prog 4 #[.agg xs, .int .u64 (slot : Int), .int .u64 (idx : Int), bv] w fun e w' => e = .returned (.bool true) ∧ Below w.heap.size w w' := by
  have hrow := Lib.hid (show (Tryd.prog.info? 49).map (·.size) = some xs.size by rw [h.size]; exact row_size row_state)
  obtain ⟨n0, hn0⟩ : ∃ n0, n0 = w.heap.size := ⟨_, rfl⟩
  obtain ⟨w1, hw1⟩ : ∃ w1, w1 = w.alloc (.cells xs 49) := ⟨_, rfl⟩
  have hb1 : Below (n0 + 1) w1 w1 := Below.refl _ _
  have hsz1 : n0 + 1 ≤ w1.heap.size := by rw [hw1, hn0, World.size_alloc]; exact Nat.le_refl _
  have hBX : ∀ W, Below (n0 + 1) w1 W → W.heap[n0]? = some (.cells xs 49 (0, 0)) ∧ Below n0 w W ∧ StRep W xs st ∧ TabC W ∧ n0 + 1 ≤ W.heap.size := fun W hb => by
    have hbw : Below n0 w W := by
      rw [hn0] at hb ⊢
      rw [hw1] at hb
      exact below_box hb
    refine ⟨?_, hbw, stRep_later h (hn0 ▸ hbw), hT0.below hT0.size (hn0 ▸ hbw), Nat.le_trans hsz1 hb.size⟩
    exact (hb.block n0 (by omega)).trans (by rw [hw1]; exact heap_new _ _ _ _ hn0)
  have gBX := Lib.hid hBX
  have gw1 := Lib.hid hw1
  have gn0 := Lib.hid hn0
  have hRt := Lib.hid (fun (W : World) (hb : Below (n0 + 1) w1 W) => rright_any xs st W (gBX.out W hb).2.2.1)
  rw [hr] at hRt
  have hAw := Lib.hid (show ∀ (W : World), TabC W → Calls Tryd.prog 6 #[] W (fun e w' => e = .returned (.bool true) ∧ Below W.heap.size W w') from hAw0)
  have kT := Lib.hid (show TabC (w.alloc (.cells xs 49)) from hw1 ▸ (gBX.out w1 hb1).2.2.2.1)
  clear hBX hw1 hn0 h hT0 hr hAw0 hb1
  have hNv : st.vals.length ≤ 65536 := hN2
  have cof := Lib.hid (fun (W : World) (hb : Below (n0 + 1) w1 W) => of_bad xs st.vals (fun k => st.n (723 + k)) slot idx _ hslot W (gBX.out W hb).2.2.1.vs hNv (gBX.out W hb).2.2.2.1 rfl hix)
  clear hix
  go_enter Tryd.func4, Tryd.ntmps4
  go_wp2_with (first
    | ((with_reducible refine (hAw.out _ kT.out).mono ?_)
       rintro e W1 ⟨rfl, b1⟩
       rw [← gw1.out] at b1
       rw [← gn0.out]
       have B1 := Lib.hid (show Below (n0 + 1) w1 W1 from (Below.refl _ _).trans (b1.mono hsz1))
       have k2 := Lib.hid (gBX.out W1 B1.out)
       clear b1)
    | ((with_reducible refine at_load 49 ?_); refine wpList_value (by rfl) _ (run_load_box _ 49 (.tmp 4) rfl n0 rfl _ xs (0, 0) _ k2.out.1 Tryd.underlying49 rfl hrow.out) ?_)
    | ((with_reducible refine (hRt.out _ B1.out).mono ?_)
       rintro e W2 ⟨rfl, b2⟩
       have B2 := Lib.hid (show Below (n0 + 1) w1 W2 from B1.out.trans (b2.mono k2.out.2.2.2.2))
       have k3 := Lib.hid (gBX.out W2 B2.out)
       clear b2)
    | ((with_reducible refine at_load 49 ?_); refine wpList_value (by rfl) _ (run_load_box _ 49 (.tmp 4) rfl n0 rfl _ xs (0, 0) _ k3.out.1 Tryd.underlying49 rfl hrow.out) ?_)
    | ((with_reducible refine (cof.out _ B2.out).mono ?_)
       rintro e W3 ⟨rfl, b3⟩
       have B3 := Lib.hid (show Below (n0 + 1) w1 W3 from B2.out.trans (b3.mono k3.out.2.2.2.2))
       have k4 := Lib.hid (gBX.out W3 B3.out)
       clear b3))
  exact ret_t1 rfl _ rfl rfl ⟨rfl, gn0.out ▸ k4.out.2.1⟩
set_option maxHeartbeats 32000000 in
theorem bits_good (hAw0 : AwakeOk) (xs : Array Value) (st : Sx) (slot idx : Nat) (va : Option Addr) (nb c : Nat) (f : Nat → Bool) (w : World) (h : StRep w xs st) (hT0 : TabC w) (hN2 : st.vals.length ≤ 65536) (hr : st.rightB = true) (hslot : slot ≤ 18446744073709551615) (hix : idx < cntN (actL st.vals ((slot / 4 : Nat) : Int)).length) (hbo0 : RowBo w va nb f) :
    Calls Tryd.prog 4 #[.agg xs, .int .u64 (slot : Int), .int .u64 (idx : Int), .slice va nb c] w fun e w' => e = .returned (.bool true) ∧ Below w.heap.size w w' := by
  have hrow := Lib.hid (show (Tryd.prog.info? 49).map (·.size) = some xs.size by rw [h.size]; exact row_size row_state)
  obtain ⟨n0, hn0⟩ : ∃ n0, n0 = w.heap.size := ⟨_, rfl⟩
  obtain ⟨w1, hw1⟩ : ∃ w1, w1 = w.alloc (.cells xs 49) := ⟨_, rfl⟩
  have hb1 : Below (n0 + 1) w1 w1 := Below.refl _ _
  have hsz1 : n0 + 1 ≤ w1.heap.size := by rw [hw1, hn0, World.size_alloc]; exact Nat.le_refl _
  have hBX : ∀ W, Below (n0 + 1) w1 W → W.heap[n0]? = some (.cells xs 49 (0, 0)) ∧ Below n0 w W ∧ StRep W xs st ∧ TabC W ∧ n0 + 1 ≤ W.heap.size := fun W hb => by
    have hbw : Below n0 w W := by
      rw [hn0] at hb ⊢
      rw [hw1] at hb
      exact below_box hb
    refine ⟨?_, hbw, stRep_later h (hn0 ▸ hbw), hT0.below hT0.size (hn0 ▸ hbw), Nat.le_trans hsz1 hb.size⟩
    exact (hb.block n0 (by omega)).trans (by rw [hw1]; exact heap_new _ _ _ _ hn0)
  have gBX := Lib.hid hBX
  have gw1 := Lib.hid hw1
  have gn0 := Lib.hid hn0
  have hRt := Lib.hid (fun (W : World) (hb : Below (n0 + 1) w1 W) => rright_any xs st W (gBX.out W hb).2.2.1)
  rw [hr] at hRt
  have hAw := Lib.hid (show ∀ (W : World), TabC W → Calls Tryd.prog 6 #[] W (fun e w' => e = .returned (.bool true) ∧ Below W.heap.size W w') from hAw0)
  have kT := Lib.hid (show TabC (w.alloc (.cells xs 49)) from hw1 ▸ (gBX.out w1 hb1).2.2.2.1)
  clear hBX hw1 hn0 h hT0 hr hAw0 hb1
  have hNv : st.vals.length ≤ 65536 := hN2
  obtain ⟨mx, hmx⟩ : ∃ mx : Nat → Int, mx = fun k => st.n (723 + k) := ⟨_, rfl⟩
  have hvs := Lib.hid (fun (W : World) (hb : Below (n0 + 1) w1 W) => show VsRep W xs st.vals mx by rw [hmx]; exact (gBX.out W hb).2.2.1.vs)
  clear hmx
  have cof := Lib.hid (fun (W : World) (hb : Below (n0 + 1) w1 W) => show Calls Tryd.prog 9 #[.agg xs, .int .u64 (slot : Int), .int .u64 (idx : Int)] W fun r w' => ∃ v, r = .returned (.tuple #[v, .int .i64 0]) ∧ OwU W.heap.size v (comC st.vals mx slot idx) w' ∧ Below W.heap.size W w' from of_good xs st.vals mx slot idx _ hslot W (hvs.out W hb) hNv (gBX.out W hb).2.2.2.1 rfl hix)
  have cwho := Lib.hid (fun (W : World) (hb : Below (n0 + 1) w1 W) (va : Option Addr) (n c : Nat) (F : Nat → Bool) (hn : (comC st.vals mx slot idx).length = n) (hbo : RowBo W va n F) => who_ok xs st.vals mx slot idx va n c F hslot W (hvs.out W hb) hNv (gBX.out W hb).2.2.2.1 hix hn hbo)
  have clen := Lib.hid (fun (W : World) (hb : Below (n0 + 1) w1 W) (va : Option Addr) (n c : Nat) (hn : n ≠ (comC st.vals mx slot idx).length) => who_len xs st.vals mx slot idx va n c hslot W (hvs.out W hb) hNv (gBX.out W hb).2.2.2.1 hix hn)
  have hCd := Lib.hid (comC_dis st.vals mx slot idx)
  have hCl := comC_length st.vals mx slot idx
  obtain ⟨C, hC⟩ : ∃ C, C = comC st.vals mx slot idx := ⟨_, rfl⟩
  rw [← hC] at cof cwho clen hCd hCl
  obtain ⟨n, hn⟩ : ∃ n, C.length = n := ⟨_, rfl⟩
  have hn6 : n ≤ 65536 := by omega
  have gn := Lib.hid hn
  have gbo := Lib.hid (fun (W : World) (hb : Below (n0 + 1) w1 W) => (hbo0.later (show Below w.heap.size w W from gn0.out ▸ (gBX.out W hb).2.1) : RowBo W va nb f))
  clear hC hn hCl hbo0 hix
  go_enter Tryd.func4, Tryd.ntmps4
  go_wp2_with (first
    | ((with_reducible refine (hAw.out _ kT.out).mono ?_)
       rintro e W1 ⟨rfl, b1⟩
       rw [← gw1.out] at b1
       rw [← gn0.out]
       have B1 := Lib.hid (show Below (n0 + 1) w1 W1 from (Below.refl _ _).trans (b1.mono hsz1))
       have k2 := Lib.hid (gBX.out W1 B1.out)
       clear b1)
    | ((with_reducible refine at_load 49 ?_); refine wpList_value (by rfl) _ (run_load_box _ 49 (.tmp 4) rfl n0 rfl _ xs (0, 0) _ k2.out.1 Tryd.underlying49 rfl hrow.out) ?_)
    | ((with_reducible refine (hRt.out _ B1.out).mono ?_)
       rintro e W2 ⟨rfl, b2⟩
       have B2 := Lib.hid (show Below (n0 + 1) w1 W2 from B1.out.trans (b2.mono k2.out.2.2.2.2))
       have k3 := Lib.hid (gBX.out W2 B2.out)
       clear b2)
    | ((with_reducible refine at_load 49 ?_); refine wpList_value (by rfl) _ (run_load_box _ 49 (.tmp 4) rfl n0 rfl _ xs (0, 0) _ k3.out.1 Tryd.underlying49 rfl hrow.out) ?_)
    | ((with_reducible refine (cof.out _ B2.out).mono ?_)
       rintro e W3 ⟨v, rfl, o3, b3⟩
       obtain ⟨lva, lc, rfl, _⟩ := own_form o3
       rw [gn.out]
       have B3 := Lib.hid (show Below (n0 + 1) w1 W3 from B2.out.trans (b3.mono k3.out.2.2.2.2))
       have k4 := Lib.hid (gBX.out W3 B3.out)
       clear b3 o3))
  obtain ⟨F, hF⟩ : ∃ F : Nat → Bool, F = fun k => decide (k < nb) && f k := ⟨_, rfl⟩
  refine bits_loop (c := c) xs slot idx n0 n lc nb lva va f F (fun k => !F k) W3 hn6 (gbo.out W3 B3.out) (fun k => by rw [hF]) (fun _ => rfl) (by kernel_rfl) ?_
  clear hF
  rintro A' W4 a b c1 e hT4
  rw [e]
  generalize (fun k => A'.tmps.getD k undef) = u
  clear e A'
  unfold lbC
  dsimp only
  have hs3 : n0 + 1 ≤ W3.heap.size := k4.out.2.2.2.2
  have B4 := Lib.hid (show Below (n0 + 1) w1 W4 from B3.out.trans (hT4.below.mono hs3))
  have k5 := Lib.hid (gBX.out W4 B4.out)
  obtain ⟨va1, ca1, rfl, hr1⟩ := own_rowBo (show W4.ownsRow W3.heap.size 4 1 a n (bl F n) from hT4.own.own 0 _ rfl)
  obtain ⟨va2, ca2, rfl, hr2⟩ := own_rowBo (show W4.ownsRow W3.heap.size 4 1 b n (bl (fun k => !F k) n) from hT4.own.own 1 _ rfl)
  obtain ⟨va3, ca3, rfl, hr3⟩ := own_rowBo (show W4.ownsRow W3.heap.size 4 1 c1 n (bl (fun _ => true) n) from hT4.own.own 2 _ rfl)
  have gT4 := Lib.hid hT4
  have gr1 := Lib.hid hr1
  have gr2 := Lib.hid hr2
  have gr3 := Lib.hid hr3
  clear hT4 hr1 hr2 hr3
  have hp0 := pickK_perm F C n (by rw [gn.out]; exact Nat.le_refl _)
  have hall : pickK (fun _ => true) C n = C := by
    rw [pickK_all n (by rw [gn.out]; exact Nat.le_refl _) (fun _ _ => rfl), ← gn.out, List.take_length]
  rw [← gn.out, List.take_length, gn.out] at hp0
  obtain ⟨la, hla⟩ : ∃ la, la = pickK F C n := ⟨_, rfl⟩
  obtain ⟨lb, hlb⟩ : ∃ lb, lb = pickK (fun k => !F k) C n := ⟨_, rfl⟩
  rw [← hla, ← hlb] at hp0
  obtain ⟨na, hna⟩ : ∃ na, (msort la).length = na := ⟨_, rfl⟩
  obtain ⟨nb2, hnb2⟩ : ∃ nb2, (msort lb).length = nb2 := ⟨_, rfl⟩
  have hsum : na + nb2 = n := by
    have := hp0.length_eq
    rw [List.length_append, gn.out] at this
    rw [← hna, ← hnb2, msort_length, msort_length]
    exact this
  have gp0 := Lib.hid (show (msort C).Perm (msort la ++ msort lb) from (msort_perm C).trans (hp0.symm.trans ((msort_perm la).symm.append (msort_perm lb).symm)))
  have gna := Lib.hid hna
  have gnb2 := Lib.hid hnb2
  have hsI : (na : Int) + (nb2 : Int) = (n : Int) := by omega
  have cw1 := Lib.hid (fun (W : World) (hb : Below (n0 + 1) w1 W) (hx : Below W4.heap.size W4 W) => (hla ▸ cwho.out W hb va1 n ca1 F gn.out (gr1.out.later hx) : Calls Tryd.prog 11 #[.agg xs, .int .u64 (slot : Int), .int .u64 (idx : Int), .slice va1 n ca1] W fun r w' => ∃ v, r = .returned (.tuple #[v, .int .i64 0]) ∧ OwU W.heap.size v (msort la) w' ∧ Below W.heap.size W w'))
  have cw2 := Lib.hid (fun (W : World) (hb : Below (n0 + 1) w1 W) (hx : Below W4.heap.size W4 W) => (hlb ▸ cwho.out W hb va2 n ca2 (fun k => !F k) gn.out (gr2.out.later hx) : Calls Tryd.prog 11 #[.agg xs, .int .u64 (slot : Int), .int .u64 (idx : Int), .slice va2 n ca2] W fun r w' => ∃ v, r = .returned (.tuple #[v, .int .i64 0]) ∧ OwU W.heap.size v (msort lb) w' ∧ Below W.heap.size W w'))
  have cw3 := Lib.hid (fun (W : World) (hb : Below (n0 + 1) w1 W) (hx : Below W4.heap.size W4 W) => (by have := cwho.out W hb va3 n ca3 (fun _ => true) gn.out (gr3.out.later hx); rw [hall] at this; exact this : Calls Tryd.prog 11 #[.agg xs, .int .u64 (slot : Int), .int .u64 (idx : Int), .slice va3 n ca3] W fun r w' => ∃ v, r = .returned (.tuple #[v, .int .i64 0]) ∧ OwU W.heap.size v (msort C) w' ∧ Below W.heap.size W w'))
  clear hp0 hall hla hlb hna hnb2 cwho cof
  go_wp2_with (first
    | ((with_reducible refine at_load 49 ?_); refine wpList_value (by rfl) _ (run_load_box _ 49 (.tmp 4) rfl n0 rfl _ xs (0, 0) _ k5.out.1 Tryd.underlying49 rfl hrow.out) ?_)
    | ((with_reducible refine (cw1.out _ B4.out (Below.refl _ _)).mono ?_)
       rintro e W5 ⟨v, rfl, o5, b5⟩
       obtain ⟨ala, ac, rfl, r5⟩ := o5.row
       rw [gna.out] at r5 ⊢
       have B5 := Lib.hid (show Below (n0 + 1) w1 W5 from B4.out.trans (b5.mono k5.out.2.2.2.2))
       have k6 := Lib.hid (gBX.out W5 B5.out)
       have y5 := Lib.hid b5
       have R5 := Lib.hid r5
       clear b5 o5 r5)
    | ((with_reducible refine at_load 49 ?_); refine wpList_value (by rfl) _ (run_load_box _ 49 (.tmp 4) rfl n0 rfl _ xs (0, 0) _ k6.out.1 Tryd.underlying49 rfl hrow.out) ?_)
    | ((with_reducible refine (cw2.out _ B5.out y5.out).mono ?_)
       rintro e W6 ⟨v, rfl, o6, b6⟩
       obtain ⟨alb, bc, rfl, r6⟩ := o6.row
       rw [gnb2.out] at r6 ⊢
       have B6 := Lib.hid (show Below (n0 + 1) w1 W6 from B5.out.trans (b6.mono k6.out.2.2.2.2))
       have k7 := Lib.hid (gBX.out W6 B6.out)
       have y6 := Lib.hid (y5.out.trans (b6.mono y5.out.size))
       have R56 := Lib.hid (R5.out.later b6)
       have R6 := Lib.hid r6
       clear b6 o6 r6)
    | ((with_reducible refine at_load 49 ?_); refine wpList_value (by rfl) _ (run_load_box _ 49 (.tmp 4) rfl n0 rfl _ xs (0, 0) _ k7.out.1 Tryd.underlying49 rfl hrow.out) ?_)
    | ((with_reducible refine (cw3.out _ B6.out y6.out).mono ?_)
       rintro e W7 ⟨v, rfl, o7, b7⟩
       obtain ⟨alc, cc, rfl, r7⟩ := o7.row
       rw [msort_length, gn.out] at r7 ⊢
       have B7 := Lib.hid (show Below (n0 + 1) w1 W7 from B6.out.trans (b7.mono k7.out.2.2.2.2))
       have k8 := Lib.hid (gBX.out W7 B7.out)
       have y7 := Lib.hid (y6.out.trans (b7.mono y6.out.size))
       have R57 := Lib.hid (R56.out.later b7)
       have R67 := Lib.hid (R6.out.later b7)
       have R7 := Lib.hid r7
       clear b7 o7 r7))
  refine mrg_loop (la := la) (lb := lb) (C := C) (.agg xs) (.int .u64 (slot : Int)) (.int .u64 (idx : Int)) (.pointer (some ⟨n0, 0, none⟩)) (.slice va3 n ca3) ala alb alc na nb2 n ac bc cc W7 hn6 gn.out (by rw [← msort_length]; exact gna.out) (by rw [← msort_length]; exact gnb2.out) hCd.out gp0.out R57.out R67.out R7.out (by kernel_rfl) ?_
  rintro A' W8 e hb8
  rw [e]
  generalize A'.tmps.getD 22 undef = vk
  generalize (fun k => A'.tmps.getD k undef) = u
  clear e A'
  unfold ldC
  dsimp only
  have B8 := Lib.hid (show Below (n0 + 1) w1 W8 from B7.out.trans (hb8.mono k8.out.2.2.2.2))
  have k9 := Lib.hid (gBX.out W8 B8.out)
  have T8 := Lib.hid (gT4.out.later (y7.out.trans (hb8.mono y7.out.size)))
  clear hb8
  go_wp2
  refine wp_nopan ?_
  refine wp_region_held (S := fun w' => w'.heap[n0]? = some (.cells xs 49 (0, 0))) (by kernel_rfl) ?_
  have hS : ({ W8 with drawn := W8.drawn + 1 } : World).heap[n0]? = some (.cells xs 49 (0, 0)) := k9.out.1
  have T9 := Lib.hid (show TriW W3.heap.size W3 _ { W8 with drawn := W8.drawn + 1 } from T8.out.later (Below.refl _ _).drew)
  refine takeL (i := 0) (v := (.agg xs)) rfl (by kernel_rfl) (by kernel_rfl) (by kernel_rfl) (fun _ _ _ h => h) rfl (by assumption) (fun w' hS' => run_load_box w' 49 (.tmp 4) rfl n0 rfl _ xs (0, 0) _ hS' Tryd.underlying49 rfl hrow.out) ?_
  simp only [Act.put, List.setIfInBounds_toArray, List.set_cons_zero, List.set_cons_succ]
  refine takeL (i := 1) (v := (.int .u64 (slot : Int))) rfl (by kernel_rfl) (by kernel_rfl) (by kernel_rfl) (fun _ _ _ h => h) rfl (by assumption) (fun w' hS' => by go_simp) ?_
  simp only [Act.put, List.setIfInBounds_toArray, List.set_cons_zero, List.set_cons_succ]
  refine takeL (i := 2) (v := (.int .u64 (idx : Int))) rfl (by kernel_rfl) (by kernel_rfl) (by kernel_rfl) (fun _ _ _ h => h) rfl (by assumption) (fun w' hS' => by go_simp) ?_
  simp only [Act.put, List.setIfInBounds_toArray, List.set_cons_zero, List.set_cons_succ]
  refine takeL (i := 3) (v := (.slice va3 n ca3)) rfl (by kernel_rfl) (by kernel_rfl) (by kernel_rfl) (fun _ _ _ h => h) rfl (by assumption) (fun w' hS' => by go_simp) ?_
  simp only [Act.put, List.setIfInBounds_toArray, List.set_cons_zero, List.set_cons_succ]
  refine oneL (i := 4) rfl (by kernel_rfl) rfl (wp_ran _ (run_buildSlice _ 61 4 1 _ rfl Tryd.underlying61 (.bool false) 1 info_bool2 (by decide) (by decide) [.bool false] rfl (by rfl) (fun v hv => by rw [List.mem_singleton.1 hv]; rfl)) ?_)
  obtain ⟨q, hq⟩ : ∃ q, q = ({ W8 with drawn := W8.drawn + 1 } : World).heap.size := ⟨_, rfl⟩
  have hq' : q = W8.heap.size := hq
  rw [← hq]
  refine gen_S (S := fun w' => w'.heap[n0]? = some (.cells xs 49 (0, 0))) (fun V => Below (n0 + 1) w1 V ∧ TriW W3.heap.size W3 (threeL (.slice va1 n ca1) (.slice va2 n ca2) (.slice va3 n ca3) n n n (bl F n) (bl (fun k => !F k) n) (bl (fun _ => true) n)) V ∧ V.rangeAt q 0 [.bool false]) ⟨B8.out.drew.trans (((Below.refl _ _).alloc (Nat.le_refl _) _).mono (show n0 + 1 ≤ ({ W8 with drawn := W8.drawn + 1 } : World).heap.size from k9.out.2.2.2.2)), T9.out.later ((Below.refl _ _).alloc (Nat.le_refl _) _), range_whole (heap_new _ _ _ _ hq)⟩ ?_
  rintro V ⟨bV, tV, rV⟩
  have BV := Lib.hid bV
  have kV := Lib.hid (gBX.out V bV)
  have TV := Lib.hid tV
  have RV := Lib.hid rV
  clear bV tV rV hq hq' hS
  refine ⟨kV.out.1, ?_⟩
  have hS := kV.out.1
  simp only [Act.put, List.setIfInBounds_toArray, List.set_cons_zero, List.set_cons_succ]
  refine oneL (i := 5) rfl (by kernel_rfl) rfl (wp_appS (w0 := w1) (n0 := n0 + 1) (.tmp 178) (.tmp 179) 61 4 rfl Tryd.underlying61 (.bool false) 1 1 info_bool rfl (by decide) W3.heap.size n (.slice va3 n ca3) (bl (fun _ => true) n) rfl (TV.out.own.own 2 _ rfl) ⟨q, 0, none⟩ 1 1 rfl [.bool false] rfl RV.out rfl (fun u hu => by rw [List.mem_singleton.1 hu]; rfl) (by omega) (by omega) TV.out.size hs3 BV.out ?_)
  intro v' WA h1 h2 h3 h4 h5
  obtain ⟨va4, ca4, rfl, _⟩ := own_form h1
  have BA := Lib.hid h2
  have kA := Lib.hid (gBX.out WA h2)
  clear h1 h2 h3 h4 h5 hS
  refine ⟨kA.out.1, ?_⟩
  have hS := kA.out.1
  simp only [Act.put, List.setIfInBounds_toArray, List.set_cons_zero, List.set_cons_succ]
  refine oneL (i := 6) rfl (by kernel_rfl) rfl (wp_call 11 #[.agg xs, .int .u64 (slot : Int), .int .u64 (idx : Int), .slice va4 (n + 1) ca4] (by go_simp) _ _ (clen.out WA BA.out va4 (n + 1) ca4 (by rw [gn.out]; omega)) ?_)
  intro WB hB
  have BB := Lib.hid (show Below (n0 + 1) w1 WB from BA.out.trans (hB.mono kA.out.2.2.2.2))
  have kB := Lib.hid (gBX.out WB BB.out)
  clear hB hS
  refine ⟨kB.out.1, ?_⟩
  have hS := kB.out.1
  simp only [Act.put, List.setIfInBounds_toArray, List.set_cons_zero, List.set_cons_succ]
  refine takeL (i := 7) (v := (.tuple #[.slice none 0 0, .int .i64 32])) rfl (by kernel_rfl) (by kernel_rfl) (by kernel_rfl) (fun _ _ _ h => h) rfl (by assumption) (fun w' hS' => by go_simp) ?_
  simp only [Act.put, List.setIfInBounds_toArray, List.set_cons_zero, List.set_cons_succ]
  refine takeL (i := 8) (v := (.slice none 0 0)) rfl (by kernel_rfl) (by kernel_rfl) (by kernel_rfl) (fun _ _ _ h => h) rfl (by assumption) (fun w' hS' => by go_simp) ?_
  simp only [Act.put, List.setIfInBounds_toArray, List.set_cons_zero, List.set_cons_succ]
  refine takeL (i := 9) (v := (.int .i64 32)) rfl (by kernel_rfl) (by kernel_rfl) (by kernel_rfl) (fun _ _ _ h => h) rfl (by assumption) (fun w' hS' => by go_simp) ?_
  simp only [Act.put, List.setIfInBounds_toArray, List.set_cons_zero, List.set_cons_succ]
  refine takeL (i := 10) (v := (.slice none 0 0)) rfl (by kernel_rfl) (by kernel_rfl) (by kernel_rfl) (fun _ _ _ h => h) rfl (by assumption) (fun w' hS' => by go_simp) ?_
  simp only [Act.put, List.setIfInBounds_toArray, List.set_cons_zero, List.set_cons_succ]
  refine takeL (i := 11) (v := (.int .i64 32)) rfl (by kernel_rfl) (by kernel_rfl) (by kernel_rfl) (fun _ _ _ h => h) rfl (by assumption) (fun w' hS' => by go_simp) ?_
  simp only [Act.put, List.setIfInBounds_toArray, List.set_cons_zero, List.set_cons_succ]
  refine wpAnyH_done (by kernel_rfl) ?_ _
  simp only [NoPan]
  clear hS
  go_wp2
  exact ret_t1 rfl _ rfl rfl ⟨rfl, gn0.out ▸ kB.out.2.1⟩
theorem right_len {st : Sx} (h : st.rightB = true) : st.vals.length ≤ 65536 := by
  unfold Sx.rightB Sx.lensB at h
  simp only [Bool.and_eq_true, decide_eq_true_eq] at h
  exact h.1.1.1.1.1.1.1
theorem bits_any (hAw0 : AwakeOk) (xs : Array Value) (st : Sx) (slot idx : Nat) (va : Option Addr) (nb c : Nat) (f : Nat → Bool) (w : World) (h : StRep w xs st) (hT0 : TabC w) (hslot : slot ≤ 18446744073709551615) (hbo0 : RowBo w va nb f) :
    Calls Tryd.prog 4 #[.agg xs, .int .u64 (slot : Int), .int .u64 (idx : Int), .slice va nb c] w fun e w' => e = .returned (.bool true) ∧ Below w.heap.size w w' := by
  cases hr : st.rightB with
  | false => exact bits_wrong hAw0 xs st slot idx _ w h hT0 hr
  | true =>
    have hN : st.vals.length ≤ 65536 := right_len hr
    by_cases hix : idx < cntN (actL st.vals ((slot / 4 : Nat) : Int)).length
    · exact bits_good hAw0 xs st slot idx va nb c f w h hT0 hN hr hslot hix hbo0
    · exact bits_out hAw0 xs st slot idx _ w h hT0 hN hr hslot (by omega)
end Go.Proofs.YtfnjcpopadpmbaaDoor
