/- A committee of the reference. -/
import Derived.Test.YtfnjcpopadpmbaaDoorJCsE
import Derived.Test.YtfnjcpopadpmbaaDoorKCbA
set_option linter.unusedVariables false
set_option linter.unusedSimpArgs false
set_option linter.unnecessarySimpa false
namespace Go.Proofs.YtfnjcpopadpmbaaDoor
open Go.RowKit BigFrame
set_option maxRecDepth 100000
/-- The first m of a committee that begins at place lo. -/
def plL (sd : Nat → Int) (L : List Int) (n lo m : Nat) : List Int := (List.range m).map fun j => L.getD (plS sd n 6 (lo + j)) 0
theorem plL_length (sd : Nat → Int) (L : List Int) (n lo m : Nat) : (plL sd L n lo m).length = m := by simp [plL]
theorem plL_succ (sd : Nat → Int) (L : List Int) (n lo m : Nat) : plL sd L n lo (m + 1) = plL sd L n lo m ++ [L.getD (plS sd n 6 (lo + m)) 0] := by
  unfold plL
  rw [List.range_succ, List.map_append]
  rfl
theorem seg_pl (sd : Nat → Int) (L : List Int) (n s k : Nat) (hL : L.length = n) (hs : 0 < s) (hk : k < s) : segL (shufL sd L) n s k = plL sd L n (cut n s k) (cut n s (k + 1) - cut n s k) := by
  have hl : (shufL sd L).length = n := by rw [shufL_length]; exact hL
  have h1 := cut_le (n := n) hs (show k + 1 ≤ s by omega)
  have h2 := (cut_step (n := n) (k := k) hs).1
  apply List.ext_getElem?
  intro j
  by_cases hj : j < cut n s (k + 1) - cut n s k
  · have e1 : (segL (shufL sd L) n s k).getD j 0 = (plL sd L n (cut n s k) (cut n s (k + 1) - cut n s k)).getD j 0 := by
      rw [segL_get hl hs hk hj, shufL_place sd L n hL _ (by omega)]
      simp [plL, List.getD, hj]
    have l1 : j < (segL (shufL sd L) n s k).length := by rw [segL_length hl hs hk]; exact hj
    have l2 : j < (plL sd L n (cut n s k) (cut n s (k + 1) - cut n s k)).length := by rw [plL_length]; exact hj
    rw [List.getElem?_eq_getElem l1, List.getElem?_eq_getElem l2]
    simpa [List.getD, l1, l2] using e1
  · rw [List.getElem?_eq_none (by rw [segL_length hl hs hk]; omega), List.getElem?_eq_none (by rw [plL_length]; omega)]
set_option maxHeartbeats 8000000 in
theorem rof_bad (xs : Array Value) (vs : List (Nat → Int)) (mx : Nat → Int) (slot idx : Nat) (hslot : slot ≤ 18446744073709551615) (w : World) (h : VsRep w xs vs mx) (hN2 : vs.length ≤ 65536) (hT0 : Tabs w) (hix : cntN (actL vs ((slot / 4 : Nat) : Int)).length ≤ idx) :
    Calls Tryd.prog 13 #[.agg xs, .int .u64 (slot : Int), .int .u64 (idx : Int)] w fun r w' => r = .returned (.tuple #[.slice none 0 0, .int .i64 1]) ∧ Below w.heap.size w w' := by
  have hrow := Lib.hid (show (Tryd.prog.info? 49).map (·.size) = some xs.size by rw [h.size]; exact row_size row_state)
  obtain ⟨n0, hn0⟩ : ∃ n0, n0 = w.heap.size := ⟨_, rfl⟩
  obtain ⟨w1, hw1⟩ : ∃ w1, w1 = w.alloc (.cells xs 49) := ⟨_, rfl⟩
  have hb1 : Below (n0 + 1) w1 w1 := Below.refl _ _
  have hsz1 : n0 + 1 ≤ w1.heap.size := by rw [hw1, hn0, World.size_alloc]; exact Nat.le_refl _
  have hBX : ∀ W, Below (n0 + 1) w1 W → W.heap[n0]? = some (.cells xs 49 (0, 0)) ∧ Below n0 w W ∧ VsRep W xs vs mx ∧ Tabs W ∧ n0 + 1 ≤ W.heap.size := fun W hb => by
    have hbw : Below n0 w W := by
      rw [hn0] at hb ⊢
      rw [hw1] at hb
      exact below_box hb
    refine ⟨?_, hbw, h.later (hn0 ▸ hbw), hT0.below hT0.size (hn0 ▸ hbw), Nat.le_trans hsz1 hb.size⟩
    exact (hb.block n0 (by omega)).trans (by rw [hw1]; exact heap_new _ _ _ _ hn0)
  have gBX := Lib.hid hBX
  have gw1 := Lib.hid hw1
  have gn0 := Lib.hid hn0
  obtain ⟨ep, hep⟩ : ∃ ep, ep = slot / 4 := ⟨_, rfl⟩
  obtain ⟨sm, hsm⟩ : ∃ sm, sm = slot % 4 := ⟨_, rfl⟩
  have hs4 : (slot : Int) / 4 = (ep : Int) := by omega
  have hsmI : (slot : Int) % 4 = (sm : Int) := by omega
  have hse : ep ≤ 4611686018427387904 := by omega
  have hsm4 : sm < 4 := by omega
  have hCdef : comC vs mx slot idx = segL (shufL (seedS mx 1 (ep : Int)) (actL vs (ep : Int))) (actL vs (ep : Int)).length (4 * cntN (actL vs (ep : Int)).length) (sm * cntN (actL vs (ep : Int)).length + idx) := by rw [hep, hsm]; rfl
  rw [← hep] at hix
  have hct := Lib.hid (fun (W : World) (hb : Below (n0 + 1) w1 W) => rcount_any xs vs mx (ep : Int) W (gBX.out W hb).2.2.1 hN2)
  have hac := Lib.hid (fun (W : World) (hb : Below (n0 + 1) w1 W) => ractives_any xs vs mx (ep : Int) W (gBX.out W hb).2.2.1 vs.length rfl hN2)
  have hsd := Lib.hid (fun (W : World) (hb : Below (n0 + 1) w1 W) => rseed_any xs vs mx (ep : Int) 1 (by omega) (by omega) (by omega) (by omega) W (gBX.out W hb).2.2.1 (gBX.out W hb).2.2.2.1)
  have hLn : (actL vs (ep : Int)).length ≤ 65536 := by have := actL_length vs (ep : Int); omega
  have k1 := Lib.hid (show w1.heap[n0]? = some (.cells xs 49 (0, 0)) from (gBX.out w1 hb1).1)
  have hB1 := Lib.hid hb1
  obtain ⟨L, hL⟩ : ∃ L, L = actL vs (ep : Int) := ⟨_, rfl⟩
  rw [← hL] at hCdef hix hct hac hLn
  obtain ⟨n, hn⟩ : ∃ n, n = L.length := ⟨_, rfl⟩
  rw [← hn] at hCdef hix hct hLn
  have gn := Lib.hid hn
  obtain ⟨c, hc⟩ : ∃ c, c = cntN n := ⟨_, rfl⟩
  have hcn := cntN_ge n
  rw [← hc] at hCdef hix hct hcn
  clear hBX hw1 hn0 h hT0 hb1 hep hsm hL hn hc
  have l1 : decide ((idx : Int) ≥ (c : Int)) = true := by simp; omega
  clear hCdef hslot
  go_enter Tryd.func13, Tryd.ntmps13
  go_wp2_with (first
    | (rw [← gw1.out, ← gn0.out]; (with_reducible refine at_load 49 ?_); refine wpList_value (by rfl) _ (run_load_box _ 49 (.tmp 3) rfl n0 rfl _ xs (0, 0) _ k1.out Tryd.underlying49 rfl hrow.out) ?_)
    | ((with_reducible refine (hct.out _ hB1.out).mono ?_)
       rintro e W2 ⟨rfl, b2⟩
       have B2 := Lib.hid (show Below (n0 + 1) w1 W2 from hB1.out.trans (b2.mono hsz1))
       clear b2))
  exact ret_t2 rfl _ _ rfl rfl rfl ⟨rfl, gn0.out ▸ (gBX.out W2 B2.out).2.1⟩
set_option maxHeartbeats 8000000 in
theorem rof_good (xs : Array Value) (vs : List (Nat → Int)) (mx : Nat → Int) (slot idx : Nat) (hslot : slot ≤ 18446744073709551615) (w : World) (h : VsRep w xs vs mx) (hN2 : vs.length ≤ 65536) (hT0 : Tabs w) (hix : idx < cntN (actL vs ((slot / 4 : Nat) : Int)).length) :
    Calls Tryd.prog 13 #[.agg xs, .int .u64 (slot : Int), .int .u64 (idx : Int)] w fun r w' => ∃ v, r = .returned (.tuple #[v, .int .i64 0]) ∧ OwU w.heap.size v (comC vs mx slot idx) w' ∧ Below w.heap.size w w' := by
  have hrow := Lib.hid (show (Tryd.prog.info? 49).map (·.size) = some xs.size by rw [h.size]; exact row_size row_state)
  obtain ⟨n0, hn0⟩ : ∃ n0, n0 = w.heap.size := ⟨_, rfl⟩
  obtain ⟨w1, hw1⟩ : ∃ w1, w1 = w.alloc (.cells xs 49) := ⟨_, rfl⟩
  have hb1 : Below (n0 + 1) w1 w1 := Below.refl _ _
  have hsz1 : n0 + 1 ≤ w1.heap.size := by rw [hw1, hn0, World.size_alloc]; exact Nat.le_refl _
  have hBX : ∀ W, Below (n0 + 1) w1 W → W.heap[n0]? = some (.cells xs 49 (0, 0)) ∧ Below n0 w W ∧ VsRep W xs vs mx ∧ Tabs W ∧ n0 + 1 ≤ W.heap.size := fun W hb => by
    have hbw : Below n0 w W := by
      rw [hn0] at hb ⊢
      rw [hw1] at hb
      exact below_box hb
    refine ⟨?_, hbw, h.later (hn0 ▸ hbw), hT0.below hT0.size (hn0 ▸ hbw), Nat.le_trans hsz1 hb.size⟩
    exact (hb.block n0 (by omega)).trans (by rw [hw1]; exact heap_new _ _ _ _ hn0)
  have gBX := Lib.hid hBX
  have gw1 := Lib.hid hw1
  have gn0 := Lib.hid hn0
  obtain ⟨ep, hep⟩ : ∃ ep, ep = slot / 4 := ⟨_, rfl⟩
  obtain ⟨sm, hsm⟩ : ∃ sm, sm = slot % 4 := ⟨_, rfl⟩
  have hs4 : (slot : Int) / 4 = (ep : Int) := by omega
  have hsmI : (slot : Int) % 4 = (sm : Int) := by omega
  have hse : ep ≤ 4611686018427387904 := by omega
  have hsm4 : sm < 4 := by omega
  have hCdef : comC vs mx slot idx = segL (shufL (seedS mx 1 (ep : Int)) (actL vs (ep : Int))) (actL vs (ep : Int)).length (4 * cntN (actL vs (ep : Int)).length) (sm * cntN (actL vs (ep : Int)).length + idx) := by rw [hep, hsm]; rfl
  rw [← hep] at hix
  have hct := Lib.hid (fun (W : World) (hb : Below (n0 + 1) w1 W) => rcount_any xs vs mx (ep : Int) W (gBX.out W hb).2.2.1 hN2)
  have hac := Lib.hid (fun (W : World) (hb : Below (n0 + 1) w1 W) => ractives_any xs vs mx (ep : Int) W (gBX.out W hb).2.2.1 vs.length rfl hN2)
  have hsd := Lib.hid (fun (W : World) (hb : Below (n0 + 1) w1 W) => rseed_any xs vs mx (ep : Int) 1 (by omega) (by omega) (by omega) (by omega) W (gBX.out W hb).2.2.1 (gBX.out W hb).2.2.2.1)
  have hLn : (actL vs (ep : Int)).length ≤ 65536 := by have := actL_length vs (ep : Int); omega
  have k1 := Lib.hid (show w1.heap[n0]? = some (.cells xs 49 (0, 0)) from (gBX.out w1 hb1).1)
  have hB1 := Lib.hid hb1
  obtain ⟨L, hL⟩ : ∃ L, L = actL vs (ep : Int) := ⟨_, rfl⟩
  rw [← hL] at hCdef hix hct hac hLn
  obtain ⟨n, hn⟩ : ∃ n, n = L.length := ⟨_, rfl⟩
  rw [← hn] at hCdef hix hct hLn
  have gn := Lib.hid hn
  obtain ⟨c, hc⟩ : ∃ c, c = cntN n := ⟨_, rfl⟩
  have hcn := cntN_ge n
  rw [← hc] at hCdef hix hct hcn
  clear hBX hw1 hn0 h hT0 hb1 hep hsm hL hn hc
  have l1 : decide ((idx : Int) ≥ (c : Int)) = false := by simp; omega
  have l1n : decide (c ≤ idx) = false := by simp; omega
  obtain ⟨sd, hsdd⟩ : ∃ sd, sd = seedS mx 1 (ep : Int) := ⟨_, rfl⟩
  have hsR := Lib.hid (show IsR sd by rw [hsdd]; exact seedS_is _ _ _)
  rw [← hsdd] at hsd hCdef
  obtain ⟨s, hs⟩ : ∃ s, s = 4 * c := ⟨_, rfl⟩
  obtain ⟨k, hk⟩ : ∃ k, k = sm * c + idx := ⟨_, rfl⟩
  have hks : k < s := by
    have : sm * c ≤ 3 * c := Nat.mul_le_mul_right c (by omega)
    omega
  have hs0 : 0 < s := by omega
  have hs8 : s ≤ 8 := by omega
  rw [← hs, ← hk, seg_pl sd L n s k gn.out.symm hs0 hks] at hCdef
  rw [hCdef]
  have wc4 : IntKind.u64.wrap ((c : Int) * 4) = (s : Int) := by rw [IntKind.wrap_u64]; omega
  have wsc : IntKind.u64.wrap ((sm : Int) * (c : Int)) = ((sm * c : Nat) : Int) := by
    have h1 : ((sm : Int) * (c : Int)) = ((sm * c : Nat) : Int) := by simp
    have h2 : sm * c ≤ 3 * c := Nat.mul_le_mul_right c (by omega)
    rw [IntKind.wrap_u64, h1]
    omega
  have wk0 : IntKind.u64.wrap (((sm * c : Nat) : Int) + (idx : Int)) = (k : Int) := by rw [IntKind.wrap_u64]; omega
  have wnk : IntKind.u64.wrap ((n : Int) * (k : Int)) = ((n * k : Nat) : Int) := by
    have h1 : ((n : Int) * (k : Int)) = ((n * k : Nat) : Int) := by simp
    have h2 : n * k ≤ 65536 * 8 := Nat.mul_le_mul hLn (by omega)
    rw [IntKind.wrap_u64, h1]
    omega
  have wk1 : IntKind.u64.wrap ((k : Int) + 1) = ((k + 1 : Nat) : Int) := by rw [IntKind.wrap_u64]; omega
  have wnk1 : IntKind.u64.wrap ((n : Int) * ((k + 1 : Nat) : Int)) = ((n * (k + 1) : Nat) : Int) := by
    have h1 : ((n : Int) * ((k + 1 : Nat) : Int)) = ((n * (k + 1) : Nat) : Int) := by simp
    have h2 : n * (k + 1) ≤ 65536 * 8 := Nat.mul_le_mul hLn (by omega)
    rw [IntKind.wrap_u64, h1]
    omega
  have q1 : ((n * k : Nat) : Int) / (s : Int) = (cut n s k : Nat) := by unfold cut; rw [Int.natCast_ediv]
  have q2 : ((n * (k + 1) : Nat) : Int) / (s : Int) = (cut n s (k + 1) : Nat) := by unfold cut; rw [Int.natCast_ediv]
  have hcs := (cut_step (n := n) (k := k) hs0).1
  have hcl := cut_le (n := n) hs0 (show k + 1 ≤ s by omega)
  have hsI : (s : Int) ≠ 0 := by omega
  have hwn : IntKind.u64.wrap (n : Int) = (n : Int) := by rw [IntKind.wrap_u64]; omega
  clear hk hs hsdd hslot hCdef
  generalize n * k = nk at *
  generalize n * (k + 1) = nk1 at *
  generalize sm * c = smc at *
  obtain ⟨lo, hlo⟩ : ∃ lo, lo = cut n s k := ⟨_, rfl⟩
  obtain ⟨hi, hhi⟩ : ∃ hi, hi = cut n s (k + 1) := ⟨_, rfl⟩
  rw [← hlo] at q1 hcs ⊢
  rw [← hhi] at q2 hcs hcl ⊢
  clear hlo hhi
  generalize k + 1 = kk1 at *
  have wlo : IntKind.u64.wrap (lo : Int) = (lo : Int) := by rw [IntKind.wrap_u64]; omega
  have whi : IntKind.u64.wrap (hi : Int) = (hi : Int) := by rw [IntKind.wrap_u64]; omega
  obtain ⟨len, hlen0⟩ : ∃ len, len = hi - lo := ⟨_, rfl⟩
  rw [← hlen0]
  have hlen : lo + len = hi := by omega
  clear hlen0
  go_enter Tryd.func13, Tryd.ntmps13
  go_wp2_with (first
    | (rw [← gw1.out, ← gn0.out]; (with_reducible refine at_load 49 ?_); refine wpList_value (by rfl) _ (run_load_box _ 49 (.tmp 3) rfl n0 rfl _ xs (0, 0) _ k1.out Tryd.underlying49 rfl hrow.out) ?_)
    | ((with_reducible refine (hct.out _ hB1.out).mono ?_)
       rintro e W2 ⟨rfl, b2⟩
       have B2 := Lib.hid (show Below (n0 + 1) w1 W2 from hB1.out.trans (b2.mono hsz1))
       have k2 := Lib.hid (gBX.out W2 B2.out)
       clear b2)
    | ((with_reducible refine at_load 49 ?_); refine wpList_value (by rfl) _ (run_load_box _ 49 (.tmp 3) rfl n0 rfl _ xs (0, 0) _ k2.out.1 Tryd.underlying49 rfl hrow.out) ?_)
    | ((with_reducible refine (hac.out _ B2.out).mono ?_)
       rintro e W3 ⟨v, rfl, o3, _, b3⟩
       obtain ⟨lva, lc, rfl, _⟩ := own_form o3
       rw [← gn.out] at o3 ⊢
       have o3' : OwU W2.heap.size (.slice lva n lc) L W3 := o3
       have B3 := Lib.hid (show Below (n0 + 1) w1 W3 from B2.out.trans (b3.mono k2.out.2.2.2.2))
       have k3 := Lib.hid (gBX.out W3 B3.out)
       have O3 := Lib.hid o3'
       clear b3 o3 o3')
    | ((with_reducible refine at_load 49 ?_); refine wpList_value (by rfl) _ (run_load_box _ 49 (.tmp 3) rfl n0 rfl _ xs (0, 0) _ k3.out.1 Tryd.underlying49 rfl hrow.out) ?_)
    | ((with_reducible refine (hsd.out _ B3.out).mono ?_)
       rintro e W4 ⟨rfl, b4⟩
       have B4 := Lib.hid (show Below (n0 + 1) w1 W4 from B3.out.trans (b4.mono k3.out.2.2.2.2))
       have k4 := Lib.hid (gBX.out W4 B4.out)
       have O4 := Lib.hid (O3.out.later b4)
       clear b4)
    | ((with_reducible refine at_store 24 ?_)
       go_loud (refine wpList_store_row 24 (.tmp 12) (.tmp 35) rfl rfl W4.heap.size rfl (rootV sd) rfl (fcells_one _ _ _) (by rw [row_size row_root]; simp [fcells]) _ 24 (heap_new _ _ _ _ rfl) (by simp [fcells]) (fun W5 hC hA => ?_))
       obtain ⟨qs, hqs⟩ : ∃ qs, qs = W4.heap.size := ⟨_, rfl⟩
       have bA5 : Below W4.heap.size W4 W5 := hA.below ((Below.refl _ _).alloc (Nat.le_refl _) _) (Nat.le_refl _) (by rw [World.size_alloc]; omega)
       have B5 := Lib.hid (show Below (n0 + 1) w1 W5 from B4.out.trans (bA5.mono k4.out.2.2.2.2))
       have O5 := Lib.hid (O4.out.later bA5)
       rw [← hqs] at hC ⊢
       have C5 := Lib.hid hC
       clear hC hA hqs bA5))
  have hrw := Lib.hid (show (Tryd.prog.info? 24).map (·.size) = some (rootV sd).size by rw [row_size row_root]; simp [fcells])
  have k5 := Lib.hid (gBX.out W5 B5.out)
  simp only [hsmI]
  go_loopw [15, 16] (fun v vi wr => ∃ m : Nat, m ≤ len ∧ vi = .int .u64 ((lo + m : Nat) : Int) ∧ OwU W5.heap.size v (plL sd L n lo m) wr ∧ Below W5.heap.size W5 wr) (fun _ vi _ => hi - (intOf vi).toNat)
  case atStart => exact ⟨0, Nat.zero_le _, rfl, OwU.nil _ _, Below.refl _ _⟩
  case round =>
    obtain ⟨m, hm, rfl, hO, hB⟩ := hrel
    have gO := Lib.hid hO
    have gB := Lib.hid hB
    clear hO hB
    obtain ⟨i, hi'⟩ : ∃ i, i = lo + m := ⟨_, rfl⟩
    rw [← hi']
    by_cases hlt : m < len
    · have lk : decide ((i : Int) < (hi : Int)) = true := by simp; omega
      have lkn : i < hi := by omega
      have hin : i < n := by omega
      have wi : IntKind.u64.wrap ((i : Int) + 1) = ((i + 1 : Nat) : Int) := by rw [IntKind.wrap_u64]; omega
      have hB6 := show Below (n0 + 1) w1 wr from B5.out.trans (gB.out.mono k5.out.2.2.2.2)
      have hpl := Lib.hid (place_any i n sd hin hLn wr hsR.out (gBX.out wr hB6).2.2.2.1)
      obtain ⟨p, hp⟩ : ∃ p, p = plS sd n 6 i := ⟨_, rfl⟩
      have hpn : p < n := by rw [hp]; exact plS_lt sd 6 hin
      rw [← hp] at hpl
      obtain ⟨g, cg, hv, hg1, hg2⟩ := O5.out.some_form gn.out.symm (by omega)
      cases hv
      obtain ⟨x, hx⟩ : ∃ x, x = L.getD p 0 := ⟨_, rfl⟩
      have hx0 : W5.cell? ⟨g, p, none⟩ = some (.int .u64 x) := by rw [hx]; exact O5.out.cell p (by rw [← gn.out]; exact hpn)
      have gx0 := Lib.hid hx0
      have hsu := Lib.hid (show plL sd L n lo (m + 1) = plL sd L n lo m ++ [x] by rw [plL_succ, ← hi', ← hp, ← hx])
      have C6 := Lib.hid ((gB.out.block qs (blk_lt C5.out)).trans C5.out)
      have z6 := Lib.hid gB.out.size
      have hlenm := Lib.hid (plL_length sd L n lo m)
      have hi2 := Lib.hid hi'
      have hm6 : m ≤ 65536 := by omega
      clear hx hx0 hp hB6 hi'
      go_wp2_with (first
        | ((with_reducible refine at_load 24 ?_); refine wpList_value (by rfl) _ (run_load_box _ 24 (.tmp 12) rfl qs rfl _ (rootV sd) (0, 0) _ C6.out Tryd.underlying24 rfl hrw.out) ?_)
        | ((with_reducible refine hpl.out.mono ?_)
           rintro e W7 ⟨rfl, b7⟩
           have g7 := Lib.hid (own_later gO.out b7)
           have B7 := Lib.hid (gB.out.trans (b7.mono z6.out))
           have z7 := Lib.hid (Nat.le_trans z6.out b7.size)
           have gx7 := Lib.hid (show W7.cell? ⟨g, p, none⟩ = some (.int .u64 x) from ((gB.out.trans (b7.mono z6.out)).cell hg2).trans gx0.out)
           clear b7)
        | ((with_reducible refine at_iaddrC 37 ?_); go_loud (refine wpList_value (by rfl) _ (run_index_slice _ 37 22 (.tmp 67) (.tmp 68) rfl Tryd.underlying37 1 sz_u64 g 0 n lc rfl .u64 p rfl hpn p (by omega)) ?_))
        | ((with_reducible refine at_load 22 ?_); go_loud (refine wpList_value (by rfl) _ (run_load_cell _ 22 (.tmp 69) rfl ⟨g, p, none⟩ rfl (.int .u64 x) gx7.out _ Tryd.underlying22 rfl) ?_))
        | ((with_reducible refine at_bslice 37 ?_)
           go_loud (refine wpList_plain rfl fun K hK => wp_ran _ (run_buildSlice _ 37 22 1 _ rfl Tryd.underlying37 (.int .u64 0) 1 info_u64z (by decide) (by decide) [.int .u64 x] rfl (by rfl) (fun v hv => by rw [List.mem_singleton.1 hv]; rfl)) (hK _ _ ?_))
           clear hK K
           obtain ⟨g3, hg3⟩ : ∃ g3, g3 = W7.heap.size := ⟨_, rfl⟩
           rw [← hg3]
           refine gen_l (fun W8 => Below W7.heap.size W7 W8 ∧ W8.rangeAt g3 0 [.int .u64 x] ∧ W7.heap.size + 1 ≤ W8.heap.size) ⟨(Below.refl _ _).alloc (Nat.le_refl _) _, range_whole (heap_new _ _ _ _ hg3), by rw [World.size_alloc]; omega⟩ ?_
           clear hg3
           rintro W8 ⟨h6, h7, h8⟩
           have B8 := Lib.hid h6
           have r8 := Lib.hid h7
           have z8 := Lib.hid h8
           clear h6 h7 h8)
        | ((with_reducible refine at_appC 37 ?_)
           go_loud (refine wpList_plain rfl fun K hK => wp_appS (w0 := W5) (n0 := W5.heap.size) (.tmp 66) (.tmp 71) 37 22 rfl Tryd.underlying37 (.int .u64 0) 1 8 info_u64 rfl (by decide) W5.heap.size (plL sd L n lo m).length u15 ((plL sd L n lo m).map (Value.int .u64)) rfl (own_later g7.out B8.out) ⟨g3, 0, none⟩ 1 1 rfl [.int .u64 x] rfl r8.out rfl (fun u hu => by rw [List.mem_singleton.1 hu]; rfl) (by rw [hlenm.out]; omega) (by rw [hlenm.out]; omega) (by have := z8.out; have := z7.out; omega) (Nat.le_refl _) (B7.out.trans (B8.out.mono z7.out)) (fun v' W9 h1 h2 h3 h4 h5 => hK _ _ ?_))
           clear hK K
           have O9 := Lib.hid (show OwU W5.heap.size v' (plL sd L n lo m ++ [x]) W9 by unfold OwU; rw [List.length_append, List.map_append]; exact h1)
           have B9 := Lib.hid h2
           clear h1 h2 h3 h4 h5))
      exact ⟨⟨m + 1, by omega, by rw [show lo + (m + 1) = i + 1 by have := hi2.out; omega]; go_num, by rw [hsu.out]; exact O9.out, B9.out⟩, by simp [intOf]; omega⟩
    · have e2 : m = len := by omega
      have lk : decide ((i : Int) < (hi : Int)) = false := by simp; omega
      have lkn : ¬ i < hi := by omega
      subst e2
      clear hi'
      go_wp2
      exact ret_t2 rfl _ _ rfl rfl rfl ⟨_, rfl, gn0.out ▸ gO.out.weak (show n0 ≤ W5.heap.size by have := k5.out.2.2.2.2; omega), gn0.out ▸ (gBX.out wr (B5.out.trans (gB.out.mono k5.out.2.2.2.2))).2.1⟩
end Go.Proofs.YtfnjcpopadpmbaaDoor
