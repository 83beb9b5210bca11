/- A list is shuffled: the whole. -/
import Derived.Test.YtfnjcpopadpmbaaDoorJCmH
set_option linter.unusedVariables false
set_option linter.unusedSimpArgs false
set_option linter.unnecessarySimpa false
namespace Go.Proofs.YtfnjcpopadpmbaaDoor
open Go.RowKit BigFrame
set_option maxRecDepth 100000
/-- The list shuffled by a seed. -/
def shufL (sd : Nat → Int) (l : List Int) : List Int := shufK (fun r => (pvI sd l.length r).toNat) (fun r f => bitF (blkS sd r (f / 256)) f) 6 l 6
theorem shufL_length (sd : Nat → Int) (l : List Int) : (shufL sd l).length = l.length := shufK_length _ _ _ _ _
theorem shufL_count (sd : Nat → Int) (l : List Int) (v : Int) : (shufL sd l).count v = l.count v := by
  by_cases c : l.length = 0
  · have : l = [] := List.eq_nil_of_length_eq_zero c
    subst this
    have : shufL sd [] = [] := List.eq_nil_of_length_eq_zero (by rw [shufL_length]; rfl)
    rw [this]
  · exact shufK_count _ _ _ _ _ _ (fun j => by
      have := pvI_ge sd l.length j (by omega)
      show (pvI sd l.length j).toNat < l.length
      omega)
theorem info_rootz : (Tryd.prog.info? 24).map (fun i => (i.zero, i.size, i.bytes)) = some (some (.agg (rep 32)), 32, 32) := by kernel_rfl
theorem run_makeRootsU {ρ : Operand → Value} {o : Oper} (w : World) (x y : Operand) (ho : o.op = .makeSlice 32 x y) (n : Nat) (hx : ρ x = .int .u64 (n : Int)) (hy : ρ y = .int .u64 (n : Int)) (hn : n ≤ 4294967296) :
    (execOp ρ o).run Tryd.prog w = .ok (.value (.slice (some ⟨w.heap.size, 0, none⟩) n n)) (w.alloc (.cells (madeCells (rep 32) (n * 32)) 24)) := by
  obtain ⟨i, hi, hz, hs, hb⟩ := info_parts info_rootz
  have h := run_make (P := Tryd.prog) w 32 24 i _ Tryd.underlying32 hi hz .u64 .u64 n n (by omega) (Int.le_refl _) (by rw [hb]; omega) (by omega)
  simp only [Int.toNat_natCast, hs] at h
  unfold execOp
  simp only [ho, hx, hy, Sem.run_bind, h, Result.andThen_ok, Sem.run_pure]
  rfl
theorem round_one (p : Int) (d : Nat) : (#[.int .u64 p, .pointer (some ⟨d, 0, none⟩)] : Array Value).all (·.oneCell') = true := by simp [Value.oneCell']
theorem made_size (z : Array Value) (n : Nat) : (madeCells z n).size = n := by simp [madeCells]
theorem nat_of {z : Int} {n : Nat} (h0 : 0 ≤ z) (h1 : z < n) : ∃ p : Nat, p < n ∧ RowKit.Hid (z = (p : Int) ∧ p = z.toNat) := ⟨z.toNat, by omega, Lib.hid ⟨by omega, rfl⟩⟩
theorem pv_nat (sd : Nat → Int) (n r : Nat) (h0 : 0 < n) : ∃ p : Nat, p < n ∧ RowKit.Hid (pvI sd n r = (p : Int) ∧ p = (pvI sd n r).toNat) := nat_of (pvI_ge sd n r h0).1 (pvI_ge sd n r h0).2
/-- What holds at the label: j rounds are done. -/
def LsJ (base : Nat) (sd : Nat → Int) (l : List Int) (n : Nat) (w : World) (a : Act) (wr : World) : Prop :=
  ∃ (g cap gr cr base2 : Nat) (d : Nat → Nat) (j : Nat) (r1 : Int) (u : Nat → Value), a = LsD (.slice (some ⟨g, 0, none⟩) n cap) n (.slice (some ⟨gr, 0, none⟩) 6 cr) r1 u ∧ r1 = ((6 - j : Nat) : Int) ∧ j ≤ 5 ∧
    OwU base (.slice (some ⟨g, 0, none⟩) n cap) (shufK (fun r => (pvI sd n r).toNat) (fun r f => bitF (blkS sd r (f / 256)) f) 6 l j) wr ∧ RnW base2 sd (pvI sd n) 6 (.slice (some ⟨gr, 0, none⟩) 6 cr) d wr ∧ g < base2 ∧ base ≤ g ∧ Below base w wr
theorem RnW.apart {base b : Nat} {sd pv : Nat → Int} {k : Nat} {v : Value} {d : Nat → Nat} {W W' : World} (h : RnW base sd pv k v d W) (hx : Apart b W W') (hb : b < base) : RnW base sd pv k v d W' :=
  ⟨own_apart h.own hx hb, fun r hr => by
    obtain ⟨h1, h2, h3⟩ := h.dg r hr
    exact ⟨(hx.block _ (blk_lt h1) (by omega)).trans h1, h2, h3⟩⟩
theorem RnW.cells {base gr c : Nat} {sd pv : Nat → Int} {k : Nat} {d : Nat → Nat} {W : World} (h : RnW base sd pv k (.slice (some ⟨gr, 0, none⟩) k c) d W) (r : Nat) (hr : r < k) : W.rangeAt gr (2 * r) [.int .u64 (pv r), .pointer (some ⟨d r, 0, none⟩)] := fun j v hv => by
  have hj : j < 2 := (List.getElem?_eq_some_iff.1 hv).1
  have hrow := own_rowV h.own
  have e : (rnC pv d k)[2 * r + j]? = some v := by
    unfold rnC
    rw [List.getElem?_map, List.getElem?_range (by omega)]
    match j, hj, hv with
    | 0, _, hv => simp [rcell] at hv ⊢; exact hv
    | 1, _, hv =>
      simp [rcell] at hv ⊢
      rw [show (2 * r + 1) / 2 = r by omega]
      exact hv
  obtain ⟨b, o, e2, hc⟩ := hrow (2 * r + j) v e
  cases e2
  rw [Nat.zero_add] at hc
  exact hc
theorem LsJ.of {base : Nat} {sd : Nat → Int} {l : List Int} {n : Nat} {w : World} {a : Act} {wr : World} (g cap gr cr base2 : Nat) (d : Nat → Nat) (j : Nat) (r : Int) (hf : a = LsD (.slice (some ⟨g, 0, none⟩) n cap) n (.slice (some ⟨gr, 0, none⟩) 6 cr) r (fun k => a.tmps.getD k undef)) (hr : r = ((6 - j : Nat) : Int)) (hj : j ≤ 5)
    (h1 : OwU base (.slice (some ⟨g, 0, none⟩) n cap) (shufK (fun r => (pvI sd n r).toNat) (fun r f => bitF (blkS sd r (f / 256)) f) 6 l j) wr) (h2 : RnW base2 sd (pvI sd n) 6 (.slice (some ⟨gr, 0, none⟩) 6 cr) d wr) (h3 : g < base2) (h4 : base ≤ g) (h5 : Below base w wr) : LsJ base sd l n w a wr :=
  ⟨g, cap, gr, cr, base2, d, j, r, _, hf, hr, hj, h1, h2, h3, h4, h5⟩
theorem OwU.some_form {base n : Nat} {v : Value} {l : List Int} {w : World} (h : OwU base v l w) (hn : l.length = n) (h0 : 0 < n) : ∃ g cap, v = .slice (some ⟨g, 0, none⟩) n cap ∧ base ≤ g ∧ g < w.heap.size := by
  rcases h.2 with ⟨_, h2⟩ | ⟨g, cap, cur, h1, h2, h3, _⟩
  · omega
  · exact ⟨g, cap, by rw [h1, hn], h2, blk_lt h3⟩
theorem RnW.some_form {base : Nat} {sd pv : Nat → Int} {v : Value} {d : Nat → Nat} {W : World} (h : RnW base sd pv 6 v d W) : ∃ g cap, v = .slice (some ⟨g, 0, none⟩) 6 cap ∧ base ≤ g := by
  rcases h.own.2 with ⟨_, h2⟩ | ⟨g, cap, cur, h1, h2, h3, _⟩
  · cases h2
  · exact ⟨g, cap, h1, h2⟩
set_option maxHeartbeats 16000000 in
theorem list_some (sd : Nat → Int) (hsd0 : IsR sd) (l : List Int) (n : Nat) (hl : l.length = n) (h0 : 0 < n) (hn : n ≤ 65536) (b o c : Nat) (w : World) (hr0 : w.rangeAt b o (l.map (Value.int .u64))) (hT0 : TabC w) :
    Calls Tryd.prog 21 #[.slice (some ⟨b, o, none⟩) n c, .agg (rootV sd)] w fun e w' => ∃ v, e = .returned (.tuple #[v, .int .i64 0]) ∧ OwU w.heap.size v (shufL sd l) w' ∧ Below w.heap.size w w' := by
  have hfin : shufL sd l = shufK (fun r => (pvI sd n r).toNat) (fun r f => bitF (blkS sd r (f / 256)) f) 6 l 6 := by unfold shufL; rw [hl]
  rw [hfin]
  clear hfin
  have hsd := Lib.hid hsd0
  have hT := Lib.hid hT0
  have hr := Lib.hid hr0
  have hl' := Lib.hid hl
  obtain ⟨n0, hn0⟩ : ∃ n0, n0 = w.heap.size := ⟨_, rfl⟩
  have hn0' := Lib.hid hn0
  have hT3 : 2 ≤ n0 := by rw [hn0]; exact hT0.size
  rw [← hn0]
  clear hsd0 hT0 hr0 hl hn0
  have hnI : (n : Int) ≤ 65536 := by omega
  have hnI0 : (n : Int) ≠ 0 := by omega
  have hwn : IntKind.u64.wrap (n : Int) = (n : Int) := by rw [IntKind.wrap_u64]; omega
  have hcl := Lib.hid (fun (W : World) (hW : Below n0 w W) (hs : n0 ≤ W.heap.size) => (clone_some l b o c W (fun j u hu => (hW.cell (by rw [hn0'.out]; exact block_lt_of_cell (hr.out j u hu))).trans (hr.out j u hu)) (by rw [hl'.out]; omega)))
  rw [hl'.out] at hcl
  go_enter Tryd.func21, Tryd.ntmps21
  go_wp2
  refine wp_scope_jumps2 0 (LsJ n0 sd l n w) (fun a' _ => (intOf (a'.tmps.getD 9 undef)).toNat) rfl ?_ ?_
  · rintro a wr ⟨g, cap, gr, cr, base2, d, j, r1, u, rfl, hr1, hj, hO, hR, hgb, hbg, hB⟩
    unfold LsD
    obtain ⟨r, hrd⟩ : ∃ r, r = 5 - j := ⟨_, rfl⟩
    have e6 : r1 = ((r + 1 : Nat) : Int) := by omega
    have e5 : 6 - 1 - j = r := by omega
    clear hr1
    subst e6
    have wr1 : IntKind.i64.wrap (((r + 1 : Nat) : Int) - 1) = (r : Int) := by rw [IntKind.wrap_i64]; omega
    have hr6 : r < 6 := by omega
    have hr6I : (r : Int) < 6 := by omega
    obtain ⟨p, hpn, hpI0⟩ := pv_nat sd n r h0
    have hpI := hpI0.out.1
    have hpd := Lib.hid hpI0.out.2
    clear hpI0
    have hcells := hR.cells r hr6
    rw [hpI] at hcells
    clear hpI
    have hdg := hR.dg r hr6
    obtain ⟨nbl, hnbl⟩ : ∃ nbl, nbl = (n + 255) / 256 := ⟨_, rfl⟩
    have w255 : IntKind.u64.wrap ((n : Int) + 255) = ((n + 255 : Nat) : Int) := by rw [IntKind.wrap_u64]; omega
    have hnb1 : ((n + 255 : Nat) : Int) / 256 = (nbl : Int) := by omega
    have hnb2 : n ≤ 256 * nbl := by omega
    have hnb3 : nbl ≤ 65536 := by omega
    have hnbI : (nbl : Int) ≤ 65536 := by omega
    generalize n + 255 = n255 at *
    have hrow := Lib.hid (row_size row_round)
    obtain ⟨L, hL⟩ : ∃ L, L = shufK (fun r => (pvI sd n r).toNat) (fun r f => bitF (blkS sd r (f / 256)) f) 6 l j := ⟨_, rfl⟩
    rw [← hL] at hO
    have hLl : L.length = n := by rw [hL, shufK_length, hl'.out]
    have hLn : shufK (fun r => (pvI sd n r).toNat) (fun r f => bitF (blkS sd r (f / 256)) f) 6 l (j + 1) = roundL p n (fun f => bitF (blkS sd r (f / 256)) f) L n := by
      rw [shufK, e5, ← hL, hl'.out, hpd.out]
    have gLn := Lib.hid hLn
    have gLl := Lib.hid hLl
    have gO := Lib.hid hO
    have gR := Lib.hid hR
    have gB := Lib.hid hB
    have gc := Lib.hid hcells
    have gd := Lib.hid hdg
    have gr2 := Lib.hid (show gr ≠ g by
      rcases hR.own.2 with ⟨q, _⟩ | ⟨g', cap', cur, q1, q2, _⟩
      · cases q
      · cases q1; omega)
    have hsz := Lib.hid (show base2 ≤ wr.heap.size by
      rcases hR.own.2 with ⟨q, _⟩ | ⟨g', cap', cur, q1, q2, q3, _⟩
      · cases q
      · have := blk_lt q3; omega)
    have gj := Lib.hid (show r = 5 - j from hrd)
    clear hO hR hB hcells hdg hL hLl hLn e5 hpd hnbl hrd hrow
    go_wp2_with (first
      | ((with_reducible refine at_iaddrC 79 ?_); go_loud (refine wpList_value (by rfl) _ (run_index_slice _ 79 83 (.tmp 33) (.tmp 34) rfl Tryd.underlying79 2 (row_size row_round) gr 0 6 cr rfl .i64 r rfl hr6 (2 * r) (by omega)) ?_))
      | ((with_reducible refine at_load 83 ?_); go_loud (refine wpList_value (by rfl) (.agg #[.int .u64 (p : Int), .pointer (some ⟨d r, 0, none⟩)]) (run_load_rows _ 83 (.tmp 35) rfl gr (2 * r) rfl [.int .u64 (p : Int), .pointer (some ⟨d r, 0, none⟩)] _ gc.out Tryd.underlying83 rfl (row_size row_round)) ?_))
      | ((with_reducible refine at_alloc 83 ?_)
         go_loud (refine wpList_alloc_store rfl rfl 83 10 _ rfl rfl rfl #[.int .u64 (p : Int), .pointer (some ⟨d r, 0, none⟩)] rfl rfl (zeroOf Tryd.prog 83) (row_zero row_round).1 (row_zero row_round).2 (round_one _ _) ?_)
         obtain ⟨nb1, hnb⟩ : ∃ nb1, nb1 = wr.heap.size := ⟨_, rfl⟩
         rw [← hnb]
         refine gen_l (fun W => Below nb1 wr W ∧ W.heap[nb1]? = some (.cells #[.int .u64 (p : Int), .pointer (some ⟨d r, 0, none⟩)] 83 (0, 0)) ∧ nb1 + 1 ≤ W.heap.size) ⟨by rw [hnb]; exact (Below.refl _ _).alloc (Nat.le_refl _) _, heap_new _ _ _ _ hnb, by rw [World.size_alloc]; omega⟩ ?_
         have hnb' := Lib.hid hnb
         clear hnb
         rintro W1 ⟨h1, h2, h3⟩
         have B1 := Lib.hid h1
         have N1 := Lib.hid h2
         have Z1 := Lib.hid h3
         clear h1 h2 h3)
      | ((with_reducible refine at_makeC 32 ?_)
         go_loud (refine wpList_plain rfl fun K hK => wp_ran _ (run_makeRootsU _ _ _ rfl nbl rfl rfl (by omega)) (hK _ _ ?_))
         clear hK K
         obtain ⟨gb, hgb2⟩ : ∃ gb, gb = W1.heap.size := ⟨_, rfl⟩
         rw [← hgb2]
         refine gen_l (fun W => Below nb1 wr W ∧ W.heap[nb1]? = some (.cells #[.int .u64 (p : Int), .pointer (some ⟨d r, 0, none⟩)] 83 (0, 0)) ∧ BlkI gb nbl sd r 0 W ∧ nb1 + 1 ≤ W.heap.size) ⟨B1.out.alloc (by have := Z1.out; omega) _, heap_past _ _ _ _ N1.out, ⟨_, heap_new _ _ _ _ hgb2, made_size _ _, fun i hi => absurd hi (by omega)⟩, by rw [World.size_alloc]; have := Z1.out; omega⟩ ?_
         have hgbn := Lib.hid (show nb1 < gb by have := Z1.out; omega)
         clear hgb2
         rintro W2 ⟨h1, h2, h3, h4⟩
         have B2 := Lib.hid h1
         have N2 := Lib.hid h2
         have K2 := Lib.hid h3
         have Z2 := Lib.hid h4
         clear h1 h2 h3 h4))
    refine blk_loop (.slice (some ⟨g, 0, none⟩) n cap) n (.slice (some ⟨gr, 0, none⟩) 6 cr) r nb1 gb nbl (d r) r p sd W2 hsd.out (by omega) hnb3 (hT.out.below (Nat.le_refl 2) ((gB.out.mono hT3).trans (B2.out.mono (by have := hnb'.out; have := hsz.out; omega)))) (by have := hnb'.out; have := hsz.out; have := hgbn.out; omega) N2.out ((B2.out.block (d r) (by rw [hnb'.out]; exact blk_lt gd.out.1)).trans gd.out.1) (by have := hgbn.out; omega) (by have := blk_lt gd.out.1; have := hnb'.out; have := hgbn.out; omega) (by kernel_rfl) K2.out ?_
    intro a3 W3 ha3 hK3 hA3
    rw [ha3]
    generalize (fun k => a3.tmps.getD k undef) = u3
    clear ha3 a3
    unfold LsB
    have B3 := Lib.hid (show Below nb1 wr W3 from hA3.below B2.out (by have := hgbn.out; omega) (by have := Z2.out; omega))
    have K3 := Lib.hid hK3
    have N3 := Lib.hid ((hA3.block nb1 (by have := Z2.out; omega) (by have := hgbn.out; omega)).trans N2.out)
    have O3 := Lib.hid (gO.out.later (hnb'.out ▸ B3.out))
    clear hK3 hA3
    go_wp2
    refine swp_loop n0 g cap n (.slice (some ⟨gr, 0, none⟩) 6 cr) r nb1 gb nbl (d r) r p sd L W3 hpn hn hnb2 gLl.out N3.out K3.out O3.out (by have := hnb'.out; have := hsz.out; omega) (by have := hnb'.out; have := hsz.out; have := hgbn.out; omega) (by kernel_rfl) ?_
    intro a4 W4 ha4 hO4 hA4
    rw [ha4]
    generalize (fun k => a4.tmps.getD k undef) = u4
    clear ha4 a4
    unfold LsD
    rw [← gLn.out] at hO4
    have O4 := Lib.hid hO4
    have B4 := Lib.hid (show Below n0 w W4 from hA4.below (gB.out.trans (B3.out.mono (by have := hnb'.out; have := hsz.out; omega))) hbg (by have := B3.out.size; have := hsz.out; omega))
    have R4 := Lib.hid ((gR.out.later (hnb'.out ▸ B3.out)).apart hA4 hgb)
    clear hO4 hA4
    by_cases c : 0 < r
    · have cI : decide ((r : Int) > 0) = true := by simp; omega
      have cI2 : (0 : Int) < (r : Int) := by omega
      go_wp2
      go_step3
      refine ⟨rfl, LsJ.of g cap gr cr base2 d (j + 1) r (by kernel_rfl) (by have := gj.out; omega) (by have := gj.out; omega) O4.out R4.out hgb hbg B4.out, ?_⟩
      show ((r : Int)).toNat < (((r + 1 : Nat) : Int)).toNat
      omega
    · have c0 : r = 0 := by omega
      have cI : decide ((r : Int) > 0) = false := by simp; omega
      have cI2 : ¬ (0 : Int) < (r : Int) := by omega
      have hO6 := O4.out
      rw [show j + 1 = 6 by have := gj.out; omega] at hO6
      have O6 := Lib.hid hO6
      clear hO6
      go_wp2
      simp only [Exit.jump]
      exact ret_t2 rfl _ _ rfl rfl rfl ⟨_, rfl, O6.out, B4.out⟩
  · intro hrest
    have hrest' := Lib.hid hrest
    clear hrest
    go_wp2_with (first
      | ((with_reducible refine (hcl.out _ ((Below.refl _ _).alloc (by rw [hn0'.out]; exact Nat.le_refl _) _) (by rw [World.size_alloc, hn0'.out]; omega)).mono ?_)
         rintro e W1 ⟨v, rfl, hv, b1⟩
         go_loud (simp only [World.size_alloc] at hv b1)
         go_loud (rw [← hn0'.out] at hv b1)
         obtain ⟨g, cap, rfl, hg1, hg2⟩ := hv.some_form hl'.out h0
         have V1 := Lib.hid hv
         have S1 := Lib.hid ((b1.block w.heap.size (by rw [← hn0'.out]; omega)).trans (heap_new w (rootV sd) 24 _ rfl))
         have B1 := Lib.hid (show Below n0 w W1 from ((Below.refl n0 w).alloc (by rw [hn0'.out]; exact Nat.le_refl _) _).trans (b1.mono (by omega)))
         have Z1 := Lib.hid b1.size
         clear hv b1)
      | ((with_reducible refine at_load 24 ?_); go_loud (refine wpList_value (by rfl) _ (run_load_box _ 24 (.tmp 3) rfl w.heap.size rfl _ (rootV sd) (0, 0) _ S1.out Tryd.underlying24 rfl (by rw [row_size row_root]; simp [fcells])) ?_))
      | ((with_reducible refine (rounds_any n h0 (by omega) sd hsd.out W1 (hT.out.below hT3 B1.out)).mono ?_)
         rintro e W2 ⟨v, d, rfl, hR, b2⟩
         obtain ⟨gr, cr, rfl, hgr⟩ := hR.some_form
         have R2 := Lib.hid hR
         have V2 := Lib.hid (V1.out.later b2)
         have B2 := Lib.hid (B1.out.trans (b2.mono (by have := Z1.out; omega)))
         clear hR b2))
    go_step3
    simp only [Exit.then]
    rename_i K hK
    refine hK _ _ ?_
    have hO0 : OwU n0 (.slice (some ⟨g, 0, none⟩) n cap) l W2 := by
      refine ⟨V2.out.1, ?_⟩
      rcases V2.out.2 with hn | ⟨g', cap', cur, q1, q2, q3⟩
      · exact Or.inl hn
      · exact Or.inr ⟨g', cap', cur, q1, by omega, q3⟩
    exact hrest'.out _ _ (LsJ.of g cap gr cr W1.heap.size d 0 6 (by kernel_rfl) rfl (by omega) hO0 R2.out hg2 (by omega) B2.out)
end Go.Proofs.YtfnjcpopadpmbaaDoor
