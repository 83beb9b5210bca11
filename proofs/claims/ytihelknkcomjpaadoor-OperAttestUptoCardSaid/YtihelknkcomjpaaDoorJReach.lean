/- pharosref03: offset, rises; Cut, where parts may have no size of their own. -/
/- pharosref03.Cut, where parts may have no size of their own. -/
/- pharosref03.Each: elements of one size. -/
import Derived.Test.YtihelknkcomjpaaDoorJCut
import Derived.Test.YtihelknkcomjpaaDoorJRo
import Derived.Test.YtihelknkcomjpaaDoorJRead
set_option linter.unusedVariables false
set_option linter.unusedSimpArgs false
set_option linter.unnecessarySimpa false
namespace Go.Proofs.YtihelknkcomjpaaDoor
open Go.RowKit BigFrame
set_option maxRecDepth 100000
set_option maxHeartbeats 4000000 in
theorem roffset_any (l : List Int) (va : Option Addr) (n c : Nat) (w : World) (hl0 : Row w va .u8 l) (h4 : 4 ≤ l.length) (hn : l.length = n) :
    Calls Tryd.prog 97 #[.slice va n c] w fun e w' => e = .returned (.int .i64 (offL l 0 : Nat)) ∧ Below w.heap.size w w' := by
  obtain ⟨b, o, rfl, _⟩ := hl0.cell 0 (by omega)
  have hcell : ∀ q, q < 4 → w.cell? ⟨b, o + q, none⟩ = some (.int .u8 (l.getD q 0)) := fun q hq => by
    obtain ⟨b', o', e, hc⟩ := hl0.cell q (by omega)
    cases e
    exact hc
  have hB0 : ∀ j, IsB (l.getD j 0) := list_isB hl0.ok
  have h0 := Lib.hid (hcell 0 (by omega))
  have h1 := Lib.hid (hcell 1 (by omega))
  have h2 := Lib.hid (hcell 2 (by omega))
  have h3 := Lib.hid (hcell 3 (by omega))
  have hv : ((offL l 0 : Nat) : Int) = l.getD 0 0 + l.getD 1 0 * 256 + l.getD 2 0 * 65536 + l.getD 3 0 * 16777216 := by
    rw [offL_is hl0.ok]
    simp only [rdI, Nat.zero_add]
    omega
  have b0 := hB0 0
  have b1 := hB0 1
  have b2 := hB0 2
  have b3 := hB0 3
  clear hcell hB0 hl0
  generalize l.getD 0 0 = x0 at *
  generalize l.getD 1 0 = x1 at *
  generalize l.getD 2 0 = x2 at *
  generalize l.getD 3 0 = x3 at *
  have hb0 := b0
  have hb1 := b1
  have hb2 := b2
  unfold IsB at hb0 hb1 hb2
  have s1 : bits .or .i64 x0 (IntKind.i64.wrap (x1 * 256)) = x0 + x1 * 256 := or_stepI (s := 8) (by decide) ⟨hb0.1, by show x0 < 256; omega⟩ b1
  have s2 : bits .or .i64 (x0 + x1 * 256) (IntKind.i64.wrap (x2 * 65536)) = x0 + x1 * 256 + x2 * 65536 := or_stepI (s := 16) (by decide) ⟨by omega, by show x0 + x1 * 256 < 65536; omega⟩ b2
  have s3 : bits .or .i64 (x0 + x1 * 256 + x2 * 65536) (IntKind.i64.wrap (x3 * 16777216)) = x0 + x1 * 256 + x2 * 65536 + x3 * 16777216 := or_stepI (s := 24) (by decide) ⟨by omega, by show x0 + x1 * 256 + x2 * 65536 < 16777216; omega⟩ b3
  rw [← hv] at s3
  have w0 : IntKind.i64.wrap x0 = x0 := by rw [IntKind.wrap_i64]; omega
  have w1 : IntKind.i64.wrap x1 = x1 := by rw [IntKind.wrap_i64]; omega
  have w2 : IntKind.i64.wrap x2 = x2 := by rw [IntKind.wrap_i64]; omega
  have w3 : IntKind.i64.wrap x3 = x3 := by unfold IsB at b3; rw [IntKind.wrap_i64]; omega
  have e1 : ∀ y, IntKind.i64.wrap y = wrap64 y := fun y => IntWalk.i64_left y
  rw [e1] at s1 s2 s3
  have hz := Lib.hid (show bits .or .i64 (bits .or .i64 (bits .or .i64 x0 (wrap64 (x1 * 256))) (wrap64 (x2 * 65536))) (wrap64 (x3 * 16777216)) = ((offL l 0 : Nat) : Int) from by rw [s1, s2, s3])
  clear hv b0 b1 b2 b3 hb0 hb1 hb2 s1 s2 s3 e1
  generalize offL l 0 = z at *
  go_enter Tryd.func97, Tryd.ntmps97
  go_wp2
  refine wp_region_quiet_lit (by kernel_rfl) (by kernel_rfl) ?_
  repeat (first
    | go_big_quiet_skip
    | (go_big_quiet_want; first | ((first
    | ((with_reducible refine quiet_at_iaddr 34 ?_); (first
        | refine quiet_value _ (fun w' _ => run_index_slice w' 34 5 _ _ rfl Tryd.underlying34 1 sz_u8 b o n c rfl .i64 0 rfl (by omega) (o + 0) (by omega)) ?_
        | refine quiet_value _ (fun w' _ => run_index_slice w' 34 5 _ _ rfl Tryd.underlying34 1 sz_u8 b o n c rfl .i64 1 rfl (by omega) (o + 1) (by omega)) ?_
        | refine quiet_value _ (fun w' _ => run_index_slice w' 34 5 _ _ rfl Tryd.underlying34 1 sz_u8 b o n c rfl .i64 2 rfl (by omega) (o + 2) (by omega)) ?_
        | refine quiet_value _ (fun w' _ => run_index_slice w' 34 5 _ _ rfl Tryd.underlying34 1 sz_u8 b o n c rfl .i64 3 rfl (by omega) (o + 3) (by omega)) ?_))
    | ((with_reducible refine quiet_at_load 5 ?_); (first
        | refine quiet_value _ (fun w' hw' => run_load_cell w' 5 _ rfl ⟨b, o + 0, none⟩ rfl (.int .u8 x0) (by obtain ⟨n, rfl⟩ := hw'; exact h0.out) _ Tryd.underlying5 rfl) ?_
        | refine quiet_value _ (fun w' hw' => run_load_cell w' 5 _ rfl ⟨b, o + 1, none⟩ rfl (.int .u8 x1) (by obtain ⟨n, rfl⟩ := hw'; exact h1.out) _ Tryd.underlying5 rfl) ?_
        | refine quiet_value _ (fun w' hw' => run_load_cell w' 5 _ rfl ⟨b, o + 2, none⟩ rfl (.int .u8 x2) (by obtain ⟨n, rfl⟩ := hw'; exact h2.out) _ Tryd.underlying5 rfl) ?_
        | refine quiet_value _ (fun w' hw' => run_load_cell w' 5 _ rfl ⟨b, o + 3, none⟩ rfl (.int .u8 x3) (by obtain ⟨n, rfl⟩ := hw'; exact h3.out) _ Tryd.underlying5 rfl) ?_))); (simp only [Act.put, List.setIfInBounds_toArray, List.set_cons_zero, List.set_cons_succ]); go_big_quiet_on) | (go_big_quiet_op; go_big_quiet_on)))
  refine wpQuiet_nil ?_
  intro _ hw'
  obtain ⟨nq, hw''⟩ := hw'
  subst hw''
  go_wp2
  exact ret_t1 rfl _ rfl rfl ⟨congrArg (fun y => Ending.returned (.int .i64 y)) hz.out, ⟨rfl, rfl, rfl, Nat.le_refl _, fun _ _ => rfl⟩⟩
theorem run_index_sliceI {P : Program} {ρ : Operand → Value} {o : Oper} (w : World) (t e : TypeId) (x y : Operand) (ho : o.op = .indexAddr t x y) (hu : P.underlying t = some (.slice e)) (sz : Nat) (hsz : (P.info? e).map (·.size) = some sz) (b off len cap : Nat) (hx : ρ x = .slice (some ⟨b, off, none⟩) len cap) (kd : IntKind) (m : Int) (hy : ρ y = .int kd m) (i : Nat) (hm : m = (i : Int)) (hi : i < len) (k : Nat) (hk : off + i * sz = k) :
    (execOp ρ o).run P w = .ok (.value (.pointer (some ⟨b, k, none⟩))) w := by
  subst hm
  exact run_index_slice w t e x y ho hu sz hsz b off len cap hx kd i hy hi k hk
theorem off_bad_no {hd L : Nat} {ns : List Nat} {k q : Nat} (hq : q < k) (hb : offBad hd L ns q) : decide (offGood hd L ns k) = false := by
  simp only [decide_eq_false_iff_not]
  exact fun h => h q hq hb
set_option maxHeartbeats 4000000 in
theorem rises_any (g : Nat) (ns : List Nat) (k c hd L : Nat) (w : World) (hcell0 : ∀ i, i < k → w.cell? ⟨g, i, none⟩ = some (.int .i64 ((ns.getD i 0 : Nat) : Int))) (hk0 : k ≤ 1000) :
    Calls Tryd.prog 98 #[.slice (some ⟨g, 0, none⟩) k c, .int .i64 (hd : Int), .int .i64 (L : Int)] w fun e w' => e = .returned (.bool (decide (offGood hd L ns k))) ∧ Below w.heap.size w w' := by
  have hcell := Lib.hid hcell0
  clear hcell0
  have hno := Lib.hid (fun q (hq : q < k) (hb : offBad hd L ns q) => off_bad_no hq hb)
  obtain ⟨G, hG⟩ : ∃ G, G = decide (offGood hd L ns k) := ⟨_, rfl⟩
  have hG' := Lib.hid hG
  rw [← hG] at hno ⊢
  clear hG
  go_enter Tryd.func98, Tryd.ntmps98
  go_wp2
  go_loopw [7] (fun i wr => ∃ j : Nat, j ≤ k ∧ i = .int .i64 (j : Int) ∧ offGood hd L ns j ∧ Below w.heap.size w wr) (fun i _ => k - (intOf i).toNat)
  case atStart => exact ⟨0, by omega, rfl, fun q hq => by omega, Below.refl _ _⟩
  case round =>
    obtain ⟨j, hj, rfl, hg0, hB0⟩ := hrel
    have hg := Lib.hid hg0
    clear hg0
    by_cases hlt : j < k
    · have lj : (j : Int) < (k : Int) := by omega
      have hx1 := hcell.out j hlt
      have hx := Lib.hid ((hB0.cell (p := ⟨g, j, none⟩) (block_lt_of_cell hx1)).trans hx1)
      have hD : ∀ n, Below w.heap.size w { wr with drawn := n } := fun n => hB0.trans ⟨rfl, rfl, rfl, Nat.le_refl _, fun _ _ => rfl⟩
      have hDR := Lib.hid hD
      clear hx1 hD hB0
      obtain ⟨x, hxe⟩ : ∃ x, x = ns.getD j 0 := ⟨_, rfl⟩
      rw [← hxe] at hx
      have hxe' := Lib.hid hxe
      clear hxe
      by_cases e0 : j = 0
      · subst e0
        by_cases c1 : x = hd
        · have t1 : ((x : Int) != (hd : Int)) = false := by simp [c1]
          by_cases c2 : L < x
          · have t2 : decide ((L : Int) < (x : Int)) = true := by simp; omega
            have hbad := Lib.hid (hno.out 0 hlt (Or.inr (Or.inr (by rw [← hxe'.out]; exact c2))))
            go_wp2
            refine wp_region_quiet_lit (by kernel_rfl) (by kernel_rfl) ?_
            repeat (first
              | go_big_quiet_skip
              | (go_big_quiet_want; first | ((first
              | ((with_reducible refine quiet_at_iaddr 82 ?_); refine quiet_value _ (fun w' _ => run_index_sliceI w' 82 3 _ _ rfl Tryd.underlying82 1 sz_int g 0 k c rfl .i64 _ rfl 0 rfl hlt 0 (by omega)) ?_)
              | ((with_reducible refine quiet_at_load 3 ?_); refine quiet_value _ (fun w' hw' => run_load_cell w' 3 _ rfl ⟨g, 0, none⟩ rfl (.int .i64 (x : Int)) (by obtain ⟨n, rfl⟩ := hw'; exact hx.out) _ Tryd.underlying3 rfl) ?_)); (simp only [Act.put, List.setIfInBounds_toArray, List.set_cons_zero, List.set_cons_succ]); go_big_quiet_on) | (go_big_quiet_op; go_big_quiet_on)))
            refine wpQuiet_nil ?_
            intro _ hw'
            obtain ⟨nq, hw''⟩ := hw'
            subst hw''
            go_wp2
            exact ret_t1 rfl _ rfl rfl ⟨congrArg (fun b => Ending.returned (.bool b)) hbad.out.symm, hDR.out _⟩
          · have t2 : decide ((L : Int) < (x : Int)) = false := by simp; omega
            have hnb := Lib.hid (show ¬ offBad hd L ns 0 by
              unfold offBad
              rw [← hxe'.out]
              simp
              omega)
            have c1' := Lib.hid c1
            clear c1
            go_wp2
            refine wp_region_quiet_lit (by kernel_rfl) (by kernel_rfl) ?_
            repeat (first
              | go_big_quiet_skip
              | (go_big_quiet_want; first | ((first
              | ((with_reducible refine quiet_at_iaddr 82 ?_); refine quiet_value _ (fun w' _ => run_index_sliceI w' 82 3 _ _ rfl Tryd.underlying82 1 sz_int g 0 k c rfl .i64 _ rfl 0 rfl hlt 0 (by omega)) ?_)
              | ((with_reducible refine quiet_at_load 3 ?_); refine quiet_value _ (fun w' hw' => run_load_cell w' 3 _ rfl ⟨g, 0, none⟩ rfl (.int .i64 (x : Int)) (by obtain ⟨n, rfl⟩ := hw'; exact hx.out) _ Tryd.underlying3 rfl) ?_)); (simp only [Act.put, List.setIfInBounds_toArray, List.set_cons_zero, List.set_cons_succ]); go_big_quiet_on) | (go_big_quiet_op; go_big_quiet_on)))
            refine wpQuiet_nil ?_
            intro _ hw'
            obtain ⟨nq, hw''⟩ := hw'
            subst hw''
            go_wp2
            exact ⟨⟨1, by omega, by go_num, off_step hg.out hnb.out, hDR.out _⟩, by simp [intOf]; omega⟩
        · have t1 : ((x : Int) != (hd : Int)) = true := by simp; omega
          have hbad := Lib.hid (hno.out 0 hlt (Or.inl ⟨rfl, by rw [← hxe'.out]; exact c1⟩))
          go_wp2
          refine wp_region_quiet_lit (by kernel_rfl) (by kernel_rfl) ?_
          repeat (first
            | go_big_quiet_skip
            | (go_big_quiet_want; first | ((first
            | ((with_reducible refine quiet_at_iaddr 82 ?_); refine quiet_value _ (fun w' _ => run_index_sliceI w' 82 3 _ _ rfl Tryd.underlying82 1 sz_int g 0 k c rfl .i64 _ rfl 0 rfl hlt 0 (by omega)) ?_)
            | ((with_reducible refine quiet_at_load 3 ?_); refine quiet_value _ (fun w' hw' => run_load_cell w' 3 _ rfl ⟨g, 0, none⟩ rfl (.int .i64 (x : Int)) (by obtain ⟨n, rfl⟩ := hw'; exact hx.out) _ Tryd.underlying3 rfl) ?_)); (simp only [Act.put, List.setIfInBounds_toArray, List.set_cons_zero, List.set_cons_succ]); go_big_quiet_on) | (go_big_quiet_op; go_big_quiet_on)))
          refine wpQuiet_nil ?_
          intro _ hw'
          obtain ⟨nq, hw''⟩ := hw'
          subst hw''
          go_wp2
          exact ret_t1 rfl _ rfl rfl ⟨congrArg (fun b => Ending.returned (.bool b)) hbad.out.symm, hDR.out _⟩
      · obtain ⟨q, rfl⟩ : ∃ q, j = q + 1 := ⟨j - 1, by omega⟩
        have hy1 := hcell.out q (by omega)
        have hBw : Below w.heap.size w wr := by
          have h := hDR.out wr.drawn
          exact h
        have hy := Lib.hid ((hBw.cell (p := ⟨g, q, none⟩) (block_lt_of_cell hy1)).trans hy1)
        clear hy1 hBw
        obtain ⟨y, hye⟩ : ∃ y, y = ns.getD q 0 := ⟨_, rfl⟩
        rw [← hye] at hy
        have hye' := Lib.hid hye
        clear hye
        have t0 : (((q : Int) + 1) == 0) = false := by simp; try omega
        have wq : wrap64 (q : Int) = (q : Int) := IntWalk.wrap64_in _ (by omega)
        have t00 : decide ((0 : Int) < (q : Int) + 1) = true := by simp; try omega
        by_cases c1 : x < y
        · have t1 : decide ((x : Int) < (y : Int)) = true := by simp; omega
          have hbad := Lib.hid (hno.out (q + 1) hlt (Or.inr (Or.inl (by rw [← hxe'.out, if_neg (by omega), Nat.add_sub_cancel, ← hye'.out]; exact c1))))
          go_wp2
          refine wp_region_quiet_lit (by kernel_rfl) (by kernel_rfl) ?_
          repeat (first
            | go_big_quiet_skip
            | (go_big_quiet_want; first | ((first
            | ((with_reducible refine quiet_at_iaddr 82 ?_); (first
                | refine quiet_value _ (fun w' _ => run_index_sliceI w' 82 3 _ _ rfl Tryd.underlying82 1 sz_int g 0 k c rfl .i64 _ rfl (q + 1) (by omega) hlt (q + 1) (by omega)) ?_
                | refine quiet_value _ (fun w' _ => run_index_sliceI w' 82 3 _ _ rfl Tryd.underlying82 1 sz_int g 0 k c rfl .i64 _ rfl q (by omega) (by omega) q (by omega)) ?_))
            | ((with_reducible refine quiet_at_load 3 ?_); (first
                | refine quiet_value _ (fun w' hw' => run_load_cell w' 3 _ rfl ⟨g, q + 1, none⟩ rfl (.int .i64 (x : Int)) (by obtain ⟨n, rfl⟩ := hw'; exact hx.out) _ Tryd.underlying3 rfl) ?_
                | refine quiet_value _ (fun w' hw' => run_load_cell w' 3 _ rfl ⟨g, q, none⟩ rfl (.int .i64 (y : Int)) (by obtain ⟨n, rfl⟩ := hw'; exact hy.out) _ Tryd.underlying3 rfl) ?_))); (simp only [Act.put, List.setIfInBounds_toArray, List.set_cons_zero, List.set_cons_succ]); go_big_quiet_on) | (go_big_quiet_op; go_big_quiet_on)))
          refine wpQuiet_nil ?_
          intro _ hw'
          obtain ⟨nq, hw''⟩ := hw'
          subst hw''
          go_wp2
          exact ret_t1 rfl _ rfl rfl ⟨congrArg (fun b => Ending.returned (.bool b)) hbad.out.symm, hDR.out _⟩
        · have t1 : decide ((x : Int) < (y : Int)) = false := by simp; omega
          by_cases c2 : L < x
          · have t2 : decide ((L : Int) < (x : Int)) = true := by simp; omega
            have hbad := Lib.hid (hno.out (q + 1) hlt (Or.inr (Or.inr (by rw [← hxe'.out]; exact c2))))
            go_wp2
            refine wp_region_quiet_lit (by kernel_rfl) (by kernel_rfl) ?_
            repeat (first
              | go_big_quiet_skip
              | (go_big_quiet_want; first | ((first
              | ((with_reducible refine quiet_at_iaddr 82 ?_); (first
                  | refine quiet_value _ (fun w' _ => run_index_sliceI w' 82 3 _ _ rfl Tryd.underlying82 1 sz_int g 0 k c rfl .i64 _ rfl (q + 1) (by omega) hlt (q + 1) (by omega)) ?_
                  | refine quiet_value _ (fun w' _ => run_index_sliceI w' 82 3 _ _ rfl Tryd.underlying82 1 sz_int g 0 k c rfl .i64 _ rfl q (by omega) (by omega) q (by omega)) ?_))
              | ((with_reducible refine quiet_at_load 3 ?_); (first
                  | refine quiet_value _ (fun w' hw' => run_load_cell w' 3 _ rfl ⟨g, q + 1, none⟩ rfl (.int .i64 (x : Int)) (by obtain ⟨n, rfl⟩ := hw'; exact hx.out) _ Tryd.underlying3 rfl) ?_
                  | refine quiet_value _ (fun w' hw' => run_load_cell w' 3 _ rfl ⟨g, q, none⟩ rfl (.int .i64 (y : Int)) (by obtain ⟨n, rfl⟩ := hw'; exact hy.out) _ Tryd.underlying3 rfl) ?_))); (simp only [Act.put, List.setIfInBounds_toArray, List.set_cons_zero, List.set_cons_succ]); go_big_quiet_on) | (go_big_quiet_op; go_big_quiet_on)))
            refine wpQuiet_nil ?_
            intro _ hw'
            obtain ⟨nq, hw''⟩ := hw'
            subst hw''
            go_wp2
            exact ret_t1 rfl _ rfl rfl ⟨congrArg (fun b => Ending.returned (.bool b)) hbad.out.symm, hDR.out _⟩
          · have t2 : decide ((L : Int) < (x : Int)) = false := by simp; omega
            have hnb := Lib.hid (show ¬ offBad hd L ns (q + 1) by
              unfold offBad
              rw [← hxe'.out, if_neg (by omega), Nat.add_sub_cancel, ← hye'.out]
              omega)
            go_wp2
            refine wp_region_quiet_lit (by kernel_rfl) (by kernel_rfl) ?_
            repeat (first
              | go_big_quiet_skip
              | (go_big_quiet_want; first | ((first
              | ((with_reducible refine quiet_at_iaddr 82 ?_); (first
                  | refine quiet_value _ (fun w' _ => run_index_sliceI w' 82 3 _ _ rfl Tryd.underlying82 1 sz_int g 0 k c rfl .i64 _ rfl (q + 1) (by omega) hlt (q + 1) (by omega)) ?_
                  | refine quiet_value _ (fun w' _ => run_index_sliceI w' 82 3 _ _ rfl Tryd.underlying82 1 sz_int g 0 k c rfl .i64 _ rfl q (by omega) (by omega) q (by omega)) ?_))
              | ((with_reducible refine quiet_at_load 3 ?_); (first
                  | refine quiet_value _ (fun w' hw' => run_load_cell w' 3 _ rfl ⟨g, q + 1, none⟩ rfl (.int .i64 (x : Int)) (by obtain ⟨n, rfl⟩ := hw'; exact hx.out) _ Tryd.underlying3 rfl) ?_
                  | refine quiet_value _ (fun w' hw' => run_load_cell w' 3 _ rfl ⟨g, q, none⟩ rfl (.int .i64 (y : Int)) (by obtain ⟨n, rfl⟩ := hw'; exact hy.out) _ Tryd.underlying3 rfl) ?_))); (simp only [Act.put, List.setIfInBounds_toArray, List.set_cons_zero, List.set_cons_succ]); go_big_quiet_on) | (go_big_quiet_op; go_big_quiet_on)))
            refine wpQuiet_nil ?_
            intro _ hw'
            obtain ⟨nq, hw''⟩ := hw'
            subst hw''
            go_wp2
            exact ⟨⟨q + 1 + 1, by omega, by go_num, off_step hg.out hnb.out, hDR.out _⟩, by simp [intOf]; omega⟩
    · have e : j = k := by omega
      subst e
      have hgood := Lib.hid (hG'.out.trans (decide_eq_true hg.out))
      go_wp2
      exact ret_t1 rfl _ rfl rfl ⟨congrArg (fun b => Ending.returned (.bool b)) hgood.out.symm, hB0⟩
end Go.Proofs.YtihelknkcomjpaaDoor
namespace Go.Proofs.YtihelknkcomjpaaDoor
open Go.RowKit BigFrame
set_option maxRecDepth 100000
theorem run_slice_midI {P : Program} {ρ : Operand → Value} {o : Oper} (w : World) (t e : TypeId) (x y z : Operand) (ho : o.op = .slice t x (some y) (some z) none) (hu : P.underlying t = some (.slice e)) (sz : Nat) (hsz : (P.info? e).map (·.size) = some sz) (b off len cap lo n : Nat) (hx : ρ x = .slice (some ⟨b, off, none⟩) len cap)
    (i : Int) (hy : ρ y = .int .i64 i) (hi : i = (lo : Int)) (m : Int) (hz : ρ z = .int .i64 m) (hm : m = ((lo + n : Nat) : Int)) (h1 : 0 < n) (h2 : lo + n ≤ cap) (q : Nat) (hq : off + lo * sz = q) :
    (execOp ρ o).run P w = .ok (.value (.slice (some ⟨b, q, none⟩) n (cap - lo))) w := by
  subst hi
  subst hm
  exact run_slice_mid w t e x y z ho hu sz hsz b off len cap lo n hx hy hz h1 h2 q hq
theorem rdI_ext {f g : Nat → Int} : ∀ k, (∀ j, j < k → f j = g j) → rdI f k = rdI g k
  | 0, _ => rfl
  | k + 1, h => by
    show rdI f k + f k * 2 ^ (8 * k) = rdI g k + g k * 2 ^ (8 * k)
    rw [rdI_ext k fun j hj => h j (by omega), h k (by omega)]
theorem offL_mid (l : List Int) (s : Nat) : offL ((l.drop s).take 4) 0 = offL l s := by
  unfold offL
  congr 1
  exact rdI_ext 4 fun j hj => by rw [Nat.zero_add]; exact drop_take_get _ _ _ _ hj
/-- Where the offsets of the first parts stand. -/
def cutA (zs : List Nat) : Nat → List Nat
  | 0 => []
  | j + 1 => if zs.getD j 0 = 0 then cutA zs j ++ [headN (zs.take j)] else cutA zs j
theorem cutA_le (zs : List Nat) : ∀ j, (cutA zs j).length ≤ j
  | 0 => Nat.le_refl _
  | j + 1 => by
    have h := cutA_le zs j
    simp only [cutA]
    split
    · simp only [List.length_append, List.length_singleton]; omega
    · omega
theorem cutA_mono (zs : List Nat) (j n : Nat) (h : j ≤ n) : (cutA zs j).length ≤ (cutA zs n).length := by
  induction n with
  | zero => obtain rfl : j = 0 := by omega
            exact Nat.le_refl _
  | succ n ih =>
    by_cases e : j = n + 1
    · subst e; exact Nat.le_refl _
    · refine Nat.le_trans (ih (by omega)) ?_
      simp only [cutA]
      split
      · simp only [List.length_append]; omega
      · exact Nat.le_refl _
/-- The offsets, and the end. -/
def cutO (zs : List Nat) (l : List Int) : List Nat := (cutA zs zs.length).map (offL l) ++ [l.length]
/-- Part q. -/
def partU (zs : List Nat) (l : List Int) (q : Nat) : List Int :=
  if zs.getD q 0 = 0 then (l.drop ((cutO zs l).getD (cutA zs q).length 0)).take ((cutO zs l).getD ((cutA zs q).length + 1) 0 - (cutO zs l).getD (cutA zs q).length 0)
  else (l.drop (headN (zs.take q))).take (zs.getD q 0)
def cutU (zs : List Nat) (l : List Int) : List (List Int) := (List.range zs.length).map (partU zs l)
theorem cutU_length (zs : List Nat) (l : List Int) : (cutU zs l).length = zs.length := by simp [cutU]
theorem cutU_get (zs : List Nat) (l : List Int) (i : Nat) (h : i < zs.length) : (cutU zs l).getD i [] = partU zs l i := by
  simp [cutU, List.getD, h]
/-- The offsets rise, none is beyond the end. -/
theorem off_rise {hd L m : Nat} {ns : List Nat} (h : offGood hd L ns m) (hm : ns.length = m) (v : Nat) (hv : v < m) : (ns ++ [L]).getD v 0 ≤ (ns ++ [L]).getD (v + 1) 0 ∧ (ns ++ [L]).getD (v + 1) 0 ≤ L := by
  have e1 : (ns ++ [L]).getD v 0 = ns.getD v 0 := by simp only [List.getD, List.getElem?_append_left (show v < ns.length by omega)]
  have h1 := h v hv
  unfold offBad at h1
  rw [e1]
  by_cases e : v + 1 = m
  · have e2 : (ns ++ [L]).getD (v + 1) 0 = L := by
      simp only [List.getD, List.getElem?_append_right (show ns.length ≤ v + 1 by omega), hm, e, Nat.sub_self]
      simp [hm]
    rw [e2]
    omega
  · have e2 : (ns ++ [L]).getD (v + 1) 0 = ns.getD (v + 1) 0 := by simp only [List.getD, List.getElem?_append_left (show v + 1 < ns.length by omega)]
    have h2 := h (v + 1) (by omega)
    unfold offBad at h2
    rw [if_neg (by omega), Nat.add_sub_cancel] at h2
    rw [e2]
    omega
/-- The parts so far, some of which may be empty. -/
def OutJ (base k : Nat) (v : Value) (part : Nat → List Int) (W : World) : Prop :=
  ∃ vs : List Value, W.ownsRow base 34 1 v k vs ∧ vs.length = k ∧ ∀ i, i < k → ∃ va ci, vs[i]? = some (.slice va (part i).length ci) ∧ Row W va .u8 (part i) ∧ (va = none → ci = 0) ∧ (part i).length ≤ ci ∧ ∀ b o, va = some ⟨b, o, none⟩ → b < W.heap.size ∧ v.ownBlock ≠ some b ∧ base ≤ b
theorem OutJ.nil (base : Nat) (part : Nat → List Int) (W : World) : OutJ base 0 (.slice none 0 0) part W := ⟨[], ⟨rfl, Or.inl ⟨rfl, rfl⟩⟩, rfl, fun i hi => absurd hi (by omega)⟩
theorem OutJ.later {base k : Nat} {v : Value} {part : Nat → List Int} {W W' : World} (h : OutJ base k v part W) (hb : Below W.heap.size W W') : OutJ base k v part W' := by
  obtain ⟨vs, h1, h2, h3⟩ := h
  refine ⟨vs, own_later h1 hb, h2, fun i hi => ?_⟩
  obtain ⟨va, ci, h4, h5, h6, h7, h8⟩ := h3 i hi
  exact ⟨va, ci, h4, h5.later hb, h6, h7, fun b o e => ⟨Nat.lt_of_lt_of_le (h8 b o e).1 hb.size, (h8 b o e).2⟩⟩
theorem OutJ.form {base k : Nat} {v : Value} {part : Nat → List Int} {W : World} (h : OutJ base k v part W) : ∃ va c, v = .slice va k c := by
  obtain ⟨vs, h1, _⟩ := h
  obtain ⟨va, c, e, _⟩ := own_form h1
  exact ⟨va, c, e⟩
theorem OutJ.step {base k : Nat} {v v' : Value} {part : Nat → List Int} {W W' : World} {vs : List Value} (g2 : vs.length = k) (g3 : ∀ i, i < k → ∃ va ci, vs[i]? = some (.slice va (part i).length ci) ∧ Row W va .u8 (part i) ∧ (va = none → ci = 0) ∧ (part i).length ≤ ci ∧ ∀ b o, va = some ⟨b, o, none⟩ → b < W.heap.size ∧ v.ownBlock ≠ some b ∧ base ≤ b)
    {vp : Option Addr} {c : Nat} (hr : Row W vp .u8 (part k)) (hn : vp = none → c = 0) (hc : (part k).length ≤ c) (hb : ∀ b o, vp = some ⟨b, o, none⟩ → b < W.heap.size ∧ v.ownBlock ≠ some b ∧ base ≤ b)
    (h1 : W'.ownsRow base 34 1 v' (k + 1) (vs ++ [.slice vp (part k).length c])) (ho : ∀ j, j < W.heap.size → some j ≠ v.ownBlock → W'.heap[j]? = W.heap[j]?) (hq : v'.ownBlock = v.ownBlock ∨ v'.ownBlock = some W.heap.size) (hs : W.heap.size ≤ W'.heap.size) : OutJ base (k + 1) v' part W' := by
  have hmove : ∀ b', b' < W.heap.size → v.ownBlock ≠ some b' → W'.heap[b']? = W.heap[b']? := fun b' h1 h2 => ho b' h1 (fun e => h2 e.symm)
  have hnew : ∀ b', b' < W.heap.size → v.ownBlock ≠ some b' → v'.ownBlock ≠ some b' := fun b' h1 h2 e => by
    rcases hq with hq | hq
    · exact h2 (hq ▸ e)
    · rw [hq] at e; cases e; omega
  have hrow : ∀ va m, Row W va .u8 m → (∀ b o, va = some ⟨b, o, none⟩ → b < W.heap.size ∧ v.ownBlock ≠ some b ∧ base ≤ b) → Row W' va .u8 m := fun va m hr h8 => ⟨fun j hj => by
    obtain ⟨b2, o2, e, hc⟩ := hr.cell j hj
    have := h8 b2 o2 e
    exact ⟨b2, o2, e, (World.cell?_of_block (w := W) (hmove b2 this.1 this.2.1)).trans hc⟩, hr.ok⟩
  refine ⟨_, h1, by simp [g2], fun i hi => ?_⟩
  by_cases e : i = k
  · subst e
    exact ⟨vp, c, by rw [List.getElem?_append_right (by omega), g2]; simp, hrow _ _ hr hb, hn, hc, fun b o e => ⟨Nat.lt_of_lt_of_le (hb b o e).1 hs, hnew b (hb b o e).1 (hb b o e).2.1, (hb b o e).2.2⟩⟩
  · obtain ⟨va, ci, h4, h5, h6, h7, h8⟩ := g3 i (by omega)
    exact ⟨va, ci, by rw [List.getElem?_append_left (by omega)]; exact h4, hrow _ _ h5 h8, h6, h7, fun b o e => ⟨Nat.lt_of_lt_of_le (h8 b o e).1 hs, hnew b (h8 b o e).1 (h8 b o e).2.1, (h8 b o e).2.2⟩⟩
theorem OutJ.parts {base base' k : Nat} {v : Value} {part : Nat → List Int} {W : World} (h : OutJ base k v part W) (hbb : base' ≤ base) (hk : 1 ≤ k) (ps : List (List Int)) (hp : ps.length = k) (he : ∀ i, i < k → ps.getD i [] = part i) : PartsV base' v ps W := by
  obtain ⟨vs, h1, h2, h3⟩ := h
  rcases h1.2 with ⟨e1, e2⟩ | ⟨g, cap, cur, e1, e2, e3, e4, e5, e6, e7⟩
  · omega
  · subst hp
    refine ⟨g, cap, e1, by omega, block_lt e3, fun i hi => ?_⟩
    obtain ⟨va, ci, h4, h5, h6, h7, h8⟩ := h3 i hi
    refine ⟨va, ci, ?_⟩
    rw [he i hi]
    refine ⟨?_, h5, h6, h7, fun b' o' e => ⟨by have := (h8 b' o' e).2.2; omega, (h8 b' o' e).1⟩⟩
    rw [cell_of_row W g i _ _ _ e3, ← h4, ← e7, List.getElem?_take_of_lt (by omega)]
    simp
theorem own_low {base n c : Nat} {va : Option Addr} {l : List Int} {w : World} (h : OwnB base (.slice va n c) l w) : ∀ b o, va = some ⟨b, o, none⟩ → base ≤ b ∧ b < w.heap.size := fun b o e => by
  subst e
  rcases h.2 with ⟨e1, _⟩ | ⟨g, cap, cur, e1, e2, e3, _⟩
  · cases e1
  · injection e1 with e5 e6 e7
    cases e5
    exact ⟨e2, block_lt e3⟩
set_option maxHeartbeats 16000000 in
theorem cutu_form (l : List Int) (va : Option Addr) (c : Nat) (gs : Nat) (zs : List Nat) (n cs : Nat) (w : World) (hsl0 : SlB va c l w) (hZ : IntsAt gs zs w) (hn : zs.length = n) (h1 : 1 ≤ n) (h64 : n ≤ 64) (hz : ∀ z ∈ zs, z ≤ 65536) (hl : headN zs ≤ l.length) (hpos : 0 < headN zs) (hfew : l.length ≤ 70368744177664) (m : Nat) (hm0 : (cutA zs n).length = m) (hmp : 0 < m) (hbad : ¬ offGood (headN zs) l.length ((cutA zs n).map (offL l)) m) :
    Calls Tryd.prog 53 #[.slice va l.length c, .slice (some ⟨gs, 0, none⟩) n cs] w fun e w' => e = .returned (.tuple #[.slice none 0 0, .int .i64 5]) ∧ Below w.heap.size w w' := by
  have hS := Lib.hid (sizesOK_any gs zs n cs w hZ hn h1 h64 hz)
  have hH := Lib.hid (head_any gs zs n cs w hZ hn h64 hz)
  have hcs := Lib.hid (fun i (hi : i < n) => hZ.cell i (by omega))
  have hgs : gs < w.heap.size := block_lt hZ
  have hle := headN_le hz
  rw [hn] at hle
  have hmo := Lib.hid (headN_mono zs)
  have hta := Lib.hid (fun k (hk : k < n) => headN_take zs k (by omega))
  have hAs := Lib.hid (fun j => show cutA zs (j + 1) = if zs.getD j 0 = 0 then cutA zs j ++ [headN (zs.take j)] else cutA zs j from rfl)
  have hAl := Lib.hid (cutA_le zs)
  have hAm := Lib.hid (cutA_mono zs)
  have hall : headN (zs.take n) = headN zs := by rw [← hn, List.take_length]
  have hall' := Lib.hid hall
  have hOe : (cutA zs n).map (offL l) ++ [l.length] = cutO zs l := by unfold cutO; rw [hn]
  have hO' := Lib.hid hOe
  have hsl := Lib.hid hsl0
  have hz' := Lib.hid (fun i (hi : i < n) => show zs.getD i 0 ≤ 65536 from hz _ (by simp [List.getD, show i < zs.length by omega]))
  have hpart0 : ∀ q, partU zs l q = if zs.getD q 0 = 0 then (l.drop ((cutO zs l).getD (cutA zs q).length 0)).take ((cutO zs l).getD ((cutA zs q).length + 1) 0 - (cutO zs l).getD (cutA zs q).length 0) else (l.drop (headN (zs.take q))).take (zs.getD q 0) := fun q => rfl
  have hpart := Lib.hid hpart0
  have hcut := Lib.hid (fun i (hi : i < n) => cutU_get zs l i (by omega))
  have hcl := Lib.hid (show (cutU zs l).length = n by rw [cutU_length, hn])
  obtain ⟨bb, bo, rfl, _⟩ := hsl0.row.cell 0 (by omega)
  have hbb := hsl0.low bb bo rfl
  have hcap := hsl0.cap
  clear hZ hn hz hsl0 hall hOe hpart0
  have t1 : decide ((l.length : Int) < (headN zs : Int)) = false := by simp; omega
  have t1n : decide (l.length < headN zs) = false := by simp; omega
  have hbad' := Lib.hid hbad
  have hm0' := Lib.hid hm0
  clear hbad hm0
  go_enter Tryd.func53, Tryd.ntmps53
  go_wp2_with (first
    | ((with_reducible refine hS.out.mono ?_)
       rintro e W ⟨rfl, rfl⟩
       clear hS)
    | ((with_reducible refine hH.out.mono ?_)
       rintro e W ⟨rfl, rfl⟩
       clear hH))
  go_loopw [7, 8, 9] (fun x k i wr => ∃ j : Nat, j ≤ n ∧ i = .int .i64 (j : Int) ∧ k = .int .i64 ((headN (zs.take j) : Nat) : Int) ∧ (∃ va c, x = .slice va (cutA zs j).length c) ∧ wr.ownsRow w.heap.size 3 1 x (cutA zs j).length (((cutA zs j).map (offL l)).map fun m : Nat => Value.int .i64 (m : Int)) ∧ Below w.heap.size w wr) (fun _ _ i _ => n - (intOf i).toNat)
  case atStart => exact ⟨0, by omega, rfl, rfl, ⟨none, 0, rfl⟩, ⟨rfl, Or.inl ⟨rfl, rfl⟩⟩, Below.refl _ _⟩
  case round =>
    obtain ⟨j, hj, rfl, rfl, ⟨vx, cx, rfl⟩, hX, hB⟩ := hrel
    have hm := hmo.out j
    have hXX := Lib.hid hX
    clear hX
    by_cases hlt : j < n
    · have hc1 := Lib.hid ((hB.cell (p := ⟨gs, j, none⟩) hgs).trans (hcs.out j hlt))
      have ht := hta.out j hlt
      have hm2 := hmo.out (j + 1)
      have hA := hAs.out j
      have hAj := hAl.out j
      have hz1 := hz'.out j hlt
      clear hcs hmo hta hAs hAl hAm hpart hcut hcl hO' hz'
      generalize zs.getD j 0 = z at *
      generalize headN (zs.take j) = s at *
      generalize hs2 : headN (zs.take (j + 1)) = s2 at *
      have hs2' := Lib.hid hs2
      generalize cutA zs j = A at *
      generalize hA2 : cutA zs (j + 1) = A2 at *
      have hA2' := Lib.hid hA2
      clear hs2 hA2
      by_cases h0 : z = 0
      · subst h0
        rw [if_pos rfl] at ht hA
        subst hA
        have ht' := Lib.hid ht
        have hrow := Lib.hid (row_mid (hsl.out.row.later hB) s 4 (by omega))
        have hl4 : ((l.drop s).take 4).length = 4 := by rw [List.length_take, List.length_drop]; omega
        have hl4' := Lib.hid hl4
        have hs4 : s + 4 ≤ headN zs := by omega
        have ho0 := offL_mid l s
        have ho0' := Lib.hid ho0
        clear ht hl4 ho0
        have hbs := hB.size
        go_wp2_with (first
          | ((with_reducible refine at_iaddr 82 ?_); go_loud (refine wpList_value (by rfl) _ (run_index_slice _ 82 3 _ _ rfl Tryd.underlying82 1 sz_int gs 0 n cs rfl .i64 j rfl hlt j (by omega)) ?_))
          | ((with_reducible refine at_load 3 ?_); refine wpList_value (by rfl) _ (run_load_cell _ 3 _ (by rfl) ⟨gs, j, none⟩ (by rfl) (.int .i64 ((0 : Nat) : Int)) (by first | exact hc1.out | exact hc2.out) _ Tryd.underlying3 rfl) ?_)
          | ((with_reducible refine at_slice 34 ?_); go_loud (refine wpList_value (by rfl) _ (run_slice_midI (P := Tryd.prog) _ 34 5 _ _ _ rfl Tryd.underlying34 1 sz_u8 bb bo l.length c s 4 rfl _ rfl rfl _ rfl (by omega) (by omega) (by omega) (bo + s) (by omega)) ?_))
          | ((with_reducible refine (roffset_any _ _ 4 _ _ hrow.out (by rw [hl4'.out]; exact Nat.le_refl _) hl4'.out).mono ?_)
             rintro e W ⟨rfl, hb1⟩
             rw [ho0'.out]
             have hBW := Lib.hid (hB.trans (hb1.mono hbs))
             have hXW := Lib.hid (own_later hXX.out hb1)
             clear hb1)
          | ((with_reducible refine at_bslice 82 ?_); go_loud (refine wpList_plain rfl fun K hK => wp_ran _ (run_buildSlice _ 82 3 1 _ rfl Tryd.underlying82 (.int .i64 0) 1 info_int2 (by decide) (by decide) [.int .i64 ((offL l s : Nat) : Int)] rfl rfl (by simp [Value.cells])) (hK _ _ ?_)); clear hK K)
          | ((with_reducible refine at_app 82 ?_); go_loud (refine wpList_plain rfl fun K hK => wp_appS (w0 := w) (n0 := w.heap.size) (.tmp 33) (.tmp 40) 82 3 rfl Tryd.underlying82 (.int .i64 0) 1 8 info_int rfl (by decide) w.heap.size A.length (.slice vx A.length cx) _ rfl (own_later hXW.out ((Below.refl _ _).alloc (Nat.le_refl _) _)) ⟨W.heap.size, 0, none⟩ 1 1 rfl [.int .i64 ((offL l s : Nat) : Int)] rfl (range_whole (heap_new _ _ _ _ rfl)) rfl (by simp [Value.oneCell']) (by omega) (by omega) (by rw [World.size_alloc]; have := hBW.out.size; omega) (Nat.le_refl _) (hBW.out.alloc hBW.out.size _) (fun v1 W2 h1 b1 z1 o1 q1 => hK _ _ ?_)); clear hK K
             obtain ⟨va1, c1, e1, hva1⟩ := own_form h1
             clear hva1 o1 q1
             subst e1
             have h1' := Lib.hid h1
             have hc2 := Lib.hid ((b1.cell (p := ⟨gs, j, none⟩) hgs).trans ((hB.cell (p := ⟨gs, j, none⟩) hgs).symm.trans hc1.out))
             clear h1))
        have hX2 : W2.ownsRow w.heap.size 3 1 (.slice va1 (A ++ [s]).length c1) (A ++ [s]).length (((A ++ [s]).map (offL l)).map fun m : Nat => Value.int .i64 (m : Int)) := by
          have h5 := h1'.out
          rw [show A.length + 1 = (A ++ [s]).length by simp] at h5
          rw [List.map_append, List.map_append]
          exact h5
        exact ⟨⟨j + 1, by omega, by go_num, by rw [hs2'.out, ht'.out]; go_num, ⟨va1, c1, by rw [hA2'.out]; simp⟩, by rw [hA2'.out, show A.length + 1 = (A ++ [s]).length by simp]; exact hX2, b1⟩, by simp [intOf]; omega⟩
      · rw [if_neg h0] at ht hA
        subst hA
        have t0 : ((z : Int) == 0) = false := by simp [h0]
        have ht' := Lib.hid ht
        clear ht
        go_wp2_with (first
          | ((with_reducible refine at_iaddr 82 ?_); go_loud (refine wpList_value (by rfl) _ (run_index_slice _ 82 3 _ _ rfl Tryd.underlying82 1 sz_int gs 0 n cs rfl .i64 j rfl hlt j (by omega)) ?_))
          | ((with_reducible refine at_load 3 ?_); go_loud (refine wpList_value (by rfl) _ (run_load_cell _ 3 _ (by rfl) ⟨gs, j, none⟩ (by rfl) (.int .i64 (z : Int)) hc1.out _ Tryd.underlying3 rfl) ?_)))
        exact ⟨⟨j + 1, by omega, by go_num, by rw [hs2'.out, ht'.out]; go_num, ⟨vx, cx, by rw [hA2'.out]⟩, by rw [hA2'.out]; exact hXX.out, hB⟩, by simp [intOf]; omega⟩
    · have e : j = n := by omega
      subst e
      clear hlt
      have hx0 := hXX.out
      rw [hm0'.out] at hx0 ⊢
      obtain ⟨g, rfl, hgc⟩ : ∃ g, vx = some ⟨g, 0, none⟩ ∧ ∀ i, i < m → wr.cell? ⟨g, i, none⟩ = some (.int .i64 ((((cutA zs j).map (offL l)).getD i 0 : Nat) : Int)) := by
        rcases hx0.2 with ⟨e1, e2⟩ | ⟨g, cap, cur, e1, _⟩
        · omega
        · cases e1
          refine ⟨g, rfl, fun i hi => ?_⟩
          rw [hx0.cellAt i (by omega)]
          have hi2 : i < (cutA zs j).length := by rw [hm0'.out]; exact hi
          simp [List.getD, hi2]
      have t5 : decide (offGood (headN zs) l.length ((cutA zs j).map (offL l)) m) = false := decide_eq_false hbad'.out
      have hR := Lib.hid (rises_any g ((cutA zs j).map (offL l)) m cx (headN zs) l.length wr hgc (by have := hAl.out j; rw [hm0'.out] at this; omega))
      rw [t5] at hR
      have t6 : ((m : Int) == 0) = false := by simp; omega
      have hbs := hB.size
      clear hx0 hgc t5 hXX hpart hcut hcl hO' hcs hmo hta hAs hAl hAm hall' hz' hbad' hm0'
      go_wp2_with (
        ((with_reducible refine hR.out.mono ?_)
         rintro e W ⟨rfl, hb1⟩
         clear hR))
      exact ret_t2 rfl _ _ rfl rfl rfl ⟨rfl, hB.trans (hb1.mono hbs)⟩
/-- The sizes' parts, and what each is. -/
theorem cutO_at (zs : List Nat) (l : List Int) (n m q : Nat) (hn : zs.length = n) (hm : (cutA zs n).length = m) (hg : offGood (headN zs) l.length ((cutA zs n).map (offL l)) m) (hq : q < n) (hz : zs.getD q 0 = 0) :
    (cutA zs q).length < m ∧ (cutO zs l).getD (cutA zs q).length 0 ≤ (cutO zs l).getD ((cutA zs q).length + 1) 0 ∧ (cutO zs l).getD ((cutA zs q).length + 1) 0 ≤ l.length := by
  have h1 : (cutA zs (q + 1)).length = (cutA zs q).length + 1 := by
    simp only [cutA, if_pos hz, List.length_append, List.length_singleton]
  have h2 := cutA_mono zs (q + 1) n hq
  have h3 : (cutA zs q).length < m := by omega
  have h4 := off_rise hg (by rw [List.length_map]; exact hm) (cutA zs q).length h3
  unfold cutO
  rw [hn]
  exact ⟨h3, h4⟩
set_option maxHeartbeats 16000000 in
theorem cutu_ok (l : List Int) (va : Option Addr) (c : Nat) (gs : Nat) (zs : List Nat) (n cs : Nat) (w : World) (hsl0 : SlB va c l w) (hZ : IntsAt gs zs w) (hn : zs.length = n) (h1 : 1 ≤ n) (h64 : n ≤ 64) (hz : ∀ z ∈ zs, z ≤ 65536) (hl : headN zs ≤ l.length) (hpos : 0 < headN zs) (hfew : l.length ≤ 70368744177664) (m : Nat) (hm0 : (cutA zs n).length = m) (hmp : 0 < m) (hgood : offGood (headN zs) l.length ((cutA zs n).map (offL l)) m) :
    Calls Tryd.prog 53 #[.slice va l.length c, .slice (some ⟨gs, 0, none⟩) n cs] w fun e w' => (∃ v, e = .returned (.tuple #[v, .int .i64 0]) ∧ PartsV w.heap.size v (cutU zs l) w') ∧ Below w.heap.size w w' := by
  have hOat := Lib.hid (fun q (hq : q < n) (hz : zs.getD q 0 = 0) => cutO_at zs l n m q hn hm0 hgood hq hz)
  have hS := Lib.hid (sizesOK_any gs zs n cs w hZ hn h1 h64 hz)
  have hH := Lib.hid (head_any gs zs n cs w hZ hn h64 hz)
  have hcs := Lib.hid (fun i (hi : i < n) => hZ.cell i (by omega))
  have hgs : gs < w.heap.size := block_lt hZ
  have hle := headN_le hz
  rw [hn] at hle
  have hmo := Lib.hid (headN_mono zs)
  have hta := Lib.hid (fun k (hk : k < n) => headN_take zs k (by omega))
  have hAs := Lib.hid (fun j => show cutA zs (j + 1) = if zs.getD j 0 = 0 then cutA zs j ++ [headN (zs.take j)] else cutA zs j from rfl)
  have hAl := Lib.hid (cutA_le zs)
  have hAm := Lib.hid (cutA_mono zs)
  have hall : headN (zs.take n) = headN zs := by rw [← hn, List.take_length]
  have hall' := Lib.hid hall
  have hOe : (cutA zs n).map (offL l) ++ [l.length] = cutO zs l := by unfold cutO; rw [hn]
  have hO' := Lib.hid hOe
  have hsl := Lib.hid hsl0
  have hz' := Lib.hid (fun i (hi : i < n) => show zs.getD i 0 ≤ 65536 from hz _ (by simp [List.getD, show i < zs.length by omega]))
  have hpart0 : ∀ q, partU zs l q = if zs.getD q 0 = 0 then (l.drop ((cutO zs l).getD (cutA zs q).length 0)).take ((cutO zs l).getD ((cutA zs q).length + 1) 0 - (cutO zs l).getD (cutA zs q).length 0) else (l.drop (headN (zs.take q))).take (zs.getD q 0) := fun q => rfl
  have hpart := Lib.hid hpart0
  have hcut := Lib.hid (fun i (hi : i < n) => cutU_get zs l i (by omega))
  have hcl := Lib.hid (show (cutU zs l).length = n by rw [cutU_length, hn])
  obtain ⟨bb, bo, rfl, _⟩ := hsl0.row.cell 0 (by omega)
  have hbb := hsl0.low bb bo rfl
  have hcap := hsl0.cap
  clear hZ hn hz hsl0 hall hOe hpart0
  have t1 : decide ((l.length : Int) < (headN zs : Int)) = false := by simp; omega
  have t1n : decide (l.length < headN zs) = false := by simp; omega
  have hgood' := Lib.hid hgood
  have hm0' := Lib.hid hm0
  clear hgood hm0
  go_enter Tryd.func53, Tryd.ntmps53
  go_wp2_with (first
    | ((with_reducible refine hS.out.mono ?_)
       rintro e W ⟨rfl, rfl⟩
       clear hS)
    | ((with_reducible refine hH.out.mono ?_)
       rintro e W ⟨rfl, rfl⟩
       clear hH))
  go_loopw [7, 8, 9] (fun x k i wr => ∃ j : Nat, j ≤ n ∧ i = .int .i64 (j : Int) ∧ k = .int .i64 ((headN (zs.take j) : Nat) : Int) ∧ (∃ va c, x = .slice va (cutA zs j).length c) ∧ wr.ownsRow w.heap.size 3 1 x (cutA zs j).length (((cutA zs j).map (offL l)).map fun m : Nat => Value.int .i64 (m : Int)) ∧ Below w.heap.size w wr) (fun _ _ i _ => n - (intOf i).toNat)
  case atStart => exact ⟨0, by omega, rfl, rfl, ⟨none, 0, rfl⟩, ⟨rfl, Or.inl ⟨rfl, rfl⟩⟩, Below.refl _ _⟩
  case round =>
    obtain ⟨j, hj, rfl, rfl, ⟨vx, cx, rfl⟩, hX, hB⟩ := hrel
    have hm := hmo.out j
    have hXX := Lib.hid hX
    clear hX
    by_cases hlt : j < n
    · have hc1 := Lib.hid ((hB.cell (p := ⟨gs, j, none⟩) hgs).trans (hcs.out j hlt))
      have ht := hta.out j hlt
      have hm2 := hmo.out (j + 1)
      have hA := hAs.out j
      have hAj := hAl.out j
      have hz1 := hz'.out j hlt
      clear hcs hmo hta hAs hAl hAm hpart hcut hcl hO' hz'
      generalize zs.getD j 0 = z at *
      generalize headN (zs.take j) = s at *
      generalize hs2 : headN (zs.take (j + 1)) = s2 at *
      have hs2' := Lib.hid hs2
      generalize cutA zs j = A at *
      generalize hA2 : cutA zs (j + 1) = A2 at *
      have hA2' := Lib.hid hA2
      clear hs2 hA2
      by_cases h0 : z = 0
      · subst h0
        rw [if_pos rfl] at ht hA
        subst hA
        have ht' := Lib.hid ht
        have hrow := Lib.hid (row_mid (hsl.out.row.later hB) s 4 (by omega))
        have hl4 : ((l.drop s).take 4).length = 4 := by rw [List.length_take, List.length_drop]; omega
        have hl4' := Lib.hid hl4
        have hs4 : s + 4 ≤ headN zs := by omega
        have ho0 := offL_mid l s
        have ho0' := Lib.hid ho0
        clear ht hl4 ho0
        have hbs := hB.size
        go_wp2_with (first
          | ((with_reducible refine at_iaddr 82 ?_); go_loud (refine wpList_value (by rfl) _ (run_index_slice _ 82 3 _ _ rfl Tryd.underlying82 1 sz_int gs 0 n cs rfl .i64 j rfl hlt j (by omega)) ?_))
          | ((with_reducible refine at_load 3 ?_); refine wpList_value (by rfl) _ (run_load_cell _ 3 _ (by rfl) ⟨gs, j, none⟩ (by rfl) (.int .i64 ((0 : Nat) : Int)) (by first | exact hc1.out | exact hc2.out) _ Tryd.underlying3 rfl) ?_)
          | ((with_reducible refine at_slice 34 ?_); go_loud (refine wpList_value (by rfl) _ (run_slice_midI (P := Tryd.prog) _ 34 5 _ _ _ rfl Tryd.underlying34 1 sz_u8 bb bo l.length c s 4 rfl _ rfl rfl _ rfl (by omega) (by omega) (by omega) (bo + s) (by omega)) ?_))
          | ((with_reducible refine (roffset_any _ _ 4 _ _ hrow.out (by rw [hl4'.out]; exact Nat.le_refl _) hl4'.out).mono ?_)
             rintro e W ⟨rfl, hb1⟩
             rw [ho0'.out]
             have hBW := Lib.hid (hB.trans (hb1.mono hbs))
             have hXW := Lib.hid (own_later hXX.out hb1)
             clear hb1)
          | ((with_reducible refine at_bslice 82 ?_); go_loud (refine wpList_plain rfl fun K hK => wp_ran _ (run_buildSlice _ 82 3 1 _ rfl Tryd.underlying82 (.int .i64 0) 1 info_int2 (by decide) (by decide) [.int .i64 ((offL l s : Nat) : Int)] rfl rfl (by simp [Value.cells])) (hK _ _ ?_)); clear hK K)
          | ((with_reducible refine at_app 82 ?_); go_loud (refine wpList_plain rfl fun K hK => wp_appS (w0 := w) (n0 := w.heap.size) (.tmp 33) (.tmp 40) 82 3 rfl Tryd.underlying82 (.int .i64 0) 1 8 info_int rfl (by decide) w.heap.size A.length (.slice vx A.length cx) _ rfl (own_later hXW.out ((Below.refl _ _).alloc (Nat.le_refl _) _)) ⟨W.heap.size, 0, none⟩ 1 1 rfl [.int .i64 ((offL l s : Nat) : Int)] rfl (range_whole (heap_new _ _ _ _ rfl)) rfl (by simp [Value.oneCell']) (by omega) (by omega) (by rw [World.size_alloc]; have := hBW.out.size; omega) (Nat.le_refl _) (hBW.out.alloc hBW.out.size _) (fun v1 W2 h1 b1 z1 o1 q1 => hK _ _ ?_)); clear hK K
             obtain ⟨va1, c1, e1, hva1⟩ := own_form h1
             clear hva1 o1 q1
             subst e1
             have h1' := Lib.hid h1
             have hc2 := Lib.hid ((b1.cell (p := ⟨gs, j, none⟩) hgs).trans ((hB.cell (p := ⟨gs, j, none⟩) hgs).symm.trans hc1.out))
             clear h1))
        have hX2 : W2.ownsRow w.heap.size 3 1 (.slice va1 (A ++ [s]).length c1) (A ++ [s]).length (((A ++ [s]).map (offL l)).map fun m : Nat => Value.int .i64 (m : Int)) := by
          have h5 := h1'.out
          rw [show A.length + 1 = (A ++ [s]).length by simp] at h5
          rw [List.map_append, List.map_append]
          exact h5
        exact ⟨⟨j + 1, by omega, by go_num, by rw [hs2'.out, ht'.out]; go_num, ⟨va1, c1, by rw [hA2'.out]; simp⟩, by rw [hA2'.out, show A.length + 1 = (A ++ [s]).length by simp]; exact hX2, b1⟩, by simp [intOf]; omega⟩
      · rw [if_neg h0] at ht hA
        subst hA
        have t0 : ((z : Int) == 0) = false := by simp [h0]
        have ht' := Lib.hid ht
        clear ht
        go_wp2_with (first
          | ((with_reducible refine at_iaddr 82 ?_); go_loud (refine wpList_value (by rfl) _ (run_index_slice _ 82 3 _ _ rfl Tryd.underlying82 1 sz_int gs 0 n cs rfl .i64 j rfl hlt j (by omega)) ?_))
          | ((with_reducible refine at_load 3 ?_); go_loud (refine wpList_value (by rfl) _ (run_load_cell _ 3 _ (by rfl) ⟨gs, j, none⟩ (by rfl) (.int .i64 (z : Int)) hc1.out _ Tryd.underlying3 rfl) ?_)))
        exact ⟨⟨j + 1, by omega, by go_num, by rw [hs2'.out, ht'.out]; go_num, ⟨vx, cx, by rw [hA2'.out]⟩, by rw [hA2'.out]; exact hXX.out, hB⟩, by simp [intOf]; omega⟩
    · have e : j = n := by omega
      subst e
      clear hlt
      have hx0 := hXX.out
      have hOl : (cutO zs l).length = m + 1 := by rw [← hO'.out]; simp [hm0'.out]
      rw [hm0'.out] at hx0 ⊢
      have hmn : m ≤ 64 := by have := hAl.out j; rw [hm0'.out] at this; omega
      obtain ⟨g, rfl, hgc⟩ : ∃ g, vx = some ⟨g, 0, none⟩ ∧ ∀ i, i < m → wr.cell? ⟨g, i, none⟩ = some (.int .i64 ((((cutA zs j).map (offL l)).getD i 0 : Nat) : Int)) := by
        rcases hx0.2 with ⟨e1, e2⟩ | ⟨g, cap, cur, e1, _⟩
        · omega
        · cases e1
          refine ⟨g, rfl, fun i hi => ?_⟩
          rw [hx0.cellAt i (by omega)]
          have hi2 : i < (cutA zs j).length := by rw [hm0'.out]; exact hi
          simp [List.getD, hi2]
      have t5 : decide (offGood (headN zs) l.length ((cutA zs j).map (offL l)) m) = true := decide_eq_true hgood'.out
      have hR := Lib.hid (rises_any g ((cutA zs j).map (offL l)) m cx (headN zs) l.length wr hgc (by omega))
      rw [t5] at hR
      have t6 : ((m : Int) == 0) = false := by simp; omega
      have hbs := hB.size
      clear hgc t5 hXX hm
      have hX0 := Lib.hid hx0
      clear hx0
      go_wp2_with (first
        | ((with_reducible refine hR.out.mono ?_)
           rintro e W ⟨rfl, hb1⟩
           have hBW := Lib.hid (hB.trans (hb1.mono hbs))
           have hXW := Lib.hid (own_later hX0.out hb1)
           clear hR hX0 hb1)
        | ((with_reducible refine at_bslice 82 ?_); go_loud (refine wpList_plain rfl fun K hK => wp_ran _ (run_buildSlice _ 82 3 1 _ rfl Tryd.underlying82 (.int .i64 0) 1 info_int2 (by decide) (by decide) [.int .i64 (l.length : Int)] rfl rfl (by simp [Value.cells])) (hK _ _ ?_)); clear hK K)
        | ((with_reducible refine at_app 82 ?_); go_loud (refine wpList_plain rfl fun K hK => wp_appS (w0 := w) (n0 := w.heap.size) (.tmp 65) (.tmp 68) 82 3 rfl Tryd.underlying82 (.int .i64 0) 1 8 info_int rfl (by decide) w.heap.size m (.slice (some ⟨g, 0, none⟩) m cx) _ rfl (own_later hXW.out ((Below.refl _ _).alloc (Nat.le_refl _) _)) ⟨W.heap.size, 0, none⟩ 1 1 rfl [.int .i64 (l.length : Int)] rfl (range_whole (heap_new _ _ _ _ rfl)) rfl (by simp [Value.oneCell']) (by omega) (by omega) (by rw [World.size_alloc]; have := hBW.out.size; omega) (Nat.le_refl _) (hBW.out.alloc hBW.out.size _) (fun v1 W2 h1 b1 z1 o1 q1 => hK _ _ ?_)); clear hK K
           obtain ⟨va1, c1, e1, hva1⟩ := own_form h1
           clear hva1 o1 q1
           subst e1
           have h1' := Lib.hid h1
           clear h1))
      obtain ⟨g2, rfl, hg2, hat0⟩ : ∃ g2, va1 = some ⟨g2, 0, none⟩ ∧ g2 < W2.heap.size ∧ ∀ i, i < m + 1 → W2.cell? ⟨g2, i, none⟩ = some (.int .i64 (((cutO zs l).getD i 0 : Nat) : Int)) := by
        rcases h1'.out.2 with ⟨e1, e2⟩ | ⟨g2, cap, cur, e1, e2, e3, e4⟩
        · omega
        · cases e1
          refine ⟨g2, rfl, block_lt e3, fun i hi => ?_⟩
          rw [h1'.out.cellAt i (by omega), ← hO'.out]
          have e5 : (((cutA zs j).map (offL l)).map fun m : Nat => Value.int .i64 (m : Int)) ++ [.int .i64 (l.length : Int)] = (((cutA zs j).map (offL l)) ++ [l.length]).map fun m : Nat => Value.int .i64 (m : Int) := by simp
          rw [e5, List.getElem?_map]
          have hi2 : i < (((cutA zs j).map (offL l)) ++ [l.length]).length := by simp [hm0'.out]; exact hi
          simp only [List.getD, List.getElem?_eq_getElem hi2, Option.map_some, Option.getD_some]
      have hat := Lib.hid hat0
      clear hat0 h1' hXW hBW z1 hO' hAl hgood'
      have hj0 : headN (zs.take 0) = 0 := rfl
      have hv0 : (cutA zs 0).length = 0 := rfl
      have hws : w.heap.size ≤ W2.heap.size := b1.size
      generalize hOO : cutO zs l = O at *
      clear hOO
      go_loopw [8, 10, 11, 12] (fun k v x i wr => ∃ q : Nat, q ≤ j ∧ i = .int .i64 (q : Int) ∧ k = .int .i64 ((headN (zs.take q) : Nat) : Int) ∧ x = .int .i64 (((cutA zs q).length : Nat) : Int) ∧ (∃ vo co, v = .slice vo q co) ∧ OutJ W2.heap.size q v (partU zs l) wr ∧ Below W2.heap.size W2 wr) (fun _ _ _ i _ => j - (intOf i).toNat)
      case atStart => exact ⟨0, by omega, rfl, rfl, rfl, ⟨none, 0, rfl⟩, OutJ.nil _ _ _, Below.refl _ _⟩
      case round =>
        obtain ⟨wv, hwv⟩ : ∃ W, W = wr := ⟨_, rfl⟩
        subst hwv
        obtain ⟨q, hq, rfl, rfl, rfl, ⟨vo, co, rfl⟩, hO1, hB2⟩ := hrel
        clear hj0 hv0
        by_cases hlt : q < j
        · have hc1 := Lib.hid ((hB2.cell (p := ⟨gs, q, none⟩) (by show gs < W2.heap.size; omega)).trans ((b1.cell (p := ⟨gs, q, none⟩) hgs).trans (hcs.out q hlt)))
          have hzq := hz'.out q hlt
          have ht := hta.out q hlt
          have hm1 := hmo.out q
          have hm2 := hmo.out (q + 1)
          have hA := hAs.out q
          have hpq := hpart.out q
          have hOq := hOat.out q hlt
          have hroww := Lib.hid (hsl.out.row.later (b1.trans (hB2.mono hws)))
          clear hcs hz' hta hmo hAs hpart hOat
          generalize zs.getD q 0 = z at *
          generalize headN (zs.take q) = s at *
          generalize hs2 : headN (zs.take (q + 1)) = s2 at *
          have hs2' := Lib.hid hs2
          clear hs2
          generalize cutA zs q = A at *
          generalize hA2 : cutA zs (q + 1) = A2 at *
          have hA2' := Lib.hid hA2
          clear hA2
          obtain ⟨vs, hvs, g2', g3'⟩ := hO1
          have hvs' := Lib.hid hvs
          have gg2 := Lib.hid g2'
          have gg3 := Lib.hid g3'
          have hvl := hvs.lt
          have hbs2 : W2.heap.size ≤ wv.heap.size := hB2.size
          clear hvs g2' g3'
          by_cases h0 : z = 0
          · subst h0
            rw [if_pos rfl] at ht hA hpq
            obtain ⟨hvm, hab, hbL⟩ := hOq rfl
            have hca := hat.out A.length (by omega)
            have hcb := hat.out (A.length + 1) (by omega)
            generalize O.getD A.length 0 = a at *
            generalize O.getD (A.length + 1) 0 = b at *
            have hca2 := Lib.hid (fun W (h : Below W2.heap.size W2 W) => (h.cell (p := ⟨g2, A.length, none⟩) hg2).trans hca)
            have hcb2 := Lib.hid (fun W (h : Below W2.heap.size W2 W) => (h.cell (p := ⟨g2, A.length + 1, none⟩) hg2).trans hcb)
            have ht' := Lib.hid ht
            have hA3 := Lib.hid hA
            have hs4 : s + 4 ≤ headN zs := by omega
            have hpl : (partU zs l q).length = b - a := by rw [hpq, List.length_take, List.length_drop]; omega
            have hrow : Row wv (some ⟨bb, if c = a then bo else bo + a * 1, none⟩) .u8 (partU zs l q) := by
              by_cases e : c = a
              · refine ⟨fun i hi => by omega, fun x hx => ?_⟩
                rw [hpq] at hx
                exact hroww.out.ok x (List.mem_of_mem_drop (List.mem_of_mem_take hx))
              · rw [if_neg e, Nat.mul_one, hpq]
                exact row_mid hroww.out a (b - a) (by omega)
            have hrow' := Lib.hid hrow
            have hpl' := Lib.hid hpl
            clear hrow hpl hpq ht hA hca hcb hOq hat
            generalize partU zs l = part at *
            obtain ⟨po, hpo⟩ : ∃ po, po = if c = a then bo else bo + a * 1 := ⟨_, rfl⟩
            rw [← hpo] at hrow'
            have hpo' := Lib.hid hpo
            clear hpo
            go_wp2_with (first
              | ((with_reducible refine at_iaddr 82 ?_); go_loud (refine wpList_value (by rfl) _ (run_index_slice _ 82 3 _ _ rfl Tryd.underlying82 1 sz_int gs 0 j cs rfl .i64 q rfl hlt q (by omega)) ?_))
              | ((with_reducible refine at_load 3 ?_); go_loud (refine wpList_value (by rfl) _ (run_load_cell _ 3 _ (by rfl) ⟨gs, q, none⟩ (by rfl) (.int .i64 ((0 : Nat) : Int)) hc1.out _ Tryd.underlying3 rfl) ?_)))
            rename_i K hK
            refine wp_region_held (S := fun w' => w'.cell? ⟨g2, A.length, none⟩ = some (.int .i64 (a : Int)) ∧ w'.cell? ⟨g2, A.length + 1, none⟩ = some (.int .i64 (b : Int))) (by kernel_rfl) ?_
            have hBd : Below W2.heap.size W2 ({ wv with drawn := wv.drawn + 1 } : World) := hB2.drew
            have hS : ({ wv with drawn := wv.drawn + 1 } : World).cell? ⟨g2, A.length, none⟩ = some (.int .i64 (a : Int)) ∧ ({ wv with drawn := wv.drawn + 1 } : World).cell? ⟨g2, A.length + 1, none⟩ = some (.int .i64 (b : Int)) := ⟨hca2.out _ hBd, hcb2.out _ hBd⟩
            refine takeL (i := 0) (v := (.slice vo q co)) rfl (by kernel_rfl) (by kernel_rfl) (by kernel_rfl) (fun _ _ _ h => h) rfl (by assumption) (fun w' hS' => by go_simp) ?_
            simp only [Act.put, List.setIfInBounds_toArray, List.set_cons_zero, List.set_cons_succ]
            refine takeL (i := 2) (v := (.slice (some ⟨bb, bo, none⟩) l.length c)) rfl (by kernel_rfl) (by kernel_rfl) (by kernel_rfl) (fun _ _ _ h => h) rfl (by assumption) (fun w' hS' => by go_simp) ?_
            simp only [Act.put, List.setIfInBounds_toArray, List.set_cons_zero, List.set_cons_succ]
            refine takeL (i := 3) (v := (.slice (some ⟨g2, 0, none⟩) (m + 1) c1)) rfl (by kernel_rfl) (by kernel_rfl) (by kernel_rfl) (fun _ _ _ h => h) rfl (by assumption) (fun w' hS' => by go_simp) ?_
            simp only [Act.put, List.setIfInBounds_toArray, List.set_cons_zero, List.set_cons_succ]
            refine takeL (i := 4) (v := (.int .i64 (A.length : Int))) rfl (by kernel_rfl) (by kernel_rfl) (by kernel_rfl) (fun _ _ _ h => h) rfl (by assumption) (fun w' hS' => by go_simp) ?_
            simp only [Act.put, List.setIfInBounds_toArray, List.set_cons_zero, List.set_cons_succ]
            refine takeL (i := 7) (v := (.slice (some ⟨g2, 0, none⟩) (m + 1) c1)) rfl (by kernel_rfl) (by kernel_rfl) (by kernel_rfl) (fun _ _ _ h => h) rfl (by assumption) (fun w' hS' => by go_simp) ?_
            simp only [Act.put, List.setIfInBounds_toArray, List.set_cons_zero, List.set_cons_succ]
            refine takeL (i := 8) (v := (.int .i64 (A.length : Int))) rfl (by kernel_rfl) (by kernel_rfl) (by kernel_rfl) (fun _ _ _ h => h) rfl (by assumption) (fun w' hS' => by go_simp) ?_
            simp only [Act.put, List.setIfInBounds_toArray, List.set_cons_zero, List.set_cons_succ]
            have wA : IntKind.i64.wrap ((A.length : Int) + 1) = (A.length : Int) + 1 := by rw [IntKind.wrap_i64]; omega
            refine takeL (i := 9) (v := (.int .i64 ((A.length : Int) + 1))) rfl (by kernel_rfl) (by kernel_rfl) (by kernel_rfl) (fun _ _ _ h => h) rfl (by assumption) (fun w' hS' => by go_simp) ?_
            simp only [Act.put, List.setIfInBounds_toArray, List.set_cons_zero, List.set_cons_succ]
            refine takeL (i := 5) (v := (.pointer (some ⟨g2, A.length, none⟩))) rfl (by kernel_rfl) (by kernel_rfl) (by kernel_rfl) (fun _ _ _ h => h) rfl (by assumption) (fun w' _ => run_index_slice w' 82 3 _ _ (by rfl) Tryd.underlying82 1 sz_int g2 0 (m + 1) c1 (by rfl) .i64 A.length (by rfl) (by omega) A.length (by omega)) ?_
            simp only [Act.put, List.setIfInBounds_toArray, List.set_cons_zero, List.set_cons_succ]
            refine takeL (i := 10) (v := (.pointer (some ⟨g2, A.length + 1, none⟩))) rfl (by kernel_rfl) (by kernel_rfl) (by kernel_rfl) (fun _ _ _ h => h) rfl (by assumption) (fun w' _ => run_index_sliceI w' 82 3 _ _ (by rfl) Tryd.underlying82 1 sz_int g2 0 (m + 1) c1 (by rfl) .i64 ((A.length : Int) + 1) (by rfl) (A.length + 1) (by omega) (by omega) (A.length + 1) (by omega)) ?_
            simp only [Act.put, List.setIfInBounds_toArray, List.set_cons_zero, List.set_cons_succ]
            refine takeL (i := 6) (v := (.int .i64 (a : Int))) rfl (by kernel_rfl) (by kernel_rfl) (by kernel_rfl) (fun _ _ _ h => h) rfl (by assumption) (fun w' hS' => run_load_cell _ 3 _ (by rfl) ⟨g2, A.length, none⟩ (by rfl) _ hS'.1 _ Tryd.underlying3 rfl) ?_
            simp only [Act.put, List.setIfInBounds_toArray, List.set_cons_zero, List.set_cons_succ]
            refine takeL (i := 11) (v := (.int .i64 (b : Int))) rfl (by kernel_rfl) (by kernel_rfl) (by kernel_rfl) (fun _ _ _ h => h) rfl (by assumption) (fun w' hS' => run_load_cell _ 3 _ (by rfl) ⟨g2, A.length + 1, none⟩ (by rfl) _ hS'.2 _ Tryd.underlying3 rfl) ?_
            simp only [Act.put, List.setIfInBounds_toArray, List.set_cons_zero, List.set_cons_succ]
            refine takeL (i := 12) (v := (.slice (some ⟨bb, po, none⟩) (b - a) (c - a))) rfl (by kernel_rfl) (by kernel_rfl) (by kernel_rfl) (fun _ _ _ h => h) rfl (by assumption) (fun w' _ => hpo'.out ▸ run_slice_mid0 (P := Tryd.prog) w' 34 5 (.tmp 83) (.tmp 87) (.tmp 92) (by rfl) Tryd.underlying34 1 sz_u8 bb bo l.length c a b (by rfl) (by rfl) (by rfl) hab (by omega)) ?_
            simp only [Act.put, List.setIfInBounds_toArray, List.set_cons_zero, List.set_cons_succ]
            refine oneL (i := 1) rfl (by kernel_rfl) rfl (wp_build0 rfl ⟨⟨hca2.out _ (hBd.alloc hbs2 _), hcb2.out _ (hBd.alloc hbs2 _)⟩, ?_⟩)
            simp only [Act.put, List.setIfInBounds_toArray, List.set_cons_zero, List.set_cons_succ]
            have hbd0 : Below wv.heap.size wv (({ wv with drawn := wv.drawn + 1 } : World).alloc (.cells #[] 5)) := (Below.refl _ wv).drew.alloc (Nat.le_refl _) _
            refine oneL (i := 13) rfl (by kernel_rfl) rfl (wp_app (w0 := wv) (.tmp 82) (.tmp 93) rfl wv.heap.size [] (part q) _ rfl (OwnB.new (Nat.le_refl _) [] (by decide) (heap_new _ _ _ _ rfl)) (some ⟨bb, po, none⟩) (c - a) (by rw [hpl'.out]; rfl) (hrow'.out.later hbd0) (by rw [hpl'.out, List.length_nil]; omega) (by simp) (fun h => by cases h) hbd0 (fun v1 W1 h1 bb1 z1 => ⟨⟨hca2.out _ (hB2.trans (bb1.mono hbs2)), hcb2.out _ (hB2.trans (bb1.mono hbs2))⟩, ?_⟩))
            rw [List.nil_append] at h1
            obtain ⟨vp, pc, e1, prow, plc⟩ := h1.row hrow'.out.ok
            have hpn : vp = none → pc = 0 := by
              obtain ⟨va', c', e', hn'⟩ := own_form h1
              rw [e1] at e'
              injection e' with e5 e6 e7
              subst e5
              subst e7
              exact hn'
            subst e1
            have hpw := own_low h1
            rw [hpl'.out]
            simp only [Act.put, List.setIfInBounds_toArray, List.set_cons_zero, List.set_cons_succ]
            have hbd1 : Below W2.heap.size W2 (W1.alloc (.cells #[.slice vp (b - a) pc] 34)) := (hB2.trans (bb1.mono hbs2)).alloc (by have := bb1.size; omega) _
            refine oneL (i := 14) rfl (by kernel_rfl) rfl (wp_ran _ (run_buildSlice _ 96 34 1 _ rfl Tryd.underlying96 (.slice none 0 0) 1 info_bs2 (by decide) (by decide) [.slice vp (b - a) pc] rfl rfl (by simp [Value.cells])) ⟨⟨hca2.out _ hbd1, hcb2.out _ hbd1⟩, ?_⟩)
            simp only [Act.put, List.setIfInBounds_toArray, List.set_cons_zero, List.set_cons_succ]
            refine oneL (i := 15) rfl (by kernel_rfl) rfl (wp_appS (w0 := W1.alloc (.cells #[.slice vp (b - a) pc] 34)) (n0 := W2.heap.size) (.tmp 81) (.tmp 95) 96 34 rfl Tryd.underlying96 (.slice none 0 0) 1 24 info_bs rfl (by decide) W2.heap.size q (.slice vo q co) vs rfl (own_later (own_later hvs'.out bb1) ((Below.refl _ _).alloc (Nat.le_refl _) _)) ⟨W1.heap.size, 0, none⟩ 1 1 rfl [.slice vp (b - a) pc] rfl (range_whole (heap_new _ _ _ _ rfl)) rfl (by simp [Value.oneCell']) (by omega) (by omega) (by have := bb1.size; simp; omega) (Nat.le_refl _) (Below.refl _ _) (fun v2 W3 h2 b3 z3 o3 q3 => ⟨⟨hca2.out _ (hbd1.trans b3), hcb2.out _ (hbd1.trans b3)⟩, ?_⟩))
            obtain ⟨va2, c2, e2, hva2⟩ := own_form h2
            clear hva2
            subst e2
            have hst := Lib.hid (OutJ.step (v' := .slice va2 (q + 1) c2) (base := W2.heap.size) (W := W1.alloc (.cells #[.slice vp (b - a) pc] 34)) (part := part) gg2.out (fun i hi => by
              obtain ⟨va', ci, k4, k5, k6, k7, k8⟩ := gg3.out i hi
              exact ⟨va', ci, k4, (k5.later bb1).later ((Below.refl _ _).alloc (Nat.le_refl _) _), k6, k7, fun b' o' e => ⟨by rw [World.size_alloc]; have := bb1.size; have := (k8 b' o' e).1; omega, (k8 b' o' e).2⟩⟩) (prow.later ((Below.refl _ _).alloc (Nat.le_refl _) _)) hpn plc (fun b' o' e => ⟨by rw [World.size_alloc]; have := (hpw b' o' e).2; omega, fun e' => by have := (hvl _ e').2; have := (hpw b' o' e).1; omega, by have := (hpw b' o' e).1; omega⟩) (by rw [hpl'.out]; exact h2) o3 q3 b3.size)
            have b3' := Lib.hid (hbd1.trans b3)
            clear h2 b3 o3 q3 h1 prow hpn plc hpw hrow' gg3 gg2 hvs' hbd1 hbd0
            simp only [Act.put, List.setIfInBounds_toArray, List.set_cons_zero, List.set_cons_succ]
            have hS : W3.cell? ⟨g2, A.length, none⟩ = some (.int .i64 (a : Int)) ∧ W3.cell? ⟨g2, A.length + 1, none⟩ = some (.int .i64 (b : Int)) := ⟨hca2.out _ b3'.out, hcb2.out _ b3'.out⟩
            refine takeL (i := 16) (v := (.slice va2 (q + 1) c2)) rfl (by kernel_rfl) (by kernel_rfl) (by kernel_rfl) (fun _ _ _ h => h) rfl (by assumption) (fun w' hS' => by go_simp) ?_
            simp only [Act.put, List.setIfInBounds_toArray, List.set_cons_zero, List.set_cons_succ]
            refine wpAnyH_done (by kernel_rfl) ?_ _
            simp only [Exit.then]
            refine hK _ _ ?_
            clear hS hBd hK K
            go_wp2
            exact ⟨⟨q + 1, by omega, by go_num, by rw [hs2'.out, ht'.out]; go_num, by rw [hA2'.out, hA3.out]; simp, ⟨_, _, rfl⟩, hst.out, b3'.out⟩, by simp [intOf]; omega⟩
          · rw [if_neg h0] at ht hA hpq
            have ht' := Lib.hid ht
            have hA3 := Lib.hid hA
            have hsz : s + z ≤ l.length := by omega
            have t0 : ((z : Int) == 0) = false := by simp [h0]
            have hpl : (partU zs l q).length = z := by rw [hpq, List.length_take, List.length_drop]; omega
            have hrow : Row wv (some ⟨bb, bo + s, none⟩) .u8 (partU zs l q) := by
              rw [hpq]
              exact row_mid hroww.out s z hsz
            have hrow' := Lib.hid hrow
            have hpl' := Lib.hid hpl
            clear hrow hpl hpq ht hA hOq hat hroww
            generalize partU zs l = part at *
            go_wp2_with (first
              | ((with_reducible refine at_iaddr 82 ?_); go_loud (refine wpList_value (by rfl) _ (run_index_slice _ 82 3 _ _ rfl Tryd.underlying82 1 sz_int gs 0 j cs rfl .i64 q rfl hlt q (by omega)) ?_))
              | ((with_reducible refine at_load 3 ?_); refine wpList_value (by rfl) _ (run_load_cell _ 3 _ (by rfl) ⟨gs, q, none⟩ (by rfl) (.int .i64 (z : Int)) (by first | exact hc1.out | exact (((Below.refl wv.heap.size wv).alloc (Nat.le_refl _) _).cell (p := ⟨gs, q, none⟩) (block_lt_of_cell hc1.out)).trans hc1.out | exact hcz.out) _ Tryd.underlying3 rfl) ?_)
              | ((with_reducible refine at_bslice 34 ?_); go_loud (refine wpList_plain rfl fun K hK => wp_build0 rfl (hK _ _ ?_)); clear hK K)
              | ((with_reducible refine at_slice 34 ?_); go_loud (refine wpList_value (by rfl) _ (run_slice_midI (P := Tryd.prog) _ 34 5 (.tmp 103) (.tmp 104) (.tmp 110) rfl Tryd.underlying34 1 sz_u8 bb bo l.length c s z rfl _ rfl rfl _ rfl (by omega) (by omega) (by omega) (bo + s) (by omega)) ?_))
              | ((with_reducible refine at_app 34 ?_); go_loud (refine wpList_app (w0 := wv) rfl (.tmp 102) (.tmp 111) rfl wv.heap.size [] (part q) _ rfl (OwnB.new (Nat.le_refl _) [] (by decide) (heap_new _ _ _ _ rfl)) (some ⟨bb, bo + s, none⟩) (c - s) (by rw [hpl'.out]; rfl) (hrow'.out.later ((Below.refl _ _).alloc (Nat.le_refl _) _)) (by rw [hpl'.out, List.length_nil]; omega) (by simp) (fun h => by cases h) ((Below.refl _ _).alloc (Nat.le_refl _) _) (fun v1 W1 h1 bb1 z1 => ?_))
                 rw [List.nil_append] at h1
                 obtain ⟨vp, pc, e1, prow, plc⟩ := h1.row hrow'.out.ok
                 have hpn : vp = none → pc = 0 := by
                   obtain ⟨va', c', e', hn'⟩ := own_form h1
                   rw [e1] at e'
                   injection e' with e5 e6 e7
                   subst e5
                   subst e7
                   exact hn'
                 subst e1
                 have hpw := Lib.hid (own_low h1)
                 rw [hpl'.out]
                 have bb1' := Lib.hid bb1
                 have prow' := Lib.hid prow
                 have hpn' := Lib.hid hpn
                 clear h1 prow hpn bb1)
              | ((with_reducible refine at_bslice 96 ?_); go_loud (refine wpList_plain rfl fun K hK => wp_ran _ (run_buildSlice _ 96 34 1 _ rfl Tryd.underlying96 (.slice none 0 0) 1 info_bs2 (by decide) (by decide) [.slice vp z pc] rfl rfl (by simp [Value.cells])) (hK _ _ ?_)); clear hK K)
              | ((with_reducible refine at_app 96 ?_); go_loud (refine wpList_plain rfl fun K hK => wp_appS (w0 := W1.alloc (.cells #[.slice vp z pc] 34)) (n0 := W2.heap.size) (.tmp 101) (.tmp 113) 96 34 rfl Tryd.underlying96 (.slice none 0 0) 1 24 info_bs rfl (by decide) W2.heap.size q (.slice vo q co) vs rfl (own_later (own_later hvs'.out bb1'.out) ((Below.refl _ _).alloc (Nat.le_refl _) _)) ⟨W1.heap.size, 0, none⟩ 1 1 rfl [.slice vp z pc] rfl (range_whole (heap_new _ _ _ _ rfl)) rfl (by simp [Value.oneCell']) (by omega) (by omega) (by have := bb1'.out.size; simp; omega) (Nat.le_refl _) (Below.refl _ _) (fun v2 W3 h2 b3 z3 o3 q3 => hK _ _ ?_)); clear hK K
                 obtain ⟨va2, c2, e2, hva2⟩ := own_form h2
                 clear hva2
                 subst e2
                 have hst := Lib.hid (OutJ.step (v' := .slice va2 (q + 1) c2) (base := W2.heap.size) (W := W1.alloc (.cells #[.slice vp z pc] 34)) (part := part) gg2.out (fun i hi => by
                   obtain ⟨va', ci, k4, k5, k6, k7, k8⟩ := gg3.out i hi
                   exact ⟨va', ci, k4, (k5.later bb1'.out).later ((Below.refl _ _).alloc (Nat.le_refl _) _), k6, k7, fun b' o' e => ⟨by rw [World.size_alloc]; have := bb1'.out.size; have := (k8 b' o' e).1; omega, (k8 b' o' e).2⟩⟩) (prow'.out.later ((Below.refl _ _).alloc (Nat.le_refl _) _)) hpn'.out plc (fun b' o' e => ⟨by rw [World.size_alloc]; have := (hpw.out b' o' e).2; omega, fun e' => by have := (hvl _ e').2; have := (hpw.out b' o' e).1; omega, by have := (hpw.out b' o' e).1; omega⟩) (by rw [hpl'.out]; exact h2) o3 q3 b3.size)
                 have hbd1 : Below W2.heap.size W2 (W1.alloc (.cells #[.slice vp z pc] 34)) := (hB2.trans (bb1'.out.mono hbs2)).alloc (by have := bb1'.out.size; omega) _
                 have b3' := Lib.hid (hbd1.trans b3)
                 have hcz := Lib.hid ((b3'.out.cell (p := ⟨gs, q, none⟩) (by show gs < W2.heap.size; omega)).trans ((hB2.cell (p := ⟨gs, q, none⟩) (by show gs < W2.heap.size; omega)).symm.trans hc1.out))
                 clear h2 b3 o3 q3 hbd1))
            exact ⟨⟨q + 1, by omega, by go_num, by rw [hs2'.out, ht'.out]; go_num, by rw [hA2'.out, hA3.out], ⟨_, _, rfl⟩, hst.out, b3'.out⟩, by simp [intOf]; omega⟩
        · have e : q = j := by omega
          subst e
          have hO' := Lib.hid hO1
          clear hO1
          go_wp2
          exact ret_t2 rfl _ _ rfl rfl rfl ⟨⟨_, rfl, hO'.out.parts hws h1 (cutU zs l) hcl.out hcut.out⟩, b1.trans (hB2.mono hws)⟩
end Go.Proofs.YtihelknkcomjpaaDoor
namespace Go.Proofs.YtihelknkcomjpaaDoor
open Go.RowKit BigFrame
set_option maxRecDepth 100000
end Go.Proofs.YtihelknkcomjpaaDoor
