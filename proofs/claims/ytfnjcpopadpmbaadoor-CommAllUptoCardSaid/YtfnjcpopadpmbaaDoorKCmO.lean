/- The law's loop over a slot's committees. -/
import Derived.Test.YtfnjcpopadpmbaaDoorKCmN
set_option linter.unusedVariables false
set_option linter.unusedSimpArgs false
set_option linter.unnecessarySimpa false
namespace Go.Proofs.YtfnjcpopadpmbaaDoor
open Go.RowKit BigFrame
set_option maxRecDepth 100000
theorem shuf_get (sd : Nat → Int) (vs : List (Nat → Int)) (e : Int) (i : Nat) (h : i < (actL vs e).length) : ∃ x : Nat, (shufL sd (actL vs e)).getD i 0 = (x : Int) ∧ x < vs.length := by
  have hl : i < (shufL sd (actL vs e)).length := by rw [shufL_length]; exact h
  have hm : (shufL sd (actL vs e))[i] ∈ shufL sd (actL vs e) := List.getElem_mem hl
  have hc := List.count_pos_iff.2 hm
  rw [shufL_count] at hc
  obtain ⟨x, h1, h2, _⟩ := activesL_mem _ _ _ (List.count_pos_iff.1 hc)
  exact ⟨x, by rw [← h1]; simp [List.getD, hl], h2⟩
theorem tmV_all (sd : Nat → Int) (vs : List (Nat → Int)) (e : Int) (n v : Nat) (hn : (actL vs e).length = n) (hv : v < vs.length) : tmV (shufL sd (actL vs e)) n v = if actB e (vs.getD v nil0) = true then 1 else 0 := by
  unfold tmV
  rw [List.take_of_length_le (by rw [shufL_length, hn]; exact Nat.le_refl _), shufL_count]
  unfold actL
  rw [activesL_count]
  by_cases c : actB e (vs.getD v nil0) = true
  · rw [if_pos ⟨hv, c⟩, if_pos c]; rfl
  · rw [if_neg (fun h => c h.2), if_neg c]; rfl
/-- What the shortest and the longest so far may be. -/
def LM (q : Nat) (le mo : Int) : Prop := (q : Int) ≤ le ∧ le ≤ 1048576 ∧ 0 ≤ mo ∧ mo ≤ (q : Int) + 1
theorem VsRep.apart {w W : World} {xs : Array Value} {vs : List (Nat → Int)} {mx : Nat → Int} {tb : Nat} (h : VsRep w xs vs mx) (hx : Apart tb w W) (ht : ∀ b o, ∀ k cap, xs[721]? = some (.slice (some ⟨b, o, none⟩) k cap) → b ≠ tb) : VsRep W xs vs mx := by
  obtain ⟨va, cap, h1, h2, h3⟩ := h.vals
  refine ⟨h.size, h.one, ⟨va, cap, h1, ⟨fun i hi => ?_, h2.ok⟩, h3⟩, h.mix⟩
  obtain ⟨b, o, e, hc⟩ := h2.cell i hi
  subst e
  exact ⟨b, o, rfl, fun j hj => (hx.cell (p := ⟨b, o + i * 86 + j, none⟩) (block_lt_of_cell (hc j hj)) (by simpa using ht b o _ _ h1)).trans (hc j hj)⟩
theorem run_minI {ρ : Operand → Value} {o : Oper} (w : World) (x y : Operand) (ho : o.op = .call { callee := .builtin .min, args := #[x, y], argTypes := #[3, 3] }) (a b r : Int) (hx : ρ x = .int .i64 a) (hy : ρ y = .int .i64 b) (hr : r = if b < a then b else a) : (execOp ρ o).run Tryd.prog w = .ok (.value (.int .i64 r)) w := by
  subst hr
  unfold execOp
  simp [ho, go_sem, hx, hy, Builtin.min_, Builtin.min2]
theorem run_maxI {ρ : Operand → Value} {o : Oper} (w : World) (x y : Operand) (ho : o.op = .call { callee := .builtin .max, args := #[x, y], argTypes := #[3, 3] }) (a b r : Int) (hx : ρ x = .int .i64 a) (hy : ρ y = .int .i64 b) (hr : r = if b > a then b else a) : (execOp ρ o).run Tryd.prog w = .ok (.value (.int .i64 r)) w := by
  subst hr
  unfold execOp
  simp [ho, go_sem, hx, hy, Builtin.max_, Builtin.max2]
theorem LM.next {q m : Nat} {le mo : Int} (h : LM q le mo) (h1 : q ≤ m) (h2 : m ≤ q + 1) : LM q (if (m : Int) < le then m else le) (if (m : Int) > mo then m else mo) := by
  unfold LM at *
  split <;> split <;> omega
noncomputable def lawMid : Code := blockIn 2 Tryd.f3
set_option maxHeartbeats 16000000 in
theorem law_mid {Q : Exit → Act → World → Prop} (ep n0 tb c n s sm : Nat) (le mo : Int) (slot : Nat) (xs : Array Value) (vs : List (Nat → Int)) (mx : Nat → Int) (w W : World) (hv0 : VsRep w xs vs mx) (hnv : vs.length ≤ 300) (hT0 : TabC w) (hn : (actL vs (ep : Int)).length = n) (hc : c = cntN n) (hs : s = 4 * c) (hep : ep < 2199023255552) (hsm : sm < 4) (hslot : slot = 4 * ep + sm)
    (hB0 : Below w.heap.size w W) (hw1 : w.heap.size ≤ n0) (hw2 : n0 < tb) (hX : W.heap[n0]? = some (.cells xs 49 (0, 0))) (hTb : W.heap[tb]? = some (.cells (tmC (shufL (seedS mx 1 (ep : Int)) (actL vs (ep : Int))) (cut n s (sm * c))) 52 (0, 0))) (hLM : LM (n / s) le mo)
    (t0 t3 t4 t11 t12 t13 t14 t15 t16 t17 t18 t19 t20 t21 t22 t23 t24 t25 t26 t27 t28 t29 t30 t31 t32 t33 t34 t35 t36 t37 t38 t39 t40 t41 t42 t43 t44 t45 t46 t47 t48 t49 t50 t51 t52 t53 t54 t55 t56 t57 t58 t59 t60 t61 t62 t63 t64 t65 t66 t67 t68 t69 t70 t71 t72 t73 t74 t75 t76 t77 t78 t79 t80 t81 t82 t83 t84 t85 t86 t87 t88 t89 t90 t91 t92 t93 t94 t95 t96 t97 t98 t99 t100 t101 t102 t103 t104 t105 t106 t107 t108 t109 t110 t111 t112 t113 t114 t115 t116 t117 t118 t119 t120 t121 t122 t123 t124 t125 t126 t127 t128 t129 t130 t131 t132 t133 t134 : Value) (hQ : ∀ (x4 x10 x11 x12 x13 x44 x45 x46 x47 x48 x49 x50 x51 x52 x53 x54 x55 x56 x57 x58 x59 x60 x61 x62 x63 x64 x65 x66 x67 x68 x69 x70 x71 x72 x73 x74 x75 x76 x77 x78 x79 x80 x81 x82 x83 x84 x85 x86 x87 x88 : Value) (w' : World) (le mo : Int), LM (n / s) le mo → w'.heap[tb]? = some (.cells (tmC (shufL (seedS mx 1 (ep : Int)) (actL vs (ep : Int))) (cut n s (sm * c + c))) 52 (0, 0)) → Apart tb W w' → Q .normal { tmps := #[t0, .int .u64 (ep : Int), .pointer (some ⟨n0, 0, none⟩), t3, x4, .pointer (some ⟨tb, 0, none⟩), .int .u64 (c : Int), .int .i64 le, .int .i64 mo, .int .u64 (slot : Int), x10, x11, x12, x13, t14, t15, t16, t17, t18, t19, t20, t21, t22, t23, t24, t25, t26, t27, t28, t29, t30, t31, t32, t33, t34, t35, t36, t37, t38, t39, t40, t41, t42, t43, x44, x45, x46, x47, x48, x49, x50, x51, x52, x53, x54, x55, x56, x57, x58, x59, x60, x61, x62, x63, x64, x65, x66, x67, x68, x69, x70, x71, x72, x73, x74, x75, x76, x77, x78, x79, x80, x81, x82, x83, x84, x85, x86, x87, x88, t89, t90, t91, t92, t93, t94, t95, t96, t97, t98, t99, t100, t101, t102, t103, t104, t105, t106, t107, t108, t109, t110, t111, t112, t113, t114, t115, t116, t117, t118, t119, t120, t121, t122, t123, t124, t125, t126, t127, t128, t129, t130, t131, t132, t133, t134], defers := [] } w') : lawMid.wp Tryd.prog (Exit.inBlock 2 Q) { tmps := #[t0, .int .u64 (ep : Int), .pointer (some ⟨n0, 0, none⟩), t3, t4, .pointer (some ⟨tb, 0, none⟩), .int .u64 (c : Int), .int .i64 le, .int .i64 mo, .int .u64 (slot : Int), .int .u64 0, t11, t12, t13, t14, t15, t16, t17, t18, t19, t20, t21, t22, t23, t24, t25, t26, t27, t28, t29, t30, t31, t32, t33, t34, t35, t36, t37, t38, t39, t40, t41, t42, t43, t44, t45, t46, t47, t48, t49, t50, t51, t52, t53, t54, t55, t56, t57, t58, t59, t60, t61, t62, t63, t64, t65, t66, t67, t68, t69, t70, t71, t72, t73, t74, t75, t76, t77, t78, t79, t80, t81, t82, t83, t84, t85, t86, t87, t88, t89, t90, t91, t92, t93, t94, t95, t96, t97, t98, t99, t100, t101, t102, t103, t104, t105, t106, t107, t108, t109, t110, t111, t112, t113, t114, t115, t116, t117, t118, t119, t120, t121, t122, t123, t124, t125, t126, t127, t128, t129, t130, t131, t132, t133, t134], defers := [] } W := by
  have hcn := cntN_ge n
  have e1 : slot / 4 = ep := by omega
  have e2 : slot % 4 = sm := by omega
  have hsl18 : slot ≤ 18446744073709551615 := by omega
  have hx721 := hv0.vals
  obtain ⟨va, cap, hx, hrows, _⟩ := hx721
  have hof := Lib.hid (fun (i : Nat) (wr : World) (hb : Below w.heap.size w wr) (hi : i < cntN n) => of_good xs vs mx slot i n hsl18 wr (hv0.later hb) (by omega) (hT0.below hT0.size hb) (by rw [e1]; exact hn) hi)
  rw [e1, e2, ← hc, ← hs] at hof
  have hsg := Lib.hid (fun i h => shuf_get (seedS mx 1 (ep : Int)) vs (ep : Int) i h)
  obtain ⟨SL, hSL⟩ : ∃ SL, SL = shufL (seedS mx 1 (ep : Int)) (actL vs (ep : Int)) := ⟨_, rfl⟩
  have hSLn : SL.length = n := by rw [hSL, shufL_length, hn]
  rw [← hSL] at hof hsg hTb hQ
  have hnl : n ≤ 300 := by rw [← hn]; have := actL_length vs (ep : Int); omega
  obtain ⟨nv, hnvd⟩ : ∃ nv, nv = vs.length := ⟨_, rfl⟩
  rw [← hnvd] at hx hnv hsg
  rw [hn] at hsg
  have hrow := Lib.hid (show (Tryd.prog.info? 49).map (·.size) = some xs.size by rw [hv0.size]; exact row_size row_state)
  rw [← hc] at hcn
  have gx := Lib.hid hx
  have gX := Lib.hid hX
  have gT := Lib.hid hTb
  have gS := Lib.hid hSLn
  have gB := Lib.hid hB0
  have gQ := Lib.hid hQ
  have gc := Lib.hid hc
  have hs0 : 0 < s := by omega
  have hqs := Lib.hid (fun k => cut_step (n := n) (s := s) (k := k) hs0)
  have hql := Lib.hid (fun k (h : k ≤ s) => cut_le (n := n) hs0 h)
  have hs4 := Lib.hid hs
  obtain ⟨q, hq⟩ : ∃ q, q = n / s := ⟨_, rfl⟩
  rw [← hq] at hLM hqs gQ
  have hqn : q ≤ 300 := by rw [hq]; have := Nat.div_le_self n s; omega
  obtain ⟨smc, hsmc⟩ : ∃ smc, smc = sm * c := ⟨_, rfl⟩
  have hsmc3 : smc ≤ 3 * c := by rw [hsmc]; exact Nat.mul_le_mul_right c (by omega)
  rw [← hsmc] at hof gT gQ
  have gL := Lib.hid hLM
  clear hx hX hTb hQ hSL hSLn hn hc hs hrows hv0 hT0 hB0 hnvd hq hsmc hLM e1 e2 hslot hsm
  simp only [lawMid, blockIn, blockOf, Tryd.f3, reduceIte, Nat.reduceEqDiff]
  go_loopw [7, 8, 10] (fun vle vmo vi wr => ∃ (k : Nat) (le mo : Int), k ≤ c ∧ vle = .int .i64 le ∧ vmo = .int .i64 mo ∧ vi = .int .u64 (k : Int) ∧ LM q le mo ∧ wr.heap[tb]? = some (.cells (tmC SL (cut n s (smc + k))) 52 (0, 0)) ∧ Apart tb W wr) (fun _ _ vi _ => c - (intOf vi).toNat)
  case atStart => exact ⟨0, le, mo, by omega, rfl, rfl, rfl, gL.out, gT.out, Apart.refl _ _⟩
  case round =>
    obtain ⟨k, le1, mo1, hk, rfl, rfl, rfl, hLM1, hT1, hA1⟩ := hrel
    have g1 := Lib.hid hT1
    have g2 := Lib.hid hA1
    have g3 := Lib.hid hLM1
    clear hT1 hA1 hLM1
    by_cases hlt : k < c
    · have lk : (k : Int) < (c : Int) := by omega
      have wk : IntKind.u64.wrap ((k : Int) + 1) = ((k + 1 : Nat) : Int) := by rw [IntKind.wrap_u64]; omega
      have gX1 := Lib.hid ((g2.out.block n0 (blk_lt gX.out) (by omega)).trans gX.out)
      have gB1 := Lib.hid (g2.out.below gB.out (by omega) gB.out.size)
      have hof1 := Lib.hid (hof.out k wr gB1.out hlt)
      go_wp2_with (first
        | ((with_reducible refine at_load 49 ?_); go_loud (refine wpList_value (by rfl) _ (run_load_box _ 49 (.tmp 2) rfl n0 rfl _ xs (0, 0) _ gX1.out Tryd.underlying49 rfl hrow.out) ?_))
        | ((with_reducible refine hof1.out.mono ?_)
           rintro r W1 ⟨v, rfl, hO, b1⟩
           have gO := Lib.hid hO
           have gb := Lib.hid b1
           clear hO b1))
      have hkk : smc + k < s := by have := hs4.out; omega
      obtain ⟨hq1, hq2, hq3⟩ := hqs.out (smc + k)
      have hq4 := hql.out (smc + k + 1) (by omega)
      have hml := segL_length (L := SL) gS.out (show 0 < s by omega) hkk
      have hget : ∀ j, j < cut n s (smc + k + 1) - cut n s (smc + k) → ∃ x : Nat, (segL SL n s (smc + k)).getD j 0 = (x : Int) ∧ SL.getD (cut n s (smc + k) + j) 0 = (x : Int) ∧ x < nv := fun j hj => by
        obtain ⟨x, h1, h2⟩ := hsg.out (cut n s (smc + k) + j) (by omega)
        exact ⟨x, by rw [segL_get gS.out (show 0 < s by omega) hkk hj, h1], h1, h2⟩
      obtain ⟨m, hmd⟩ : ∃ m, m = cut n s (smc + k + 1) - cut n s (smc + k) := ⟨_, rfl⟩
      rw [← hmd] at hml hget hq2 hq3
      obtain ⟨vv, cv, ev, _⟩ := own_form gO.out
      rw [hml] at ev
      subst ev
      have hlm : cut n s (smc + k) + m ≤ SL.length := by rw [gS.out]; omega
      have hT1 := (gb.out.block tb (blk_lt g1.out)).trans g1.out
      have hX1 := (gb.out.block n0 (blk_lt gX1.out)).trans gX1.out
      have hA1 := Lib.hid (g2.out.call gb.out)
      refine law_in ep n0 tb c le1 mo1 slot k _ xs nv va cap SL (segL SL n s (smc + k)) wr.heap.size (cut n s (smc + k)) m W1 hnv gx.out hX1 hT1 gO.out hml hlm (by rw [gS.out]; omega) hget (blk_lt g1.out) (by omega) _ _ _ _ _ _ _ _ _ _ _ _ _ _ _ _ _ _ _ _ _ _ _ _ _ _ _ _ _ _ _ _ _ _ _ _ _ _ _ _ _ _ _ _ _ _ _ _ _ _ _ _ _ _ _ _ _ _ _ _ _ _ _ _ _ _ _ _ _ _ _ _ _ _ _ _ _ _ _ _ _ _ _ _ _ _ _ _ _ _ _ _ _ _ _ _ _ _ _ _ _ _ _ _ _ _ _ _ _ _ _ _ _ _ _ _ _ _ _ _ _ _ _ _ _ ?_
      intro y4 y13 y58 y59 y60 y61 y62 y63 y64 y65 y66 y67 y68 y69 y70 y71 y72 y73 y74 y75 y76 y77 y78 y79 y80 W2 hT2 hA2
      rw [show cut n s (smc + k) + m = cut n s (smc + (k + 1)) by rw [hmd, ← Nat.add_assoc]; omega] at hT2
      clear hget hml hlm hT1 hX1 hmd hq1 hq4
      have hT3 := Lib.hid hT2
      have hA3 := Lib.hid (hA1.out.trans hA2)
      have hq2I : (q : Int) ≤ (m : Int) := by omega
      have hq3I : (m : Int) ≤ (q : Int) + 1 := by omega
      clear hT2 hA2
      have hLM2 := g3.out.next hq2 hq3
      obtain ⟨mn, hmn⟩ : ∃ mn : Int, mn = if (m : Int) < le1 then (m : Int) else le1 := ⟨_, rfl⟩
      obtain ⟨mxx, hmx⟩ : ∃ mxx : Int, mxx = if (m : Int) > mo1 then (m : Int) else mo1 := ⟨_, rfl⟩
      rw [← hmn, ← hmx] at hLM2
      have g4 := Lib.hid hLM2
      have gmn := Lib.hid hmn
      have gmx := Lib.hid hmx
      clear hLM2 hmn hmx hq2 hq3 hq2I hq3I hsl18 hep
      go_wp2_with (first
        | ((with_reducible refine at_call_builtin .min ?_); go_loud (refine wpList_value (by rfl) (.int .i64 mn) (run_minI _ (.tmp 81) (.tmp 83) rfl le1 (m : Int) mn rfl rfl gmn.out) ?_))
        | ((with_reducible refine at_call_builtin .max ?_); go_loud (refine wpList_value (by rfl) (.int .i64 mxx) (run_maxI _ (.tmp 85) (.tmp 87) rfl mo1 (m : Int) mxx rfl rfl gmx.out) ?_)))
      exact ⟨⟨k + 1, mn, mxx, by omega, rfl, rfl, by go_num, g4.out, hT3.out, hA3.out⟩, by simp [intOf]; omega⟩
    · have e : k = c := by omega
      subst e
      go_wp2
      exact gQ.out _ _ _ _ _ _ _ _ _ _ _ _ _ _ _ _ _ _ _ _ _ _ _ _ _ _ _ _ _ _ _ _ _ _ _ _ _ _ _ _ _ _ _ _ _ _ _ _ _ _ _ _ _ g3.out g1.out g2.out
end Go.Proofs.YtfnjcpopadpmbaaDoor
