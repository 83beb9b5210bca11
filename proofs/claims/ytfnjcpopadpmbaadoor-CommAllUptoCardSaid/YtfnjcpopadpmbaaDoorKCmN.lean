/- The law's inner loops: who stands in a committee is counted; the counts are looked at. -/
import Derived.Test.YtfnjcpopadpmbaaDoorKCmM
set_option linter.unusedVariables false
set_option linter.unusedSimpArgs false
set_option linter.unnecessarySimpa false
namespace Go.Proofs.YtfnjcpopadpmbaaDoor
open Go.RowKit BigFrame
set_option maxRecDepth 100000
set_option maxHeartbeats 1000000 in
theorem active_any (f : Nat → Int) (e : Int) (w : World) :
    Calls Tryd.prog 10 #[.agg (fcells 86 valK f).toArray, .int .u64 e] w fun r w' => r = .returned (.bool (actB e f)) ∧ Below w.heap.size w w' := by
  have g1 : (fcells 86 valK f).toArray[83]? = some (.int .u64 (f 83)) := by rw [List.getElem?_toArray, fcells_get _ _ _ _ (by omega)]; rfl
  have g2 : (fcells 86 valK f).toArray[84]? = some (.int .u64 (f 84)) := by rw [List.getElem?_toArray, fcells_get _ _ _ _ (by omega)]; rfl
  have hact : actB e f = (decide (f 83 ≤ e) && decide (e < f 84)) := rfl
  generalize (fcells 86 valK f).toArray = C at *
  have h1 := Lib.hid g1
  have h2 := Lib.hid g2
  generalize f 83 = x3 at *
  generalize f 84 = x4 at *
  generalize actB e f = ab at *
  clear g1 g2
  subst hact
  by_cases c1 : x3 ≤ e
  · have c1I : decide (x3 ≤ e) = true := by simpa using c1
    rw [c1I, Bool.true_and]
    go_enter Tryd.func10, Tryd.ntmps10
    go_wp2_with (first
      | ((with_reducible refine at_load 22 ?_); refine wpList_value (by rfl) _ (run_load_cell _ 22 (.tmp 5) rfl ⟨w.heap.size, 83, none⟩ rfl (.int .u64 x3) ((cell_of_row _ w.heap.size 83 _ _ _ (heap_new _ _ _ _ rfl)).trans h1.out) _ Tryd.underlying22 rfl) ?_)
      | ((with_reducible refine at_load 22 ?_); refine wpList_value (by rfl) _ (run_load_cell _ 22 (.tmp 11) rfl ⟨w.heap.size, 84, none⟩ rfl (.int .u64 x4) ((cell_of_row _ w.heap.size 84 _ _ _ (heap_new _ _ _ _ rfl)).trans h2.out) _ Tryd.underlying22 rfl) ?_))
    all_goals exact ret_t1 rfl _ rfl rfl ⟨rfl, (Below.refl _ _).alloc (Nat.le_refl _) _⟩
  · have c1I : decide (x3 ≤ e) = false := by simpa using c1
    rw [c1I, Bool.false_and]
    go_enter Tryd.func10, Tryd.ntmps10
    go_wp2_with (first
      | ((with_reducible refine at_load 22 ?_); refine wpList_value (by rfl) _ (run_load_cell _ 22 (.tmp 5) rfl ⟨w.heap.size, 83, none⟩ rfl (.int .u64 x3) ((cell_of_row _ w.heap.size 83 _ _ _ (heap_new _ _ _ _ rfl)).trans h1.out) _ Tryd.underlying22 rfl) ?_)
      | ((with_reducible refine at_load 22 ?_); refine wpList_value (by rfl) _ (run_load_cell _ 22 (.tmp 11) rfl ⟨w.heap.size, 84, none⟩ rfl (.int .u64 x4) ((cell_of_row _ w.heap.size 84 _ _ _ (heap_new _ _ _ _ rfl)).trans h2.out) _ Tryd.underlying22 rfl) ?_))
    all_goals exact ret_t1 rfl _ rfl rfl ⟨rfl, (Below.refl _ _).alloc (Nat.le_refl _) _⟩
/-- How often each stands among the first m. -/
def tmV (SL : List Int) (m v : Nat) : Int := ((SL.take m).count (v : Int) : Nat)
def tmC (SL : List Int) (m : Nat) : Array Value := ((List.range 300).map fun v => Value.int .i64 (tmV SL m v)).toArray
theorem tmC_size (SL : List Int) (m : Nat) : (tmC SL m).size = 300 := by simp [tmC]
theorem tmC_get (SL : List Int) (m v : Nat) (h : v < 300) : (tmC SL m)[v]? = some (.int .i64 (tmV SL m v)) := by simp [tmC, h]
theorem tmV_ge (SL : List Int) (m v : Nat) : 0 ≤ tmV SL m v := Int.natCast_nonneg _
theorem tmV_le (SL : List Int) (m v : Nat) : tmV SL m v ≤ SL.length := by
  have h1 := List.count_le_length (a := (v : Int)) (l := SL.take m)
  have h2 : (SL.take m).length ≤ SL.length := by rw [List.length_take]; omega
  unfold tmV
  omega
theorem tmC_step (SL : List Int) (m x : Nat) (hm : m < SL.length) (hx : SL.getD m 0 = (x : Int)) (h : x < 300) : (tmC SL m).setIfInBounds x (.int .i64 (tmV SL m x + 1)) = tmC SL (m + 1) := by
  apply Array.ext_getElem?
  intro j
  rw [Array.getElem?_setIfInBounds, tmC_size]
  by_cases c : j < 300
  · have hj : tmV SL (m + 1) j = tmV SL m j + if x = j then 1 else 0 := by
      unfold tmV
      rw [take_count SL m _ hm, hx]
      by_cases e : x = j
      · subst e; simp
      · rw [if_neg e, if_neg (by omega)]; simp
    rw [tmC_get _ _ _ c, tmC_get _ _ _ c, hj]
    by_cases e : x = j
    · subst e
      rw [if_pos rfl, if_pos h, if_pos rfl]
    · rw [if_neg e, if_neg e, Int.add_zero]
  · rw [if_neg (show ¬ x = j by omega), Array.getElem?_eq_none (by rw [tmC_size]; omega), Array.getElem?_eq_none (by rw [tmC_size]; omega)]
noncomputable def lawIn : Code := blockIn 4 Tryd.f3
set_option maxHeartbeats 8000000 in
theorem law_in {Q : Exit → Act → World → Prop} (ep n0 tb c : Nat) (le mo : Int) (slot i : Nat) (v : Value) (xs : Array Value) (nv : Nat) (va : Option Addr) (cap : Nat) (SL seg : List Int) (base lo m : Nat) (W : World) (hnv : nv ≤ 300) (hx : xs[721]? = some (.slice va nv cap)) (hX : W.heap[n0]? = some (.cells xs 49 (0, 0))) (hT : W.heap[tb]? = some (.cells (tmC SL lo) 52 (0, 0)))
    (hO : OwU base v seg W) (hm : seg.length = m) (hlm : lo + m ≤ SL.length) (hLen : SL.length ≤ 65536) (hseg : ∀ j, j < m → ∃ x : Nat, seg.getD j 0 = (x : Int) ∧ SL.getD (lo + j) 0 = (x : Int) ∧ x < nv) (hb1 : tb < base) (hb2 : n0 ≠ tb)
    (t0 t3 t4 t12 t14 t15 t16 t17 t18 t19 t20 t21 t22 t23 t24 t25 t26 t27 t28 t29 t30 t31 t32 t33 t34 t35 t36 t37 t38 t39 t40 t41 t42 t43 t44 t45 t46 t47 t48 t49 t50 t51 t52 t53 t54 t55 t56 t57 t58 t59 t60 t61 t62 t63 t64 t65 t66 t67 t68 t69 t70 t71 t72 t73 t74 t75 t76 t77 t78 t79 t80 t81 t82 t83 t84 t85 t86 t87 t88 t89 t90 t91 t92 t93 t94 t95 t96 t97 t98 t99 t100 t101 t102 t103 t104 t105 t106 t107 t108 t109 t110 t111 t112 t113 t114 t115 t116 t117 t118 t119 t120 t121 t122 t123 t124 t125 t126 t127 t128 t129 t130 t131 t132 t133 t134 : Value) (hQ : ∀ (x4 x13 x58 x59 x60 x61 x62 x63 x64 x65 x66 x67 x68 x69 x70 x71 x72 x73 x74 x75 x76 x77 x78 x79 x80 : Value) (w' : World), w'.heap[tb]? = some (.cells (tmC SL (lo + m)) 52 (0, 0)) → Apart tb W w' → Q .normal { tmps := #[t0, .int .u64 (ep : Int), .pointer (some ⟨n0, 0, none⟩), t3, x4, .pointer (some ⟨tb, 0, none⟩), .int .u64 (c : Int), .int .i64 le, .int .i64 mo, .int .u64 (slot : Int), .int .u64 (i : Int), v, t12, x13, t14, t15, t16, t17, t18, t19, t20, t21, t22, t23, t24, t25, t26, t27, t28, t29, t30, t31, t32, t33, t34, t35, t36, t37, t38, t39, t40, t41, t42, t43, t44, t45, t46, t47, t48, t49, t50, t51, t52, t53, t54, t55, t56, t57, x58, x59, x60, x61, x62, x63, x64, x65, x66, x67, x68, x69, x70, x71, x72, x73, x74, x75, x76, x77, x78, x79, x80, t81, t82, t83, t84, t85, t86, t87, t88, t89, t90, t91, t92, t93, t94, t95, t96, t97, t98, t99, t100, t101, t102, t103, t104, t105, t106, t107, t108, t109, t110, t111, t112, t113, t114, t115, t116, t117, t118, t119, t120, t121, t122, t123, t124, t125, t126, t127, t128, t129, t130, t131, t132, t133, t134], defers := [] } w') : lawIn.wp Tryd.prog (Exit.inBlock 4 Q) { tmps := #[t0, .int .u64 (ep : Int), .pointer (some ⟨n0, 0, none⟩), t3, t4, .pointer (some ⟨tb, 0, none⟩), .int .u64 (c : Int), .int .i64 le, .int .i64 mo, .int .u64 (slot : Int), .int .u64 (i : Int), v, t12, .int .i64 0, t14, t15, t16, t17, t18, t19, t20, t21, t22, t23, t24, t25, t26, t27, t28, t29, t30, t31, t32, t33, t34, t35, t36, t37, t38, t39, t40, t41, t42, t43, t44, t45, t46, t47, t48, t49, t50, t51, t52, t53, t54, t55, t56, t57, t58, t59, t60, t61, t62, t63, t64, t65, t66, t67, t68, t69, t70, t71, t72, t73, t74, t75, t76, t77, t78, t79, t80, t81, t82, t83, t84, t85, t86, t87, t88, t89, t90, t91, t92, t93, t94, t95, t96, t97, t98, t99, t100, t101, t102, t103, t104, t105, t106, t107, t108, t109, t110, t111, t112, t113, t114, t115, t116, t117, t118, t119, t120, t121, t122, t123, t124, t125, t126, t127, t128, t129, t130, t131, t132, t133, t134], defers := [] } W := by
  obtain ⟨vv, cv, ev, _⟩ := own_form hO
  rw [hm] at ev
  subst ev
  have gx := Lib.hid hx
  have gX := Lib.hid hX
  have gT := Lib.hid hT
  have gO := Lib.hid hO
  have gm := Lib.hid hm
  have gs := Lib.hid hseg
  have gQ := Lib.hid hQ
  have gb2 := Lib.hid hb2
  clear hx hX hT hO hm hseg hQ hb2
  simp only [lawIn, blockIn, blockOf, Tryd.f3, reduceIte, Nat.reduceEqDiff]
  go_loopw [13] (fun i wr => ∃ k : Nat, k ≤ m ∧ i = .int .i64 (k : Int) ∧ wr.heap[tb]? = some (.cells (tmC SL (lo + k)) 52 (0, 0)) ∧ Apart tb W wr) (fun i _ => m - (intOf i).toNat)
  case atStart => exact ⟨0, by omega, rfl, gT.out, Apart.refl _ _⟩
  case round =>
    obtain ⟨k, hk, rfl, hT1, hA1⟩ := hrel
    have g1 := Lib.hid hT1
    have g2 := Lib.hid hA1
    clear hT1 hA1
    by_cases hlt : k < m
    · have lk : (k : Int) < (m : Int) := by omega
      have wk : IntKind.i64.wrap ((k : Int) + 1) = ((k + 1 : Nat) : Int) := by rw [IntKind.wrap_i64]; omega
      obtain ⟨x, hx1, hx2, hx3⟩ := gs.out k hlt
      have hcx : wr.cell? ⟨n0, 721, none⟩ = some (.slice va nv cap) := (cell_of_row wr n0 721 _ _ _ ((g2.out.block n0 (blk_lt gX.out) gb2.out).trans gX.out)).trans gx.out
      rcases gO.out.2 with ⟨q1, q2⟩ | ⟨g, cap', cur, q1, q2, q3, _⟩
      · exact absurd q2 (by rw [gm.out]; omega)
      injection q1 with e1 e2 e3
      subst e1 e3
      clear e2
      have hcl : wr.cell? ⟨g, k, none⟩ = some (.int .u64 (x : Int)) := by
        rw [g2.out.cell (p := ⟨g, k, none⟩) (blk_lt q3) (by simp only; omega), gO.out.cell k (by rw [gm.out]; exact hlt), hx1]
      have hct : wr.cell? ⟨tb, x, none⟩ = some (.int .i64 (tmV SL (lo + k) x)) := (cell_of_row wr tb x _ _ _ g1.out).trans (tmC_get _ _ _ (by omega))
      have hst := tmC_step SL (lo + k) x (by omega) hx2 (by omega)
      have ht0 := tmV_ge SL (lo + k) x
      have ht1 := tmV_le SL (lo + k) x
      obtain ⟨t, htd⟩ : ∃ t, t = tmV SL (lo + k) x := ⟨_, rfl⟩
      rw [← htd] at hct hst ht0 ht1
      have wt : IntKind.i64.wrap (t + 1) = t + 1 := by rw [IntKind.wrap_i64]; omega
      have gst := Lib.hid hst
      have gcx := Lib.hid hcx
      have gcl := Lib.hid hcl
      have gct := Lib.hid hct
      have hxI : (x : Int) < 300 := by omega
      have hxI2 : (x : Int) < (nv : Int) := by omega
      have hx300 : x < 300 := by omega
      have wnv : IntKind.u64.wrap (nv : Int) = (nv : Int) := by rw [IntKind.wrap_u64]; omega
      clear hcx hcl hct hst htd hx1 hx2 q2 q3
      go_wp2
      refine wp_nopan ?_
      refine wp_region_held (S := fun w' => w'.cell? ⟨n0, 721, none⟩ = some (.slice va nv cap) ∧ w'.cell? ⟨g, k, none⟩ = some (.int .u64 (x : Int))) (by kernel_rfl) ?_
      have hS : ({ wr with drawn := wr.drawn + 1 } : World).cell? ⟨n0, 721, none⟩ = some (.slice va nv cap) ∧ ({ wr with drawn := wr.drawn + 1 } : World).cell? ⟨g, k, none⟩ = some (.int .u64 (x : Int)) := ⟨gcx.out, gcl.out⟩
      refine takeL (i := 0) (v := (.slice (some ⟨g, 0, none⟩) m cv)) rfl (by kernel_rfl) (by kernel_rfl) (by kernel_rfl) (fun _ _ _ h => h) rfl (by assumption) (fun w' hS' => by go_simp) ?_
      simp only [Act.put, List.setIfInBounds_toArray, List.set_cons_zero, List.set_cons_succ]
      refine takeL (i := 1) (v := (.int .i64 (k : Int))) rfl (by kernel_rfl) (by kernel_rfl) (by kernel_rfl) (fun _ _ _ h => h) rfl (by assumption) (fun w' hS' => by go_simp) ?_
      simp only [Act.put, List.setIfInBounds_toArray, List.set_cons_zero, List.set_cons_succ]
      refine takeL (i := 2) (v := (.pointer (some ⟨g, k, none⟩))) rfl (by kernel_rfl) (by kernel_rfl) (by kernel_rfl) (fun _ _ _ h => h) rfl (by assumption) (fun w' hS' => run_index_slice _ 37 22 (.tmp 64) (.tmp 65) rfl Tryd.underlying37 1 sz_u64 g 0 m cv rfl .i64 k rfl hlt k (by omega)) ?_
      simp only [Act.put, List.setIfInBounds_toArray, List.set_cons_zero, List.set_cons_succ]
      refine takeL (i := 3) (v := (.int .u64 (x : Int))) rfl (by kernel_rfl) (by kernel_rfl) (by kernel_rfl) (fun _ _ _ h => h) rfl (by assumption) (fun w' hS' => run_load_cell _ 22 (.tmp 66) rfl ⟨g, k, none⟩ rfl _ hS'.2 _ Tryd.underlying22 rfl) ?_
      simp only [Act.put, List.setIfInBounds_toArray, List.set_cons_zero, List.set_cons_succ]
      refine takeL (i := 4) (v := (.pointer (some ⟨n0, 721, none⟩))) rfl (by kernel_rfl) (by kernel_rfl) (by kernel_rfl) (fun _ _ _ h => h) rfl (by assumption) (fun w' hS' => by go_simp) ?_
      simp only [Act.put, List.setIfInBounds_toArray, List.set_cons_zero, List.set_cons_succ]
      refine takeL (i := 5) (v := (.slice va nv cap)) rfl (by kernel_rfl) (by kernel_rfl) (by kernel_rfl) (fun _ _ _ h => h) rfl (by assumption) (fun w' hS' => run_load_cell _ 36 (.tmp 68) rfl ⟨n0, 721, none⟩ rfl _ hS'.1 _ Tryd.underlying36 rfl) ?_
      simp only [Act.put, List.setIfInBounds_toArray, List.set_cons_zero, List.set_cons_succ]
      refine takeL (i := 6) (v := (.int .i64 (nv : Int))) rfl (by kernel_rfl) (by kernel_rfl) (by kernel_rfl) (fun _ _ _ h => h) rfl (by assumption) (fun w' hS' => by go_simp) ?_
      simp only [Act.put, List.setIfInBounds_toArray, List.set_cons_zero, List.set_cons_succ]
      refine takeL (i := 7) (v := (.int .u64 (nv : Int))) rfl (by kernel_rfl) (by kernel_rfl) (by kernel_rfl) (fun _ _ _ h => h) rfl (by assumption) (fun w' hS' => by go_simp) ?_
      simp only [Act.put, List.setIfInBounds_toArray, List.set_cons_zero, List.set_cons_succ]
      refine takeL (i := 8) (v := (.bool false)) rfl (by kernel_rfl) (by kernel_rfl) (by kernel_rfl) (fun _ _ _ h => h) rfl (by assumption) (fun w' hS' => by go_simp) ?_
      simp only [Act.put, List.setIfInBounds_toArray, List.set_cons_zero, List.set_cons_succ]
      refine wpAnyH_done (by kernel_rfl) ?_ _
      simp only [NoPan]
      refine gen_q (fun W2 => W2.heap = wr.heap ∧ Apart tb W W2 ∧ W2.cell? ⟨g, k, none⟩ = some (.int .u64 (x : Int)) ∧ W2.cell? ⟨tb, x, none⟩ = some (.int .i64 t)) ⟨rfl, g2.out.trans (Apart.begin tb wr), gcl.out, gct.out⟩ ?_
      rintro W2 ⟨e2, a2, c2, c3⟩
      have hT2 := Lib.hid ((congrArg (fun h => h[tb]?) e2).trans g1.out)
      have hA2 := Lib.hid a2
      have hc2 := Lib.hid c2
      have hc3 := Lib.hid c3
      clear e2 a2 c2 c3 hS
      go_wp2_with (first
        | ((with_reducible refine at_iaddrC 37 ?_); go_loud (refine wpList_value (by rfl) _ (run_index_slice _ 37 22 (.tmp 73) (.tmp 74) rfl Tryd.underlying37 1 sz_u64 g 0 m cv rfl .i64 k rfl hlt k (by omega)) ?_))
        | ((with_reducible refine at_load 22 ?_); go_loud (refine wpList_value (by rfl) _ (run_load_cell _ 22 (.tmp 75) rfl ⟨g, k, none⟩ rfl (.int .u64 (x : Int)) hc2.out _ Tryd.underlying22 rfl) ?_))
        | ((with_reducible refine at_load 3 ?_); go_loud (refine wpList_value (by rfl) _ (run_load_cell _ 3 (.tmp 77) rfl ⟨tb, x, none⟩ rfl (.int .i64 t) hc3.out _ Tryd.underlying3 rfl) ?_))
        | ((with_reducible refine at_store 3 ?_)
           go_loud (refine wpList_plain rfl fun K hK => wp_store1 3 (.tmp 80) (.tmp 79) rfl tb x rfl (.int .i64 (t + 1)) (by rfl) rfl sz_int _ _ hT2.out (by rw [tmC_size]; exact hx300) (fun W3 hC3 hA3 => hK _ _ ?_))
           clear hK K
           rw [gst.out] at hC3
           have hT3 := Lib.hid hC3
           have hA4 := Lib.hid (hA2.out.trans hA3)
           clear hC3 hA3))
      exact ⟨⟨k + 1, by omega, by go_num, hT3.out, hA4.out⟩, by simp [intOf]; omega⟩
    · have e : k = m := by omega
      subst e
      go_wp2
      exact gQ.out _ _ _ _ _ _ _ _ _ _ _ _ _ _ _ _ _ _ _ _ _ _ _ _ _ _ g1.out g2.out
end Go.Proofs.YtfnjcpopadpmbaaDoor
