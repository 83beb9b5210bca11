/- The library's sort at uint64: the scans of a partition. -/
/- The library's sort at uint64: the choice of a pivot. -/
import Derived.Test.YtfnjcpopadpmbaaDoorJSoC
set_option linter.unusedVariables false
set_option linter.unusedSimpArgs false
set_option linter.unnecessarySimpa false
namespace Go.Proofs.YtfnjcpopadpmbaaDoor
open Go.RowKit BigFrame
set_option maxRecDepth 100000
noncomputable def scanP0B : Code := blockIn 0 Tryd.f55
set_option maxHeartbeats 8000000 in
theorem scanP0 {Q : Exit → Act → World → Prop} (base g n cap a : Nat) (i0 j : Nat) (p : Int) (L : List Int) (W : World) (hn : n ≤ 1000000) (hO0 : OwU base (.slice (some ⟨g, 0, none⟩) n cap) L W) (hl0 : L.length = n) (hp0 : L.getD a 0 = p) (han : a < n) (hj : j < n) (hi : i0 ≤ j + 1) (t2 t3 t4 t5 t6 t7 t8 t9 t12 t13 t14 t15 t16 t17 t18 t19 t20 t21 t22 t23 t24 t25 t26 t27 t28 t29 t30 t31 t32 t33 t34 t35 t36 t37 t38 t39 t40 t41 t42 t43 t44 t45 t46 t47 t48 t49 t50 t51 t52 t53 t54 t55 t56 t57 t58 t59 t60 t61 t62 t63 t64 t65 t66 t67 t68 t69 t70 t71 t72 t73 t74 t75 t76 t77 t78 t79 t80 t81 t82 t83 t84 t85 t86 t87 t88 t89 t90 t91 t92 t93 t94 t95 t96 t97 t98 t99 t100 t101 t102 t103 t104 t105 t106 t107 t108 t109 t110 t111 t112 t113 t114 t115 t116 t117 t118 t119 t120 t121 t122 t123 t124 t125 t126 t127 t128 t129 t130 t131 t132 t133 t134 t135 t136 t137 t138 t139 t140 t141 t142 t143 t144 t145 t146 t147 t148 t149 t150 t151 t152 t153 t154 t155 t156 t157 t158 t159 t160 t161 t162 t163 t164 t165 t166 t167 : Value) (hQ : ∀ (x30 x31 x32 x33 x34 x35 x36 x37 x38 x39 x40 x41 x42 x43 x44 x45 : Value) (m : Nat) (w' : World), i0 ≤ m → m ≤ j + 1 → (∀ z, i0 ≤ z → z < m → L.getD z 0 < p) → (m ≤ j → p ≤ L.getD m 0) → OwU base (.slice (some ⟨g, 0, none⟩) n cap) L w' → Apart g W w' → Q .normal { tmps := #[.slice (some ⟨g, 0, none⟩) n cap, .int .i64 (a : Int), t2, t3, t4, t5, t6, t7, t8, t9, .int .i64 (m : Int), .int .i64 (j : Int), t12, t13, t14, t15, t16, t17, t18, t19, t20, t21, t22, t23, t24, t25, t26, t27, t28, t29, x30, x31, x32, x33, x34, x35, x36, x37, x38, x39, x40, x41, x42, x43, x44, x45, t46, t47, t48, t49, t50, t51, t52, t53, t54, t55, t56, t57, t58, t59, t60, t61, t62, t63, t64, t65, t66, t67, t68, t69, t70, t71, t72, t73, t74, t75, t76, t77, t78, t79, t80, t81, t82, t83, t84, t85, t86, t87, t88, t89, t90, t91, t92, t93, t94, t95, t96, t97, t98, t99, t100, t101, t102, t103, t104, t105, t106, t107, t108, t109, t110, t111, t112, t113, t114, t115, t116, t117, t118, t119, t120, t121, t122, t123, t124, t125, t126, t127, t128, t129, t130, t131, t132, t133, t134, t135, t136, t137, t138, t139, t140, t141, t142, t143, t144, t145, t146, t147, t148, t149, t150, t151, t152, t153, t154, t155, t156, t157, t158, t159, t160, t161, t162, t163, t164, t165, t166, t167], defers := [] } w') : scanP0B.wp Tryd.prog (Exit.inBlock 0 Q) { tmps := #[.slice (some ⟨g, 0, none⟩) n cap, .int .i64 (a : Int), t2, t3, t4, t5, t6, t7, t8, t9, .int .i64 (i0 : Int), .int .i64 (j : Int), t12, t13, t14, t15, t16, t17, t18, t19, t20, t21, t22, t23, t24, t25, t26, t27, t28, t29, t30, t31, t32, t33, t34, t35, t36, t37, t38, t39, t40, t41, t42, t43, t44, t45, t46, t47, t48, t49, t50, t51, t52, t53, t54, t55, t56, t57, t58, t59, t60, t61, t62, t63, t64, t65, t66, t67, t68, t69, t70, t71, t72, t73, t74, t75, t76, t77, t78, t79, t80, t81, t82, t83, t84, t85, t86, t87, t88, t89, t90, t91, t92, t93, t94, t95, t96, t97, t98, t99, t100, t101, t102, t103, t104, t105, t106, t107, t108, t109, t110, t111, t112, t113, t114, t115, t116, t117, t118, t119, t120, t121, t122, t123, t124, t125, t126, t127, t128, t129, t130, t131, t132, t133, t134, t135, t136, t137, t138, t139, t140, t141, t142, t143, t144, t145, t146, t147, t148, t149, t150, t151, t152, t153, t154, t155, t156, t157, t158, t159, t160, t161, t162, t163, t164, t165, t166, t167], defers := [] } W := by
  have hO := Lib.hid hO0
  have hl := Lib.hid hl0
  have hp := Lib.hid hp0
  have gQ := Lib.hid hQ
  clear hO0 hl0 hp0 hQ
  simp only [scanP0B, blockIn, blockOf, Tryd.f55, reduceIte, Nat.reduceEqDiff]
  go_loopw [10] (fun v wr => ∃ m : Nat, i0 ≤ m ∧ m ≤ j + 1 ∧ v = .int .i64 (m : Int) ∧ (∀ z, i0 ≤ z → z < m → L.getD z 0 < p) ∧ OwU base (.slice (some ⟨g, 0, none⟩) n cap) L wr ∧ Apart g W wr) (fun v _ => j + 1 - (intOf v).toNat)
  case atStart => exact ⟨i0, Nat.le_refl _, hi, rfl, fun z h1 h2 => by omega, hO.out, Apart.refl _ _⟩
  case round =>
    obtain ⟨m, hm1, hm2, rfl, hz, hO1, hA1⟩ := hrel
    have gz := Lib.hid hz
    have g1 := Lib.hid hO1
    have g2 := Lib.hid hA1
    clear hz hO1 hA1
    by_cases hc : m ≤ j
    · have lc : decide ((m : Int) ≤ (j : Int)) = true := by simp; omega
      have hmn : m < n := by omega
      have wm : IntKind.i64.wrap ((m : Int) + 1) = ((m + 1 : Nat) : Int) := by rw [IntKind.wrap_i64]; omega
      have cm := g1.out.cell m (by rw [hl.out]; exact hmn)
      have ca := g1.out.cell a (by rw [hl.out]; exact han)
      rw [hp.out] at ca
      obtain ⟨x, hx⟩ : ∃ x, x = L.getD m 0 := ⟨_, rfl⟩
      rw [← hx] at cm
      have gx := Lib.hid hx
      have gm := Lib.hid cm
      have ga := Lib.hid ca
      clear cm ca hx
      go_wp2
      refine wp_nopan ?_
      refine wp_region_held (S := fun w' => w'.cell? ⟨g, m, none⟩ = some (.int .u64 x) ∧ w'.cell? ⟨g, a, none⟩ = some (.int .u64 p)) (by kernel_rfl) ?_
      have hS : ({ wr with drawn := wr.drawn + 1 } : World).cell? ⟨g, m, none⟩ = some (.int .u64 x) ∧ ({ wr with drawn := wr.drawn + 1 } : World).cell? ⟨g, a, none⟩ = some (.int .u64 p) := ⟨gm.out, ga.out⟩
      refine takeL (i := 0) (v := (.int .i64 (m : Int))) rfl (by kernel_rfl) (by kernel_rfl) (by kernel_rfl) (fun _ _ _ h => h) rfl (by assumption) (fun w' hS' => by go_simp) ?_
      simp only [Act.put, List.setIfInBounds_toArray, List.set_cons_zero, List.set_cons_succ]
      refine takeL (i := 1) (v := (.int .i64 (j : Int))) rfl (by kernel_rfl) (by kernel_rfl) (by kernel_rfl) (fun _ _ _ h => h) rfl (by assumption) (fun w' hS' => by go_simp) ?_
      simp only [Act.put, List.setIfInBounds_toArray, List.set_cons_zero, List.set_cons_succ]
      refine takeL (i := 2) (v := (.bool true)) rfl (by kernel_rfl) (by kernel_rfl) (by kernel_rfl) (fun _ _ _ h => h) rfl (by assumption) (fun w' hS' => by go_simp) ?_
      simp only [Act.put, List.setIfInBounds_toArray, List.set_cons_zero, List.set_cons_succ]
      refine takeL (i := 3) (v := (.bool true)) rfl (by kernel_rfl) (by kernel_rfl) (by kernel_rfl) (fun _ _ _ h => h) rfl (by assumption) (fun w' hS' => by go_simp) ?_
      simp only [Act.put, List.setIfInBounds_toArray, List.set_cons_zero, List.set_cons_succ]
      refine takeL (i := 4) (v := (.slice (some ⟨g, 0, none⟩) n cap)) rfl (by kernel_rfl) (by kernel_rfl) (by kernel_rfl) (fun _ _ _ h => h) rfl (by assumption) (fun w' hS' => by go_simp) ?_
      simp only [Act.put, List.setIfInBounds_toArray, List.set_cons_zero, List.set_cons_succ]
      refine takeL (i := 5) (v := (.int .i64 (m : Int))) rfl (by kernel_rfl) (by kernel_rfl) (by kernel_rfl) (fun _ _ _ h => h) rfl (by assumption) (fun w' hS' => by go_simp) ?_
      simp only [Act.put, List.setIfInBounds_toArray, List.set_cons_zero, List.set_cons_succ]
      refine takeL (i := 6) (v := (.pointer (some ⟨g, m, none⟩))) rfl (by kernel_rfl) (by kernel_rfl) (by kernel_rfl) (fun _ _ _ h => h) rfl (by assumption) (fun w' hS' => run_index_slice _ 37 22 (.tmp 34) (.tmp 35) rfl Tryd.underlying37 1 sz_u64 g 0 n cap rfl .i64 m rfl hmn m (by omega)) ?_
      simp only [Act.put, List.setIfInBounds_toArray, List.set_cons_zero, List.set_cons_succ]
      refine takeL (i := 7) (v := (.int .u64 x)) rfl (by kernel_rfl) (by kernel_rfl) (by kernel_rfl) (fun _ _ _ h => h) rfl (by assumption) (fun w' hS' => run_load_cell _ 22 (.tmp 36) rfl ⟨g, m, none⟩ rfl _ hS'.1 _ Tryd.underlying22 rfl) ?_
      simp only [Act.put, List.setIfInBounds_toArray, List.set_cons_zero, List.set_cons_succ]
      refine takeL (i := 8) (v := (.slice (some ⟨g, 0, none⟩) n cap)) rfl (by kernel_rfl) (by kernel_rfl) (by kernel_rfl) (fun _ _ _ h => h) rfl (by assumption) (fun w' hS' => by go_simp) ?_
      simp only [Act.put, List.setIfInBounds_toArray, List.set_cons_zero, List.set_cons_succ]
      refine takeL (i := 9) (v := (.int .i64 (a : Int))) rfl (by kernel_rfl) (by kernel_rfl) (by kernel_rfl) (fun _ _ _ h => h) rfl (by assumption) (fun w' hS' => by go_simp) ?_
      simp only [Act.put, List.setIfInBounds_toArray, List.set_cons_zero, List.set_cons_succ]
      refine takeL (i := 10) (v := (.pointer (some ⟨g, a, none⟩))) rfl (by kernel_rfl) (by kernel_rfl) (by kernel_rfl) (fun _ _ _ h => h) rfl (by assumption) (fun w' hS' => run_index_slice _ 37 22 (.tmp 38) (.tmp 39) rfl Tryd.underlying37 1 sz_u64 g 0 n cap rfl .i64 a rfl han a (by omega)) ?_
      simp only [Act.put, List.setIfInBounds_toArray, List.set_cons_zero, List.set_cons_succ]
      refine takeL (i := 11) (v := (.int .u64 p)) rfl (by kernel_rfl) (by kernel_rfl) (by kernel_rfl) (fun _ _ _ h => h) rfl (by assumption) (fun w' hS' => run_load_cell _ 22 (.tmp 40) rfl ⟨g, a, none⟩ rfl _ hS'.2 _ Tryd.underlying22 rfl) ?_
      simp only [Act.put, List.setIfInBounds_toArray, List.set_cons_zero, List.set_cons_succ]
      refine oneL (i := 12) rfl (by kernel_rfl) rfl (wp_call 53 #[.int .u64 x, .int .u64 p] (by go_simp) _ _ (less_any x p _) ?_)
      rintro W2 rfl
      refine ⟨hS, ?_⟩
      simp only [Act.put, List.setIfInBounds_toArray, List.set_cons_zero, List.set_cons_succ]
      obtain ⟨bb, hbb⟩ : ∃ bb, bb = decide (x < p) := ⟨_, rfl⟩
      rw [← hbb]
      have gbb := Lib.hid hbb
      clear hbb
      refine takeL (i := 13) (v := (.bool bb)) rfl (by kernel_rfl) (by kernel_rfl) (by kernel_rfl) (fun _ _ _ h => h) rfl (by assumption) (fun w' hS' => by go_simp) ?_
      simp only [Act.put, List.setIfInBounds_toArray, List.set_cons_zero, List.set_cons_succ]
      refine wpAnyH_done (by kernel_rfl) ?_ _
      simp only [NoPan]
      clear hS
      refine gen_q (fun W2 => OwU base (.slice (some ⟨g, 0, none⟩) n cap) L W2 ∧ Apart g W W2) ⟨g1.out.later ((Below.refl _ _).drew), g2.out.trans (Apart.begin g wr)⟩ ?_
      rintro W2 ⟨o2, a2⟩
      have g3 := Lib.hid o2
      have g4 := Lib.hid a2
      clear o2 a2
      cases bb with
      | true =>
        have ht : x < p := by simpa using gbb.out
        rw [gx.out] at ht
        have gt := Lib.hid ht
        clear ht
        go_wp2
        exact ⟨⟨m + 1, by omega, by omega, by go_num, fun z h1 h2 => by
          by_cases e : z = m
          · rw [e]; exact gt.out
          · exact gz.out z h1 (by omega), g3.out, g4.out⟩, by simp [intOf]; omega⟩
      | false =>
        have ht : p ≤ x := by simpa using gbb.out
        rw [gx.out] at ht
        have gt := Lib.hid ht
        clear ht
        go_wp2
        exact gQ.out _ _ _ _ _ _ _ _ _ _ _ _ _ _ _ _ m _ hm1 hm2 gz.out (fun _ => gt.out) g3.out g4.out
    · have lc : decide ((m : Int) ≤ (j : Int)) = false := by simp; omega
      go_wp2
      refine wp_nopan ?_
      refine wp_region_held (S := fun _ => True) (by kernel_rfl) ?_
      have hS : True := trivial
      refine takeL (i := 0) (v := (.int .i64 (m : Int))) rfl (by kernel_rfl) (by kernel_rfl) (by kernel_rfl) (fun _ _ _ h => h) rfl (by assumption) (fun w' hS' => by go_simp) ?_
      simp only [Act.put, List.setIfInBounds_toArray, List.set_cons_zero, List.set_cons_succ]
      refine takeL (i := 1) (v := (.int .i64 (j : Int))) rfl (by kernel_rfl) (by kernel_rfl) (by kernel_rfl) (fun _ _ _ h => h) rfl (by assumption) (fun w' hS' => by go_simp) ?_
      simp only [Act.put, List.setIfInBounds_toArray, List.set_cons_zero, List.set_cons_succ]
      refine takeL (i := 2) (v := (.bool false)) rfl (by kernel_rfl) (by kernel_rfl) (by kernel_rfl) (fun _ _ _ h => h) rfl (by assumption) (fun w' hS' => by go_simp) ?_
      simp only [Act.put, List.setIfInBounds_toArray, List.set_cons_zero, List.set_cons_succ]
      refine takeL (i := 3) (v := (.bool false)) rfl (by kernel_rfl) (by kernel_rfl) (by kernel_rfl) (fun _ _ _ h => h) rfl (by assumption) (fun w' hS' => by go_simp) ?_
      simp only [Act.put, List.setIfInBounds_toArray, List.set_cons_zero, List.set_cons_succ]
      refine skipL (i := 4) rfl (by kernel_rfl) (by kernel_rfl) (by kernel_rfl) (fun _ _ _ h => h) rfl (by assumption) ?_
      simp only [Act.put, List.setIfInBounds_toArray, List.set_cons_zero, List.set_cons_succ]
      refine skipL (i := 5) rfl (by kernel_rfl) (by kernel_rfl) (by kernel_rfl) (fun _ _ _ h => h) rfl (by assumption) ?_
      simp only [Act.put, List.setIfInBounds_toArray, List.set_cons_zero, List.set_cons_succ]
      refine skipL (i := 6) rfl (by kernel_rfl) (by kernel_rfl) (by kernel_rfl) (fun _ _ _ h => h) rfl (by assumption) ?_
      simp only [Act.put, List.setIfInBounds_toArray, List.set_cons_zero, List.set_cons_succ]
      refine skipL (i := 7) rfl (by kernel_rfl) (by kernel_rfl) (by kernel_rfl) (fun _ _ _ h => h) rfl (by assumption) ?_
      simp only [Act.put, List.setIfInBounds_toArray, List.set_cons_zero, List.set_cons_succ]
      refine skipL (i := 8) rfl (by kernel_rfl) (by kernel_rfl) (by kernel_rfl) (fun _ _ _ h => h) rfl (by assumption) ?_
      simp only [Act.put, List.setIfInBounds_toArray, List.set_cons_zero, List.set_cons_succ]
      refine skipL (i := 9) rfl (by kernel_rfl) (by kernel_rfl) (by kernel_rfl) (fun _ _ _ h => h) rfl (by assumption) ?_
      simp only [Act.put, List.setIfInBounds_toArray, List.set_cons_zero, List.set_cons_succ]
      refine skipL (i := 10) rfl (by kernel_rfl) (by kernel_rfl) (by kernel_rfl) (fun _ _ _ h => h) rfl (by assumption) ?_
      simp only [Act.put, List.setIfInBounds_toArray, List.set_cons_zero, List.set_cons_succ]
      refine skipL (i := 11) rfl (by kernel_rfl) (by kernel_rfl) (by kernel_rfl) (fun _ _ _ h => h) rfl (by assumption) ?_
      simp only [Act.put, List.setIfInBounds_toArray, List.set_cons_zero, List.set_cons_succ]
      refine skipL (i := 12) rfl (by kernel_rfl) (by kernel_rfl) (by kernel_rfl) (fun _ _ _ h => h) rfl (by assumption) ?_
      simp only [Act.put, List.setIfInBounds_toArray, List.set_cons_zero, List.set_cons_succ]
      refine takeL (i := 13) (v := (.bool false)) rfl (by kernel_rfl) (by kernel_rfl) (by kernel_rfl) (fun _ _ _ h => h) rfl (by assumption) (fun w' hS' => by go_simp) ?_
      simp only [Act.put, List.setIfInBounds_toArray, List.set_cons_zero, List.set_cons_succ]
      refine wpAnyH_done (by kernel_rfl) ?_ _
      simp only [NoPan]
      refine gen_q (fun W2 => OwU base (.slice (some ⟨g, 0, none⟩) n cap) L W2 ∧ Apart g W W2) ⟨g1.out.later ((Below.refl _ _).drew), g2.out.trans (Apart.begin g wr)⟩ ?_
      rintro W2 ⟨o2, a2⟩
      have g3 := Lib.hid o2
      have g4 := Lib.hid a2
      clear o2 a2 hS
      go_wp2
      exact gQ.out _ _ _ _ _ _ _ _ _ _ _ _ _ _ _ _ m _ hm1 hm2 gz.out (fun h => absurd h hc) g3.out g4.out
noncomputable def scanP2B : Code := blockIn 2 Tryd.f55
set_option maxHeartbeats 8000000 in
theorem scanP2 {Q : Exit → Act → World → Prop} (base g n cap a : Nat) (i j0 : Nat) (p : Int) (L : List Int) (W : World) (hn : n ≤ 1000000) (hO0 : OwU base (.slice (some ⟨g, 0, none⟩) n cap) L W) (hl0 : L.length = n) (hp0 : L.getD a 0 = p) (han : a < n) (hj : j0 < n) (hi : i ≤ j0 + 1) (hi1 : 0 < i) (t2 t3 t4 t5 t6 t7 t8 t9 t12 t13 t14 t15 t16 t17 t18 t19 t20 t21 t22 t23 t24 t25 t26 t27 t28 t29 t30 t31 t32 t33 t34 t35 t36 t37 t38 t39 t40 t41 t42 t43 t44 t45 t46 t47 t48 t49 t50 t51 t52 t53 t54 t55 t56 t57 t58 t59 t60 t61 t62 t63 t64 t65 t66 t67 t68 t69 t70 t71 t72 t73 t74 t75 t76 t77 t78 t79 t80 t81 t82 t83 t84 t85 t86 t87 t88 t89 t90 t91 t92 t93 t94 t95 t96 t97 t98 t99 t100 t101 t102 t103 t104 t105 t106 t107 t108 t109 t110 t111 t112 t113 t114 t115 t116 t117 t118 t119 t120 t121 t122 t123 t124 t125 t126 t127 t128 t129 t130 t131 t132 t133 t134 t135 t136 t137 t138 t139 t140 t141 t142 t143 t144 t145 t146 t147 t148 t149 t150 t151 t152 t153 t154 t155 t156 t157 t158 t159 t160 t161 t162 t163 t164 t165 t166 t167 : Value) (hQ : ∀ (x46 x47 x48 x49 x50 x51 x52 x53 x54 x55 x56 x57 x58 x59 x60 x61 x62 : Value) (m : Nat) (w' : World), m ≤ j0 → i ≤ m + 1 → (∀ z, m < z → z ≤ j0 → p ≤ L.getD z 0) → (i ≤ m → L.getD m 0 < p) → OwU base (.slice (some ⟨g, 0, none⟩) n cap) L w' → Apart g W w' → Q .normal { tmps := #[.slice (some ⟨g, 0, none⟩) n cap, .int .i64 (a : Int), t2, t3, t4, t5, t6, t7, t8, t9, .int .i64 (i : Int), .int .i64 (m : Int), t12, t13, t14, t15, t16, t17, t18, t19, t20, t21, t22, t23, t24, t25, t26, t27, t28, t29, t30, t31, t32, t33, t34, t35, t36, t37, t38, t39, t40, t41, t42, t43, t44, t45, x46, x47, x48, x49, x50, x51, x52, x53, x54, x55, x56, x57, x58, x59, x60, x61, x62, t63, t64, t65, t66, t67, t68, t69, t70, t71, t72, t73, t74, t75, t76, t77, t78, t79, t80, t81, t82, t83, t84, t85, t86, t87, t88, t89, t90, t91, t92, t93, t94, t95, t96, t97, t98, t99, t100, t101, t102, t103, t104, t105, t106, t107, t108, t109, t110, t111, t112, t113, t114, t115, t116, t117, t118, t119, t120, t121, t122, t123, t124, t125, t126, t127, t128, t129, t130, t131, t132, t133, t134, t135, t136, t137, t138, t139, t140, t141, t142, t143, t144, t145, t146, t147, t148, t149, t150, t151, t152, t153, t154, t155, t156, t157, t158, t159, t160, t161, t162, t163, t164, t165, t166, t167], defers := [] } w') : scanP2B.wp Tryd.prog (Exit.inBlock 2 Q) { tmps := #[.slice (some ⟨g, 0, none⟩) n cap, .int .i64 (a : Int), t2, t3, t4, t5, t6, t7, t8, t9, .int .i64 (i : Int), .int .i64 (j0 : Int), t12, t13, t14, t15, t16, t17, t18, t19, t20, t21, t22, t23, t24, t25, t26, t27, t28, t29, t30, t31, t32, t33, t34, t35, t36, t37, t38, t39, t40, t41, t42, t43, t44, t45, t46, t47, t48, t49, t50, t51, t52, t53, t54, t55, t56, t57, t58, t59, t60, t61, t62, t63, t64, t65, t66, t67, t68, t69, t70, t71, t72, t73, t74, t75, t76, t77, t78, t79, t80, t81, t82, t83, t84, t85, t86, t87, t88, t89, t90, t91, t92, t93, t94, t95, t96, t97, t98, t99, t100, t101, t102, t103, t104, t105, t106, t107, t108, t109, t110, t111, t112, t113, t114, t115, t116, t117, t118, t119, t120, t121, t122, t123, t124, t125, t126, t127, t128, t129, t130, t131, t132, t133, t134, t135, t136, t137, t138, t139, t140, t141, t142, t143, t144, t145, t146, t147, t148, t149, t150, t151, t152, t153, t154, t155, t156, t157, t158, t159, t160, t161, t162, t163, t164, t165, t166, t167], defers := [] } W := by
  have hO := Lib.hid hO0
  have hl := Lib.hid hl0
  have hp := Lib.hid hp0
  have gQ := Lib.hid hQ
  clear hO0 hl0 hp0 hQ
  simp only [scanP2B, blockIn, blockOf, Tryd.f55, reduceIte, Nat.reduceEqDiff]
  go_loopw [11] (fun v wr => ∃ m : Nat, m ≤ j0 ∧ i ≤ m + 1 ∧ v = .int .i64 (m : Int) ∧ (∀ z, m < z → z ≤ j0 → p ≤ L.getD z 0) ∧ OwU base (.slice (some ⟨g, 0, none⟩) n cap) L wr ∧ Apart g W wr) (fun v _ => (intOf v).toNat)
  case atStart => exact ⟨j0, Nat.le_refl _, hi, rfl, fun z h1 h2 => by omega, hO.out, Apart.refl _ _⟩
  case round =>
    obtain ⟨m, hm1, hm2, rfl, hz, hO1, hA1⟩ := hrel
    have gz := Lib.hid hz
    have g1 := Lib.hid hO1
    have g2 := Lib.hid hA1
    clear hz hO1 hA1
    by_cases hc : i ≤ m
    · have lc : decide ((i : Int) ≤ (m : Int)) = true := by simp; omega
      have hmn : m < n := by omega
      obtain ⟨m1, hm3⟩ : ∃ m1, m1 + 1 = m := ⟨m - 1, by omega⟩
      have wm : IntKind.i64.wrap ((m : Int) - 1) = (m1 : Int) := by rw [IntKind.wrap_i64]; omega
      have gm3 := Lib.hid hm3
      clear hm3
      have cm := g1.out.cell m (by rw [hl.out]; exact hmn)
      have ca := g1.out.cell a (by rw [hl.out]; exact han)
      rw [hp.out] at ca
      obtain ⟨x, hx⟩ : ∃ x, x = L.getD m 0 := ⟨_, rfl⟩
      rw [← hx] at cm
      have gx := Lib.hid hx
      have gm := Lib.hid cm
      have ga := Lib.hid ca
      clear cm ca hx
      go_wp2
      refine wp_nopan ?_
      refine wp_region_held (S := fun w' => w'.cell? ⟨g, m, none⟩ = some (.int .u64 x) ∧ w'.cell? ⟨g, a, none⟩ = some (.int .u64 p)) (by kernel_rfl) ?_
      have hS : ({ wr with drawn := wr.drawn + 1 } : World).cell? ⟨g, m, none⟩ = some (.int .u64 x) ∧ ({ wr with drawn := wr.drawn + 1 } : World).cell? ⟨g, a, none⟩ = some (.int .u64 p) := ⟨gm.out, ga.out⟩
      refine takeL (i := 0) (v := (.int .i64 (i : Int))) rfl (by kernel_rfl) (by kernel_rfl) (by kernel_rfl) (fun _ _ _ h => h) rfl (by assumption) (fun w' hS' => by go_simp) ?_
      simp only [Act.put, List.setIfInBounds_toArray, List.set_cons_zero, List.set_cons_succ]
      refine takeL (i := 1) (v := (.int .i64 (m : Int))) rfl (by kernel_rfl) (by kernel_rfl) (by kernel_rfl) (fun _ _ _ h => h) rfl (by assumption) (fun w' hS' => by go_simp) ?_
      simp only [Act.put, List.setIfInBounds_toArray, List.set_cons_zero, List.set_cons_succ]
      refine takeL (i := 2) (v := (.bool true)) rfl (by kernel_rfl) (by kernel_rfl) (by kernel_rfl) (fun _ _ _ h => h) rfl (by assumption) (fun w' hS' => by go_simp) ?_
      simp only [Act.put, List.setIfInBounds_toArray, List.set_cons_zero, List.set_cons_succ]
      refine takeL (i := 3) (v := (.bool true)) rfl (by kernel_rfl) (by kernel_rfl) (by kernel_rfl) (fun _ _ _ h => h) rfl (by assumption) (fun w' hS' => by go_simp) ?_
      simp only [Act.put, List.setIfInBounds_toArray, List.set_cons_zero, List.set_cons_succ]
      refine takeL (i := 4) (v := (.slice (some ⟨g, 0, none⟩) n cap)) rfl (by kernel_rfl) (by kernel_rfl) (by kernel_rfl) (fun _ _ _ h => h) rfl (by assumption) (fun w' hS' => by go_simp) ?_
      simp only [Act.put, List.setIfInBounds_toArray, List.set_cons_zero, List.set_cons_succ]
      refine takeL (i := 5) (v := (.int .i64 (m : Int))) rfl (by kernel_rfl) (by kernel_rfl) (by kernel_rfl) (fun _ _ _ h => h) rfl (by assumption) (fun w' hS' => by go_simp) ?_
      simp only [Act.put, List.setIfInBounds_toArray, List.set_cons_zero, List.set_cons_succ]
      refine takeL (i := 6) (v := (.pointer (some ⟨g, m, none⟩))) rfl (by kernel_rfl) (by kernel_rfl) (by kernel_rfl) (fun _ _ _ h => h) rfl (by assumption) (fun w' hS' => run_index_slice _ 37 22 (.tmp 50) (.tmp 51) rfl Tryd.underlying37 1 sz_u64 g 0 n cap rfl .i64 m rfl hmn m (by omega)) ?_
      simp only [Act.put, List.setIfInBounds_toArray, List.set_cons_zero, List.set_cons_succ]
      refine takeL (i := 7) (v := (.int .u64 x)) rfl (by kernel_rfl) (by kernel_rfl) (by kernel_rfl) (fun _ _ _ h => h) rfl (by assumption) (fun w' hS' => run_load_cell _ 22 (.tmp 52) rfl ⟨g, m, none⟩ rfl _ hS'.1 _ Tryd.underlying22 rfl) ?_
      simp only [Act.put, List.setIfInBounds_toArray, List.set_cons_zero, List.set_cons_succ]
      refine takeL (i := 8) (v := (.slice (some ⟨g, 0, none⟩) n cap)) rfl (by kernel_rfl) (by kernel_rfl) (by kernel_rfl) (fun _ _ _ h => h) rfl (by assumption) (fun w' hS' => by go_simp) ?_
      simp only [Act.put, List.setIfInBounds_toArray, List.set_cons_zero, List.set_cons_succ]
      refine takeL (i := 9) (v := (.int .i64 (a : Int))) rfl (by kernel_rfl) (by kernel_rfl) (by kernel_rfl) (fun _ _ _ h => h) rfl (by assumption) (fun w' hS' => by go_simp) ?_
      simp only [Act.put, List.setIfInBounds_toArray, List.set_cons_zero, List.set_cons_succ]
      refine takeL (i := 10) (v := (.pointer (some ⟨g, a, none⟩))) rfl (by kernel_rfl) (by kernel_rfl) (by kernel_rfl) (fun _ _ _ h => h) rfl (by assumption) (fun w' hS' => run_index_slice _ 37 22 (.tmp 54) (.tmp 55) rfl Tryd.underlying37 1 sz_u64 g 0 n cap rfl .i64 a rfl han a (by omega)) ?_
      simp only [Act.put, List.setIfInBounds_toArray, List.set_cons_zero, List.set_cons_succ]
      refine takeL (i := 11) (v := (.int .u64 p)) rfl (by kernel_rfl) (by kernel_rfl) (by kernel_rfl) (fun _ _ _ h => h) rfl (by assumption) (fun w' hS' => run_load_cell _ 22 (.tmp 56) rfl ⟨g, a, none⟩ rfl _ hS'.2 _ Tryd.underlying22 rfl) ?_
      simp only [Act.put, List.setIfInBounds_toArray, List.set_cons_zero, List.set_cons_succ]
      refine oneL (i := 12) rfl (by kernel_rfl) rfl (wp_call 53 #[.int .u64 x, .int .u64 p] (by go_simp) _ _ (less_any x p _) ?_)
      rintro W2 rfl
      refine ⟨hS, ?_⟩
      simp only [Act.put, List.setIfInBounds_toArray, List.set_cons_zero, List.set_cons_succ]
      obtain ⟨bb, hbb⟩ : ∃ bb, bb = decide (x < p) := ⟨_, rfl⟩
      rw [← hbb]
      have gbb := Lib.hid hbb
      clear hbb
      refine takeL (i := 13) (v := (.bool (!bb))) rfl (by kernel_rfl) (by kernel_rfl) (by kernel_rfl) (fun _ _ _ h => h) rfl (by assumption) (fun w' hS' => by go_simp) ?_
      simp only [Act.put, List.setIfInBounds_toArray, List.set_cons_zero, List.set_cons_succ]
      refine takeL (i := 14) (v := (.bool (!bb))) rfl (by kernel_rfl) (by kernel_rfl) (by kernel_rfl) (fun _ _ _ h => h) rfl (by assumption) (fun w' hS' => by go_simp) ?_
      simp only [Act.put, List.setIfInBounds_toArray, List.set_cons_zero, List.set_cons_succ]
      refine wpAnyH_done (by kernel_rfl) ?_ _
      simp only [NoPan]
      clear hS
      refine gen_q (fun W2 => OwU base (.slice (some ⟨g, 0, none⟩) n cap) L W2 ∧ Apart g W W2) ⟨g1.out.later ((Below.refl _ _).drew), g2.out.trans (Apart.begin g wr)⟩ ?_
      rintro W2 ⟨o2, a2⟩
      have g3 := Lib.hid o2
      have g4 := Lib.hid a2
      clear o2 a2
      cases bb with
      | true =>
        have ht : x < p := by simpa using gbb.out
        rw [gx.out] at ht
        have gt := Lib.hid ht
        clear ht
        go_wp2
        exact gQ.out _ _ _ _ _ _ _ _ _ _ _ _ _ _ _ _ _ m _ hm1 hm2 gz.out (fun _ => gt.out) g3.out g4.out
      | false =>
        have ht : p ≤ x := by simpa using gbb.out
        rw [gx.out] at ht
        have gt := Lib.hid ht
        clear ht
        go_wp2
        exact ⟨⟨m1, by have := gm3.out; omega, by have := gm3.out; omega, by go_num, fun z h1 h2 => by
          have := gm3.out
          by_cases e : z = m
          · rw [e]; exact gt.out
          · exact gz.out z (by omega) h2, g3.out, g4.out⟩, by have := gm3.out; simp [intOf]; omega⟩
    · have lc : decide ((i : Int) ≤ (m : Int)) = false := by simp; omega
      go_wp2
      refine wp_nopan ?_
      refine wp_region_held (S := fun _ => True) (by kernel_rfl) ?_
      have hS : True := trivial
      refine takeL (i := 0) (v := (.int .i64 (i : Int))) rfl (by kernel_rfl) (by kernel_rfl) (by kernel_rfl) (fun _ _ _ h => h) rfl (by assumption) (fun w' hS' => by go_simp) ?_
      simp only [Act.put, List.setIfInBounds_toArray, List.set_cons_zero, List.set_cons_succ]
      refine takeL (i := 1) (v := (.int .i64 (m : Int))) rfl (by kernel_rfl) (by kernel_rfl) (by kernel_rfl) (fun _ _ _ h => h) rfl (by assumption) (fun w' hS' => by go_simp) ?_
      simp only [Act.put, List.setIfInBounds_toArray, List.set_cons_zero, List.set_cons_succ]
      refine takeL (i := 2) (v := (.bool false)) rfl (by kernel_rfl) (by kernel_rfl) (by kernel_rfl) (fun _ _ _ h => h) rfl (by assumption) (fun w' hS' => by go_simp) ?_
      simp only [Act.put, List.setIfInBounds_toArray, List.set_cons_zero, List.set_cons_succ]
      refine takeL (i := 3) (v := (.bool false)) rfl (by kernel_rfl) (by kernel_rfl) (by kernel_rfl) (fun _ _ _ h => h) rfl (by assumption) (fun w' hS' => by go_simp) ?_
      simp only [Act.put, List.setIfInBounds_toArray, List.set_cons_zero, List.set_cons_succ]
      refine skipL (i := 4) rfl (by kernel_rfl) (by kernel_rfl) (by kernel_rfl) (fun _ _ _ h => h) rfl (by assumption) ?_
      simp only [Act.put, List.setIfInBounds_toArray, List.set_cons_zero, List.set_cons_succ]
      refine skipL (i := 5) rfl (by kernel_rfl) (by kernel_rfl) (by kernel_rfl) (fun _ _ _ h => h) rfl (by assumption) ?_
      simp only [Act.put, List.setIfInBounds_toArray, List.set_cons_zero, List.set_cons_succ]
      refine skipL (i := 6) rfl (by kernel_rfl) (by kernel_rfl) (by kernel_rfl) (fun _ _ _ h => h) rfl (by assumption) ?_
      simp only [Act.put, List.setIfInBounds_toArray, List.set_cons_zero, List.set_cons_succ]
      refine skipL (i := 7) rfl (by kernel_rfl) (by kernel_rfl) (by kernel_rfl) (fun _ _ _ h => h) rfl (by assumption) ?_
      simp only [Act.put, List.setIfInBounds_toArray, List.set_cons_zero, List.set_cons_succ]
      refine skipL (i := 8) rfl (by kernel_rfl) (by kernel_rfl) (by kernel_rfl) (fun _ _ _ h => h) rfl (by assumption) ?_
      simp only [Act.put, List.setIfInBounds_toArray, List.set_cons_zero, List.set_cons_succ]
      refine skipL (i := 9) rfl (by kernel_rfl) (by kernel_rfl) (by kernel_rfl) (fun _ _ _ h => h) rfl (by assumption) ?_
      simp only [Act.put, List.setIfInBounds_toArray, List.set_cons_zero, List.set_cons_succ]
      refine skipL (i := 10) rfl (by kernel_rfl) (by kernel_rfl) (by kernel_rfl) (fun _ _ _ h => h) rfl (by assumption) ?_
      simp only [Act.put, List.setIfInBounds_toArray, List.set_cons_zero, List.set_cons_succ]
      refine skipL (i := 11) rfl (by kernel_rfl) (by kernel_rfl) (by kernel_rfl) (fun _ _ _ h => h) rfl (by assumption) ?_
      simp only [Act.put, List.setIfInBounds_toArray, List.set_cons_zero, List.set_cons_succ]
      refine skipL (i := 12) rfl (by kernel_rfl) (by kernel_rfl) (by kernel_rfl) (fun _ _ _ h => h) rfl (by assumption) ?_
      simp only [Act.put, List.setIfInBounds_toArray, List.set_cons_zero, List.set_cons_succ]
      refine skipL (i := 13) rfl (by kernel_rfl) (by kernel_rfl) (by kernel_rfl) (fun _ _ _ h => h) rfl (by assumption) ?_
      simp only [Act.put, List.setIfInBounds_toArray, List.set_cons_zero, List.set_cons_succ]
      refine takeL (i := 14) (v := (.bool false)) rfl (by kernel_rfl) (by kernel_rfl) (by kernel_rfl) (fun _ _ _ h => h) rfl (by assumption) (fun w' hS' => by go_simp) ?_
      simp only [Act.put, List.setIfInBounds_toArray, List.set_cons_zero, List.set_cons_succ]
      refine wpAnyH_done (by kernel_rfl) ?_ _
      simp only [NoPan]
      refine gen_q (fun W2 => OwU base (.slice (some ⟨g, 0, none⟩) n cap) L W2 ∧ Apart g W W2) ⟨g1.out.later ((Below.refl _ _).drew), g2.out.trans (Apart.begin g wr)⟩ ?_
      rintro W2 ⟨o2, a2⟩
      have g3 := Lib.hid o2
      have g4 := Lib.hid a2
      clear o2 a2 hS
      go_wp2
      exact gQ.out _ _ _ _ _ _ _ _ _ _ _ _ _ _ _ _ _ m _ hm1 hm2 gz.out (fun h => absurd h hc) g3.out g4.out
noncomputable def scanP6B : Code := blockIn 6 Tryd.f55
set_option maxHeartbeats 8000000 in
theorem scanP6 {Q : Exit → Act → World → Prop} (base g n cap a : Nat) (i0 j : Nat) (p : Int) (L : List Int) (W : World) (hn : n ≤ 1000000) (hO0 : OwU base (.slice (some ⟨g, 0, none⟩) n cap) L W) (hl0 : L.length = n) (hp0 : L.getD a 0 = p) (han : a < n) (hj : j < n) (hi : i0 ≤ j + 1) (t2 t3 t4 t5 t6 t7 t8 t9 t12 t13 t14 t15 t16 t17 t18 t19 t20 t21 t22 t23 t24 t25 t26 t27 t28 t29 t30 t31 t32 t33 t34 t35 t36 t37 t38 t39 t40 t41 t42 t43 t44 t45 t46 t47 t48 t49 t50 t51 t52 t53 t54 t55 t56 t57 t58 t59 t60 t61 t62 t63 t64 t65 t66 t67 t68 t69 t70 t71 t72 t73 t74 t75 t76 t77 t78 t79 t80 t81 t82 t83 t84 t85 t86 t87 t88 t89 t90 t91 t92 t93 t94 t95 t96 t97 t98 t99 t100 t101 t102 t103 t104 t105 t106 t107 t108 t109 t110 t111 t112 t113 t114 t115 t116 t117 t118 t119 t120 t121 t122 t123 t124 t125 t126 t127 t128 t129 t130 t131 t132 t133 t134 t135 t136 t137 t138 t139 t140 t141 t142 t143 t144 t145 t146 t147 t148 t149 t150 t151 t152 t153 t154 t155 t156 t157 t158 t159 t160 t161 t162 t163 t164 t165 t166 t167 : Value) (hQ : ∀ (x99 x100 x101 x102 x103 x104 x105 x106 x107 x108 x109 x110 x111 x112 x113 x114 : Value) (m : Nat) (w' : World), i0 ≤ m → m ≤ j + 1 → (∀ z, i0 ≤ z → z < m → L.getD z 0 < p) → (m ≤ j → p ≤ L.getD m 0) → OwU base (.slice (some ⟨g, 0, none⟩) n cap) L w' → Apart g W w' → Q .normal { tmps := #[.slice (some ⟨g, 0, none⟩) n cap, .int .i64 (a : Int), t2, t3, t4, t5, t6, t7, t8, t9, .int .i64 (m : Int), .int .i64 (j : Int), t12, t13, t14, t15, t16, t17, t18, t19, t20, t21, t22, t23, t24, t25, t26, t27, t28, t29, t30, t31, t32, t33, t34, t35, t36, t37, t38, t39, t40, t41, t42, t43, t44, t45, t46, t47, t48, t49, t50, t51, t52, t53, t54, t55, t56, t57, t58, t59, t60, t61, t62, t63, t64, t65, t66, t67, t68, t69, t70, t71, t72, t73, t74, t75, t76, t77, t78, t79, t80, t81, t82, t83, t84, t85, t86, t87, t88, t89, t90, t91, t92, t93, t94, t95, t96, t97, t98, x99, x100, x101, x102, x103, x104, x105, x106, x107, x108, x109, x110, x111, x112, x113, x114, t115, t116, t117, t118, t119, t120, t121, t122, t123, t124, t125, t126, t127, t128, t129, t130, t131, t132, t133, t134, t135, t136, t137, t138, t139, t140, t141, t142, t143, t144, t145, t146, t147, t148, t149, t150, t151, t152, t153, t154, t155, t156, t157, t158, t159, t160, t161, t162, t163, t164, t165, t166, t167], defers := [] } w') : scanP6B.wp Tryd.prog (Exit.inBlock 6 Q) { tmps := #[.slice (some ⟨g, 0, none⟩) n cap, .int .i64 (a : Int), t2, t3, t4, t5, t6, t7, t8, t9, .int .i64 (i0 : Int), .int .i64 (j : Int), t12, t13, t14, t15, t16, t17, t18, t19, t20, t21, t22, t23, t24, t25, t26, t27, t28, t29, t30, t31, t32, t33, t34, t35, t36, t37, t38, t39, t40, t41, t42, t43, t44, t45, t46, t47, t48, t49, t50, t51, t52, t53, t54, t55, t56, t57, t58, t59, t60, t61, t62, t63, t64, t65, t66, t67, t68, t69, t70, t71, t72, t73, t74, t75, t76, t77, t78, t79, t80, t81, t82, t83, t84, t85, t86, t87, t88, t89, t90, t91, t92, t93, t94, t95, t96, t97, t98, t99, t100, t101, t102, t103, t104, t105, t106, t107, t108, t109, t110, t111, t112, t113, t114, t115, t116, t117, t118, t119, t120, t121, t122, t123, t124, t125, t126, t127, t128, t129, t130, t131, t132, t133, t134, t135, t136, t137, t138, t139, t140, t141, t142, t143, t144, t145, t146, t147, t148, t149, t150, t151, t152, t153, t154, t155, t156, t157, t158, t159, t160, t161, t162, t163, t164, t165, t166, t167], defers := [] } W := by
  have hO := Lib.hid hO0
  have hl := Lib.hid hl0
  have hp := Lib.hid hp0
  have gQ := Lib.hid hQ
  clear hO0 hl0 hp0 hQ
  simp only [scanP6B, blockIn, blockOf, Tryd.f55, reduceIte, Nat.reduceEqDiff]
  go_loopw [10] (fun v wr => ∃ m : Nat, i0 ≤ m ∧ m ≤ j + 1 ∧ v = .int .i64 (m : Int) ∧ (∀ z, i0 ≤ z → z < m → L.getD z 0 < p) ∧ OwU base (.slice (some ⟨g, 0, none⟩) n cap) L wr ∧ Apart g W wr) (fun v _ => j + 1 - (intOf v).toNat)
  case atStart => exact ⟨i0, Nat.le_refl _, hi, rfl, fun z h1 h2 => by omega, hO.out, Apart.refl _ _⟩
  case round =>
    obtain ⟨m, hm1, hm2, rfl, hz, hO1, hA1⟩ := hrel
    have gz := Lib.hid hz
    have g1 := Lib.hid hO1
    have g2 := Lib.hid hA1
    clear hz hO1 hA1
    by_cases hc : m ≤ j
    · have lc : decide ((m : Int) ≤ (j : Int)) = true := by simp; omega
      have hmn : m < n := by omega
      have wm : IntKind.i64.wrap ((m : Int) + 1) = ((m + 1 : Nat) : Int) := by rw [IntKind.wrap_i64]; omega
      have cm := g1.out.cell m (by rw [hl.out]; exact hmn)
      have ca := g1.out.cell a (by rw [hl.out]; exact han)
      rw [hp.out] at ca
      obtain ⟨x, hx⟩ : ∃ x, x = L.getD m 0 := ⟨_, rfl⟩
      rw [← hx] at cm
      have gx := Lib.hid hx
      have gm := Lib.hid cm
      have ga := Lib.hid ca
      clear cm ca hx
      go_wp2
      refine wp_nopan ?_
      refine wp_region_held (S := fun w' => w'.cell? ⟨g, m, none⟩ = some (.int .u64 x) ∧ w'.cell? ⟨g, a, none⟩ = some (.int .u64 p)) (by kernel_rfl) ?_
      have hS : ({ wr with drawn := wr.drawn + 1 } : World).cell? ⟨g, m, none⟩ = some (.int .u64 x) ∧ ({ wr with drawn := wr.drawn + 1 } : World).cell? ⟨g, a, none⟩ = some (.int .u64 p) := ⟨gm.out, ga.out⟩
      refine takeL (i := 0) (v := (.int .i64 (m : Int))) rfl (by kernel_rfl) (by kernel_rfl) (by kernel_rfl) (fun _ _ _ h => h) rfl (by assumption) (fun w' hS' => by go_simp) ?_
      simp only [Act.put, List.setIfInBounds_toArray, List.set_cons_zero, List.set_cons_succ]
      refine takeL (i := 1) (v := (.int .i64 (j : Int))) rfl (by kernel_rfl) (by kernel_rfl) (by kernel_rfl) (fun _ _ _ h => h) rfl (by assumption) (fun w' hS' => by go_simp) ?_
      simp only [Act.put, List.setIfInBounds_toArray, List.set_cons_zero, List.set_cons_succ]
      refine takeL (i := 2) (v := (.bool true)) rfl (by kernel_rfl) (by kernel_rfl) (by kernel_rfl) (fun _ _ _ h => h) rfl (by assumption) (fun w' hS' => by go_simp) ?_
      simp only [Act.put, List.setIfInBounds_toArray, List.set_cons_zero, List.set_cons_succ]
      refine takeL (i := 3) (v := (.bool true)) rfl (by kernel_rfl) (by kernel_rfl) (by kernel_rfl) (fun _ _ _ h => h) rfl (by assumption) (fun w' hS' => by go_simp) ?_
      simp only [Act.put, List.setIfInBounds_toArray, List.set_cons_zero, List.set_cons_succ]
      refine takeL (i := 4) (v := (.slice (some ⟨g, 0, none⟩) n cap)) rfl (by kernel_rfl) (by kernel_rfl) (by kernel_rfl) (fun _ _ _ h => h) rfl (by assumption) (fun w' hS' => by go_simp) ?_
      simp only [Act.put, List.setIfInBounds_toArray, List.set_cons_zero, List.set_cons_succ]
      refine takeL (i := 5) (v := (.int .i64 (m : Int))) rfl (by kernel_rfl) (by kernel_rfl) (by kernel_rfl) (fun _ _ _ h => h) rfl (by assumption) (fun w' hS' => by go_simp) ?_
      simp only [Act.put, List.setIfInBounds_toArray, List.set_cons_zero, List.set_cons_succ]
      refine takeL (i := 6) (v := (.pointer (some ⟨g, m, none⟩))) rfl (by kernel_rfl) (by kernel_rfl) (by kernel_rfl) (fun _ _ _ h => h) rfl (by assumption) (fun w' hS' => run_index_slice _ 37 22 (.tmp 103) (.tmp 104) rfl Tryd.underlying37 1 sz_u64 g 0 n cap rfl .i64 m rfl hmn m (by omega)) ?_
      simp only [Act.put, List.setIfInBounds_toArray, List.set_cons_zero, List.set_cons_succ]
      refine takeL (i := 7) (v := (.int .u64 x)) rfl (by kernel_rfl) (by kernel_rfl) (by kernel_rfl) (fun _ _ _ h => h) rfl (by assumption) (fun w' hS' => run_load_cell _ 22 (.tmp 105) rfl ⟨g, m, none⟩ rfl _ hS'.1 _ Tryd.underlying22 rfl) ?_
      simp only [Act.put, List.setIfInBounds_toArray, List.set_cons_zero, List.set_cons_succ]
      refine takeL (i := 8) (v := (.slice (some ⟨g, 0, none⟩) n cap)) rfl (by kernel_rfl) (by kernel_rfl) (by kernel_rfl) (fun _ _ _ h => h) rfl (by assumption) (fun w' hS' => by go_simp) ?_
      simp only [Act.put, List.setIfInBounds_toArray, List.set_cons_zero, List.set_cons_succ]
      refine takeL (i := 9) (v := (.int .i64 (a : Int))) rfl (by kernel_rfl) (by kernel_rfl) (by kernel_rfl) (fun _ _ _ h => h) rfl (by assumption) (fun w' hS' => by go_simp) ?_
      simp only [Act.put, List.setIfInBounds_toArray, List.set_cons_zero, List.set_cons_succ]
      refine takeL (i := 10) (v := (.pointer (some ⟨g, a, none⟩))) rfl (by kernel_rfl) (by kernel_rfl) (by kernel_rfl) (fun _ _ _ h => h) rfl (by assumption) (fun w' hS' => run_index_slice _ 37 22 (.tmp 107) (.tmp 108) rfl Tryd.underlying37 1 sz_u64 g 0 n cap rfl .i64 a rfl han a (by omega)) ?_
      simp only [Act.put, List.setIfInBounds_toArray, List.set_cons_zero, List.set_cons_succ]
      refine takeL (i := 11) (v := (.int .u64 p)) rfl (by kernel_rfl) (by kernel_rfl) (by kernel_rfl) (fun _ _ _ h => h) rfl (by assumption) (fun w' hS' => run_load_cell _ 22 (.tmp 109) rfl ⟨g, a, none⟩ rfl _ hS'.2 _ Tryd.underlying22 rfl) ?_
      simp only [Act.put, List.setIfInBounds_toArray, List.set_cons_zero, List.set_cons_succ]
      refine oneL (i := 12) rfl (by kernel_rfl) rfl (wp_call 53 #[.int .u64 x, .int .u64 p] (by go_simp) _ _ (less_any x p _) ?_)
      rintro W2 rfl
      refine ⟨hS, ?_⟩
      simp only [Act.put, List.setIfInBounds_toArray, List.set_cons_zero, List.set_cons_succ]
      obtain ⟨bb, hbb⟩ : ∃ bb, bb = decide (x < p) := ⟨_, rfl⟩
      rw [← hbb]
      have gbb := Lib.hid hbb
      clear hbb
      refine takeL (i := 13) (v := (.bool bb)) rfl (by kernel_rfl) (by kernel_rfl) (by kernel_rfl) (fun _ _ _ h => h) rfl (by assumption) (fun w' hS' => by go_simp) ?_
      simp only [Act.put, List.setIfInBounds_toArray, List.set_cons_zero, List.set_cons_succ]
      refine wpAnyH_done (by kernel_rfl) ?_ _
      simp only [NoPan]
      clear hS
      refine gen_q (fun W2 => OwU base (.slice (some ⟨g, 0, none⟩) n cap) L W2 ∧ Apart g W W2) ⟨g1.out.later ((Below.refl _ _).drew), g2.out.trans (Apart.begin g wr)⟩ ?_
      rintro W2 ⟨o2, a2⟩
      have g3 := Lib.hid o2
      have g4 := Lib.hid a2
      clear o2 a2
      cases bb with
      | true =>
        have ht : x < p := by simpa using gbb.out
        rw [gx.out] at ht
        have gt := Lib.hid ht
        clear ht
        go_wp2
        exact ⟨⟨m + 1, by omega, by omega, by go_num, fun z h1 h2 => by
          by_cases e : z = m
          · rw [e]; exact gt.out
          · exact gz.out z h1 (by omega), g3.out, g4.out⟩, by simp [intOf]; omega⟩
      | false =>
        have ht : p ≤ x := by simpa using gbb.out
        rw [gx.out] at ht
        have gt := Lib.hid ht
        clear ht
        go_wp2
        exact gQ.out _ _ _ _ _ _ _ _ _ _ _ _ _ _ _ _ m _ hm1 hm2 gz.out (fun _ => gt.out) g3.out g4.out
    · have lc : decide ((m : Int) ≤ (j : Int)) = false := by simp; omega
      go_wp2
      refine wp_nopan ?_
      refine wp_region_held (S := fun _ => True) (by kernel_rfl) ?_
      have hS : True := trivial
      refine takeL (i := 0) (v := (.int .i64 (m : Int))) rfl (by kernel_rfl) (by kernel_rfl) (by kernel_rfl) (fun _ _ _ h => h) rfl (by assumption) (fun w' hS' => by go_simp) ?_
      simp only [Act.put, List.setIfInBounds_toArray, List.set_cons_zero, List.set_cons_succ]
      refine takeL (i := 1) (v := (.int .i64 (j : Int))) rfl (by kernel_rfl) (by kernel_rfl) (by kernel_rfl) (fun _ _ _ h => h) rfl (by assumption) (fun w' hS' => by go_simp) ?_
      simp only [Act.put, List.setIfInBounds_toArray, List.set_cons_zero, List.set_cons_succ]
      refine takeL (i := 2) (v := (.bool false)) rfl (by kernel_rfl) (by kernel_rfl) (by kernel_rfl) (fun _ _ _ h => h) rfl (by assumption) (fun w' hS' => by go_simp) ?_
      simp only [Act.put, List.setIfInBounds_toArray, List.set_cons_zero, List.set_cons_succ]
      refine takeL (i := 3) (v := (.bool false)) rfl (by kernel_rfl) (by kernel_rfl) (by kernel_rfl) (fun _ _ _ h => h) rfl (by assumption) (fun w' hS' => by go_simp) ?_
      simp only [Act.put, List.setIfInBounds_toArray, List.set_cons_zero, List.set_cons_succ]
      refine skipL (i := 4) rfl (by kernel_rfl) (by kernel_rfl) (by kernel_rfl) (fun _ _ _ h => h) rfl (by assumption) ?_
      simp only [Act.put, List.setIfInBounds_toArray, List.set_cons_zero, List.set_cons_succ]
      refine skipL (i := 5) rfl (by kernel_rfl) (by kernel_rfl) (by kernel_rfl) (fun _ _ _ h => h) rfl (by assumption) ?_
      simp only [Act.put, List.setIfInBounds_toArray, List.set_cons_zero, List.set_cons_succ]
      refine skipL (i := 6) rfl (by kernel_rfl) (by kernel_rfl) (by kernel_rfl) (fun _ _ _ h => h) rfl (by assumption) ?_
      simp only [Act.put, List.setIfInBounds_toArray, List.set_cons_zero, List.set_cons_succ]
      refine skipL (i := 7) rfl (by kernel_rfl) (by kernel_rfl) (by kernel_rfl) (fun _ _ _ h => h) rfl (by assumption) ?_
      simp only [Act.put, List.setIfInBounds_toArray, List.set_cons_zero, List.set_cons_succ]
      refine skipL (i := 8) rfl (by kernel_rfl) (by kernel_rfl) (by kernel_rfl) (fun _ _ _ h => h) rfl (by assumption) ?_
      simp only [Act.put, List.setIfInBounds_toArray, List.set_cons_zero, List.set_cons_succ]
      refine skipL (i := 9) rfl (by kernel_rfl) (by kernel_rfl) (by kernel_rfl) (fun _ _ _ h => h) rfl (by assumption) ?_
      simp only [Act.put, List.setIfInBounds_toArray, List.set_cons_zero, List.set_cons_succ]
      refine skipL (i := 10) rfl (by kernel_rfl) (by kernel_rfl) (by kernel_rfl) (fun _ _ _ h => h) rfl (by assumption) ?_
      simp only [Act.put, List.setIfInBounds_toArray, List.set_cons_zero, List.set_cons_succ]
      refine skipL (i := 11) rfl (by kernel_rfl) (by kernel_rfl) (by kernel_rfl) (fun _ _ _ h => h) rfl (by assumption) ?_
      simp only [Act.put, List.setIfInBounds_toArray, List.set_cons_zero, List.set_cons_succ]
      refine skipL (i := 12) rfl (by kernel_rfl) (by kernel_rfl) (by kernel_rfl) (fun _ _ _ h => h) rfl (by assumption) ?_
      simp only [Act.put, List.setIfInBounds_toArray, List.set_cons_zero, List.set_cons_succ]
      refine takeL (i := 13) (v := (.bool false)) rfl (by kernel_rfl) (by kernel_rfl) (by kernel_rfl) (fun _ _ _ h => h) rfl (by assumption) (fun w' hS' => by go_simp) ?_
      simp only [Act.put, List.setIfInBounds_toArray, List.set_cons_zero, List.set_cons_succ]
      refine wpAnyH_done (by kernel_rfl) ?_ _
      simp only [NoPan]
      refine gen_q (fun W2 => OwU base (.slice (some ⟨g, 0, none⟩) n cap) L W2 ∧ Apart g W W2) ⟨g1.out.later ((Below.refl _ _).drew), g2.out.trans (Apart.begin g wr)⟩ ?_
      rintro W2 ⟨o2, a2⟩
      have g3 := Lib.hid o2
      have g4 := Lib.hid a2
      clear o2 a2 hS
      go_wp2
      exact gQ.out _ _ _ _ _ _ _ _ _ _ _ _ _ _ _ _ m _ hm1 hm2 gz.out (fun h => absurd h hc) g3.out g4.out
noncomputable def scanP8B : Code := blockIn 8 Tryd.f55
set_option maxHeartbeats 8000000 in
theorem scanP8 {Q : Exit → Act → World → Prop} (base g n cap a : Nat) (i j0 : Nat) (p : Int) (L : List Int) (W : World) (hn : n ≤ 1000000) (hO0 : OwU base (.slice (some ⟨g, 0, none⟩) n cap) L W) (hl0 : L.length = n) (hp0 : L.getD a 0 = p) (han : a < n) (hj : j0 < n) (hi : i ≤ j0 + 1) (hi1 : 0 < i) (t2 t3 t4 t5 t6 t7 t8 t9 t12 t13 t14 t15 t16 t17 t18 t19 t20 t21 t22 t23 t24 t25 t26 t27 t28 t29 t30 t31 t32 t33 t34 t35 t36 t37 t38 t39 t40 t41 t42 t43 t44 t45 t46 t47 t48 t49 t50 t51 t52 t53 t54 t55 t56 t57 t58 t59 t60 t61 t62 t63 t64 t65 t66 t67 t68 t69 t70 t71 t72 t73 t74 t75 t76 t77 t78 t79 t80 t81 t82 t83 t84 t85 t86 t87 t88 t89 t90 t91 t92 t93 t94 t95 t96 t97 t98 t99 t100 t101 t102 t103 t104 t105 t106 t107 t108 t109 t110 t111 t112 t113 t114 t115 t116 t117 t118 t119 t120 t121 t122 t123 t124 t125 t126 t127 t128 t129 t130 t131 t132 t133 t134 t135 t136 t137 t138 t139 t140 t141 t142 t143 t144 t145 t146 t147 t148 t149 t150 t151 t152 t153 t154 t155 t156 t157 t158 t159 t160 t161 t162 t163 t164 t165 t166 t167 : Value) (hQ : ∀ (x115 x116 x117 x118 x119 x120 x121 x122 x123 x124 x125 x126 x127 x128 x129 x130 x131 : Value) (m : Nat) (w' : World), m ≤ j0 → i ≤ m + 1 → (∀ z, m < z → z ≤ j0 → p ≤ L.getD z 0) → (i ≤ m → L.getD m 0 < p) → OwU base (.slice (some ⟨g, 0, none⟩) n cap) L w' → Apart g W w' → Q .normal { tmps := #[.slice (some ⟨g, 0, none⟩) n cap, .int .i64 (a : Int), t2, t3, t4, t5, t6, t7, t8, t9, .int .i64 (i : Int), .int .i64 (m : Int), t12, t13, t14, t15, t16, t17, t18, t19, t20, t21, t22, t23, t24, t25, t26, t27, t28, t29, t30, t31, t32, t33, t34, t35, t36, t37, t38, t39, t40, t41, t42, t43, t44, t45, t46, t47, t48, t49, t50, t51, t52, t53, t54, t55, t56, t57, t58, t59, t60, t61, t62, t63, t64, t65, t66, t67, t68, t69, t70, t71, t72, t73, t74, t75, t76, t77, t78, t79, t80, t81, t82, t83, t84, t85, t86, t87, t88, t89, t90, t91, t92, t93, t94, t95, t96, t97, t98, t99, t100, t101, t102, t103, t104, t105, t106, t107, t108, t109, t110, t111, t112, t113, t114, x115, x116, x117, x118, x119, x120, x121, x122, x123, x124, x125, x126, x127, x128, x129, x130, x131, t132, t133, t134, t135, t136, t137, t138, t139, t140, t141, t142, t143, t144, t145, t146, t147, t148, t149, t150, t151, t152, t153, t154, t155, t156, t157, t158, t159, t160, t161, t162, t163, t164, t165, t166, t167], defers := [] } w') : scanP8B.wp Tryd.prog (Exit.inBlock 8 Q) { tmps := #[.slice (some ⟨g, 0, none⟩) n cap, .int .i64 (a : Int), t2, t3, t4, t5, t6, t7, t8, t9, .int .i64 (i : Int), .int .i64 (j0 : Int), t12, t13, t14, t15, t16, t17, t18, t19, t20, t21, t22, t23, t24, t25, t26, t27, t28, t29, t30, t31, t32, t33, t34, t35, t36, t37, t38, t39, t40, t41, t42, t43, t44, t45, t46, t47, t48, t49, t50, t51, t52, t53, t54, t55, t56, t57, t58, t59, t60, t61, t62, t63, t64, t65, t66, t67, t68, t69, t70, t71, t72, t73, t74, t75, t76, t77, t78, t79, t80, t81, t82, t83, t84, t85, t86, t87, t88, t89, t90, t91, t92, t93, t94, t95, t96, t97, t98, t99, t100, t101, t102, t103, t104, t105, t106, t107, t108, t109, t110, t111, t112, t113, t114, t115, t116, t117, t118, t119, t120, t121, t122, t123, t124, t125, t126, t127, t128, t129, t130, t131, t132, t133, t134, t135, t136, t137, t138, t139, t140, t141, t142, t143, t144, t145, t146, t147, t148, t149, t150, t151, t152, t153, t154, t155, t156, t157, t158, t159, t160, t161, t162, t163, t164, t165, t166, t167], defers := [] } W := by
  have hO := Lib.hid hO0
  have hl := Lib.hid hl0
  have hp := Lib.hid hp0
  have gQ := Lib.hid hQ
  clear hO0 hl0 hp0 hQ
  simp only [scanP8B, blockIn, blockOf, Tryd.f55, reduceIte, Nat.reduceEqDiff]
  go_loopw [11] (fun v wr => ∃ m : Nat, m ≤ j0 ∧ i ≤ m + 1 ∧ v = .int .i64 (m : Int) ∧ (∀ z, m < z → z ≤ j0 → p ≤ L.getD z 0) ∧ OwU base (.slice (some ⟨g, 0, none⟩) n cap) L wr ∧ Apart g W wr) (fun v _ => (intOf v).toNat)
  case atStart => exact ⟨j0, Nat.le_refl _, hi, rfl, fun z h1 h2 => by omega, hO.out, Apart.refl _ _⟩
  case round =>
    obtain ⟨m, hm1, hm2, rfl, hz, hO1, hA1⟩ := hrel
    have gz := Lib.hid hz
    have g1 := Lib.hid hO1
    have g2 := Lib.hid hA1
    clear hz hO1 hA1
    by_cases hc : i ≤ m
    · have lc : decide ((i : Int) ≤ (m : Int)) = true := by simp; omega
      have hmn : m < n := by omega
      obtain ⟨m1, hm3⟩ : ∃ m1, m1 + 1 = m := ⟨m - 1, by omega⟩
      have wm : IntKind.i64.wrap ((m : Int) - 1) = (m1 : Int) := by rw [IntKind.wrap_i64]; omega
      have gm3 := Lib.hid hm3
      clear hm3
      have cm := g1.out.cell m (by rw [hl.out]; exact hmn)
      have ca := g1.out.cell a (by rw [hl.out]; exact han)
      rw [hp.out] at ca
      obtain ⟨x, hx⟩ : ∃ x, x = L.getD m 0 := ⟨_, rfl⟩
      rw [← hx] at cm
      have gx := Lib.hid hx
      have gm := Lib.hid cm
      have ga := Lib.hid ca
      clear cm ca hx
      go_wp2
      refine wp_nopan ?_
      refine wp_region_held (S := fun w' => w'.cell? ⟨g, m, none⟩ = some (.int .u64 x) ∧ w'.cell? ⟨g, a, none⟩ = some (.int .u64 p)) (by kernel_rfl) ?_
      have hS : ({ wr with drawn := wr.drawn + 1 } : World).cell? ⟨g, m, none⟩ = some (.int .u64 x) ∧ ({ wr with drawn := wr.drawn + 1 } : World).cell? ⟨g, a, none⟩ = some (.int .u64 p) := ⟨gm.out, ga.out⟩
      refine takeL (i := 0) (v := (.int .i64 (i : Int))) rfl (by kernel_rfl) (by kernel_rfl) (by kernel_rfl) (fun _ _ _ h => h) rfl (by assumption) (fun w' hS' => by go_simp) ?_
      simp only [Act.put, List.setIfInBounds_toArray, List.set_cons_zero, List.set_cons_succ]
      refine takeL (i := 1) (v := (.int .i64 (m : Int))) rfl (by kernel_rfl) (by kernel_rfl) (by kernel_rfl) (fun _ _ _ h => h) rfl (by assumption) (fun w' hS' => by go_simp) ?_
      simp only [Act.put, List.setIfInBounds_toArray, List.set_cons_zero, List.set_cons_succ]
      refine takeL (i := 2) (v := (.bool true)) rfl (by kernel_rfl) (by kernel_rfl) (by kernel_rfl) (fun _ _ _ h => h) rfl (by assumption) (fun w' hS' => by go_simp) ?_
      simp only [Act.put, List.setIfInBounds_toArray, List.set_cons_zero, List.set_cons_succ]
      refine takeL (i := 3) (v := (.bool true)) rfl (by kernel_rfl) (by kernel_rfl) (by kernel_rfl) (fun _ _ _ h => h) rfl (by assumption) (fun w' hS' => by go_simp) ?_
      simp only [Act.put, List.setIfInBounds_toArray, List.set_cons_zero, List.set_cons_succ]
      refine takeL (i := 4) (v := (.slice (some ⟨g, 0, none⟩) n cap)) rfl (by kernel_rfl) (by kernel_rfl) (by kernel_rfl) (fun _ _ _ h => h) rfl (by assumption) (fun w' hS' => by go_simp) ?_
      simp only [Act.put, List.setIfInBounds_toArray, List.set_cons_zero, List.set_cons_succ]
      refine takeL (i := 5) (v := (.int .i64 (m : Int))) rfl (by kernel_rfl) (by kernel_rfl) (by kernel_rfl) (fun _ _ _ h => h) rfl (by assumption) (fun w' hS' => by go_simp) ?_
      simp only [Act.put, List.setIfInBounds_toArray, List.set_cons_zero, List.set_cons_succ]
      refine takeL (i := 6) (v := (.pointer (some ⟨g, m, none⟩))) rfl (by kernel_rfl) (by kernel_rfl) (by kernel_rfl) (fun _ _ _ h => h) rfl (by assumption) (fun w' hS' => run_index_slice _ 37 22 (.tmp 119) (.tmp 120) rfl Tryd.underlying37 1 sz_u64 g 0 n cap rfl .i64 m rfl hmn m (by omega)) ?_
      simp only [Act.put, List.setIfInBounds_toArray, List.set_cons_zero, List.set_cons_succ]
      refine takeL (i := 7) (v := (.int .u64 x)) rfl (by kernel_rfl) (by kernel_rfl) (by kernel_rfl) (fun _ _ _ h => h) rfl (by assumption) (fun w' hS' => run_load_cell _ 22 (.tmp 121) rfl ⟨g, m, none⟩ rfl _ hS'.1 _ Tryd.underlying22 rfl) ?_
      simp only [Act.put, List.setIfInBounds_toArray, List.set_cons_zero, List.set_cons_succ]
      refine takeL (i := 8) (v := (.slice (some ⟨g, 0, none⟩) n cap)) rfl (by kernel_rfl) (by kernel_rfl) (by kernel_rfl) (fun _ _ _ h => h) rfl (by assumption) (fun w' hS' => by go_simp) ?_
      simp only [Act.put, List.setIfInBounds_toArray, List.set_cons_zero, List.set_cons_succ]
      refine takeL (i := 9) (v := (.int .i64 (a : Int))) rfl (by kernel_rfl) (by kernel_rfl) (by kernel_rfl) (fun _ _ _ h => h) rfl (by assumption) (fun w' hS' => by go_simp) ?_
      simp only [Act.put, List.setIfInBounds_toArray, List.set_cons_zero, List.set_cons_succ]
      refine takeL (i := 10) (v := (.pointer (some ⟨g, a, none⟩))) rfl (by kernel_rfl) (by kernel_rfl) (by kernel_rfl) (fun _ _ _ h => h) rfl (by assumption) (fun w' hS' => run_index_slice _ 37 22 (.tmp 123) (.tmp 124) rfl Tryd.underlying37 1 sz_u64 g 0 n cap rfl .i64 a rfl han a (by omega)) ?_
      simp only [Act.put, List.setIfInBounds_toArray, List.set_cons_zero, List.set_cons_succ]
      refine takeL (i := 11) (v := (.int .u64 p)) rfl (by kernel_rfl) (by kernel_rfl) (by kernel_rfl) (fun _ _ _ h => h) rfl (by assumption) (fun w' hS' => run_load_cell _ 22 (.tmp 125) rfl ⟨g, a, none⟩ rfl _ hS'.2 _ Tryd.underlying22 rfl) ?_
      simp only [Act.put, List.setIfInBounds_toArray, List.set_cons_zero, List.set_cons_succ]
      refine oneL (i := 12) rfl (by kernel_rfl) rfl (wp_call 53 #[.int .u64 x, .int .u64 p] (by go_simp) _ _ (less_any x p _) ?_)
      rintro W2 rfl
      refine ⟨hS, ?_⟩
      simp only [Act.put, List.setIfInBounds_toArray, List.set_cons_zero, List.set_cons_succ]
      obtain ⟨bb, hbb⟩ : ∃ bb, bb = decide (x < p) := ⟨_, rfl⟩
      rw [← hbb]
      have gbb := Lib.hid hbb
      clear hbb
      refine takeL (i := 13) (v := (.bool (!bb))) rfl (by kernel_rfl) (by kernel_rfl) (by kernel_rfl) (fun _ _ _ h => h) rfl (by assumption) (fun w' hS' => by go_simp) ?_
      simp only [Act.put, List.setIfInBounds_toArray, List.set_cons_zero, List.set_cons_succ]
      refine takeL (i := 14) (v := (.bool (!bb))) rfl (by kernel_rfl) (by kernel_rfl) (by kernel_rfl) (fun _ _ _ h => h) rfl (by assumption) (fun w' hS' => by go_simp) ?_
      simp only [Act.put, List.setIfInBounds_toArray, List.set_cons_zero, List.set_cons_succ]
      refine wpAnyH_done (by kernel_rfl) ?_ _
      simp only [NoPan]
      clear hS
      refine gen_q (fun W2 => OwU base (.slice (some ⟨g, 0, none⟩) n cap) L W2 ∧ Apart g W W2) ⟨g1.out.later ((Below.refl _ _).drew), g2.out.trans (Apart.begin g wr)⟩ ?_
      rintro W2 ⟨o2, a2⟩
      have g3 := Lib.hid o2
      have g4 := Lib.hid a2
      clear o2 a2
      cases bb with
      | true =>
        have ht : x < p := by simpa using gbb.out
        rw [gx.out] at ht
        have gt := Lib.hid ht
        clear ht
        go_wp2
        exact gQ.out _ _ _ _ _ _ _ _ _ _ _ _ _ _ _ _ _ m _ hm1 hm2 gz.out (fun _ => gt.out) g3.out g4.out
      | false =>
        have ht : p ≤ x := by simpa using gbb.out
        rw [gx.out] at ht
        have gt := Lib.hid ht
        clear ht
        go_wp2
        exact ⟨⟨m1, by have := gm3.out; omega, by have := gm3.out; omega, by go_num, fun z h1 h2 => by
          have := gm3.out
          by_cases e : z = m
          · rw [e]; exact gt.out
          · exact gz.out z (by omega) h2, g3.out, g4.out⟩, by have := gm3.out; simp [intOf]; omega⟩
    · have lc : decide ((i : Int) ≤ (m : Int)) = false := by simp; omega
      go_wp2
      refine wp_nopan ?_
      refine wp_region_held (S := fun _ => True) (by kernel_rfl) ?_
      have hS : True := trivial
      refine takeL (i := 0) (v := (.int .i64 (i : Int))) rfl (by kernel_rfl) (by kernel_rfl) (by kernel_rfl) (fun _ _ _ h => h) rfl (by assumption) (fun w' hS' => by go_simp) ?_
      simp only [Act.put, List.setIfInBounds_toArray, List.set_cons_zero, List.set_cons_succ]
      refine takeL (i := 1) (v := (.int .i64 (m : Int))) rfl (by kernel_rfl) (by kernel_rfl) (by kernel_rfl) (fun _ _ _ h => h) rfl (by assumption) (fun w' hS' => by go_simp) ?_
      simp only [Act.put, List.setIfInBounds_toArray, List.set_cons_zero, List.set_cons_succ]
      refine takeL (i := 2) (v := (.bool false)) rfl (by kernel_rfl) (by kernel_rfl) (by kernel_rfl) (fun _ _ _ h => h) rfl (by assumption) (fun w' hS' => by go_simp) ?_
      simp only [Act.put, List.setIfInBounds_toArray, List.set_cons_zero, List.set_cons_succ]
      refine takeL (i := 3) (v := (.bool false)) rfl (by kernel_rfl) (by kernel_rfl) (by kernel_rfl) (fun _ _ _ h => h) rfl (by assumption) (fun w' hS' => by go_simp) ?_
      simp only [Act.put, List.setIfInBounds_toArray, List.set_cons_zero, List.set_cons_succ]
      refine skipL (i := 4) rfl (by kernel_rfl) (by kernel_rfl) (by kernel_rfl) (fun _ _ _ h => h) rfl (by assumption) ?_
      simp only [Act.put, List.setIfInBounds_toArray, List.set_cons_zero, List.set_cons_succ]
      refine skipL (i := 5) rfl (by kernel_rfl) (by kernel_rfl) (by kernel_rfl) (fun _ _ _ h => h) rfl (by assumption) ?_
      simp only [Act.put, List.setIfInBounds_toArray, List.set_cons_zero, List.set_cons_succ]
      refine skipL (i := 6) rfl (by kernel_rfl) (by kernel_rfl) (by kernel_rfl) (fun _ _ _ h => h) rfl (by assumption) ?_
      simp only [Act.put, List.setIfInBounds_toArray, List.set_cons_zero, List.set_cons_succ]
      refine skipL (i := 7) rfl (by kernel_rfl) (by kernel_rfl) (by kernel_rfl) (fun _ _ _ h => h) rfl (by assumption) ?_
      simp only [Act.put, List.setIfInBounds_toArray, List.set_cons_zero, List.set_cons_succ]
      refine skipL (i := 8) rfl (by kernel_rfl) (by kernel_rfl) (by kernel_rfl) (fun _ _ _ h => h) rfl (by assumption) ?_
      simp only [Act.put, List.setIfInBounds_toArray, List.set_cons_zero, List.set_cons_succ]
      refine skipL (i := 9) rfl (by kernel_rfl) (by kernel_rfl) (by kernel_rfl) (fun _ _ _ h => h) rfl (by assumption) ?_
      simp only [Act.put, List.setIfInBounds_toArray, List.set_cons_zero, List.set_cons_succ]
      refine skipL (i := 10) rfl (by kernel_rfl) (by kernel_rfl) (by kernel_rfl) (fun _ _ _ h => h) rfl (by assumption) ?_
      simp only [Act.put, List.setIfInBounds_toArray, List.set_cons_zero, List.set_cons_succ]
      refine skipL (i := 11) rfl (by kernel_rfl) (by kernel_rfl) (by kernel_rfl) (fun _ _ _ h => h) rfl (by assumption) ?_
      simp only [Act.put, List.setIfInBounds_toArray, List.set_cons_zero, List.set_cons_succ]
      refine skipL (i := 12) rfl (by kernel_rfl) (by kernel_rfl) (by kernel_rfl) (fun _ _ _ h => h) rfl (by assumption) ?_
      simp only [Act.put, List.setIfInBounds_toArray, List.set_cons_zero, List.set_cons_succ]
      refine skipL (i := 13) rfl (by kernel_rfl) (by kernel_rfl) (by kernel_rfl) (fun _ _ _ h => h) rfl (by assumption) ?_
      simp only [Act.put, List.setIfInBounds_toArray, List.set_cons_zero, List.set_cons_succ]
      refine takeL (i := 14) (v := (.bool false)) rfl (by kernel_rfl) (by kernel_rfl) (by kernel_rfl) (fun _ _ _ h => h) rfl (by assumption) (fun w' hS' => by go_simp) ?_
      simp only [Act.put, List.setIfInBounds_toArray, List.set_cons_zero, List.set_cons_succ]
      refine wpAnyH_done (by kernel_rfl) ?_ _
      simp only [NoPan]
      refine gen_q (fun W2 => OwU base (.slice (some ⟨g, 0, none⟩) n cap) L W2 ∧ Apart g W W2) ⟨g1.out.later ((Below.refl _ _).drew), g2.out.trans (Apart.begin g wr)⟩ ?_
      rintro W2 ⟨o2, a2⟩
      have g3 := Lib.hid o2
      have g4 := Lib.hid a2
      clear o2 a2 hS
      go_wp2
      exact gQ.out _ _ _ _ _ _ _ _ _ _ _ _ _ _ _ _ _ m _ hm1 hm2 gz.out (fun h => absurd h hc) g3.out g4.out
end Go.Proofs.YtfnjcpopadpmbaaDoor
namespace Go.Proofs.YtfnjcpopadpmbaaDoor
open Go.RowKit BigFrame
set_option maxRecDepth 100000
theorem OwU.at {base g n cap : Nat} {l : List Int} {w w' : World} (h : OwU base (.slice (some ⟨g, 0, none⟩) n cap) l w) (e : w'.heap[g]? = w.heap[g]?) : OwU base (.slice (some ⟨g, 0, none⟩) n cap) l w' := by
  rcases h.2 with ⟨h', _⟩ | ⟨g', cap', cur, h', hb, hg, hr⟩
  · cases h'
  · cases h'
    exact ⟨h.1, Or.inr ⟨g, cap, cur, rfl, hb, e.trans hg, hr⟩⟩
/-- Block s holds one number. -/
def BxI (s : Nat) (z : Int) (w : World) : Prop := w.heap[s]? = some (.cells #[.int .i64 z] 3 (0, 0))
theorem BxI.cell {s : Nat} {z : Int} {w : World} (h : BxI s z w) : w.cell? ⟨s, 0, none⟩ = some (.int .i64 z) := by
  rw [cell_of_row w s 0 _ _ _ h]; rfl
set_option maxHeartbeats 8000000 in
theorem order2_any (base g n cap i j s : Nat) (z : Int) (l : List Int) (w : World) (hO0 : OwU base (.slice (some ⟨g, 0, none⟩) n cap) l w) (hl0 : l.length = n) (hin : i < n) (hjn : j < n) (hn : n ≤ 1000000) (hs0 : BxI s z w) :
    Calls Tryd.prog 80 #[.slice (some ⟨g, 0, none⟩) n cap, .int .i64 (i : Int), .int .i64 (j : Int), .pointer (some ⟨s, 0, none⟩)] w fun e w' => ∃ (x y : Nat) (z' : Int), e = .returned (.tuple #[.int .i64 (x : Int), .int .i64 (y : Int)]) ∧ (x = i ∨ x = j) ∧ (y = i ∨ y = j) ∧ BxI s z' w' ∧ Below s w w' := by
  have hO := Lib.hid hO0
  have hl := Lib.hid hl0
  have hs := Lib.hid hs0
  have hss := Lib.hid (blk_lt hs0)
  clear hO0 hl0 hs0
  go_enter Tryd.func80, Tryd.ntmps80
  go_wp2
  have cx := hO.out.cell j (by rw [hl.out]; exact hjn)
  have cy := hO.out.cell i (by rw [hl.out]; exact hin)
  obtain ⟨vx, hvx⟩ : ∃ v, v = l.getD j 0 := ⟨_, rfl⟩
  obtain ⟨vy, hvy⟩ : ∃ v, v = l.getD i 0 := ⟨_, rfl⟩
  rw [← hvx] at cx
  rw [← hvy] at cy
  have gvx := Lib.hid hvx
  have gvy := Lib.hid hvy
  have gcx := Lib.hid cx
  have gcy := Lib.hid cy
  clear cx cy hvx hvy
  refine wp_nopan ?_
  refine wp_region_held (S := fun w' => w'.cell? ⟨g, j, none⟩ = some (.int .u64 vx) ∧ w'.cell? ⟨g, i, none⟩ = some (.int .u64 vy)) (by kernel_rfl) ?_
  have hS : ({ w with drawn := w.drawn + 1 } : World).cell? ⟨g, j, none⟩ = some (.int .u64 vx) ∧ ({ w with drawn := w.drawn + 1 } : World).cell? ⟨g, i, none⟩ = some (.int .u64 vy) := ⟨gcx.out, gcy.out⟩
  refine takeL (i := 0) (v := (.slice (some ⟨g, 0, none⟩) n cap)) rfl (by kernel_rfl) (by kernel_rfl) (by kernel_rfl) (fun _ _ _ h => h) rfl (by assumption) (fun w' hS' => by go_simp) ?_
  simp only [Act.put, List.setIfInBounds_toArray, List.set_cons_zero, List.set_cons_succ]
  refine takeL (i := 1) (v := (.int .i64 (j : Int))) rfl (by kernel_rfl) (by kernel_rfl) (by kernel_rfl) (fun _ _ _ h => h) rfl (by assumption) (fun w' hS' => by go_simp) ?_
  simp only [Act.put, List.setIfInBounds_toArray, List.set_cons_zero, List.set_cons_succ]
  refine takeL (i := 2) (v := (.pointer (some ⟨g, j, none⟩))) rfl (by kernel_rfl) (by kernel_rfl) (by kernel_rfl) (fun _ _ _ h => h) rfl (by assumption) (fun w' hS' => run_index_slice _ 37 22 (.tmp 10) (.tmp 11) rfl Tryd.underlying37 1 sz_u64 g 0 n cap rfl .i64 j rfl hjn j (by omega)) ?_
  simp only [Act.put, List.setIfInBounds_toArray, List.set_cons_zero, List.set_cons_succ]
  refine takeL (i := 3) (v := (.int .u64 vx)) rfl (by kernel_rfl) (by kernel_rfl) (by kernel_rfl) (fun _ _ _ h => h) rfl (by assumption) (fun w' hS' => run_load_cell _ 22 (.tmp 12) rfl ⟨g, j, none⟩ rfl _ hS'.1 _ Tryd.underlying22 rfl) ?_
  simp only [Act.put, List.setIfInBounds_toArray, List.set_cons_zero, List.set_cons_succ]
  refine takeL (i := 4) (v := (.slice (some ⟨g, 0, none⟩) n cap)) rfl (by kernel_rfl) (by kernel_rfl) (by kernel_rfl) (fun _ _ _ h => h) rfl (by assumption) (fun w' hS' => by go_simp) ?_
  simp only [Act.put, List.setIfInBounds_toArray, List.set_cons_zero, List.set_cons_succ]
  refine takeL (i := 5) (v := (.int .i64 (i : Int))) rfl (by kernel_rfl) (by kernel_rfl) (by kernel_rfl) (fun _ _ _ h => h) rfl (by assumption) (fun w' hS' => by go_simp) ?_
  simp only [Act.put, List.setIfInBounds_toArray, List.set_cons_zero, List.set_cons_succ]
  refine takeL (i := 6) (v := (.pointer (some ⟨g, i, none⟩))) rfl (by kernel_rfl) (by kernel_rfl) (by kernel_rfl) (fun _ _ _ h => h) rfl (by assumption) (fun w' hS' => run_index_slice _ 37 22 (.tmp 14) (.tmp 15) rfl Tryd.underlying37 1 sz_u64 g 0 n cap rfl .i64 i rfl hin i (by omega)) ?_
  simp only [Act.put, List.setIfInBounds_toArray, List.set_cons_zero, List.set_cons_succ]
  refine takeL (i := 7) (v := (.int .u64 vy)) rfl (by kernel_rfl) (by kernel_rfl) (by kernel_rfl) (fun _ _ _ h => h) rfl (by assumption) (fun w' hS' => run_load_cell _ 22 (.tmp 16) rfl ⟨g, i, none⟩ rfl _ hS'.2 _ Tryd.underlying22 rfl) ?_
  simp only [Act.put, List.setIfInBounds_toArray, List.set_cons_zero, List.set_cons_succ]
  refine oneL (i := 8) rfl (by kernel_rfl) rfl (wp_call 53 #[.int .u64 vx, .int .u64 vy] (by go_simp) _ _ (less_any vx vy _) ?_)
  rintro W2 rfl
  refine ⟨hS, ?_⟩
  simp only [Act.put, List.setIfInBounds_toArray, List.set_cons_zero, List.set_cons_succ]
  obtain ⟨bb, hbb⟩ : ∃ b, b = decide (vx < vy) := ⟨_, rfl⟩
  rw [← hbb]
  have gbb := Lib.hid hbb
  clear hbb
  refine wpAnyH_done (by kernel_rfl) ?_ _
  simp only [NoPan]
  clear hS
  refine gen_q (fun W2 => BxI s z W2 ∧ Below s w W2) ⟨hs.out, (Below.refl _ _).drew⟩ ?_
  rintro WT ⟨o2, a2⟩
  have gT := Lib.hid o2
  have gAT := Lib.hid a2
  clear o2 a2
  cases bb with
  | false =>
    go_wp2
    exact ret_t2 rfl _ _ rfl rfl rfl ⟨i, j, z, rfl, Or.inl rfl, Or.inr rfl, gT.out, gAT.out⟩
  | true =>
    go_wp2_with (first
      | ((with_reducible refine at_load 3 ?_); go_loud (refine wpList_value (by rfl) _ (run_load_cell _ 3 (.tmp 20) rfl ⟨s, 0, none⟩ rfl _ gT.out.cell _ Tryd.underlying3 rfl) ?_))
      | ((with_reducible refine at_store 3 ?_); go_loud (refine wpList_store_gen 3 _ _ rfl rfl s 0 rfl .i64 _ rfl sz_int #[.int .i64 z] 3 gT.out (by simp) (Nat.le_refl s) gAT.out (fun W3 hW3 hB3 => ?_))
         have gW3 := Lib.hid hW3
         have gB3 := Lib.hid hB3
         clear hW3 hB3))
    exact ret_t2 rfl _ _ rfl rfl rfl ⟨j, i, _, rfl, Or.inr rfl, Or.inl rfl, gW3.out, gB3.out⟩
set_option maxHeartbeats 8000000 in
theorem median_any (base g n cap i j k s : Nat) (z : Int) (l : List Int) (w : World) (hO0 : OwU base (.slice (some ⟨g, 0, none⟩) n cap) l w) (hl0 : l.length = n) (hin : i < n) (hjn : j < n) (hkn : k < n) (hn : n ≤ 1000000) (hs0 : BxI s z w) (hgs : g < s) :
    Calls Tryd.prog 67 #[.slice (some ⟨g, 0, none⟩) n cap, .int .i64 (i : Int), .int .i64 (j : Int), .int .i64 (k : Int), .pointer (some ⟨s, 0, none⟩)] w fun e w' => ∃ (x : Nat) (z' : Int), e = .returned (.int .i64 (x : Int)) ∧ (x = i ∨ x = j ∨ x = k) ∧ BxI s z' w' ∧ Below s w w' := by
  have hO := Lib.hid hO0
  have hl := Lib.hid hl0
  have hs := Lib.hid hs0
  clear hO0 hl0 hs0
  have c1 := Lib.hid (order2_any base g n cap i j s z l w hO.out hl.out hin hjn hn hs.out)
  go_enter Tryd.func67, Tryd.ntmps67
  go_wp2_with (first
    | ((with_reducible refine c1.out.mono ?_)
       rintro e W1 ⟨x1, y1, z1, rfl, hx1, hy1, hb1, hw1⟩
       have gx1 := Lib.hid hx1
       have gy1 := Lib.hid hy1
       have gb1 := Lib.hid hb1
       have gw1 := Lib.hid hw1
       clear hx1 hy1 hb1 hw1
       have hO1 := Lib.hid (hO.out.at (gw1.out.block g hgs))
       have c2 := Lib.hid (order2_any base g n cap y1 k s z1 l W1 hO1.out hl.out (by rcases gy1.out with h | h <;> rw [h] <;> assumption) hkn hn gb1.out))
    | ((with_reducible refine c2.out.mono ?_)
       rintro e W2 ⟨x2, y2, z2, rfl, hx2, hy2, hb2, hw2⟩
       have gx2 := Lib.hid hx2
       have gy2 := Lib.hid hy2
       have gb2 := Lib.hid hb2
       have gw2 := Lib.hid hw2
       clear hx2 hy2 hb2 hw2
       have hO2 := Lib.hid (hO1.out.at (gw2.out.block g hgs))
       have hx1n : x1 < n := by rcases gx1.out with h | h <;> rw [h] <;> assumption
       have hy1n : y1 < n := by rcases gy1.out with h | h <;> rw [h] <;> assumption
       have c3 := Lib.hid (order2_any base g n cap x1 x2 s z2 l W2 hO2.out hl.out hx1n (by rcases gx2.out with h | h <;> rw [h] <;> assumption) hn gb2.out))
    | ((with_reducible refine c3.out.mono ?_)
       rintro e W3 ⟨x3, y3, z3, rfl, hx3, hy3, hb3, hw3⟩
       have gx3 := Lib.hid hx3
       have gy3 := Lib.hid hy3
       have gb3 := Lib.hid hb3
       have gw3 := Lib.hid hw3
       clear hx3 hy3 hb3 hw3))
  exact ret_t1 rfl _ rfl rfl ⟨y3, z3, rfl, by have := gx1.out; have := gy1.out; have := gx2.out; have := gy3.out; omega, gb3.out, (gw1.out.trans gw2.out).trans gw3.out⟩
set_option maxHeartbeats 8000000 in
theorem medadj_any (base g n cap j s : Nat) (z : Int) (l : List Int) (w : World) (hO0 : OwU base (.slice (some ⟨g, 0, none⟩) n cap) l w) (hl0 : l.length = n) (hj1 : 1 ≤ j) (hjn : j + 1 < n) (hn : n ≤ 1000000) (hs0 : BxI s z w) (hgs : g < s) :
    Calls Tryd.prog 66 #[.slice (some ⟨g, 0, none⟩) n cap, .int .i64 (j : Int), .pointer (some ⟨s, 0, none⟩)] w fun e w' => ∃ (x : Nat) (z' : Int), e = .returned (.int .i64 (x : Int)) ∧ (j ≤ x + 1 ∧ x ≤ j + 1) ∧ BxI s z' w' ∧ Below s w w' := by
  obtain ⟨i, hi⟩ : ∃ i, i + 1 = j := ⟨j - 1, by omega⟩
  obtain ⟨k, hk⟩ : ∃ k, k = j + 1 := ⟨_, rfl⟩
  have wi : IntKind.i64.wrap ((j : Int) - 1) = (i : Int) := by rw [IntKind.wrap_i64]; omega
  have wk : IntKind.i64.wrap ((j : Int) + 1) = (k : Int) := by rw [IntKind.wrap_i64]; omega
  have c1 := Lib.hid (median_any base g n cap i j k s z l w hO0 hl0 (by omega) (by omega) (by omega) hn hs0 hgs)
  have gi := Lib.hid hi
  have gk := Lib.hid hk
  clear hO0 hl0 hs0 hi hk
  go_enter Tryd.func66, Tryd.ntmps66
  go_wp2_with (
    ((with_reducible refine c1.out.mono ?_)
     rintro e W1 ⟨x1, z1, rfl, hx1, hb1, hw1⟩
     have gx1 := Lib.hid hx1
     have gb1 := Lib.hid hb1
     have gw1 := Lib.hid hw1
     clear hx1 hb1 hw1))
  exact ret_t1 rfl _ rfl rfl ⟨x1, z1, rfl, by have := gx1.out; have := gi.out; have := gk.out; omega, gb1.out, gw1.out⟩
theorem below_alloc (w : World) (o : Obj) : Below w.heap.size w (w.alloc o) := (Below.refl w.heap.size w).alloc (Nat.le_refl _) _
set_option maxHeartbeats 8000000 in
theorem choose_any (base g n cap a b : Nat) (l : List Int) (w : World) (hO0 : OwU base (.slice (some ⟨g, 0, none⟩) n cap) l w) (hl0 : l.length = n) (hab : a + 12 < b) (hbn : b ≤ n) (hn : n ≤ 1000000) :
    Calls Tryd.prog 50 #[.slice (some ⟨g, 0, none⟩) n cap, .int .i64 (a : Int), .int .i64 (b : Int)] w fun e w' => ∃ (x : Nat) (h : Int), e = .returned (.tuple #[.int .i64 (x : Int), .int .i64 h]) ∧ (a ≤ x ∧ x < b) ∧ Below w.heap.size w w' := by
  have hO := Lib.hid hO0
  have hl := Lib.hid hl0
  have hgw : g < w.heap.size := by
    rcases hO0.2 with ⟨h', _⟩ | ⟨g', cap', cur, h', hb, hg, hr⟩
    · cases h'
    · cases h'; exact blk_lt hg
  clear hO0 hl0
  obtain ⟨d, hd⟩ : ∃ d, d = b - a := ⟨_, rfl⟩
  obtain ⟨q, hq⟩ : ∃ q, q = d / 4 := ⟨_, rfl⟩
  obtain ⟨i, hi⟩ : ∃ i, i = a + q := ⟨_, rfl⟩
  obtain ⟨q2, hq2⟩ : ∃ q2, q2 = q * 2 := ⟨_, rfl⟩
  obtain ⟨q3, hq3⟩ : ∃ q3, q3 = q * 3 := ⟨_, rfl⟩
  obtain ⟨j, hj⟩ : ∃ j, j = a + q2 := ⟨_, rfl⟩
  obtain ⟨k, hk⟩ : ∃ k, k = a + q3 := ⟨_, rfl⟩
  have f0 : (b : Int) - (a : Int) = (d : Int) := by omega
  have f1 : (d : Int) / 4 = (q : Int) := by omega
  have f2 : (a : Int) + (q : Int) = (i : Int) := by omega
  have f3 : (a : Int) + (q : Int) * 2 = (j : Int) := by omega
  have f4 : (a : Int) + (q : Int) * 3 = (k : Int) := by omega
  have f5 : q ≤ 1000000 := by omega
  have f6 : d ≤ 1000000 := by omega
  have t1 : decide ((d : Int) ≥ 8) = true := by simp; omega
  have gd := Lib.hid hd
  have gq := Lib.hid hq
  have gi := Lib.hid hi
  have gj := Lib.hid hj
  have gk := Lib.hid hk
  have gq2 := Lib.hid hq2
  have gq3 := Lib.hid hq3
  clear hd hq hi hj hk hq2 hq3
  go_enter Tryd.func50, Tryd.ntmps50
  have hB0 : BxI w.heap.size 0 (w.alloc (.cells #[.int .i64 0] 3)) := by unfold BxI; rw [World.alloc]; simp
  have gb0 := Lib.hid hB0
  have gw0 := Lib.hid (Below.refl w.heap.size (w.alloc (.cells #[.int .i64 0] 3)))
  have hO0 := Lib.hid (hO.out.at (show (w.alloc (.cells #[.int .i64 0] 3)).heap[g]? = w.heap[g]? from ((Below.refl w.heap.size w).alloc (Nat.le_refl _) _).block g hgw))
  by_cases h50 : 50 ≤ d
  · have t2 : decide ((d : Int) ≥ 50) = true := by simp; omega
    have c1 := Lib.hid (medadj_any base g n cap i w.heap.size 0 l _ hO0.out hl.out (by have := gd.out; have := gq.out; have := gi.out; have := gj.out; have := gk.out; have := gq2.out; have := gq3.out; omega) (by have := gd.out; have := gq.out; have := gi.out; have := gj.out; have := gk.out; have := gq2.out; have := gq3.out; omega) hn gb0.out hgw)
    go_wp2_with (first
    | ((with_reducible refine c1.out.mono ?_)
       rintro e W1 ⟨x1, z1, rfl, hx1, hb1, hw1⟩
       have gx1 := Lib.hid hx1
       have gb1 := Lib.hid hb1
       have gw1 := Lib.hid (gw0.out.trans hw1)
       clear hx1 hb1 hw1
       have hO1 := Lib.hid (hO0.out.at (gw1.out.block g hgw))
       have c2 := Lib.hid (medadj_any base g n cap j w.heap.size z1 l W1 hO1.out hl.out (by have := gd.out; have := gq.out; have := gi.out; have := gj.out; have := gk.out; have := gq2.out; have := gq3.out; omega) (by have := gd.out; have := gq.out; have := gi.out; have := gj.out; have := gk.out; have := gq2.out; have := gq3.out; omega) hn gb1.out hgw))
    | ((with_reducible refine c2.out.mono ?_)
       rintro e W2 ⟨x2, z2, rfl, hx2, hb2, hw2⟩
       have gx2 := Lib.hid hx2
       have gb2 := Lib.hid hb2
       have gw2 := Lib.hid (gw1.out.trans hw2)
       clear hx2 hb2 hw2
       have hO2 := Lib.hid (hO0.out.at (gw2.out.block g hgw))
       have c3 := Lib.hid (medadj_any base g n cap k w.heap.size z2 l W2 hO2.out hl.out (by have := gd.out; have := gq.out; have := gi.out; have := gj.out; have := gk.out; have := gq2.out; have := gq3.out; omega) (by have := gd.out; have := gq.out; have := gi.out; have := gj.out; have := gk.out; have := gq2.out; have := gq3.out; omega) hn gb2.out hgw))
    | ((with_reducible refine c3.out.mono ?_)
       rintro e W3 ⟨x3, z3, rfl, hx3, hb3, hw3⟩
       have gx3 := Lib.hid hx3
       have gb3 := Lib.hid hb3
       have gw3 := Lib.hid (gw2.out.trans hw3)
       clear hx3 hb3 hw3
       have hO3 := Lib.hid (hO0.out.at (gw3.out.block g hgw))
       have c4 := Lib.hid (median_any base g n cap x1 x2 x3 w.heap.size z3 l W3 hO3.out hl.out (by have := gd.out; have := gq.out; have := gi.out; have := gj.out; have := gk.out; have := gq2.out; have := gq3.out; have := gx1.out; omega) (by have := gd.out; have := gq.out; have := gi.out; have := gj.out; have := gk.out; have := gq2.out; have := gq3.out; have := gx2.out; omega) (by have := gd.out; have := gq.out; have := gi.out; have := gj.out; have := gk.out; have := gq2.out; have := gq3.out; have := gx3.out; omega) hn gb3.out hgw))
    | ((with_reducible refine c4.out.mono ?_)
       rintro e W4 ⟨x4, z4, rfl, hx4, hb4, hw4⟩
       have gx4 := Lib.hid hx4
       have gb4 := Lib.hid hb4
       have gw4 := Lib.hid (gw3.out.trans hw4)
       clear hx4 hb4 hw4
       have hO4 := True.intro)
    | ((with_reducible refine at_load 3 ?_); go_loud (refine wpList_value (by rfl) _ (run_load_cell _ 3 (.tmp 9) rfl ⟨w.heap.size, 0, none⟩ rfl _ gb4.out.cell _ Tryd.underlying3 rfl) ?_)))
    all_goals exact ret_t2 rfl _ _ rfl rfl rfl ⟨x4, _, rfl, by have := gx4.out; have := gx1.out; have := gx2.out; have := gx3.out; omega, (below_alloc w _).trans gw4.out⟩
  · have t2 : decide ((d : Int) ≥ 50) = false := by simp; omega
    have c4 := Lib.hid (median_any base g n cap i j k w.heap.size 0 l _ hO0.out hl.out (by have := gd.out; have := gq.out; have := gi.out; have := gj.out; have := gk.out; have := gq2.out; have := gq3.out; omega) (by have := gd.out; have := gq.out; have := gi.out; have := gj.out; have := gk.out; have := gq2.out; have := gq3.out; omega) (by have := gd.out; have := gq.out; have := gi.out; have := gj.out; have := gk.out; have := gq2.out; have := gq3.out; omega) hn gb0.out hgw)
    go_wp2_with (first
    | ((with_reducible refine c4.out.mono ?_)
       rintro e W4 ⟨x4, z4, rfl, hx4, hb4, hw4⟩
       have gx4 := Lib.hid hx4
       have gb4 := Lib.hid hb4
       have gw4 := Lib.hid (gw0.out.trans hw4)
       clear hx4 hb4 hw4
       have hO4 := True.intro)
    | ((with_reducible refine at_load 3 ?_); go_loud (refine wpList_value (by rfl) _ (run_load_cell _ 3 (.tmp 9) rfl ⟨w.heap.size, 0, none⟩ rfl _ gb4.out.cell _ Tryd.underlying3 rfl) ?_)))
    all_goals exact ret_t2 rfl _ _ rfl rfl rfl ⟨x4, _, rfl, by have := gd.out; have := gq.out; have := gi.out; have := gj.out; have := gk.out; have := gq2.out; have := gq3.out; have := gx4.out; omega, (below_alloc w _).trans gw4.out⟩
end Go.Proofs.YtfnjcpopadpmbaaDoor
