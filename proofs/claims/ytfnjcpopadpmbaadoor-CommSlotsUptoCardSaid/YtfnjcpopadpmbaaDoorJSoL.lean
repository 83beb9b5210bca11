/- The library's sort at uint64: partialInsertionSortOrdered. -/
/- The library's sort at uint64: partialInsertionSortOrdered, the whole. -/
import Derived.Test.YtfnjcpopadpmbaaDoorJSoI
set_option linter.unusedVariables false
set_option linter.unusedSimpArgs false
set_option linter.unnecessarySimpa false
namespace Go.Proofs.YtfnjcpopadpmbaaDoor
open Go.RowKit BigFrame
set_option maxRecDepth 100000
/-- What stands just ahead of the range is below all in it. -/
def LowA (a b : Nat) (l : List Int) : Prop := ∀ a1, a1 + 1 = a → ∀ z, a ≤ z → z < b → l.getD a1 0 < l.getD z 0
theorem LowA.seg {a b : Nat} {l m : List Int} (h : LowA a b l) (s : SegP a b l m) : LowA a b m := fun a1 e z z1 z2 => by
  obtain ⟨j, j1, j2, j3⟩ := s.mem z z1 z2
  rw [s.out a1 (by omega), j3]
  exact h a1 e j j1 j2
/-- The body of block n, wherever it stands. -/
def blockOfC (n : Nat) : Code → Option Code
  | .seq a b => match blockOfC n a with | some c => some c | none => blockOfC n b
  | .cond _ a b => match blockOfC n a with | some c => some c | none => blockOfC n b
  | .block m c => if m = n then some c else blockOfC n c
  | .loop c => blockOfC n c
  | .scope c => blockOfC n c
  | _ => none
def blockInC (n : Nat) (f : Func) : Code := match f.body with | some c => (match blockOfC n c with | some d => d | none => .skip) | none => .skip
theorem SortedIn.grow {a m m1 : Nat} {L : List Int} (h : SortedIn a m L) (e : m1 + 1 = m) (ha : a < m) (hle : L.getD m1 0 ≤ L.getD m 0) : SortedIn a (m + 1) L := fun p q h1 h2 h3 => by
  by_cases e1 : q = m
  · by_cases e2 : p = m
    · rw [e1, e2]; exact Int.le_refl _
    · rw [e1]; exact Int.le_trans (h p m1 h1 (by omega) (by omega)) hle
  · exact h p q h1 h2 (by omega)
theorem SortedIn.out {a i b : Nat} {L M : List Int} (h : SortedIn a i L) (s : SegP i b L M) : SortedIn a i M := fun p q h1 h2 h3 => by
  rw [s.out p (by omega), s.out q (by omega)]
  exact h p q h1 h2 h3
noncomputable def scanIB : Code := blockIn 2 Tryd.f52
set_option maxHeartbeats 16000000 in
theorem scanI {Q : Exit → Act → World → Prop} (base g n cap a b i0 : Nat) (L : List Int) (W : World) (hn : n ≤ 1000000) (hO0 : OwU base (.slice (some ⟨g, 0, none⟩) n cap) L W) (hl0 : L.length = n) (hai : a < i0) (hib : i0 ≤ b) (hbn : b ≤ n) (hs0 : SortedIn a i0 L) (t1 t3 t4 t5 t6 t8 t9 t10 t11 t12 t13 t14 t15 t16 t17 t18 t19 t20 t21 t22 t23 t24 t25 t26 t27 t28 t29 t30 t31 t32 t33 t34 t35 t36 t37 t38 t39 t40 t41 t42 t43 t44 t45 t46 t47 t48 t49 t50 t51 t52 t53 t54 t55 t56 t57 t58 t59 t60 t61 t62 t63 t64 t65 t66 t67 t68 t69 t70 t71 t72 t73 t74 t75 t76 t77 t78 t79 t80 t81 t82 t83 t84 t85 t86 t87 t88 t89 t90 t91 t92 t93 t94 t95 t96 t97 t98 t99 t100 t101 t102 t103 t104 t105 t106 t107 t108 t109 t110 t111 t112 t113 t114 t115 t116 t117 t118 t119 t120 t121 t122 t123 t124 t125 t126 t127 t128 t129 t130 t131 t132 : Value) (hQ : ∀ (x17 x18 x19 x20 x21 x22 x23 x24 x25 x26 x27 x28 x29 x30 x31 x32 x33 x34 : Value) (m : Nat) (w' : World), i0 ≤ m → m ≤ b → SortedIn a m L → OwU base (.slice (some ⟨g, 0, none⟩) n cap) L w' → Apart g W w' → Q .normal { tmps := #[.slice (some ⟨g, 0, none⟩) n cap, t1, .int .i64 (b : Int), t3, t4, t5, t6, .int .i64 (m : Int), t8, t9, t10, t11, t12, t13, t14, t15, t16, x17, x18, x19, x20, x21, x22, x23, x24, x25, x26, x27, x28, x29, x30, x31, x32, x33, x34, t35, t36, t37, t38, t39, t40, t41, t42, t43, t44, t45, t46, t47, t48, t49, t50, t51, t52, t53, t54, t55, t56, t57, t58, t59, t60, t61, t62, t63, t64, t65, t66, t67, t68, t69, t70, t71, t72, t73, t74, t75, t76, t77, t78, t79, t80, t81, t82, t83, t84, t85, t86, t87, t88, t89, t90, t91, t92, t93, t94, t95, t96, t97, t98, t99, t100, t101, t102, t103, t104, t105, t106, t107, t108, t109, t110, t111, t112, t113, t114, t115, t116, t117, t118, t119, t120, t121, t122, t123, t124, t125, t126, t127, t128, t129, t130, t131, t132], defers := [] } w') : scanIB.wp Tryd.prog (Exit.inBlock 2 Q) { tmps := #[.slice (some ⟨g, 0, none⟩) n cap, t1, .int .i64 (b : Int), t3, t4, t5, t6, .int .i64 (i0 : Int), t8, t9, t10, t11, t12, t13, t14, t15, t16, t17, t18, t19, t20, t21, t22, t23, t24, t25, t26, t27, t28, t29, t30, t31, t32, t33, t34, t35, t36, t37, t38, t39, t40, t41, t42, t43, t44, t45, t46, t47, t48, t49, t50, t51, t52, t53, t54, t55, t56, t57, t58, t59, t60, t61, t62, t63, t64, t65, t66, t67, t68, t69, t70, t71, t72, t73, t74, t75, t76, t77, t78, t79, t80, t81, t82, t83, t84, t85, t86, t87, t88, t89, t90, t91, t92, t93, t94, t95, t96, t97, t98, t99, t100, t101, t102, t103, t104, t105, t106, t107, t108, t109, t110, t111, t112, t113, t114, t115, t116, t117, t118, t119, t120, t121, t122, t123, t124, t125, t126, t127, t128, t129, t130, t131, t132], defers := [] } W := by
  have hO := Lib.hid hO0
  have hl := Lib.hid hl0
  have hs := Lib.hid hs0
  have gQ := Lib.hid hQ
  clear hO0 hl0 hs0 hQ
  simp only [scanIB, blockIn, blockOf, Tryd.f52, reduceIte, Nat.reduceEqDiff]
  go_loopw [7] (fun v wr => ∃ m : Nat, i0 ≤ m ∧ m ≤ b ∧ v = .int .i64 (m : Int) ∧ SortedIn a m L ∧ OwU base (.slice (some ⟨g, 0, none⟩) n cap) L wr ∧ Apart g W wr) (fun v _ => b - (intOf v).toNat)
  case atStart => exact ⟨i0, Nat.le_refl _, hib, rfl, hs.out, hO.out, Apart.refl _ _⟩
  case round =>
    obtain ⟨m, hm1, hm2, rfl, hz, hO1, hA1⟩ := hrel
    have gz := Lib.hid hz
    have g1 := Lib.hid hO1
    have g2 := Lib.hid hA1
    clear hz hO1 hA1
    by_cases hc : m < b
    · have lc : decide ((m : Int) < (b : Int)) = true := by simp; omega
      obtain ⟨m1, hm3⟩ : ∃ m1, m1 + 1 = m := ⟨m - 1, by omega⟩
      have hmn : m < n := by omega
      have hm1n : m1 < n := by omega
      have wm : IntKind.i64.wrap ((m : Int) - 1) = (m1 : Int) := by rw [IntKind.wrap_i64]; omega
      have wm2 : IntKind.i64.wrap ((m : Int) + 1) = ((m + 1 : Nat) : Int) := by rw [IntKind.wrap_i64]; omega
      have gm3 := Lib.hid hm3
      clear hm3
      go_wp2
      have cx := g1.out.cell m (by rw [hl.out]; exact hmn)
      have cy := g1.out.cell m1 (by rw [hl.out]; exact hm1n)
      obtain ⟨vx, hvx⟩ : ∃ v, v = L.getD m 0 := ⟨_, rfl⟩
      obtain ⟨vy, hvy⟩ : ∃ v, v = L.getD m1 0 := ⟨_, rfl⟩
      rw [← hvx] at cx
      rw [← hvy] at cy
      have gvx := Lib.hid hvx
      have gvy := Lib.hid hvy
      have gcx := Lib.hid cx
      have gcy := Lib.hid cy
      clear cx cy hvx hvy
      refine wp_nopan ?_
      refine wp_region_held (S := fun w' => w'.cell? ⟨g, m, none⟩ = some (.int .u64 vx) ∧ w'.cell? ⟨g, m1, none⟩ = some (.int .u64 vy)) (by kernel_rfl) ?_
      have hS : ({ wr with drawn := wr.drawn + 1 } : World).cell? ⟨g, m, none⟩ = some (.int .u64 vx) ∧ ({ wr with drawn := wr.drawn + 1 } : World).cell? ⟨g, m1, none⟩ = some (.int .u64 vy) := ⟨gcx.out, gcy.out⟩
      refine takeL (i := 0) (v := (.int .i64 (m : Int))) rfl (by kernel_rfl) (by kernel_rfl) (by kernel_rfl) (fun _ _ _ h => h) rfl (by assumption) (fun w' hS' => by go_simp) ?_
      simp only [Act.put, List.setIfInBounds_toArray, List.set_cons_zero, List.set_cons_succ]
      refine takeL (i := 1) (v := (.int .i64 (b : Int))) rfl (by kernel_rfl) (by kernel_rfl) (by kernel_rfl) (fun _ _ _ h => h) rfl (by assumption) (fun w' hS' => by go_simp) ?_
      simp only [Act.put, List.setIfInBounds_toArray, List.set_cons_zero, List.set_cons_succ]
      refine takeL (i := 2) (v := (.bool true)) rfl (by kernel_rfl) (by kernel_rfl) (by kernel_rfl) (fun _ _ _ h => h) rfl (by assumption) (fun w' hS' => by go_simp) ?_
      simp only [Act.put, List.setIfInBounds_toArray, List.set_cons_zero, List.set_cons_succ]
      refine takeL (i := 3) (v := (.bool true)) rfl (by kernel_rfl) (by kernel_rfl) (by kernel_rfl) (fun _ _ _ h => h) rfl (by assumption) (fun w' hS' => by go_simp) ?_
      simp only [Act.put, List.setIfInBounds_toArray, List.set_cons_zero, List.set_cons_succ]
      refine takeL (i := 4) (v := (.slice (some ⟨g, 0, none⟩) n cap)) rfl (by kernel_rfl) (by kernel_rfl) (by kernel_rfl) (fun _ _ _ h => h) rfl (by assumption) (fun w' hS' => by go_simp) ?_
      simp only [Act.put, List.setIfInBounds_toArray, List.set_cons_zero, List.set_cons_succ]
      refine takeL (i := 5) (v := (.int .i64 (m : Int))) rfl (by kernel_rfl) (by kernel_rfl) (by kernel_rfl) (fun _ _ _ h => h) rfl (by assumption) (fun w' hS' => by go_simp) ?_
      simp only [Act.put, List.setIfInBounds_toArray, List.set_cons_zero, List.set_cons_succ]
      refine takeL (i := 6) (v := (.pointer (some ⟨g, m, none⟩))) rfl (by kernel_rfl) (by kernel_rfl) (by kernel_rfl) (fun _ _ _ h => h) rfl (by assumption) (fun w' hS' => run_index_slice _ 37 22 (.tmp 21) (.tmp 22) rfl Tryd.underlying37 1 sz_u64 g 0 n cap rfl .i64 m rfl hmn m (by omega)) ?_
      simp only [Act.put, List.setIfInBounds_toArray, List.set_cons_zero, List.set_cons_succ]
      refine takeL (i := 7) (v := (.int .u64 vx)) rfl (by kernel_rfl) (by kernel_rfl) (by kernel_rfl) (fun _ _ _ h => h) rfl (by assumption) (fun w' hS' => run_load_cell _ 22 (.tmp 23) rfl ⟨g, m, none⟩ rfl _ hS'.1 _ Tryd.underlying22 rfl) ?_
      simp only [Act.put, List.setIfInBounds_toArray, List.set_cons_zero, List.set_cons_succ]
      refine takeL (i := 8) (v := (.slice (some ⟨g, 0, none⟩) n cap)) rfl (by kernel_rfl) (by kernel_rfl) (by kernel_rfl) (fun _ _ _ h => h) rfl (by assumption) (fun w' hS' => by go_simp) ?_
      simp only [Act.put, List.setIfInBounds_toArray, List.set_cons_zero, List.set_cons_succ]
      refine takeL (i := 9) (v := (.int .i64 (m : Int))) rfl (by kernel_rfl) (by kernel_rfl) (by kernel_rfl) (fun _ _ _ h => h) rfl (by assumption) (fun w' hS' => by go_simp) ?_
      simp only [Act.put, List.setIfInBounds_toArray, List.set_cons_zero, List.set_cons_succ]
      refine takeL (i := 10) (v := (.int .i64 (m1 : Int))) rfl (by kernel_rfl) (by kernel_rfl) (by kernel_rfl) (fun _ _ _ h => h) rfl (by assumption) (fun w' hS' => by go_simp) ?_
      simp only [Act.put, List.setIfInBounds_toArray, List.set_cons_zero, List.set_cons_succ]
      refine takeL (i := 11) (v := (.pointer (some ⟨g, m1, none⟩))) rfl (by kernel_rfl) (by kernel_rfl) (by kernel_rfl) (fun _ _ _ h => h) rfl (by assumption) (fun w' hS' => run_index_slice _ 37 22 (.tmp 25) (.tmp 27) rfl Tryd.underlying37 1 sz_u64 g 0 n cap rfl .i64 m1 rfl hm1n m1 (by omega)) ?_
      simp only [Act.put, List.setIfInBounds_toArray, List.set_cons_zero, List.set_cons_succ]
      refine takeL (i := 12) (v := (.int .u64 vy)) rfl (by kernel_rfl) (by kernel_rfl) (by kernel_rfl) (fun _ _ _ h => h) rfl (by assumption) (fun w' hS' => run_load_cell _ 22 (.tmp 28) rfl ⟨g, m1, none⟩ rfl _ hS'.2 _ Tryd.underlying22 rfl) ?_
      simp only [Act.put, List.setIfInBounds_toArray, List.set_cons_zero, List.set_cons_succ]
      refine oneL (i := 13) rfl (by kernel_rfl) rfl (wp_call 53 #[.int .u64 vx, .int .u64 vy] (by go_simp) _ _ (less_any vx vy _) ?_)
      rintro W2 rfl
      refine ⟨hS, ?_⟩
      simp only [Act.put, List.setIfInBounds_toArray, List.set_cons_zero, List.set_cons_succ]
      obtain ⟨bb, hbb⟩ : ∃ b, b = decide (vx < vy) := ⟨_, rfl⟩
      rw [← hbb]
      have gbb := Lib.hid hbb
      clear hbb
      refine takeL (i := 14) (v := (.bool (!bb))) rfl (by kernel_rfl) (by kernel_rfl) (by kernel_rfl) (fun _ _ _ h => h) rfl (by assumption) (fun w' hS' => by go_simp) ?_
      simp only [Act.put, List.setIfInBounds_toArray, List.set_cons_zero, List.set_cons_succ]
      refine takeL (i := 15) (v := (.bool (!bb))) rfl (by kernel_rfl) (by kernel_rfl) (by kernel_rfl) (fun _ _ _ h => h) rfl (by assumption) (fun w' hS' => by go_simp) ?_
      simp only [Act.put, List.setIfInBounds_toArray, List.set_cons_zero, List.set_cons_succ]
      refine wpAnyH_done (by kernel_rfl) ?_ _
      simp only [NoPan]
      clear hS
      refine gen_q (fun W2 => OwU base (.slice (some ⟨g, 0, none⟩) n cap) L W2 ∧ Apart g W W2) ⟨g1.out.later ((Below.refl _ _).drew), g2.out.trans (Apart.begin g wr)⟩ ?_
      rintro WT ⟨o2, a2⟩
      have gT := Lib.hid o2
      have gAT := Lib.hid a2
      clear o2 a2
      cases bb with
      | true =>
        go_wp2
        exact gQ.out _ _ _ _ _ _ _ _ _ _ _ _ _ _ _ _ _ _ m _ hm1 hm2 gz.out gT.out gAT.out
      | false =>
        have ht : vy ≤ vx := by simpa using gbb.out
        rw [gvx.out, gvy.out] at ht
        have gt := Lib.hid (gz.out.grow gm3.out (by omega) ht)
        clear ht
        go_wp2
        exact ⟨⟨m + 1, by omega, by omega, by go_num, gt.out, gT.out, gAT.out⟩, by simp [intOf]; omega⟩
    · have lc : decide ((m : Int) < (b : Int)) = false := by simp; omega
      go_wp2
      refine wp_nopan ?_
      refine wp_region_held (S := fun _ => True) (by kernel_rfl) ?_
      have hS : True := trivial
      refine takeL (i := 0) (v := (.int .i64 (m : Int))) rfl (by kernel_rfl) (by kernel_rfl) (by kernel_rfl) (fun _ _ _ h => h) rfl (by assumption) (fun w' hS' => by go_simp) ?_
      simp only [Act.put, List.setIfInBounds_toArray, List.set_cons_zero, List.set_cons_succ]
      refine takeL (i := 1) (v := (.int .i64 (b : Int))) rfl (by kernel_rfl) (by kernel_rfl) (by kernel_rfl) (fun _ _ _ h => h) rfl (by assumption) (fun w' hS' => by go_simp) ?_
      simp only [Act.put, List.setIfInBounds_toArray, List.set_cons_zero, List.set_cons_succ]
      refine takeL (i := 2) (v := (.bool false)) rfl (by kernel_rfl) (by kernel_rfl) (by kernel_rfl) (fun _ _ _ h => h) rfl (by assumption) (fun w' hS' => by go_simp) ?_
      simp only [Act.put, List.setIfInBounds_toArray, List.set_cons_zero, List.set_cons_succ]
      refine takeL (i := 3) (v := (.bool false)) rfl (by kernel_rfl) (by kernel_rfl) (by kernel_rfl) (fun _ _ _ h => h) rfl (by assumption) (fun w' hS' => by go_simp) ?_
      simp only [Act.put, List.setIfInBounds_toArray, List.set_cons_zero, List.set_cons_succ]
      refine skipL (i := 4) rfl (by kernel_rfl) (by kernel_rfl) (by kernel_rfl) (fun _ _ _ h => h) rfl (by assumption) ?_
      simp only [Act.put, List.setIfInBounds_toArray, List.set_cons_zero, List.set_cons_succ]
      refine skipL (i := 5) rfl (by kernel_rfl) (by kernel_rfl) (by kernel_rfl) (fun _ _ _ h => h) rfl (by assumption) ?_
      simp only [Act.put, List.setIfInBounds_toArray, List.set_cons_zero, List.set_cons_succ]
      refine skipL (i := 6) rfl (by kernel_rfl) (by kernel_rfl) (by kernel_rfl) (fun _ _ _ h => h) rfl (by assumption) ?_
      simp only [Act.put, List.setIfInBounds_toArray, List.set_cons_zero, List.set_cons_succ]
      refine skipL (i := 7) rfl (by kernel_rfl) (by kernel_rfl) (by kernel_rfl) (fun _ _ _ h => h) rfl (by assumption) ?_
      simp only [Act.put, List.setIfInBounds_toArray, List.set_cons_zero, List.set_cons_succ]
      refine skipL (i := 8) rfl (by kernel_rfl) (by kernel_rfl) (by kernel_rfl) (fun _ _ _ h => h) rfl (by assumption) ?_
      simp only [Act.put, List.setIfInBounds_toArray, List.set_cons_zero, List.set_cons_succ]
      refine skipL (i := 9) rfl (by kernel_rfl) (by kernel_rfl) (by kernel_rfl) (fun _ _ _ h => h) rfl (by assumption) ?_
      simp only [Act.put, List.setIfInBounds_toArray, List.set_cons_zero, List.set_cons_succ]
      refine skipL (i := 10) rfl (by kernel_rfl) (by kernel_rfl) (by kernel_rfl) (fun _ _ _ h => h) rfl (by assumption) ?_
      simp only [Act.put, List.setIfInBounds_toArray, List.set_cons_zero, List.set_cons_succ]
      refine skipL (i := 11) rfl (by kernel_rfl) (by kernel_rfl) (by kernel_rfl) (fun _ _ _ h => h) rfl (by assumption) ?_
      simp only [Act.put, List.setIfInBounds_toArray, List.set_cons_zero, List.set_cons_succ]
      refine skipL (i := 12) rfl (by kernel_rfl) (by kernel_rfl) (by kernel_rfl) (fun _ _ _ h => h) rfl (by assumption) ?_
      simp only [Act.put, List.setIfInBounds_toArray, List.set_cons_zero, List.set_cons_succ]
      refine skipL (i := 13) rfl (by kernel_rfl) (by kernel_rfl) (by kernel_rfl) (fun _ _ _ h => h) rfl (by assumption) ?_
      simp only [Act.put, List.setIfInBounds_toArray, List.set_cons_zero, List.set_cons_succ]
      refine skipL (i := 14) rfl (by kernel_rfl) (by kernel_rfl) (by kernel_rfl) (fun _ _ _ h => h) rfl (by assumption) ?_
      simp only [Act.put, List.setIfInBounds_toArray, List.set_cons_zero, List.set_cons_succ]
      refine takeL (i := 15) (v := (.bool false)) rfl (by kernel_rfl) (by kernel_rfl) (by kernel_rfl) (fun _ _ _ h => h) rfl (by assumption) (fun w' hS' => by go_simp) ?_
      simp only [Act.put, List.setIfInBounds_toArray, List.set_cons_zero, List.set_cons_succ]
      refine wpAnyH_done (by kernel_rfl) ?_ _
      simp only [NoPan]
      refine gen_q (fun W2 => OwU base (.slice (some ⟨g, 0, none⟩) n cap) L W2 ∧ Apart g W W2) ⟨g1.out.later ((Below.refl _ _).drew), g2.out.trans (Apart.begin g wr)⟩ ?_
      rintro W2 ⟨o2, a2⟩
      have g3 := Lib.hid o2
      have g4 := Lib.hid a2
      clear o2 a2 hS
      go_wp2
      exact gQ.out _ _ _ _ _ _ _ _ _ _ _ _ _ _ _ _ _ _ m _ hm1 hm2 gz.out g3.out g4.out
noncomputable def leftIB : Code := blockInC 4 Tryd.f52
set_option maxHeartbeats 16000000 in
theorem leftI {Q : Exit → Act → World → Prop} (base g n cap a b i1 : Nat) (l M0 : List Int) (W : World) (hn : n ≤ 1000000) (hO0 : OwU base (.slice (some ⟨g, 0, none⟩) n cap) M0 W) (hl0 : l.length = n) (hS0 : SegP a b l M0) (hH0 : Hole a i1 i1 M0) (hlow0 : LowA a b l) (hai : a ≤ i1) (hib : i1 < b) (hbn : b ≤ n) (t1 t2 t3 t4 t5 t6 t7 t8 t10 t11 t12 t13 t14 t15 t16 t17 t18 t19 t20 t21 t22 t23 t24 t25 t26 t27 t28 t29 t30 t31 t32 t33 t34 t35 t36 t37 t38 t39 t40 t41 t42 t43 t44 t45 t46 t47 t48 t49 t50 t51 t52 t53 t54 t55 t56 t57 t58 t59 t60 t61 t62 t63 t64 t65 t66 t67 t68 t69 t70 t71 t72 t73 t74 t75 t76 t77 t78 t79 t80 t81 t82 t83 t84 t85 t86 t87 t88 t89 t90 t91 t92 t93 t94 t95 t96 t97 t98 t99 t100 t101 t102 t103 t104 t105 t106 t107 t108 t109 t110 t111 t112 t113 t114 t115 t116 t117 t118 t119 t120 t121 t122 t123 t124 t125 t126 t127 t128 t129 t130 t131 t132 : Value) (hQ : ∀ (x9 x64 x65 x66 x67 x68 x69 x70 x71 x72 x73 x74 x75 x76 x77 x78 x79 x80 x81 x82 x83 x84 x85 x86 x87 x88 x89 x90 x91 x92 x93 x94 : Value) (M : List Int) (w' : World), OwU base (.slice (some ⟨g, 0, none⟩) n cap) M w' → SegP a b l M → SortedIn a (i1 + 1) M → Apart g W w' → Q .normal { tmps := #[.slice (some ⟨g, 0, none⟩) n cap, t1, t2, t3, t4, t5, t6, t7, t8, x9, t10, t11, t12, t13, t14, t15, t16, t17, t18, t19, t20, t21, t22, t23, t24, t25, t26, t27, t28, t29, t30, t31, t32, t33, t34, t35, t36, t37, t38, t39, t40, t41, t42, t43, t44, t45, t46, t47, t48, t49, t50, t51, t52, t53, t54, t55, t56, t57, t58, t59, t60, t61, t62, t63, x64, x65, x66, x67, x68, x69, x70, x71, x72, x73, x74, x75, x76, x77, x78, x79, x80, x81, x82, x83, x84, x85, x86, x87, x88, x89, x90, x91, x92, x93, x94, t95, t96, t97, t98, t99, t100, t101, t102, t103, t104, t105, t106, t107, t108, t109, t110, t111, t112, t113, t114, t115, t116, t117, t118, t119, t120, t121, t122, t123, t124, t125, t126, t127, t128, t129, t130, t131, t132], defers := [] } w') : leftIB.wp Tryd.prog (Exit.inBlock 4 Q) { tmps := #[.slice (some ⟨g, 0, none⟩) n cap, t1, t2, t3, t4, t5, t6, t7, t8, .int .i64 (i1 : Int), t10, t11, t12, t13, t14, t15, t16, t17, t18, t19, t20, t21, t22, t23, t24, t25, t26, t27, t28, t29, t30, t31, t32, t33, t34, t35, t36, t37, t38, t39, t40, t41, t42, t43, t44, t45, t46, t47, t48, t49, t50, t51, t52, t53, t54, t55, t56, t57, t58, t59, t60, t61, t62, t63, t64, t65, t66, t67, t68, t69, t70, t71, t72, t73, t74, t75, t76, t77, t78, t79, t80, t81, t82, t83, t84, t85, t86, t87, t88, t89, t90, t91, t92, t93, t94, t95, t96, t97, t98, t99, t100, t101, t102, t103, t104, t105, t106, t107, t108, t109, t110, t111, t112, t113, t114, t115, t116, t117, t118, t119, t120, t121, t122, t123, t124, t125, t126, t127, t128, t129, t130, t131, t132], defers := [] } W := by
  have hO := Lib.hid hO0
  have hl := Lib.hid hl0
  have hS2 := Lib.hid hS0
  have hH := Lib.hid hH0
  have hlow := Lib.hid hlow0
  have gQ := Lib.hid hQ
  clear hO0 hl0 hS0 hH0 hlow0 hQ
  simp only [leftIB, blockInC, blockOfC, Tryd.f52, reduceIte, Nat.reduceEqDiff]
  go_loopw [9] (fun v wr => ∃ (j : Nat) (M : List Int), a ≤ j ∧ j ≤ i1 ∧ v = .int .i64 (j : Int) ∧ OwU base (.slice (some ⟨g, 0, none⟩) n cap) M wr ∧ SegP a b l M ∧ Hole a i1 j M ∧ Apart g W wr) (fun v _ => (intOf v).toNat)
  case atStart => exact ⟨i1, M0, hai, Nat.le_refl _, rfl, hO.out, hS2.out, hH.out, Apart.refl _ _⟩
  case round =>
    obtain ⟨j, M, hj1, hj2, rfl, o1, s1, x1, a1'⟩ := hrel
    have gO := Lib.hid o1
    have gs := Lib.hid s1
    have gH := Lib.hid x1
    have gA := Lib.hid a1'
    have gl := Lib.hid (s1.len.trans hl.out)
    clear o1 s1 x1 a1'
    by_cases hc : 1 ≤ j
    · have lc : decide ((j : Int) ≥ 1) = true := by simp; omega
      obtain ⟨jm, hm3⟩ : ∃ jm, jm + 1 = j := ⟨j - 1, by omega⟩
      have hjn : j < n := by omega
      have hjmn : jm < n := by omega
      have wj : IntKind.i64.wrap ((j : Int) - 1) = (jm : Int) := by rw [IntKind.wrap_i64]; omega
      have gm3 := Lib.hid hm3
      clear hm3
      go_wp2
      have cx := gO.out.cell j (by rw [gl.out]; exact hjn)
      have cy := gO.out.cell jm (by rw [gl.out]; exact hjmn)
      obtain ⟨vx, hvx⟩ : ∃ v, v = M.getD j 0 := ⟨_, rfl⟩
      obtain ⟨vy, hvy⟩ : ∃ v, v = M.getD jm 0 := ⟨_, rfl⟩
      rw [← hvx] at cx
      rw [← hvy] at cy
      have gvx := Lib.hid hvx
      have gvy := Lib.hid hvy
      have gcx := Lib.hid cx
      have gcy := Lib.hid cy
      clear cx cy hvx hvy
      refine wp_nopan ?_
      refine wp_region_held (S := fun w' => w'.cell? ⟨g, j, none⟩ = some (.int .u64 vx) ∧ w'.cell? ⟨g, jm, none⟩ = some (.int .u64 vy)) (by kernel_rfl) ?_
      have hS : ({ wr with drawn := wr.drawn + 1 } : World).cell? ⟨g, j, none⟩ = some (.int .u64 vx) ∧ ({ wr with drawn := wr.drawn + 1 } : World).cell? ⟨g, jm, none⟩ = some (.int .u64 vy) := ⟨gcx.out, gcy.out⟩
      refine takeL (i := 0) (v := (.slice (some ⟨g, 0, none⟩) n cap)) rfl (by kernel_rfl) (by kernel_rfl) (by kernel_rfl) (fun _ _ _ h => h) rfl (by assumption) (fun w' hS' => by go_simp) ?_
      simp only [Act.put, List.setIfInBounds_toArray, List.set_cons_zero, List.set_cons_succ]
      refine takeL (i := 1) (v := (.int .i64 (j : Int))) rfl (by kernel_rfl) (by kernel_rfl) (by kernel_rfl) (fun _ _ _ h => h) rfl (by assumption) (fun w' hS' => by go_simp) ?_
      simp only [Act.put, List.setIfInBounds_toArray, List.set_cons_zero, List.set_cons_succ]
      refine takeL (i := 2) (v := (.pointer (some ⟨g, j, none⟩))) rfl (by kernel_rfl) (by kernel_rfl) (by kernel_rfl) (fun _ _ _ h => h) rfl (by assumption) (fun w' hS' => run_index_slice _ 37 22 (.tmp 68) (.tmp 69) rfl Tryd.underlying37 1 sz_u64 g 0 n cap rfl .i64 j rfl hjn j (by omega)) ?_
      simp only [Act.put, List.setIfInBounds_toArray, List.set_cons_zero, List.set_cons_succ]
      refine takeL (i := 3) (v := (.int .u64 vx)) rfl (by kernel_rfl) (by kernel_rfl) (by kernel_rfl) (fun _ _ _ h => h) rfl (by assumption) (fun w' hS' => run_load_cell _ 22 (.tmp 70) rfl ⟨g, j, none⟩ rfl _ hS'.1 _ Tryd.underlying22 rfl) ?_
      simp only [Act.put, List.setIfInBounds_toArray, List.set_cons_zero, List.set_cons_succ]
      refine takeL (i := 4) (v := (.slice (some ⟨g, 0, none⟩) n cap)) rfl (by kernel_rfl) (by kernel_rfl) (by kernel_rfl) (fun _ _ _ h => h) rfl (by assumption) (fun w' hS' => by go_simp) ?_
      simp only [Act.put, List.setIfInBounds_toArray, List.set_cons_zero, List.set_cons_succ]
      refine takeL (i := 5) (v := (.int .i64 (j : Int))) rfl (by kernel_rfl) (by kernel_rfl) (by kernel_rfl) (fun _ _ _ h => h) rfl (by assumption) (fun w' hS' => by go_simp) ?_
      simp only [Act.put, List.setIfInBounds_toArray, List.set_cons_zero, List.set_cons_succ]
      refine takeL (i := 6) (v := (.int .i64 (jm : Int))) rfl (by kernel_rfl) (by kernel_rfl) (by kernel_rfl) (fun _ _ _ h => h) rfl (by assumption) (fun w' hS' => by go_simp) ?_
      simp only [Act.put, List.setIfInBounds_toArray, List.set_cons_zero, List.set_cons_succ]
      refine takeL (i := 7) (v := (.pointer (some ⟨g, jm, none⟩))) rfl (by kernel_rfl) (by kernel_rfl) (by kernel_rfl) (fun _ _ _ h => h) rfl (by assumption) (fun w' hS' => run_index_slice _ 37 22 (.tmp 72) (.tmp 74) rfl Tryd.underlying37 1 sz_u64 g 0 n cap rfl .i64 jm rfl hjmn jm (by omega)) ?_
      simp only [Act.put, List.setIfInBounds_toArray, List.set_cons_zero, List.set_cons_succ]
      refine takeL (i := 8) (v := (.int .u64 vy)) rfl (by kernel_rfl) (by kernel_rfl) (by kernel_rfl) (fun _ _ _ h => h) rfl (by assumption) (fun w' hS' => run_load_cell _ 22 (.tmp 75) rfl ⟨g, jm, none⟩ rfl _ hS'.2 _ Tryd.underlying22 rfl) ?_
      simp only [Act.put, List.setIfInBounds_toArray, List.set_cons_zero, List.set_cons_succ]
      refine oneL (i := 9) rfl (by kernel_rfl) rfl (wp_call 53 #[.int .u64 vx, .int .u64 vy] (by go_simp) _ _ (less_any vx vy _) ?_)
      rintro W2 rfl
      refine ⟨hS, ?_⟩
      simp only [Act.put, List.setIfInBounds_toArray, List.set_cons_zero, List.set_cons_succ]
      obtain ⟨bb, hbb⟩ : ∃ b, b = decide (vx < vy) := ⟨_, rfl⟩
      rw [← hbb]
      have gbb := Lib.hid hbb
      clear hbb
      refine takeL (i := 10) (v := (.bool (!bb))) rfl (by kernel_rfl) (by kernel_rfl) (by kernel_rfl) (fun _ _ _ h => h) rfl (by assumption) (fun w' hS' => by go_simp) ?_
      simp only [Act.put, List.setIfInBounds_toArray, List.set_cons_zero, List.set_cons_succ]
      refine wpAnyH_done (by kernel_rfl) ?_ _
      simp only [NoPan]
      clear hS
      refine gen_q (fun W2 => OwU base (.slice (some ⟨g, 0, none⟩) n cap) M W2 ∧ Apart g W W2) ⟨gO.out.later ((Below.refl _ _).drew), gA.out.trans (Apart.begin g wr)⟩ ?_
      rintro WT ⟨o2, a2⟩
      have gT := Lib.hid o2
      have gAT := Lib.hid a2
      clear o2 a2
      cases bb with
      | false =>
        have ht : vy ≤ vx := by simpa using gbb.out
        rw [gvx.out, gvy.out] at ht
        have gt := Lib.hid (show SortedIn a (i1 + 1) M by
          rcases Nat.lt_or_ge a j with h | h
          · exact gH.out.sorted h hj2 gm3.out ht
          · have e : j = a := by omega
            exact (e ▸ gH.out : Hole a i1 a M).sorted0)
        clear ht
        go_wp2
        exact gQ.out _ _ _ _ _ _ _ _ _ _ _ _ _ _ _ _ _ _ _ _ _ _ _ _ _ _ _ _ _ _ _ _ M _ gT.out gs.out gt.out gAT.out
      | true =>
        have ht : vx < vy := by simpa using gbb.out
        rw [gvx.out, gvy.out] at ht
        have haj : a < j := by
          rcases Nat.lt_or_ge a j with h | h
          · exact h
          · have h2 := (hlow.out.seg gs.out) jm (by have := gm3.out; omega) j (by omega) (by omega)
            omega
        have gH2 := Lib.hid (gH.out.step haj hj2 gm3.out (by rw [gl.out]; omega) ht)
        have gs2 := Lib.hid (gs.out.swp (i := j) (j := jm) ⟨by omega, by omega⟩ ⟨by have := gm3.out; omega, by have := gm3.out; omega⟩ (by rw [hl.out]; exact hbn))
        clear ht
        go_wp2
        refine wp_nopan ?_
        refine wp_region_held (S := fun _ => True) (by kernel_rfl) ?_
        have hS : True := trivial
        have O4 := gT.out.later (w' := { WT with drawn := WT.drawn + 1 }) ((Below.refl _ _).drew)
        have cy := O4.cell jm (by rw [gl.out]; exact hjmn)
        have cx := O4.cell j (by rw [gl.out]; exact hjn)
        refine takeL (i := 0) (v := (.slice (some ⟨g, 0, none⟩) n cap)) rfl (by kernel_rfl) (by kernel_rfl) (by kernel_rfl) (fun _ _ _ h => h) rfl (by assumption) (fun w' hS' => by go_simp) ?_
        simp only [Act.put, List.setIfInBounds_toArray, List.set_cons_zero, List.set_cons_succ]
        refine takeL (i := 1) (v := (.int .i64 (j : Int))) rfl (by kernel_rfl) (by kernel_rfl) (by kernel_rfl) (fun _ _ _ h => h) rfl (by assumption) (fun w' hS' => by go_simp) ?_
        simp only [Act.put, List.setIfInBounds_toArray, List.set_cons_zero, List.set_cons_succ]
        refine takeL (i := 2) (v := (.slice (some ⟨g, 0, none⟩) n cap)) rfl (by kernel_rfl) (by kernel_rfl) (by kernel_rfl) (fun _ _ _ h => h) rfl (by assumption) (fun w' hS' => by go_simp) ?_
        simp only [Act.put, List.setIfInBounds_toArray, List.set_cons_zero, List.set_cons_succ]
        refine takeL (i := 3) (v := (.int .i64 (j : Int))) rfl (by kernel_rfl) (by kernel_rfl) (by kernel_rfl) (fun _ _ _ h => h) rfl (by assumption) (fun w' hS' => by go_simp) ?_
        simp only [Act.put, List.setIfInBounds_toArray, List.set_cons_zero, List.set_cons_succ]
        refine takeL (i := 4) (v := (.int .i64 (jm : Int))) rfl (by kernel_rfl) (by kernel_rfl) (by kernel_rfl) (fun _ _ _ h => h) rfl (by assumption) (fun w' hS' => by go_simp) ?_
        simp only [Act.put, List.setIfInBounds_toArray, List.set_cons_zero, List.set_cons_succ]
        refine takeL (i := 5) (v := (.slice (some ⟨g, 0, none⟩) n cap)) rfl (by kernel_rfl) (by kernel_rfl) (by kernel_rfl) (fun _ _ _ h => h) rfl (by assumption) (fun w' hS' => by go_simp) ?_
        simp only [Act.put, List.setIfInBounds_toArray, List.set_cons_zero, List.set_cons_succ]
        refine takeL (i := 6) (v := (.int .i64 (j : Int))) rfl (by kernel_rfl) (by kernel_rfl) (by kernel_rfl) (fun _ _ _ h => h) rfl (by assumption) (fun w' hS' => by go_simp) ?_
        simp only [Act.put, List.setIfInBounds_toArray, List.set_cons_zero, List.set_cons_succ]
        refine takeL (i := 7) (v := (.int .i64 (jm : Int))) rfl (by kernel_rfl) (by kernel_rfl) (by kernel_rfl) (fun _ _ _ h => h) rfl (by assumption) (fun w' hS' => by go_simp) ?_
        simp only [Act.put, List.setIfInBounds_toArray, List.set_cons_zero, List.set_cons_succ]
        refine takeL (i := 8) (v := (.pointer (some ⟨g, jm, none⟩))) rfl (by kernel_rfl) (by kernel_rfl) (by kernel_rfl) (fun _ _ _ h => h) rfl (by assumption) (fun w' hS' => run_index_slice _ 37 22 (.tmp 84) (.tmp 86) rfl Tryd.underlying37 1 sz_u64 g 0 n cap rfl .i64 jm rfl hjmn jm (by omega)) ?_
        simp only [Act.put, List.setIfInBounds_toArray, List.set_cons_zero, List.set_cons_succ]
        refine takeL (i := 10) (v := (.slice (some ⟨g, 0, none⟩) n cap)) rfl (by kernel_rfl) (by kernel_rfl) (by kernel_rfl) (fun _ _ _ h => h) rfl (by assumption) (fun w' hS' => by go_simp) ?_
        simp only [Act.put, List.setIfInBounds_toArray, List.set_cons_zero, List.set_cons_succ]
        refine takeL (i := 11) (v := (.int .i64 (j : Int))) rfl (by kernel_rfl) (by kernel_rfl) (by kernel_rfl) (fun _ _ _ h => h) rfl (by assumption) (fun w' hS' => by go_simp) ?_
        simp only [Act.put, List.setIfInBounds_toArray, List.set_cons_zero, List.set_cons_succ]
        refine takeL (i := 12) (v := (.pointer (some ⟨g, j, none⟩))) rfl (by kernel_rfl) (by kernel_rfl) (by kernel_rfl) (fun _ _ _ h => h) rfl (by assumption) (fun w' hS' => run_index_slice _ 37 22 (.tmp 89) (.tmp 90) rfl Tryd.underlying37 1 sz_u64 g 0 n cap rfl .i64 j rfl hjn j (by omega)) ?_
        simp only [Act.put, List.setIfInBounds_toArray, List.set_cons_zero, List.set_cons_succ]
        refine pairL (i := 9) (k := 13) (.int .u64 (M.getD jm 0)) (.int .u64 (M.getD j 0)) (Wn := { WT with drawn := WT.drawn + 1 }) rfl rfl (by kernel_rfl) (by kernel_rfl) (by kernel_rfl) rfl rfl rfl rfl (run_load_cell _ 22 (.tmp 87) rfl ⟨g, jm, none⟩ rfl _ cy _ Tryd.underlying22 rfl) (run_load_cell _ 22 (.tmp 87) rfl ⟨g, jm, none⟩ rfl _ cy _ Tryd.underlying22 rfl) (run_load_cell _ 22 (.tmp 91) rfl ⟨g, j, none⟩ rfl _ cx _ Tryd.underlying22 rfl) (run_load_cell _ 22 (.tmp 91) rfl ⟨g, j, none⟩ rfl _ cx _ Tryd.underlying22 rfl) trivial trivial (by kernel_rfl) (by rfl) ?_
        simp only [Act.put, List.setIfInBounds_toArray, List.set_cons_zero, List.set_cons_succ]
        refine takeL (i := 14) (v := (.pointer (some ⟨g, j, none⟩))) rfl (by kernel_rfl) (by kernel_rfl) (by kernel_rfl) (fun _ _ _ h => h) rfl (by assumption) (fun w' hS' => run_index_slice _ 37 22 (.tmp 79) (.tmp 80) rfl Tryd.underlying37 1 sz_u64 g 0 n cap rfl .i64 j rfl hjn j (by omega)) ?_
        simp only [Act.put, List.setIfInBounds_toArray, List.set_cons_zero, List.set_cons_succ]
        refine oneL (i := 15) rfl (by kernel_rfl) rfl (wp_storeU (.tmp 93) (.tmp 88) rfl base g n cap j M O4 rfl (M.getD jm 0) rfl (by rw [gl.out]; exact hjn) ?_)
        intro W3 hO5 hA5
        refine ⟨trivial, ?_⟩
        simp only [Act.put, List.setIfInBounds_toArray, List.set_cons_zero, List.set_cons_succ]
        refine takeL (i := 16) (v := (.pointer (some ⟨g, jm, none⟩))) rfl (by kernel_rfl) (by kernel_rfl) (by kernel_rfl) (fun _ _ _ h => h) rfl (by assumption) (fun w' hS' => run_index_slice _ 37 22 (.tmp 81) (.tmp 83) rfl Tryd.underlying37 1 sz_u64 g 0 n cap rfl .i64 jm rfl hjmn jm (by omega)) ?_
        simp only [Act.put, List.setIfInBounds_toArray, List.set_cons_zero, List.set_cons_succ]
        refine oneL (i := 17) rfl (by kernel_rfl) rfl (wp_storeU (.tmp 94) (.tmp 92) rfl base g n cap jm (M.set j (M.getD jm 0)) hO5 rfl (M.getD j 0) rfl (by rw [List.length_set, gl.out]; exact hjmn) ?_)
        intro W4 hO6 hA6
        refine ⟨trivial, ?_⟩
        simp only [Act.put, List.setIfInBounds_toArray, List.set_cons_zero, List.set_cons_succ]
        refine wpAnyH_done (by kernel_rfl) ?_ _
        simp only [NoPan]
        rw [swp_two] at hO6
        have hA7 := ((gAT.out.trans (Apart.begin g WT)).trans hA5).trans hA6
        refine gen_q (fun W2 => OwU base (.slice (some ⟨g, 0, none⟩) n cap) (swp M j jm) W2 ∧ Apart g W W2) ⟨hO6, hA7⟩ ?_
        clear hA7 hO6 hA6 hO5 hA5 O4 hS cx cy
        rintro WS1 ⟨o2, a2⟩
        have gS1 := Lib.hid o2
        have gAS1 := Lib.hid a2
        clear o2 a2
        go_wp2
        exact ⟨⟨jm, _, by have := gm3.out; omega, by have := gm3.out; omega, rfl, gS1.out, gs2.out, gH2.out, gAS1.out⟩, by have := gm3.out; simp [intOf]; omega⟩
    · have lc : decide ((j : Int) ≥ 1) = false := by simp; omega
      have e : j = a := by omega
      have gt := Lib.hid ((e ▸ gH.out : Hole a i1 a M).sorted0)
      go_wp2
      exact gQ.out _ _ _ _ _ _ _ _ _ _ _ _ _ _ _ _ _ _ _ _ _ _ _ _ _ _ _ _ _ _ _ _ M _ gO.out gs.out gt.out gA.out
noncomputable def rightIB : Code := blockInC 6 Tryd.f52
set_option maxHeartbeats 16000000 in
theorem rightI {Q : Exit → Act → World → Prop} (base g n cap i b k0 : Nat) (M0 : List Int) (W : World) (hn : n ≤ 1000000) (hO0 : OwU base (.slice (some ⟨g, 0, none⟩) n cap) M0 W) (hl0 : M0.length = n) (hik : i < k0) (hkb : k0 ≤ b) (hbn : b ≤ n) (t1 t3 t4 t5 t6 t7 t8 t9 t11 t12 t13 t14 t15 t16 t17 t18 t19 t20 t21 t22 t23 t24 t25 t26 t27 t28 t29 t30 t31 t32 t33 t34 t35 t36 t37 t38 t39 t40 t41 t42 t43 t44 t45 t46 t47 t48 t49 t50 t51 t52 t53 t54 t55 t56 t57 t58 t59 t60 t61 t62 t63 t64 t65 t66 t67 t68 t69 t70 t71 t72 t73 t74 t75 t76 t77 t78 t79 t80 t81 t82 t83 t84 t85 t86 t87 t88 t89 t90 t91 t92 t93 t94 t95 t96 t97 t98 t99 t100 t101 t102 t103 t104 t105 t106 t107 t108 t109 t110 t111 t112 t113 t114 t115 t116 t117 t118 t119 t120 t121 t122 t123 t124 t125 t126 t127 t128 t129 t130 t131 t132 : Value) (hQ : ∀ (x10 x101 x102 x103 x104 x105 x106 x107 x108 x109 x110 x111 x112 x113 x114 x115 x116 x117 x118 x119 x120 x121 x122 x123 x124 x125 x126 x127 x128 x129 x130 x131 x132 : Value) (M : List Int) (w' : World), OwU base (.slice (some ⟨g, 0, none⟩) n cap) M w' → SegP i b M0 M → Apart g W w' → Q .normal { tmps := #[.slice (some ⟨g, 0, none⟩) n cap, t1, .int .i64 (b : Int), t3, t4, t5, t6, t7, t8, t9, x10, t11, t12, t13, t14, t15, t16, t17, t18, t19, t20, t21, t22, t23, t24, t25, t26, t27, t28, t29, t30, t31, t32, t33, t34, t35, t36, t37, t38, t39, t40, t41, t42, t43, t44, t45, t46, t47, t48, t49, t50, t51, t52, t53, t54, t55, t56, t57, t58, t59, t60, t61, t62, t63, t64, t65, t66, t67, t68, t69, t70, t71, t72, t73, t74, t75, t76, t77, t78, t79, t80, t81, t82, t83, t84, t85, t86, t87, t88, t89, t90, t91, t92, t93, t94, t95, t96, t97, t98, t99, t100, x101, x102, x103, x104, x105, x106, x107, x108, x109, x110, x111, x112, x113, x114, x115, x116, x117, x118, x119, x120, x121, x122, x123, x124, x125, x126, x127, x128, x129, x130, x131, x132], defers := [] } w') : rightIB.wp Tryd.prog (Exit.inBlock 6 Q) { tmps := #[.slice (some ⟨g, 0, none⟩) n cap, t1, .int .i64 (b : Int), t3, t4, t5, t6, t7, t8, t9, .int .i64 (k0 : Int), t11, t12, t13, t14, t15, t16, t17, t18, t19, t20, t21, t22, t23, t24, t25, t26, t27, t28, t29, t30, t31, t32, t33, t34, t35, t36, t37, t38, t39, t40, t41, t42, t43, t44, t45, t46, t47, t48, t49, t50, t51, t52, t53, t54, t55, t56, t57, t58, t59, t60, t61, t62, t63, t64, t65, t66, t67, t68, t69, t70, t71, t72, t73, t74, t75, t76, t77, t78, t79, t80, t81, t82, t83, t84, t85, t86, t87, t88, t89, t90, t91, t92, t93, t94, t95, t96, t97, t98, t99, t100, t101, t102, t103, t104, t105, t106, t107, t108, t109, t110, t111, t112, t113, t114, t115, t116, t117, t118, t119, t120, t121, t122, t123, t124, t125, t126, t127, t128, t129, t130, t131, t132], defers := [] } W := by
  have hO := Lib.hid hO0
  have hl := Lib.hid hl0
  have gQ := Lib.hid hQ
  clear hO0 hl0 hQ
  simp only [rightIB, blockInC, blockOfC, Tryd.f52, reduceIte, Nat.reduceEqDiff]
  go_loopw [10] (fun v wr => ∃ (j : Nat) (M : List Int), i < j ∧ j ≤ b ∧ v = .int .i64 (j : Int) ∧ OwU base (.slice (some ⟨g, 0, none⟩) n cap) M wr ∧ SegP i b M0 M ∧ Apart g W wr) (fun v _ => b - (intOf v).toNat)
  case atStart => exact ⟨k0, M0, hik, hkb, rfl, hO.out, SegP.refl _ _ _, Apart.refl _ _⟩
  case round =>
    obtain ⟨j, M, hj1, hj2, rfl, o1, s1, a1'⟩ := hrel
    have gO := Lib.hid o1
    have gs := Lib.hid s1
    have gA := Lib.hid a1'
    have gl := Lib.hid (s1.len.trans hl.out)
    clear o1 s1 a1'
    by_cases hc : j < b
    · have lc : decide ((j : Int) < (b : Int)) = true := by simp; omega
      obtain ⟨jm, hm3⟩ : ∃ jm, jm + 1 = j := ⟨j - 1, by omega⟩
      have hjn : j < n := by omega
      have hjmn : jm < n := by omega
      have wj : IntKind.i64.wrap ((j : Int) - 1) = (jm : Int) := by rw [IntKind.wrap_i64]; omega
      have wj2 : IntKind.i64.wrap ((j : Int) + 1) = ((j + 1 : Nat) : Int) := by rw [IntKind.wrap_i64]; omega
      have gm3 := Lib.hid hm3
      clear hm3
      go_wp2
      have cx := gO.out.cell j (by rw [gl.out]; exact hjn)
      have cy := gO.out.cell jm (by rw [gl.out]; exact hjmn)
      obtain ⟨vx, hvx⟩ : ∃ v, v = M.getD j 0 := ⟨_, rfl⟩
      obtain ⟨vy, hvy⟩ : ∃ v, v = M.getD jm 0 := ⟨_, rfl⟩
      rw [← hvx] at cx
      rw [← hvy] at cy
      have gvx := Lib.hid hvx
      have gvy := Lib.hid hvy
      have gcx := Lib.hid cx
      have gcy := Lib.hid cy
      clear cx cy hvx hvy
      refine wp_nopan ?_
      refine wp_region_held (S := fun w' => w'.cell? ⟨g, j, none⟩ = some (.int .u64 vx) ∧ w'.cell? ⟨g, jm, none⟩ = some (.int .u64 vy)) (by kernel_rfl) ?_
      have hS : ({ wr with drawn := wr.drawn + 1 } : World).cell? ⟨g, j, none⟩ = some (.int .u64 vx) ∧ ({ wr with drawn := wr.drawn + 1 } : World).cell? ⟨g, jm, none⟩ = some (.int .u64 vy) := ⟨gcx.out, gcy.out⟩
      refine takeL (i := 0) (v := (.slice (some ⟨g, 0, none⟩) n cap)) rfl (by kernel_rfl) (by kernel_rfl) (by kernel_rfl) (fun _ _ _ h => h) rfl (by assumption) (fun w' hS' => by go_simp) ?_
      simp only [Act.put, List.setIfInBounds_toArray, List.set_cons_zero, List.set_cons_succ]
      refine takeL (i := 1) (v := (.int .i64 (j : Int))) rfl (by kernel_rfl) (by kernel_rfl) (by kernel_rfl) (fun _ _ _ h => h) rfl (by assumption) (fun w' hS' => by go_simp) ?_
      simp only [Act.put, List.setIfInBounds_toArray, List.set_cons_zero, List.set_cons_succ]
      refine takeL (i := 2) (v := (.pointer (some ⟨g, j, none⟩))) rfl (by kernel_rfl) (by kernel_rfl) (by kernel_rfl) (fun _ _ _ h => h) rfl (by assumption) (fun w' hS' => run_index_slice _ 37 22 (.tmp 106) (.tmp 107) rfl Tryd.underlying37 1 sz_u64 g 0 n cap rfl .i64 j rfl hjn j (by omega)) ?_
      simp only [Act.put, List.setIfInBounds_toArray, List.set_cons_zero, List.set_cons_succ]
      refine takeL (i := 3) (v := (.int .u64 vx)) rfl (by kernel_rfl) (by kernel_rfl) (by kernel_rfl) (fun _ _ _ h => h) rfl (by assumption) (fun w' hS' => run_load_cell _ 22 (.tmp 108) rfl ⟨g, j, none⟩ rfl _ hS'.1 _ Tryd.underlying22 rfl) ?_
      simp only [Act.put, List.setIfInBounds_toArray, List.set_cons_zero, List.set_cons_succ]
      refine takeL (i := 4) (v := (.slice (some ⟨g, 0, none⟩) n cap)) rfl (by kernel_rfl) (by kernel_rfl) (by kernel_rfl) (fun _ _ _ h => h) rfl (by assumption) (fun w' hS' => by go_simp) ?_
      simp only [Act.put, List.setIfInBounds_toArray, List.set_cons_zero, List.set_cons_succ]
      refine takeL (i := 5) (v := (.int .i64 (j : Int))) rfl (by kernel_rfl) (by kernel_rfl) (by kernel_rfl) (fun _ _ _ h => h) rfl (by assumption) (fun w' hS' => by go_simp) ?_
      simp only [Act.put, List.setIfInBounds_toArray, List.set_cons_zero, List.set_cons_succ]
      refine takeL (i := 6) (v := (.int .i64 (jm : Int))) rfl (by kernel_rfl) (by kernel_rfl) (by kernel_rfl) (fun _ _ _ h => h) rfl (by assumption) (fun w' hS' => by go_simp) ?_
      simp only [Act.put, List.setIfInBounds_toArray, List.set_cons_zero, List.set_cons_succ]
      refine takeL (i := 7) (v := (.pointer (some ⟨g, jm, none⟩))) rfl (by kernel_rfl) (by kernel_rfl) (by kernel_rfl) (fun _ _ _ h => h) rfl (by assumption) (fun w' hS' => run_index_slice _ 37 22 (.tmp 110) (.tmp 112) rfl Tryd.underlying37 1 sz_u64 g 0 n cap rfl .i64 jm rfl hjmn jm (by omega)) ?_
      simp only [Act.put, List.setIfInBounds_toArray, List.set_cons_zero, List.set_cons_succ]
      refine takeL (i := 8) (v := (.int .u64 vy)) rfl (by kernel_rfl) (by kernel_rfl) (by kernel_rfl) (fun _ _ _ h => h) rfl (by assumption) (fun w' hS' => run_load_cell _ 22 (.tmp 113) rfl ⟨g, jm, none⟩ rfl _ hS'.2 _ Tryd.underlying22 rfl) ?_
      simp only [Act.put, List.setIfInBounds_toArray, List.set_cons_zero, List.set_cons_succ]
      refine oneL (i := 9) rfl (by kernel_rfl) rfl (wp_call 53 #[.int .u64 vx, .int .u64 vy] (by go_simp) _ _ (less_any vx vy _) ?_)
      rintro W2 rfl
      refine ⟨hS, ?_⟩
      simp only [Act.put, List.setIfInBounds_toArray, List.set_cons_zero, List.set_cons_succ]
      obtain ⟨bb, hbb⟩ : ∃ b, b = decide (vx < vy) := ⟨_, rfl⟩
      rw [← hbb]
      have gbb := Lib.hid hbb
      clear hbb
      refine takeL (i := 10) (v := (.bool (!bb))) rfl (by kernel_rfl) (by kernel_rfl) (by kernel_rfl) (fun _ _ _ h => h) rfl (by assumption) (fun w' hS' => by go_simp) ?_
      simp only [Act.put, List.setIfInBounds_toArray, List.set_cons_zero, List.set_cons_succ]
      refine wpAnyH_done (by kernel_rfl) ?_ _
      simp only [NoPan]
      clear hS
      refine gen_q (fun W2 => OwU base (.slice (some ⟨g, 0, none⟩) n cap) M W2 ∧ Apart g W W2) ⟨gO.out.later ((Below.refl _ _).drew), gA.out.trans (Apart.begin g wr)⟩ ?_
      rintro WT ⟨o2, a2⟩
      have gT := Lib.hid o2
      have gAT := Lib.hid a2
      clear o2 a2
      cases bb with
      | false =>
        go_wp2
        exact gQ.out _ _ _ _ _ _ _ _ _ _ _ _ _ _ _ _ _ _ _ _ _ _ _ _ _ _ _ _ _ _ _ _ _ M _ gT.out gs.out gAT.out
      | true =>
        have gs2 := Lib.hid (gs.out.swp (i := j) (j := jm) ⟨by omega, by omega⟩ ⟨by have := gm3.out; omega, by have := gm3.out; omega⟩ (by rw [hl.out]; exact hbn))
        go_wp2
        refine wp_nopan ?_
        refine wp_region_held (S := fun _ => True) (by kernel_rfl) ?_
        have hS : True := trivial
        have O4 := gT.out.later (w' := { WT with drawn := WT.drawn + 1 }) ((Below.refl _ _).drew)
        have cy := O4.cell jm (by rw [gl.out]; exact hjmn)
        have cx := O4.cell j (by rw [gl.out]; exact hjn)
        refine takeL (i := 0) (v := (.slice (some ⟨g, 0, none⟩) n cap)) rfl (by kernel_rfl) (by kernel_rfl) (by kernel_rfl) (fun _ _ _ h => h) rfl (by assumption) (fun w' hS' => by go_simp) ?_
        simp only [Act.put, List.setIfInBounds_toArray, List.set_cons_zero, List.set_cons_succ]
        refine takeL (i := 1) (v := (.int .i64 (j : Int))) rfl (by kernel_rfl) (by kernel_rfl) (by kernel_rfl) (fun _ _ _ h => h) rfl (by assumption) (fun w' hS' => by go_simp) ?_
        simp only [Act.put, List.setIfInBounds_toArray, List.set_cons_zero, List.set_cons_succ]
        refine takeL (i := 2) (v := (.slice (some ⟨g, 0, none⟩) n cap)) rfl (by kernel_rfl) (by kernel_rfl) (by kernel_rfl) (fun _ _ _ h => h) rfl (by assumption) (fun w' hS' => by go_simp) ?_
        simp only [Act.put, List.setIfInBounds_toArray, List.set_cons_zero, List.set_cons_succ]
        refine takeL (i := 3) (v := (.int .i64 (j : Int))) rfl (by kernel_rfl) (by kernel_rfl) (by kernel_rfl) (fun _ _ _ h => h) rfl (by assumption) (fun w' hS' => by go_simp) ?_
        simp only [Act.put, List.setIfInBounds_toArray, List.set_cons_zero, List.set_cons_succ]
        refine takeL (i := 4) (v := (.int .i64 (jm : Int))) rfl (by kernel_rfl) (by kernel_rfl) (by kernel_rfl) (fun _ _ _ h => h) rfl (by assumption) (fun w' hS' => by go_simp) ?_
        simp only [Act.put, List.setIfInBounds_toArray, List.set_cons_zero, List.set_cons_succ]
        refine takeL (i := 5) (v := (.slice (some ⟨g, 0, none⟩) n cap)) rfl (by kernel_rfl) (by kernel_rfl) (by kernel_rfl) (fun _ _ _ h => h) rfl (by assumption) (fun w' hS' => by go_simp) ?_
        simp only [Act.put, List.setIfInBounds_toArray, List.set_cons_zero, List.set_cons_succ]
        refine takeL (i := 6) (v := (.int .i64 (j : Int))) rfl (by kernel_rfl) (by kernel_rfl) (by kernel_rfl) (fun _ _ _ h => h) rfl (by assumption) (fun w' hS' => by go_simp) ?_
        simp only [Act.put, List.setIfInBounds_toArray, List.set_cons_zero, List.set_cons_succ]
        refine takeL (i := 7) (v := (.int .i64 (jm : Int))) rfl (by kernel_rfl) (by kernel_rfl) (by kernel_rfl) (fun _ _ _ h => h) rfl (by assumption) (fun w' hS' => by go_simp) ?_
        simp only [Act.put, List.setIfInBounds_toArray, List.set_cons_zero, List.set_cons_succ]
        refine takeL (i := 8) (v := (.pointer (some ⟨g, jm, none⟩))) rfl (by kernel_rfl) (by kernel_rfl) (by kernel_rfl) (fun _ _ _ h => h) rfl (by assumption) (fun w' hS' => run_index_slice _ 37 22 (.tmp 122) (.tmp 124) rfl Tryd.underlying37 1 sz_u64 g 0 n cap rfl .i64 jm rfl hjmn jm (by omega)) ?_
        simp only [Act.put, List.setIfInBounds_toArray, List.set_cons_zero, List.set_cons_succ]
        refine takeL (i := 10) (v := (.slice (some ⟨g, 0, none⟩) n cap)) rfl (by kernel_rfl) (by kernel_rfl) (by kernel_rfl) (fun _ _ _ h => h) rfl (by assumption) (fun w' hS' => by go_simp) ?_
        simp only [Act.put, List.setIfInBounds_toArray, List.set_cons_zero, List.set_cons_succ]
        refine takeL (i := 11) (v := (.int .i64 (j : Int))) rfl (by kernel_rfl) (by kernel_rfl) (by kernel_rfl) (fun _ _ _ h => h) rfl (by assumption) (fun w' hS' => by go_simp) ?_
        simp only [Act.put, List.setIfInBounds_toArray, List.set_cons_zero, List.set_cons_succ]
        refine takeL (i := 12) (v := (.pointer (some ⟨g, j, none⟩))) rfl (by kernel_rfl) (by kernel_rfl) (by kernel_rfl) (fun _ _ _ h => h) rfl (by assumption) (fun w' hS' => run_index_slice _ 37 22 (.tmp 127) (.tmp 128) rfl Tryd.underlying37 1 sz_u64 g 0 n cap rfl .i64 j rfl hjn j (by omega)) ?_
        simp only [Act.put, List.setIfInBounds_toArray, List.set_cons_zero, List.set_cons_succ]
        refine pairL (i := 9) (k := 13) (.int .u64 (M.getD jm 0)) (.int .u64 (M.getD j 0)) (Wn := { WT with drawn := WT.drawn + 1 }) rfl rfl (by kernel_rfl) (by kernel_rfl) (by kernel_rfl) rfl rfl rfl rfl (run_load_cell _ 22 (.tmp 125) rfl ⟨g, jm, none⟩ rfl _ cy _ Tryd.underlying22 rfl) (run_load_cell _ 22 (.tmp 125) rfl ⟨g, jm, none⟩ rfl _ cy _ Tryd.underlying22 rfl) (run_load_cell _ 22 (.tmp 129) rfl ⟨g, j, none⟩ rfl _ cx _ Tryd.underlying22 rfl) (run_load_cell _ 22 (.tmp 129) rfl ⟨g, j, none⟩ rfl _ cx _ Tryd.underlying22 rfl) trivial trivial (by kernel_rfl) (by rfl) ?_
        simp only [Act.put, List.setIfInBounds_toArray, List.set_cons_zero, List.set_cons_succ]
        refine takeL (i := 14) (v := (.pointer (some ⟨g, j, none⟩))) rfl (by kernel_rfl) (by kernel_rfl) (by kernel_rfl) (fun _ _ _ h => h) rfl (by assumption) (fun w' hS' => run_index_slice _ 37 22 (.tmp 117) (.tmp 118) rfl Tryd.underlying37 1 sz_u64 g 0 n cap rfl .i64 j rfl hjn j (by omega)) ?_
        simp only [Act.put, List.setIfInBounds_toArray, List.set_cons_zero, List.set_cons_succ]
        refine oneL (i := 15) rfl (by kernel_rfl) rfl (wp_storeU (.tmp 131) (.tmp 126) rfl base g n cap j M O4 rfl (M.getD jm 0) rfl (by rw [gl.out]; exact hjn) ?_)
        intro W3 hO5 hA5
        refine ⟨trivial, ?_⟩
        simp only [Act.put, List.setIfInBounds_toArray, List.set_cons_zero, List.set_cons_succ]
        refine takeL (i := 16) (v := (.pointer (some ⟨g, jm, none⟩))) rfl (by kernel_rfl) (by kernel_rfl) (by kernel_rfl) (fun _ _ _ h => h) rfl (by assumption) (fun w' hS' => run_index_slice _ 37 22 (.tmp 119) (.tmp 121) rfl Tryd.underlying37 1 sz_u64 g 0 n cap rfl .i64 jm rfl hjmn jm (by omega)) ?_
        simp only [Act.put, List.setIfInBounds_toArray, List.set_cons_zero, List.set_cons_succ]
        refine oneL (i := 17) rfl (by kernel_rfl) rfl (wp_storeU (.tmp 132) (.tmp 130) rfl base g n cap jm (M.set j (M.getD jm 0)) hO5 rfl (M.getD j 0) rfl (by rw [List.length_set, gl.out]; exact hjmn) ?_)
        intro W4 hO6 hA6
        refine ⟨trivial, ?_⟩
        simp only [Act.put, List.setIfInBounds_toArray, List.set_cons_zero, List.set_cons_succ]
        refine wpAnyH_done (by kernel_rfl) ?_ _
        simp only [NoPan]
        rw [swp_two] at hO6
        have hA7 := ((gAT.out.trans (Apart.begin g WT)).trans hA5).trans hA6
        refine gen_q (fun W2 => OwU base (.slice (some ⟨g, 0, none⟩) n cap) (swp M j jm) W2 ∧ Apart g W W2) ⟨hO6, hA7⟩ ?_
        clear hA7 hO6 hA6 hO5 hA5 O4 hS cx cy
        rintro WS1 ⟨o2, a2⟩
        have gS1 := Lib.hid o2
        have gAS1 := Lib.hid a2
        clear o2 a2
        go_wp2
        exact ⟨⟨j + 1, _, by omega, by omega, by go_num, gS1.out, gs2.out, gAS1.out⟩, by simp [intOf]; omega⟩
    · have lc : decide ((j : Int) < (b : Int)) = false := by simp; omega
      go_wp2
      exact gQ.out _ _ _ _ _ _ _ _ _ _ _ _ _ _ _ _ _ _ _ _ _ _ _ _ _ _ _ _ _ _ _ _ _ M _ gO.out gs.out gA.out
end Go.Proofs.YtfnjcpopadpmbaaDoor
namespace Go.Proofs.YtfnjcpopadpmbaaDoor
open Go.RowKit BigFrame
set_option maxRecDepth 100000
set_option maxHeartbeats 32000000 in
theorem partial_any (base g n cap a b : Nat) (l : List Int) (w : World) (hO0 : OwU base (.slice (some ⟨g, 0, none⟩) n cap) l w) (hl0 : l.length = n) (hab : a < b) (hbn : b ≤ n) (hn : n ≤ 1000000) (hlow0 : LowA a b l) :
    Calls Tryd.prog 52 #[.slice (some ⟨g, 0, none⟩) n cap, .int .i64 (a : Int), .int .i64 (b : Int)] w fun e w' => ∃ (r : Bool) (l' : List Int), e = .returned (.bool r) ∧ OwU base (.slice (some ⟨g, 0, none⟩) n cap) l' w' ∧ SegP a b l l' ∧ (r = true → SortedIn a b l') ∧ Apart g w w' := by
  have hO := Lib.hid hO0
  have hl := Lib.hid hl0
  have hlow := Lib.hid hlow0
  clear hO0 hl0 hlow0
  obtain ⟨a1, ha1⟩ : ∃ a1, a1 = a + 1 := ⟨_, rfl⟩
  obtain ⟨d, hd⟩ : ∃ d, a + d = b := ⟨b - a, by omega⟩
  have wa : IntKind.i64.wrap ((a : Int) + 1) = (a1 : Int) := by rw [IntKind.wrap_i64]; omega
  have wd : IntKind.i64.wrap ((b : Int) - (a : Int)) = (d : Int) := by rw [IntKind.wrap_i64]; omega
  have ga1 := Lib.hid ha1
  have gd := Lib.hid hd
  clear ha1 hd
  go_enter Tryd.func52, Tryd.ntmps52
  go_wp2
  go_loopw [7, 8] (fun vi vk wr => ∃ (i k : Nat) (L : List Int), a < i ∧ i ≤ b ∧ k ≤ 5 ∧ vi = .int .i64 (i : Int) ∧ vk = .int .i64 (k : Int) ∧ OwU base (.slice (some ⟨g, 0, none⟩) n cap) L wr ∧ SegP a b l L ∧ SortedIn a i L ∧ Apart g w wr) (fun _ vk _ => 5 - (intOf vk).toNat)
  case atStart => exact ⟨a1, 0, l, by have := ga1.out; omega, by have := ga1.out; omega, by omega, rfl, rfl, hO.out, SegP.refl _ _ _, fun p q h1 h2 h3 => by have := ga1.out; rw [show p = q by omega]; exact Int.le_refl _, Apart.refl _ _⟩
  case round =>
    obtain ⟨i0, k, L, r1, r2, r3, rfl, rfl, o1, s1, x1, a1'⟩ := hrel
    have gO := Lib.hid o1
    have gs := Lib.hid s1
    have gx := Lib.hid x1
    have gA := Lib.hid a1'
    have gl := Lib.hid (s1.len.trans hl.out)
    clear o1 s1 x1 a1'
    by_cases hk : k < 5
    · have lk : decide ((k : Int) < 5) = true := by simp; omega
      have wk : IntKind.i64.wrap ((k : Int) + 1) = ((k + 1 : Nat) : Int) := by rw [IntKind.wrap_i64]; omega
      go_wp2
      refine scanI base g n cap a b i0 L wr hn gO.out gl.out r1 r2 hbn gx.out _ _ _ _ _ _ _ _ _ _ _ _ _ _ _ _ _ _ _ _ _ _ _ _ _ _ _ _ _ _ _ _ _ _ _ _ _ _ _ _ _ _ _ _ _ _ _ _ _ _ _ _ _ _ _ _ _ _ _ _ _ _ _ _ _ _ _ _ _ _ _ _ _ _ _ _ _ _ _ _ _ _ _ _ _ _ _ _ _ _ _ _ _ _ _ _ _ _ _ _ _ _ _ _ _ _ _ _ _ _ _ _ _ _ _ _ _ _ _ _ _ _ _ _ _ _ _ _ _ _ ?_
      intro y17 y18 y19 y20 y21 y22 y23 y24 y25 y26 y27 y28 y29 y30 y31 y32 y33 y34 i Wy q1 q2 q3 q4 q5
      have gO1 := Lib.hid q4
      have gx1 := Lib.hid q3
      have gA1 := Lib.hid (gA.out.trans q5)
      clear q3 q4 q5 gO gx gA
      by_cases hib : i = b
      · have lib : ((i : Int) == (b : Int)) = true := by simp; omega
        subst hib
        go_wp2
        exact ret_t1 rfl _ rfl rfl ⟨true, L, rfl, gO1.out, gs.out, fun _ => gx1.out, gA1.out⟩
      · have lib : ((i : Int) == (b : Int)) = false := by simp; omega
        by_cases hd50 : d < 50
        · have ld : decide ((d : Int) < 50) = true := by simp; omega
          go_wp2
          exact ret_t1 rfl _ rfl rfl ⟨false, L, rfl, gO1.out, gs.out, (fun h => nomatch h), gA1.out⟩
        · have ld : decide ((d : Int) < 50) = false := by simp; omega
          obtain ⟨i1, hi1⟩ : ∃ i1, i1 + 1 = i := ⟨i - 1, by omega⟩
          obtain ⟨i2, hi2⟩ : ∃ i2, i2 = i + 1 := ⟨_, rfl⟩
          obtain ⟨e1, he1⟩ : ∃ e1, a + e1 = i := ⟨i - a, by omega⟩
          obtain ⟨e2, he2⟩ : ∃ e2, i + e2 = b := ⟨b - i, by omega⟩
          have w1 : IntKind.i64.wrap ((i : Int) - 1) = (i1 : Int) := by rw [IntKind.wrap_i64]; omega
          have w2 : IntKind.i64.wrap ((i : Int) + 1) = (i2 : Int) := by rw [IntKind.wrap_i64]; omega
          have w3 : IntKind.i64.wrap ((i : Int) - (a : Int)) = (e1 : Int) := by rw [IntKind.wrap_i64]; omega
          have w4 : IntKind.i64.wrap ((b : Int) - (i : Int)) = (e2 : Int) := by rw [IntKind.wrap_i64]; omega
          have hin : i < n := by omega
          have hi1n : i1 < n := by omega
          have hs1 := gs.out.swp (i := i) (j := i1) ⟨by omega, by omega⟩ ⟨by omega, by omega⟩ (by rw [hl.out]; exact hbn)
          have hx1 : SortedIn a i1 (swp L i i1) := fun p q p1 p2 p3 => by
            rw [swp_get _ _ _ _ (by rw [gl.out]; exact hin) (by rw [gl.out]; exact hi1n), swp_get _ _ _ _ (by rw [gl.out]; exact hin) (by rw [gl.out]; exact hi1n), if_neg (by omega), if_neg (by omega), if_neg (by omega), if_neg (by omega)]
            exact gx1.out p q p1 p2 (by omega)
          have gi1 := Lib.hid hi1
          have gi2 := Lib.hid hi2
          have ge1 := Lib.hid he1
          have ge2 := Lib.hid he2
          have gs1 := Lib.hid hs1
          have gx2 := Lib.hid hx1
          clear hi1 hi2 he1 he2 hs1 hx1
          go_wp2
          refine wp_nopan ?_
          refine wp_region_held (S := fun _ => True) (by kernel_rfl) ?_
          have hS : True := trivial
          have O4 := gO1.out.later (w' := { Wy with drawn := Wy.drawn + 1 }) ((Below.refl _ _).drew)
          have cy := O4.cell i1 (by rw [gl.out]; exact hi1n)
          have cx := O4.cell i (by rw [gl.out]; exact hin)
          refine takeL (i := 0) (v := (.slice (some ⟨g, 0, none⟩) n cap)) rfl (by kernel_rfl) (by kernel_rfl) (by kernel_rfl) (fun _ _ _ h => h) rfl (by assumption) (fun w' hS' => by go_simp) ?_
          simp only [Act.put, List.setIfInBounds_toArray, List.set_cons_zero, List.set_cons_succ]
          refine takeL (i := 1) (v := (.int .i64 (i : Int))) rfl (by kernel_rfl) (by kernel_rfl) (by kernel_rfl) (fun _ _ _ h => h) rfl (by assumption) (fun w' hS' => by go_simp) ?_
          simp only [Act.put, List.setIfInBounds_toArray, List.set_cons_zero, List.set_cons_succ]
          refine takeL (i := 2) (v := (.slice (some ⟨g, 0, none⟩) n cap)) rfl (by kernel_rfl) (by kernel_rfl) (by kernel_rfl) (fun _ _ _ h => h) rfl (by assumption) (fun w' hS' => by go_simp) ?_
          simp only [Act.put, List.setIfInBounds_toArray, List.set_cons_zero, List.set_cons_succ]
          refine takeL (i := 3) (v := (.int .i64 (i : Int))) rfl (by kernel_rfl) (by kernel_rfl) (by kernel_rfl) (fun _ _ _ h => h) rfl (by assumption) (fun w' hS' => by go_simp) ?_
          simp only [Act.put, List.setIfInBounds_toArray, List.set_cons_zero, List.set_cons_succ]
          refine takeL (i := 4) (v := (.int .i64 (i1 : Int))) rfl (by kernel_rfl) (by kernel_rfl) (by kernel_rfl) (fun _ _ _ h => h) rfl (by assumption) (fun w' hS' => by go_simp) ?_
          simp only [Act.put, List.setIfInBounds_toArray, List.set_cons_zero, List.set_cons_succ]
          refine takeL (i := 5) (v := (.slice (some ⟨g, 0, none⟩) n cap)) rfl (by kernel_rfl) (by kernel_rfl) (by kernel_rfl) (fun _ _ _ h => h) rfl (by assumption) (fun w' hS' => by go_simp) ?_
          simp only [Act.put, List.setIfInBounds_toArray, List.set_cons_zero, List.set_cons_succ]
          refine takeL (i := 6) (v := (.int .i64 (i : Int))) rfl (by kernel_rfl) (by kernel_rfl) (by kernel_rfl) (fun _ _ _ h => h) rfl (by assumption) (fun w' hS' => by go_simp) ?_
          simp only [Act.put, List.setIfInBounds_toArray, List.set_cons_zero, List.set_cons_succ]
          refine takeL (i := 7) (v := (.int .i64 (i1 : Int))) rfl (by kernel_rfl) (by kernel_rfl) (by kernel_rfl) (fun _ _ _ h => h) rfl (by assumption) (fun w' hS' => by go_simp) ?_
          simp only [Act.put, List.setIfInBounds_toArray, List.set_cons_zero, List.set_cons_succ]
          refine takeL (i := 8) (v := (.pointer (some ⟨g, i1, none⟩))) rfl (by kernel_rfl) (by kernel_rfl) (by kernel_rfl) (fun _ _ _ h => h) rfl (by assumption) (fun w' hS' => run_index_slice _ 37 22 (.tmp 47) (.tmp 49) rfl Tryd.underlying37 1 sz_u64 g 0 n cap rfl .i64 i1 rfl hi1n i1 (by omega)) ?_
          simp only [Act.put, List.setIfInBounds_toArray, List.set_cons_zero, List.set_cons_succ]
          refine takeL (i := 10) (v := (.slice (some ⟨g, 0, none⟩) n cap)) rfl (by kernel_rfl) (by kernel_rfl) (by kernel_rfl) (fun _ _ _ h => h) rfl (by assumption) (fun w' hS' => by go_simp) ?_
          simp only [Act.put, List.setIfInBounds_toArray, List.set_cons_zero, List.set_cons_succ]
          refine takeL (i := 11) (v := (.int .i64 (i : Int))) rfl (by kernel_rfl) (by kernel_rfl) (by kernel_rfl) (fun _ _ _ h => h) rfl (by assumption) (fun w' hS' => by go_simp) ?_
          simp only [Act.put, List.setIfInBounds_toArray, List.set_cons_zero, List.set_cons_succ]
          refine takeL (i := 12) (v := (.pointer (some ⟨g, i, none⟩))) rfl (by kernel_rfl) (by kernel_rfl) (by kernel_rfl) (fun _ _ _ h => h) rfl (by assumption) (fun w' hS' => run_index_slice _ 37 22 (.tmp 52) (.tmp 53) rfl Tryd.underlying37 1 sz_u64 g 0 n cap rfl .i64 i rfl hin i (by omega)) ?_
          simp only [Act.put, List.setIfInBounds_toArray, List.set_cons_zero, List.set_cons_succ]
          refine pairL (i := 9) (k := 13) (.int .u64 (L.getD i1 0)) (.int .u64 (L.getD i 0)) (Wn := { Wy with drawn := Wy.drawn + 1 }) rfl rfl (by kernel_rfl) (by kernel_rfl) (by kernel_rfl) rfl rfl rfl rfl (run_load_cell _ 22 (.tmp 50) rfl ⟨g, i1, none⟩ rfl _ cy _ Tryd.underlying22 rfl) (run_load_cell _ 22 (.tmp 50) rfl ⟨g, i1, none⟩ rfl _ cy _ Tryd.underlying22 rfl) (run_load_cell _ 22 (.tmp 54) rfl ⟨g, i, none⟩ rfl _ cx _ Tryd.underlying22 rfl) (run_load_cell _ 22 (.tmp 54) rfl ⟨g, i, none⟩ rfl _ cx _ Tryd.underlying22 rfl) trivial trivial (by kernel_rfl) (by rfl) ?_
          simp only [Act.put, List.setIfInBounds_toArray, List.set_cons_zero, List.set_cons_succ]
          refine takeL (i := 14) (v := (.pointer (some ⟨g, i, none⟩))) rfl (by kernel_rfl) (by kernel_rfl) (by kernel_rfl) (fun _ _ _ h => h) rfl (by assumption) (fun w' hS' => run_index_slice _ 37 22 (.tmp 42) (.tmp 43) rfl Tryd.underlying37 1 sz_u64 g 0 n cap rfl .i64 i rfl hin i (by omega)) ?_
          simp only [Act.put, List.setIfInBounds_toArray, List.set_cons_zero, List.set_cons_succ]
          refine oneL (i := 15) rfl (by kernel_rfl) rfl (wp_storeU (.tmp 56) (.tmp 51) rfl base g n cap i L O4 rfl (L.getD i1 0) rfl (by rw [gl.out]; exact hin) ?_)
          intro W3 hO5 hA5
          refine ⟨trivial, ?_⟩
          simp only [Act.put, List.setIfInBounds_toArray, List.set_cons_zero, List.set_cons_succ]
          refine takeL (i := 16) (v := (.pointer (some ⟨g, i1, none⟩))) rfl (by kernel_rfl) (by kernel_rfl) (by kernel_rfl) (fun _ _ _ h => h) rfl (by assumption) (fun w' hS' => run_index_slice _ 37 22 (.tmp 44) (.tmp 46) rfl Tryd.underlying37 1 sz_u64 g 0 n cap rfl .i64 i1 rfl hi1n i1 (by omega)) ?_
          simp only [Act.put, List.setIfInBounds_toArray, List.set_cons_zero, List.set_cons_succ]
          refine oneL (i := 17) rfl (by kernel_rfl) rfl (wp_storeU (.tmp 57) (.tmp 55) rfl base g n cap i1 (L.set i (L.getD i1 0)) hO5 rfl (L.getD i 0) rfl (by rw [List.length_set, gl.out]; exact hi1n) ?_)
          intro W4 hO6 hA6
          refine ⟨trivial, ?_⟩
          simp only [Act.put, List.setIfInBounds_toArray, List.set_cons_zero, List.set_cons_succ]
          refine wpAnyH_done (by kernel_rfl) ?_ _
          simp only [NoPan]
          rw [swp_two] at hO6
          have hA7 := ((gA1.out.trans (Apart.begin g Wy)).trans hA5).trans hA6
          refine gen_q (fun W2 => OwU base (.slice (some ⟨g, 0, none⟩) n cap) (swp L i i1) W2 ∧ Apart g w W2) ⟨hO6, hA7⟩ ?_
          clear hA7 hO6 hA6 hO5 hA5 O4 hS cx cy
          rintro WS1 ⟨o2, a2⟩
          have gS1 := Lib.hid o2
          have gAS1 := Lib.hid a2
          clear o2 a2
          have hR : ∀ (M : List Int) (W3 : World), OwU base (.slice (some ⟨g, 0, none⟩) n cap) M W3 → SegP a b l M → SortedIn a i M → Apart g w W3 → ∀ (M2 : List Int) (W4 : World), OwU base (.slice (some ⟨g, 0, none⟩) n cap) M2 W4 → SegP i b M M2 → Apart g W3 W4 → ∃ (i' k' : Nat) (L' : List Int), a < i' ∧ i' ≤ b ∧ k' ≤ 5 ∧ Value.int .i64 (i : Int) = .int .i64 (i' : Int) ∧ Value.int .i64 ((k + 1 : Nat) : Int) = .int .i64 (k' : Int) ∧ OwU base (.slice (some ⟨g, 0, none⟩) n cap) L' W4 ∧ SegP a b l L' ∧ SortedIn a i' L' ∧ Apart g w W4 := fun M W3 _ h2 h3 h4 M2 W4 h5 h6 h7 => ⟨i, k + 1, M2, by omega, q2, by omega, rfl, rfl, h5, h2.trans (h6.wide (by omega) (Nat.le_refl _)), h3.out h6, h4.trans h7⟩
          have gR := Lib.hid hR
          clear hR
          have hX : ∀ (M : List Int) (W3 : World), OwU base (.slice (some ⟨g, 0, none⟩) n cap) M W3 → SegP a b l M → SortedIn a i M → Apart g w W3 → M.length = n := fun M W3 _ h2 _ _ => h2.len.trans hl.out
          by_cases hc1 : 2 ≤ e1
          · have lc1 : decide ((e1 : Int) ≥ 2) = true := by simp; omega
            go_wp2
            refine leftI base g n cap a b i1 l (swp L i i1) WS1 hn gS1.out hl.out gs1.out (Hole.start gx2.out) hlow.out (by have := gi1.out; omega) (by have := gi1.out; omega) hbn _ _ _ _ _ _ _ _ _ _ _ _ _ _ _ _ _ _ _ _ _ _ _ _ _ _ _ _ _ _ _ _ _ _ _ _ _ _ _ _ _ _ _ _ _ _ _ _ _ _ _ _ _ _ _ _ _ _ _ _ _ _ _ _ _ _ _ _ _ _ _ _ _ _ _ _ _ _ _ _ _ _ _ _ _ _ _ _ _ _ _ _ _ _ _ _ _ _ _ _ _ _ _ _ _ _ _ _ _ _ _ _ _ _ _ _ _ _ _ _ _ _ _ _ _ _ _ _ _ _ _ ?_
            intro z9 z64 z65 z66 z67 z68 z69 z70 z71 z72 z73 z74 z75 z76 z77 z78 z79 z80 z81 z82 z83 z84 z85 z86 z87 z88 z89 z90 z91 z92 z93 z94 M W3 m1 m2 m3 m4
            rw [gi1.out] at m3
            have gO3 := Lib.hid m1
            have gs3 := Lib.hid m2
            have gx3 := Lib.hid m3
            have gA3 := Lib.hid (gAS1.out.trans m4)
            have gl3 := Lib.hid (m2.len.trans hl.out)
            clear m1 m2 m3 m4 hX
            by_cases hc2 : 2 ≤ e2
            · have lc2 : decide ((e2 : Int) ≥ 2) = true := by simp; omega
              go_wp2
              refine rightI base g n cap i b i2 M W3 hn gO3.out gl3.out (by have := gi2.out; omega) (by have := gi2.out; have := ge2.out; omega) hbn _ _ _ _ _ _ _ _ _ _ _ _ _ _ _ _ _ _ _ _ _ _ _ _ _ _ _ _ _ _ _ _ _ _ _ _ _ _ _ _ _ _ _ _ _ _ _ _ _ _ _ _ _ _ _ _ _ _ _ _ _ _ _ _ _ _ _ _ _ _ _ _ _ _ _ _ _ _ _ _ _ _ _ _ _ _ _ _ _ _ _ _ _ _ _ _ _ _ _ _ _ _ _ _ _ _ _ _ _ _ _ _ _ _ _ _ _ _ _ _ _ _ _ _ _ _ _ _ _ _ ?_
              intro v10 v101 v102 v103 v104 v105 v106 v107 v108 v109 v110 v111 v112 v113 v114 v115 v116 v117 v118 v119 v120 v121 v122 v123 v124 v125 v126 v127 v128 v129 v130 v131 v132 M2 W4 p1 p2 p3
              have gp1 := Lib.hid p1
              have gp2 := Lib.hid p2
              have gp3 := Lib.hid p3
              clear p1 p2 p3
              go_wp2
              exact ⟨gR.out M W3 gO3.out gs3.out gx3.out gA3.out M2 W4 gp1.out gp2.out gp3.out, by simp [intOf]; omega⟩
            · have lc2 : decide ((e2 : Int) ≥ 2) = false := by simp; omega
              go_wp2
              exact ⟨gR.out M W3 gO3.out gs3.out gx3.out gA3.out M W3 gO3.out (SegP.refl _ _ _) (Apart.refl _ _), by simp [intOf]; omega⟩
          · have lc1 : decide ((e1 : Int) ≥ 2) = false := by simp; omega
            have gx3 := Lib.hid (show SortedIn a i (swp L i i1) from fun p q p1 p2 p3 => by have := ge1.out; rw [show p = q by omega]; exact Int.le_refl _)
            have gl3 := Lib.hid (gs1.out.len.trans hl.out)
            clear hX
            by_cases hc2 : 2 ≤ e2
            · have lc2 : decide ((e2 : Int) ≥ 2) = true := by simp; omega
              go_wp2
              refine rightI base g n cap i b i2 (swp L i i1) WS1 hn gS1.out gl3.out (by have := gi2.out; omega) (by have := gi2.out; have := ge2.out; omega) hbn _ _ _ _ _ _ _ _ _ _ _ _ _ _ _ _ _ _ _ _ _ _ _ _ _ _ _ _ _ _ _ _ _ _ _ _ _ _ _ _ _ _ _ _ _ _ _ _ _ _ _ _ _ _ _ _ _ _ _ _ _ _ _ _ _ _ _ _ _ _ _ _ _ _ _ _ _ _ _ _ _ _ _ _ _ _ _ _ _ _ _ _ _ _ _ _ _ _ _ _ _ _ _ _ _ _ _ _ _ _ _ _ _ _ _ _ _ _ _ _ _ _ _ _ _ _ _ _ _ _ ?_
              intro v10 v101 v102 v103 v104 v105 v106 v107 v108 v109 v110 v111 v112 v113 v114 v115 v116 v117 v118 v119 v120 v121 v122 v123 v124 v125 v126 v127 v128 v129 v130 v131 v132 M2 W4 p1 p2 p3
              have gp1 := Lib.hid p1
              have gp2 := Lib.hid p2
              have gp3 := Lib.hid p3
              clear p1 p2 p3
              go_wp2
              exact ⟨gR.out _ WS1 gS1.out gs1.out gx3.out gAS1.out M2 W4 gp1.out gp2.out gp3.out, by simp [intOf]; omega⟩
            · have lc2 : decide ((e2 : Int) ≥ 2) = false := by simp; omega
              go_wp2
              exact ⟨gR.out _ WS1 gS1.out gs1.out gx3.out gAS1.out _ WS1 gS1.out (SegP.refl _ _ _) (Apart.refl _ _), by simp [intOf]; omega⟩
    · have lk : decide ((k : Int) < 5) = false := by simp; omega
      go_wp2
      exact ret_t1 rfl _ rfl rfl ⟨false, L, rfl, gO.out, gs.out, (fun h => nomatch h), gA.out⟩
end Go.Proofs.YtfnjcpopadpmbaaDoor
