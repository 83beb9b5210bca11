/- A region of the reference's round: the place for the answer may be made at any time. -/
/- A round of the reference's shuffle, and a place behind all rounds. -/
import Derived.Test.YtfnjcpopadpmbaaDoorJCsB
import Derived.Test.YtfnjcpopadpmbaaDoorKCmT
set_option linter.unusedVariables false
set_option linter.unusedSimpArgs false
set_option linter.unnecessarySimpa false
namespace Go.Proofs.YtfnjcpopadpmbaaDoor
open Go.RowKit BigFrame
set_option maxRecDepth 100000
theorem gen_H {P : Program} {ops : Array Oper} {Q : Exit → Act → World → Prop} {md : Region.Mode} {S : World → Prop} {fuel : Nat} {listed : Array Bool} {a : Act} {w : World} (R : World → Prop) (hr : R w) (h : ∀ W, R W → wpAnyH P md ops Q S fuel listed a W) : wpAnyH P md ops Q S fuel listed a w := h w hr
theorem own_len {base n : Nat} {v : Value} {l : List Int} {w : World} (h : OwnB base v l w) (e : l.length = n) : w.ownsRow base 5 1 v n (l.map (Value.int .u8)) := by subst e; exact h
theorem own_cat {base n : Nat} {v : Value} {l m : List Int} {w : World} (e : (l ++ m).length = n) (h : w.ownsRow base 5 1 v n (l.map (Value.int .u8) ++ m.map (Value.int .u8))) : OwnB base v (l ++ m) w := by
  subst e
  unfold OwnB
  rw [List.map_append]
  exact h
theorem own_lt {base k : Nat} {v : Value} {l : List Int} {w : World} (h : OwnB base v l w) (e : v.ownBlock = some k) : k < w.heap.size := by
  rcases h.2 with hn | ⟨g, cap, cur, h1, h2, h3, h4⟩
  · rw [hn.1] at e; cases e
  · rw [h1] at e
    cases e
    exact blk_lt h3
theorem zero_root32 : (Tryd.prog.info? 24).map (fun i => (i.zero, i.size)) = some (some (.agg (rep 32)), 32) := by kernel_rfl
/-- Region k. -/
def regOf (k : Nat) : Code → Option Code
  | .region i o d => if i = k then some (.region i o d) else none
  | .seq a b => match regOf k a with | some c => some c | none => regOf k b
  | .cond _ a b => match regOf k a with | some c => some c | none => regOf k b
  | .block _ c => regOf k c
  | .loop c => regOf k c
  | .scope c => regOf k c
  | _ => none
def regIn (k : Nat) (f : Func) : Code := match f.body with | some c => (match regOf k c with | some d => d | none => .skip) | none => .skip
noncomputable def rr9 : Code := regIn 9 Tryd.f41
set_option maxHeartbeats 16000000 in
theorem reg9_any {Q : Exit → Act → World → Prop} (base g cap qb r q : Nat) (sd B : Nat → Int) (W : World) (hr6 : r < 6) (hq6 : q ≤ 65536) (hsd : IsR sd) (hB0 : B = blkS sd r q) (hone : OwnB base (.slice (some ⟨g, 0, none⟩) 33 cap) (dgl sd r) W) (hqb : W.heap[qb]? = some (.cells (numV (q : Int)) 90 (0, 0))) (hT0 : Tabs W) (t0 t1 t2 t3 t4 t5 t6 t7 t8 t10 t11 t12 t13 t14 t16 t17 t18 t19 t20 t21 t22 t23 t24 t25 t26 t27 t28 t29 t30 t31 t32 t33 t34 t35 t36 t37 t38 t39 t40 t41 t42 t43 t44 t45 t46 t47 t48 t49 t50 t51 t52 t53 t54 t55 t56 t57 t58 t59 t60 t61 t62 t63 t64 t65 : Value)
    (hQ : ∀ (x48 x49 x50 x51 x52 x53 : Value) (q16 : Nat) (W' : World), Below W.heap.size W W' → W'.heap[q16]? = some (.cells (rootV B) 24 (0, 0)) → Q .normal { tmps := #[t0, t1, t2, t3, t4, t5, t6, t7, t8, .slice (some ⟨g, 0, none⟩) 33 cap, t10, t11, t12, t13, t14, .pointer (some ⟨qb, 0, none⟩), .pointer (some ⟨q16, 0, none⟩), t17, t18, t19, t20, t21, t22, t23, t24, t25, t26, t27, t28, t29, t30, t31, t32, t33, t34, t35, t36, t37, t38, t39, t40, t41, t42, t43, t44, t45, t46, t47, x48, x49, x50, x51, x52, x53, t54, t55, t56, t57, t58, t59, t60, t61, t62, t63, t64, t65], defers := [] } W') : rr9.wp Tryd.prog Q { tmps := #[t0, t1, t2, t3, t4, t5, t6, t7, t8, .slice (some ⟨g, 0, none⟩) 33 cap, t10, t11, t12, t13, t14, .pointer (some ⟨qb, 0, none⟩), t16, t17, t18, t19, t20, t21, t22, t23, t24, t25, t26, t27, t28, t29, t30, t31, t32, t33, t34, t35, t36, t37, t38, t39, t40, t41, t42, t43, t44, t45, t46, t47, t48, t49, t50, t51, t52, t53, t54, t55, t56, t57, t58, t59, t60, t61, t62, t63, t64, t65], defers := [] } W := by
  have hl33 := Lib.hid (dgl_length sd r)
  have hs37 := Lib.hid (show shaSum (dgl sd r ++ le4 (q : Int)) = B by rw [sumS_sha (by rw [List.length_append, dgl_length, le4_length]; omega), hB0]; rfl)
  have hok := Lib.hid (show ∀ m ∈ dgl sd r ++ le4 (q : Int), CK.ok .u8 m from fun m hm => by
    rcases List.mem_append.1 hm with h | h
    · exact dgl_ok hsd (show r < 256 by omega) m h
    · exact le4_ok _ m h)
  have hRo := Lib.hid (show ∀ V, Below W.heap.size W V → Row V (some ⟨g, 0, none⟩) .u8 (dgl sd r) from fun V hb => by
    obtain ⟨g', c', e, _, _, _, hc⟩ := (hone.later hb).at (by rw [dgl_length]; omega)
    cases e
    exact ⟨fun i hi => ⟨g, 0, rfl, by rw [Nat.zero_add]; exact hc i hi⟩, dgl_ok hsd (show r < 256 by omega)⟩)
  have hRb := Lib.hid (show ∀ V, Below W.heap.size W V → Row V (some ⟨qb, 0, none⟩) .u8 (le4 (q : Int)) from fun V hb => row_le4 ((hb.block _ (blk_lt hqb)).trans hqb))
  have hT := Lib.hid (show ∀ V, Below W.heap.size W V → Tabs V from fun V hb => hT0.below hT0.size hb)
  have gQ := Lib.hid hQ
  clear hQ hone hqb hT0 hB0 hsd
  simp only [rr9, regIn, regOf, Tryd.f41, reduceIte, Nat.reduceEqDiff]
  refine wp_nopan ?_
  refine wp_region_held (S := fun _ => True) (by kernel_rfl) ?_
  have hS : True := trivial
  refine takeL (i := 1) (v := (.slice (some ⟨g, 0, none⟩) 33 cap)) rfl (by kernel_rfl) (by kernel_rfl) (by kernel_rfl) (fun _ _ _ h => h) rfl (by assumption) (fun w' hS' => by go_simp) ?_
  simp only [Act.put, List.setIfInBounds_toArray, List.set_cons_zero, List.set_cons_succ]
  refine takeL (i := 3) (v := (.slice (some ⟨qb, 0, none⟩) 4 8)) rfl (by kernel_rfl) (by kernel_rfl) (by kernel_rfl) (fun _ _ _ h => h) rfl (by assumption) (fun w' _ => run_acut_to _ 90 5 8 (.tmp 15) _ rfl Tryd.underlying90 1 sz_u8 qb 0 rfl .i64 4 rfl (by omega)) ?_
  simp only [Act.put, List.setIfInBounds_toArray, List.set_cons_zero, List.set_cons_succ]
  refine gen_H (fun V => Below W.heap.size W V) (show Below W.heap.size W { W with drawn := W.drawn + 1 } from ⟨rfl, rfl, rfl, Nat.le_refl _, fun _ _ => rfl⟩) ?_
  rintro W0 bl0
  clear hS
  refine twoL (i := 0) (k := 6) rfl rfl (by kernel_rfl) (by rfl) (by rfl) (wp_build0 rfl ⟨trivial, ?_⟩) (wp_alloc_row 24 rfl 16 rfl (rep 32) 32 zero_root32 ⟨trivial, ?_⟩)
  · obtain ⟨b1, hb1⟩ : ∃ b, b = W0.heap.size := ⟨_, rfl⟩
    rw [← hb1]
    simp only [Act.put, List.setIfInBounds_toArray, List.set_cons_zero, List.set_cons_succ]
    refine gen_H (fun V => Below W.heap.size W V ∧ OwnB W.heap.size (.slice (some ⟨b1, 0, none⟩) 0 0) ([]) V) ⟨bl0.trans (((Below.refl _ _).alloc (Nat.le_refl _) _).mono bl0.size), OwnB.new (by rw [hb1]; exact bl0.size) [] (by decide) (heap_new _ _ _ _ hb1)⟩ ?_
    rintro W1 ⟨bl1, ow1⟩
    clear hb1
    refine twoL (i := 2) (k := 6) rfl rfl (by kernel_rfl) (by rfl) (by rfl) (wp_appS (w0 := W) (n0 := W.heap.size) (.tmp 48) (.tmp 49) 39 5 rfl Tryd.underlying39 (.int .u8 0) 1 1 info_b rfl (by decide) W.heap.size 0 (.slice (some ⟨b1, 0, none⟩) 0 0) (([]).map (Value.int .u8)) rfl (own_len ow1 rfl) ⟨g, 0, none⟩ 33 cap rfl ((dgl sd r).map (Value.int .u8)) (by rw [List.length_map, hl33.out]) (row_range (hRo.out W1 bl1)) rfl mem_u8 (by omega) (by omega) bl1.size (Nat.le_refl _) bl1 ?_) (wp_alloc_row 24 rfl 16 rfl (rep 32) 32 zero_root32 ⟨trivial, ?_⟩)
    · intro v3 V h1 h2 h3 h4 h5
      refine ⟨trivial, ?_⟩
      simp only [Act.put, List.setIfInBounds_toArray, List.set_cons_zero, List.set_cons_succ]
      refine gen_H (fun V => Below W.heap.size W V ∧ OwnB W.heap.size v3 (dgl sd r) V) ⟨h2, own_cat (l := []) (m := (dgl sd r)) (by rw [List.nil_append, hl33.out]) h1⟩ ?_
      rintro W3 ⟨bl3, ow3⟩
      clear h1 h2 h3 h4 h5
      clear V
      refine twoL (i := 4) (k := 6) rfl rfl (by kernel_rfl) (by rfl) (by rfl) (wp_appS (w0 := W) (n0 := W.heap.size) (.tmp 50) (.tmp 51) 39 5 rfl Tryd.underlying39 (.int .u8 0) 1 1 info_b rfl (by decide) W.heap.size 33 v3 ((dgl sd r).map (Value.int .u8)) rfl (own_len ow3 hl33.out) ⟨qb, 0, none⟩ 4 8 rfl ((le4 (q : Int)).map (Value.int .u8)) (by rw [List.length_map, le4_length _]) (row_range (hRb.out W3 bl3)) rfl mem_u8 (by omega) (by omega) bl3.size (Nat.le_refl _) bl3 ?_) (wp_alloc_row 24 rfl 16 rfl (rep 32) 32 zero_root32 ⟨trivial, ?_⟩)
      · intro v5 V h1 h2 h3 h4 h5
        refine ⟨trivial, ?_⟩
        simp only [Act.put, List.setIfInBounds_toArray, List.set_cons_zero, List.set_cons_succ]
        refine gen_H (fun V => Below W.heap.size W V ∧ OwnB W.heap.size v5 (dgl sd r ++ le4 (q : Int)) V) ⟨h2, own_cat (l := dgl sd r) (m := (le4 (q : Int))) (by rw [List.length_append, hl33.out, le4_length]) h1⟩ ?_
        rintro W5 ⟨bl5, ow5⟩
        clear h1 h2 h3 h4 h5
        clear V
        obtain ⟨g5, c5, e5, hg5, _, _, hc5⟩ := ow5.at (by rw [List.length_append, hl33.out, le4_length]; omega)
        rw [List.length_append, hl33.out, le4_length] at e5
        have f5 : v5 = .slice (some ⟨g5, 0, none⟩) 37 c5 := e5
        clear e5
        subst f5
        have su5 : Calls Tryd.prog 40 #[.slice (some ⟨g5, 0, none⟩) 37 c5] W5 (fun e w' => e = .returned (.agg (rootV B)) ∧ Below W5.heap.size W5 w') := by
          have h := sum_any (dgl sd r ++ le4 (q : Int)) (some ⟨g5, 0, none⟩) c5 W5 (by rw [List.length_append, hl33.out, le4_length]; omega) ⟨fun i hi => ⟨g5, 0, rfl, by rw [Nat.zero_add]; exact hc5 i hi⟩, hok.out⟩ (fun h => by cases h) (hT.out W5 bl5)
          rw [List.length_append, hl33.out, le4_length, hs37.out] at h
          exact h
        refine twoL (i := 5) (k := 6) rfl rfl (by kernel_rfl) (by rfl) (by rfl) (wp_call 40 #[.slice (some ⟨g5, 0, none⟩) 37 c5] (by go_simp) _ _ su5 ?_) (wp_alloc_row 24 rfl 16 rfl (rep 32) 32 zero_root32 ⟨trivial, ?_⟩)
        · intro V h1
          refine ⟨trivial, ?_⟩
          simp only [Act.put, List.setIfInBounds_toArray, List.set_cons_zero, List.set_cons_succ]
          refine gen_H (fun V => Below W.heap.size W V) (bl5.trans (h1.mono bl5.size)) ?_
          rintro W7 bl7
          clear h1
          clear V
          refine oneL (i := 6) rfl (by kernel_rfl) rfl (wp_alloc_row 24 rfl 16 rfl (rep 32) 32 zero_root32 ⟨trivial, ?_⟩)
          obtain ⟨q9, hq9⟩ : ∃ b, b = W7.heap.size := ⟨_, rfl⟩
          rw [← hq9]
          simp only [Act.put, List.setIfInBounds_toArray, List.set_cons_zero, List.set_cons_succ]
          refine gen_H (fun V => Below W.heap.size W V ∧ V.heap[q9]? = some (.cells (rep 32) 24 (0, 0))) ⟨bl7.trans (((Below.refl _ _).alloc (Nat.le_refl _) _).mono bl7.size), heap_new _ _ _ _ hq9⟩ ?_
          rintro W9 ⟨bl9, al9⟩
          have al_geq9 : W.heap.size ≤ q9 := by rw [hq9]; exact bl7.size
          clear hq9
          refine oneL (i := 7) rfl (by kernel_rfl) rfl (wp_store_row 24 _ _ rfl q9 rfl _ rfl (fcells_one _ _ _) (by rw [row_size row_root]; simp [fcells]) (rep 32) 24 al9 (by simp [fcells]) ?_)
          intro V hC hA
          refine ⟨trivial, ?_⟩
          simp only [Act.put]
          refine wpAnyH_done (by kernel_rfl) ?_ _
          exact gQ.out _ _ _ _ _ _ q9 _ (hA.below bl9 (al_geq9) bl9.size) hC
        · obtain ⟨q8, hq8⟩ : ∃ b, b = W5.heap.size := ⟨_, rfl⟩
          rw [← hq8]
          simp only [Act.put, List.setIfInBounds_toArray, List.set_cons_zero, List.set_cons_succ]
          refine gen_H (fun V => Below W.heap.size W V ∧ OwnB W.heap.size (.slice (some ⟨g5, 0, none⟩) 37 c5) (dgl sd r ++ le4 (q : Int)) V ∧ V.heap[q8]? = some (.cells (rep 32) 24 (0, 0))) ⟨bl5.trans (((Below.refl _ _).alloc (Nat.le_refl _) _).mono bl5.size), ow5.later ((Below.refl _ _).alloc (Nat.le_refl _) _), heap_new _ _ _ _ hq8⟩ ?_
          rintro W8 ⟨bl8, ow8, al8⟩
          have ne8 : Value.ownBlock (.slice (some ⟨g5, 0, none⟩) 37 c5) ≠ some q8 := fun h => by have := own_lt ow5 h; omega
          have al_geq8 : W.heap.size ≤ q8 := by rw [hq8]; exact bl5.size
          clear hq8
          obtain ⟨g8, c8, e8, hg8, _, _, hc8⟩ := ow8.at (by rw [List.length_append, hl33.out, le4_length]; omega)
          rw [List.length_append, hl33.out, le4_length] at e8
          obtain ⟨rfl, rfl⟩ : g8 = g5 ∧ c8 = c5 := by
            injection e8 with e1 e2 e3
            injection e1 with e1
            injection e1 with e1
            exact ⟨e1.symm, e3.symm⟩
          have su8 : Calls Tryd.prog 40 #[.slice (some ⟨g8, 0, none⟩) 37 c8] W8 (fun e w' => e = .returned (.agg (rootV B)) ∧ Below W8.heap.size W8 w') := by
            have h := sum_any (dgl sd r ++ le4 (q : Int)) (some ⟨g8, 0, none⟩) c8 W8 (by rw [List.length_append, hl33.out, le4_length]; omega) ⟨fun i hi => ⟨g8, 0, rfl, by rw [Nat.zero_add]; exact hc8 i hi⟩, hok.out⟩ (fun h => by cases h) (hT.out W8 bl8)
            rw [List.length_append, hl33.out, le4_length, hs37.out] at h
            exact h
          refine oneL (i := 5) rfl (by kernel_rfl) rfl (wp_call 40 #[.slice (some ⟨g8, 0, none⟩) 37 c8] (by go_simp) _ _ su8 ?_)
          intro V h1
          refine ⟨trivial, ?_⟩
          simp only [Act.put, List.setIfInBounds_toArray, List.set_cons_zero, List.set_cons_succ]
          refine gen_H (fun V => Below W.heap.size W V ∧ V.heap[q8]? = some (.cells (rep 32) 24 (0, 0))) ⟨bl8.trans (h1.mono bl8.size), (h1.block _ (blk_lt al8)).trans al8⟩ ?_
          rintro W10 ⟨bl10, al10⟩
          clear h1
          clear V
          refine oneL (i := 7) rfl (by kernel_rfl) rfl (wp_store_row 24 _ _ rfl q8 rfl _ rfl (fcells_one _ _ _) (by rw [row_size row_root]; simp [fcells]) (rep 32) 24 al10 (by simp [fcells]) ?_)
          intro V hC hA
          refine ⟨trivial, ?_⟩
          simp only [Act.put]
          refine wpAnyH_done (by kernel_rfl) ?_ _
          exact gQ.out _ _ _ _ _ _ q8 _ (hA.below bl10 (al_geq8) bl10.size) hC
      · obtain ⟨q6, hq6⟩ : ∃ b, b = W3.heap.size := ⟨_, rfl⟩
        rw [← hq6]
        simp only [Act.put, List.setIfInBounds_toArray, List.set_cons_zero, List.set_cons_succ]
        refine gen_H (fun V => Below W.heap.size W V ∧ OwnB W.heap.size v3 (dgl sd r) V ∧ V.heap[q6]? = some (.cells (rep 32) 24 (0, 0))) ⟨bl3.trans (((Below.refl _ _).alloc (Nat.le_refl _) _).mono bl3.size), ow3.later ((Below.refl _ _).alloc (Nat.le_refl _) _), heap_new _ _ _ _ hq6⟩ ?_
        rintro W6 ⟨bl6, ow6, al6⟩
        have ne6 : Value.ownBlock v3 ≠ some q6 := fun h => by have := own_lt ow3 h; omega
        have al_geq6 : W.heap.size ≤ q6 := by rw [hq6]; exact bl3.size
        clear hq6
        refine oneL (i := 4) rfl (by kernel_rfl) rfl (wp_appS (w0 := W) (n0 := W.heap.size) (.tmp 50) (.tmp 51) 39 5 rfl Tryd.underlying39 (.int .u8 0) 1 1 info_b rfl (by decide) W.heap.size 33 v3 ((dgl sd r).map (Value.int .u8)) rfl (own_len ow6 hl33.out) ⟨qb, 0, none⟩ 4 8 rfl ((le4 (q : Int)).map (Value.int .u8)) (by rw [List.length_map, le4_length _]) (row_range (hRb.out W6 bl6)) rfl mem_u8 (by omega) (by omega) bl6.size (Nat.le_refl _) bl6 ?_)
        intro v11 V h1 h2 h3 h4 h5
        refine ⟨trivial, ?_⟩
        simp only [Act.put, List.setIfInBounds_toArray, List.set_cons_zero, List.set_cons_succ]
        refine gen_H (fun V => Below W.heap.size W V ∧ OwnB W.heap.size v11 (dgl sd r ++ le4 (q : Int)) V ∧ V.heap[q6]? = some (.cells (rep 32) 24 (0, 0))) ⟨h2, own_cat (l := dgl sd r) (m := (le4 (q : Int))) (by rw [List.length_append, hl33.out, le4_length]) h1, (h4 q6 (blk_lt al6) (fun e => ne6 e.symm)).trans al6⟩ ?_
        rintro W11 ⟨bl11, ow11, al11⟩
        have ne11 : v11.ownBlock ≠ some q6 := by
          rcases h5 with h5 | h5
          · rw [h5]; exact ne6
          · rw [h5]; intro h; cases h; have := blk_lt al6; omega
        clear h1 h2 h3 h4 h5
        clear V
        obtain ⟨g11, c11, e11, hg11, _, _, hc11⟩ := ow11.at (by rw [List.length_append, hl33.out, le4_length]; omega)
        rw [List.length_append, hl33.out, le4_length] at e11
        have f11 : v11 = .slice (some ⟨g11, 0, none⟩) 37 c11 := e11
        clear e11
        subst f11
        have su11 : Calls Tryd.prog 40 #[.slice (some ⟨g11, 0, none⟩) 37 c11] W11 (fun e w' => e = .returned (.agg (rootV B)) ∧ Below W11.heap.size W11 w') := by
          have h := sum_any (dgl sd r ++ le4 (q : Int)) (some ⟨g11, 0, none⟩) c11 W11 (by rw [List.length_append, hl33.out, le4_length]; omega) ⟨fun i hi => ⟨g11, 0, rfl, by rw [Nat.zero_add]; exact hc11 i hi⟩, hok.out⟩ (fun h => by cases h) (hT.out W11 bl11)
          rw [List.length_append, hl33.out, le4_length, hs37.out] at h
          exact h
        refine oneL (i := 5) rfl (by kernel_rfl) rfl (wp_call 40 #[.slice (some ⟨g11, 0, none⟩) 37 c11] (by go_simp) _ _ su11 ?_)
        intro V h1
        refine ⟨trivial, ?_⟩
        simp only [Act.put, List.setIfInBounds_toArray, List.set_cons_zero, List.set_cons_succ]
        refine gen_H (fun V => Below W.heap.size W V ∧ V.heap[q6]? = some (.cells (rep 32) 24 (0, 0))) ⟨bl11.trans (h1.mono bl11.size), (h1.block _ (blk_lt al11)).trans al11⟩ ?_
        rintro W12 ⟨bl12, al12⟩
        clear h1
        clear V
        refine oneL (i := 7) rfl (by kernel_rfl) rfl (wp_store_row 24 _ _ rfl q6 rfl _ rfl (fcells_one _ _ _) (by rw [row_size row_root]; simp [fcells]) (rep 32) 24 al12 (by simp [fcells]) ?_)
        intro V hC hA
        refine ⟨trivial, ?_⟩
        simp only [Act.put]
        refine wpAnyH_done (by kernel_rfl) ?_ _
        exact gQ.out _ _ _ _ _ _ q6 _ (hA.below bl12 (al_geq6) bl12.size) hC
    · obtain ⟨q4, hq4⟩ : ∃ b, b = W1.heap.size := ⟨_, rfl⟩
      rw [← hq4]
      simp only [Act.put, List.setIfInBounds_toArray, List.set_cons_zero, List.set_cons_succ]
      refine gen_H (fun V => Below W.heap.size W V ∧ OwnB W.heap.size (.slice (some ⟨b1, 0, none⟩) 0 0) ([]) V ∧ V.heap[q4]? = some (.cells (rep 32) 24 (0, 0))) ⟨bl1.trans (((Below.refl _ _).alloc (Nat.le_refl _) _).mono bl1.size), ow1.later ((Below.refl _ _).alloc (Nat.le_refl _) _), heap_new _ _ _ _ hq4⟩ ?_
      rintro W4 ⟨bl4, ow4, al4⟩
      have ne4 : Value.ownBlock (.slice (some ⟨b1, 0, none⟩) 0 0) ≠ some q4 := fun h => by have := own_lt ow1 h; omega
      have al_geq4 : W.heap.size ≤ q4 := by rw [hq4]; exact bl1.size
      clear hq4
      refine oneL (i := 2) rfl (by kernel_rfl) rfl (wp_appS (w0 := W) (n0 := W.heap.size) (.tmp 48) (.tmp 49) 39 5 rfl Tryd.underlying39 (.int .u8 0) 1 1 info_b rfl (by decide) W.heap.size 0 (.slice (some ⟨b1, 0, none⟩) 0 0) (([]).map (Value.int .u8)) rfl (own_len ow4 rfl) ⟨g, 0, none⟩ 33 cap rfl ((dgl sd r).map (Value.int .u8)) (by rw [List.length_map, hl33.out]) (row_range (hRo.out W4 bl4)) rfl mem_u8 (by omega) (by omega) bl4.size (Nat.le_refl _) bl4 ?_)
      intro v13 V h1 h2 h3 h4 h5
      refine ⟨trivial, ?_⟩
      simp only [Act.put, List.setIfInBounds_toArray, List.set_cons_zero, List.set_cons_succ]
      refine gen_H (fun V => Below W.heap.size W V ∧ OwnB W.heap.size v13 (dgl sd r) V ∧ V.heap[q4]? = some (.cells (rep 32) 24 (0, 0))) ⟨h2, own_cat (l := []) (m := (dgl sd r)) (by rw [List.nil_append, hl33.out]) h1, (h4 q4 (blk_lt al4) (fun e => ne4 e.symm)).trans al4⟩ ?_
      rintro W13 ⟨bl13, ow13, al13⟩
      have ne13 : v13.ownBlock ≠ some q4 := by
        rcases h5 with h5 | h5
        · rw [h5]; exact ne4
        · rw [h5]; intro h; cases h; have := blk_lt al4; omega
      clear h1 h2 h3 h4 h5
      clear V
      refine oneL (i := 4) rfl (by kernel_rfl) rfl (wp_appS (w0 := W) (n0 := W.heap.size) (.tmp 50) (.tmp 51) 39 5 rfl Tryd.underlying39 (.int .u8 0) 1 1 info_b rfl (by decide) W.heap.size 33 v13 ((dgl sd r).map (Value.int .u8)) rfl (own_len ow13 hl33.out) ⟨qb, 0, none⟩ 4 8 rfl ((le4 (q : Int)).map (Value.int .u8)) (by rw [List.length_map, le4_length _]) (row_range (hRb.out W13 bl13)) rfl mem_u8 (by omega) (by omega) bl13.size (Nat.le_refl _) bl13 ?_)
      intro v14 V h1 h2 h3 h4 h5
      refine ⟨trivial, ?_⟩
      simp only [Act.put, List.setIfInBounds_toArray, List.set_cons_zero, List.set_cons_succ]
      refine gen_H (fun V => Below W.heap.size W V ∧ OwnB W.heap.size v14 (dgl sd r ++ le4 (q : Int)) V ∧ V.heap[q4]? = some (.cells (rep 32) 24 (0, 0))) ⟨h2, own_cat (l := dgl sd r) (m := (le4 (q : Int))) (by rw [List.length_append, hl33.out, le4_length]) h1, (h4 q4 (blk_lt al13) (fun e => ne13 e.symm)).trans al13⟩ ?_
      rintro W14 ⟨bl14, ow14, al14⟩
      have ne14 : v14.ownBlock ≠ some q4 := by
        rcases h5 with h5 | h5
        · rw [h5]; exact ne13
        · rw [h5]; intro h; cases h; have := blk_lt al13; omega
      clear h1 h2 h3 h4 h5
      clear V
      obtain ⟨g14, c14, e14, hg14, _, _, hc14⟩ := ow14.at (by rw [List.length_append, hl33.out, le4_length]; omega)
      rw [List.length_append, hl33.out, le4_length] at e14
      have f14 : v14 = .slice (some ⟨g14, 0, none⟩) 37 c14 := e14
      clear e14
      subst f14
      have su14 : Calls Tryd.prog 40 #[.slice (some ⟨g14, 0, none⟩) 37 c14] W14 (fun e w' => e = .returned (.agg (rootV B)) ∧ Below W14.heap.size W14 w') := by
        have h := sum_any (dgl sd r ++ le4 (q : Int)) (some ⟨g14, 0, none⟩) c14 W14 (by rw [List.length_append, hl33.out, le4_length]; omega) ⟨fun i hi => ⟨g14, 0, rfl, by rw [Nat.zero_add]; exact hc14 i hi⟩, hok.out⟩ (fun h => by cases h) (hT.out W14 bl14)
        rw [List.length_append, hl33.out, le4_length, hs37.out] at h
        exact h
      refine oneL (i := 5) rfl (by kernel_rfl) rfl (wp_call 40 #[.slice (some ⟨g14, 0, none⟩) 37 c14] (by go_simp) _ _ su14 ?_)
      intro V h1
      refine ⟨trivial, ?_⟩
      simp only [Act.put, List.setIfInBounds_toArray, List.set_cons_zero, List.set_cons_succ]
      refine gen_H (fun V => Below W.heap.size W V ∧ V.heap[q4]? = some (.cells (rep 32) 24 (0, 0))) ⟨bl14.trans (h1.mono bl14.size), (h1.block _ (blk_lt al14)).trans al14⟩ ?_
      rintro W15 ⟨bl15, al15⟩
      clear h1
      clear V
      refine oneL (i := 7) rfl (by kernel_rfl) rfl (wp_store_row 24 _ _ rfl q4 rfl _ rfl (fcells_one _ _ _) (by rw [row_size row_root]; simp [fcells]) (rep 32) 24 al15 (by simp [fcells]) ?_)
      intro V hC hA
      refine ⟨trivial, ?_⟩
      simp only [Act.put]
      refine wpAnyH_done (by kernel_rfl) ?_ _
      exact gQ.out _ _ _ _ _ _ q4 _ (hA.below bl15 (al_geq4) bl15.size) hC
  · obtain ⟨q2, hq2⟩ : ∃ b, b = W0.heap.size := ⟨_, rfl⟩
    rw [← hq2]
    simp only [Act.put, List.setIfInBounds_toArray, List.set_cons_zero, List.set_cons_succ]
    refine gen_H (fun V => Below W.heap.size W V ∧ V.heap[q2]? = some (.cells (rep 32) 24 (0, 0))) ⟨bl0.trans (((Below.refl _ _).alloc (Nat.le_refl _) _).mono bl0.size), heap_new _ _ _ _ hq2⟩ ?_
    rintro W2 ⟨bl2, al2⟩
    have al_geq2 : W.heap.size ≤ q2 := by rw [hq2]; exact bl0.size
    clear hq2
    refine oneL (i := 0) rfl (by kernel_rfl) rfl (wp_build0 rfl ⟨trivial, ?_⟩)
    obtain ⟨b16, hb16⟩ : ∃ b, b = W2.heap.size := ⟨_, rfl⟩
    rw [← hb16]
    simp only [Act.put, List.setIfInBounds_toArray, List.set_cons_zero, List.set_cons_succ]
    refine gen_H (fun V => Below W.heap.size W V ∧ OwnB W.heap.size (.slice (some ⟨b16, 0, none⟩) 0 0) ([]) V ∧ V.heap[q2]? = some (.cells (rep 32) 24 (0, 0))) ⟨bl2.trans (((Below.refl _ _).alloc (Nat.le_refl _) _).mono bl2.size), OwnB.new (by rw [hb16]; exact bl2.size) [] (by decide) (heap_new _ _ _ _ hb16), (((Below.refl W2.heap.size W2).alloc (Nat.le_refl _) _).block _ (blk_lt al2)).trans al2⟩ ?_
    rintro W16 ⟨bl16, ow16, al16⟩
    have ne16 : Value.ownBlock (.slice (some ⟨b16, 0, none⟩) 0 0) ≠ some q2 := fun h => by have h1 : b16 = q2 := Option.some.inj h; have := blk_lt al2; omega
    clear hb16
    refine oneL (i := 2) rfl (by kernel_rfl) rfl (wp_appS (w0 := W) (n0 := W.heap.size) (.tmp 48) (.tmp 49) 39 5 rfl Tryd.underlying39 (.int .u8 0) 1 1 info_b rfl (by decide) W.heap.size 0 (.slice (some ⟨b16, 0, none⟩) 0 0) (([]).map (Value.int .u8)) rfl (own_len ow16 rfl) ⟨g, 0, none⟩ 33 cap rfl ((dgl sd r).map (Value.int .u8)) (by rw [List.length_map, hl33.out]) (row_range (hRo.out W16 bl16)) rfl mem_u8 (by omega) (by omega) bl16.size (Nat.le_refl _) bl16 ?_)
    intro v17 V h1 h2 h3 h4 h5
    refine ⟨trivial, ?_⟩
    simp only [Act.put, List.setIfInBounds_toArray, List.set_cons_zero, List.set_cons_succ]
    refine gen_H (fun V => Below W.heap.size W V ∧ OwnB W.heap.size v17 (dgl sd r) V ∧ V.heap[q2]? = some (.cells (rep 32) 24 (0, 0))) ⟨h2, own_cat (l := []) (m := (dgl sd r)) (by rw [List.nil_append, hl33.out]) h1, (h4 q2 (blk_lt al16) (fun e => ne16 e.symm)).trans al16⟩ ?_
    rintro W17 ⟨bl17, ow17, al17⟩
    have ne17 : v17.ownBlock ≠ some q2 := by
      rcases h5 with h5 | h5
      · rw [h5]; exact ne16
      · rw [h5]; intro h; cases h; have := blk_lt al16; omega
    clear h1 h2 h3 h4 h5
    clear V
    refine oneL (i := 4) rfl (by kernel_rfl) rfl (wp_appS (w0 := W) (n0 := W.heap.size) (.tmp 50) (.tmp 51) 39 5 rfl Tryd.underlying39 (.int .u8 0) 1 1 info_b rfl (by decide) W.heap.size 33 v17 ((dgl sd r).map (Value.int .u8)) rfl (own_len ow17 hl33.out) ⟨qb, 0, none⟩ 4 8 rfl ((le4 (q : Int)).map (Value.int .u8)) (by rw [List.length_map, le4_length _]) (row_range (hRb.out W17 bl17)) rfl mem_u8 (by omega) (by omega) bl17.size (Nat.le_refl _) bl17 ?_)
    intro v18 V h1 h2 h3 h4 h5
    refine ⟨trivial, ?_⟩
    simp only [Act.put, List.setIfInBounds_toArray, List.set_cons_zero, List.set_cons_succ]
    refine gen_H (fun V => Below W.heap.size W V ∧ OwnB W.heap.size v18 (dgl sd r ++ le4 (q : Int)) V ∧ V.heap[q2]? = some (.cells (rep 32) 24 (0, 0))) ⟨h2, own_cat (l := dgl sd r) (m := (le4 (q : Int))) (by rw [List.length_append, hl33.out, le4_length]) h1, (h4 q2 (blk_lt al17) (fun e => ne17 e.symm)).trans al17⟩ ?_
    rintro W18 ⟨bl18, ow18, al18⟩
    have ne18 : v18.ownBlock ≠ some q2 := by
      rcases h5 with h5 | h5
      · rw [h5]; exact ne17
      · rw [h5]; intro h; cases h; have := blk_lt al17; omega
    clear h1 h2 h3 h4 h5
    clear V
    obtain ⟨g18, c18, e18, hg18, _, _, hc18⟩ := ow18.at (by rw [List.length_append, hl33.out, le4_length]; omega)
    rw [List.length_append, hl33.out, le4_length] at e18
    have f18 : v18 = .slice (some ⟨g18, 0, none⟩) 37 c18 := e18
    clear e18
    subst f18
    have su18 : Calls Tryd.prog 40 #[.slice (some ⟨g18, 0, none⟩) 37 c18] W18 (fun e w' => e = .returned (.agg (rootV B)) ∧ Below W18.heap.size W18 w') := by
      have h := sum_any (dgl sd r ++ le4 (q : Int)) (some ⟨g18, 0, none⟩) c18 W18 (by rw [List.length_append, hl33.out, le4_length]; omega) ⟨fun i hi => ⟨g18, 0, rfl, by rw [Nat.zero_add]; exact hc18 i hi⟩, hok.out⟩ (fun h => by cases h) (hT.out W18 bl18)
      rw [List.length_append, hl33.out, le4_length, hs37.out] at h
      exact h
    refine oneL (i := 5) rfl (by kernel_rfl) rfl (wp_call 40 #[.slice (some ⟨g18, 0, none⟩) 37 c18] (by go_simp) _ _ su18 ?_)
    intro V h1
    refine ⟨trivial, ?_⟩
    simp only [Act.put, List.setIfInBounds_toArray, List.set_cons_zero, List.set_cons_succ]
    refine gen_H (fun V => Below W.heap.size W V ∧ V.heap[q2]? = some (.cells (rep 32) 24 (0, 0))) ⟨bl18.trans (h1.mono bl18.size), (h1.block _ (blk_lt al18)).trans al18⟩ ?_
    rintro W19 ⟨bl19, al19⟩
    clear h1
    clear V
    refine oneL (i := 7) rfl (by kernel_rfl) rfl (wp_store_row 24 _ _ rfl q2 rfl _ rfl (fcells_one _ _ _) (by rw [row_size row_root]; simp [fcells]) (rep 32) 24 al19 (by simp [fcells]) ?_)
    intro V hC hA
    refine ⟨trivial, ?_⟩
    simp only [Act.put]
    refine wpAnyH_done (by kernel_rfl) ?_ _
    exact gQ.out _ _ _ _ _ _ q2 _ (hA.below bl19 (al_geq2) bl19.size) hC
end Go.Proofs.YtfnjcpopadpmbaaDoor
namespace Go.Proofs.YtfnjcpopadpmbaaDoor
open Go.RowKit BigFrame
set_option maxRecDepth 100000
theorem rread_sum8 {sm : Nat → Int} {W : World} {g : Nat} (h : W.heap[g]? = some (.cells (rootV sm) 24 (0, 0))) (hr : IsR sm) :
    Calls Tryd.prog 60 #[.slice (some ⟨g, 0, none⟩) 8 32] W fun e w' => e = .returned (.tuple #[.int .u64 (rdI (fun j => ((List.range 8).map sm).getD j 0) 8), .int .i64 0]) ∧ W = w' := by
  have h1 := rread_any ((List.range 8).map sm) (some ⟨g, 0, none⟩) 32 W (sum_row8 h hr)
  have e : ((List.range 8).map sm).length = 8 := by simp
  rw [e, if_pos rfl, if_pos rfl] at h1
  exact h1
/-- What a round keeps. -/
structure RdK (n0 : Nat) (w : World) (sd : Nat → Int) (W : World) : Prop where
  below : Below n0 w W
  hs : W.heap[n0]? = some (.cells (rootV sd) 24 (0, 0))
theorem RdK.lt {n0 : Nat} {w : World} {sd : Nat → Int} {W : World} (h : RdK n0 w sd W) : n0 < W.heap.size := blk_lt h.hs
theorem RdK.later {n0 : Nat} {w : World} {sd : Nat → Int} {W W' : World} (h : RdK n0 w sd W) (hb : Below W.heap.size W W') : RdK n0 w sd W' :=
  ⟨h.below.trans (hb.mono (by have := h.lt; omega)), (hb.block _ h.lt).trans h.hs⟩
theorem RdK.up {n0 : Nat} {w : World} {sd : Nat → Int} {W W' : World} (h : RdK n0 w sd W) (hb : Below (n0 + 1) W W') : RdK n0 w sd W' :=
  ⟨h.below.trans (hb.mono (by omega)), (hb.block _ (by omega)).trans h.hs⟩
theorem OwnB.apart {base g : Nat} {v : Value} {l : List Int} {w w' : World} (h : OwnB base v l w) (hb : Apart g w w') (hg : v.ownBlock ≠ some g) : OwnB base v l w' := by
  refine ⟨h.1, ?_⟩
  rcases h.2 with hn | ⟨k, cap, cur, h1, h2, h3, h4⟩
  · exact Or.inl hn
  · refine Or.inr ⟨k, cap, cur, h1, h2, (hb.block k (blk_lt h3) (fun e => hg ?_)).trans h3, h4⟩
    rw [h1, ← e]
    rfl
set_option maxHeartbeats 16000000 in
theorem rround_any (r i n : Nat) (sd : Nat → Int) (hr : r < 6) (hi : i < n) (hn : n ≤ 65536) (w : World) (hsd : IsR sd) (hT0 : Tabs w) :
    Calls Tryd.prog 41 #[.int .i64 (r : Int), .int .u64 (i : Int), .int .u64 (n : Int), .agg (rootV sd)] w fun e w' => e = .returned (.int .u64 (placeR (pvI sd n r).toNat n (fun f => bitF (blkS sd r (f / 256)) f) i : Nat)) ∧ Below w.heap.size w w' := by
  obtain ⟨p, hpn, hp⟩ := pv_nat sd n r (by omega)
  obtain ⟨n0, hn0⟩ : ∃ n0, n0 = w.heap.size := ⟨_, rfl⟩
  have gn0 := Lib.hid hn0
  have hT := Lib.hid hT0
  have hT3 := Lib.hid hT0.size
  have gsd := Lib.hid hsd
  obtain ⟨P, hP⟩ : ∃ P, P = rdI (sumS (dgl sd r)) 8 := ⟨_, rfl⟩
  have hPp : P % (n : Int) = (p : Int) := by rw [hP]; exact hp.out.1
  have gP := Lib.hid hP
  have hP0 : 0 ≤ P := by rw [hP]; exact (rdI_lt (fun _ => rootB_is _ _) 8).1
  have hres := Lib.hid (show placeR (pvI sd n r).toNat n (fun f => bitF (blkS sd r (f / 256)) f) i = if bitF (blkS sd r (max i (flipN p n i) / 256)) (max i (flipN p n i)) = true then flipN p n i else i by rw [← hp.out.2]; rfl)
  obtain ⟨f, hf⟩ : ∃ f, f = flipN p n i := ⟨_, rfl⟩
  rw [← hf] at hres
  have hfn : f < n := by rw [hf]; exact flipN_lt hpn hi
  obtain ⟨z, hz⟩ : ∃ z, z = p + n - i := ⟨_, rfl⟩
  have hzf : (z : Int) % (n : Int) = (f : Int) := by
    have h1 : z % n = f := by
      rw [hz, hf]
      unfold flipN
      split
      · rw [show p + n - i = (p - i) + n by omega, Nat.add_mod_right, Nat.mod_eq_of_lt (by omega)]
      · rw [Nat.mod_eq_of_lt (by omega)]
    rw [← h1]
    simp
  obtain ⟨pl, hpl⟩ : ∃ pl, pl = max i f := ⟨_, rfl⟩
  rw [← hpl] at hres
  have hpn6 : pl ≤ 65536 := by omega
  obtain ⟨pn, hpnd⟩ : ∃ pn, pn = p + n := ⟨_, rfl⟩
  have w1 : (p : Int) + (n : Int) = (pn : Int) := by omega
  have w2 : (pn : Int) - (i : Int) = (z : Int) := by omega
  have hpn2 : pn ≤ 131072 := by omega
  have hz2 : z ≤ 131072 := by omega
  have hin : i ≤ pn := by omega
  have wr : IntKind.u8.wrap (r : Int) = (r : Int) := by rw [IntKind.wrap_u8]; omega
  have hnI : (n : Int) ≠ 0 := by omega
  obtain ⟨q, hq⟩ : ∃ q, q = pl / 256 := ⟨_, rfl⟩
  rw [← hq] at hres
  have hqI : (pl : Int) / 256 = (q : Int) := by omega
  have hq6 : q ≤ 65536 := by omega
  obtain ⟨p8, hp8⟩ : ∃ p8, p8 = pl % 256 := ⟨_, rfl⟩
  have hp8I : (pl : Int) % 256 = (p8 : Int) := by omega
  obtain ⟨j, hj⟩ : ∃ j, j = p8 / 8 := ⟨_, rfl⟩
  have hjI : (p8 : Int) / 8 = (j : Int) := by omega
  have hj32 : j < 32 := by omega
  have hj32I : (j : Int) < 32 := by omega
  obtain ⟨p7, hp7⟩ : ∃ p7, p7 = pl % 8 := ⟨_, rfl⟩
  have hp7I : (pl : Int) % 8 = (p7 : Int) := by omega
  have hp78 : p7 < 8 := by omega
  have hp7b : (p7 : Int) < 64 := by omega
  obtain ⟨B, hB⟩ : ∃ B, B = blkS sd r q := ⟨_, rfl⟩
  rw [← hB] at hres
  have hBR : IsR B := by rw [hB]; exact blkS_is _ _ _
  obtain ⟨y, hy⟩ : ∃ y, y = B j := ⟨_, rfl⟩
  have hyb : IsB y := by rw [hy]; exact hBR j hj32
  unfold IsB at hyb
  have hp2 : (0 : Int) ≤ 2 ^ p7 := Int.pow_nonneg (by decide)
  have hy1 : 0 ≤ y / 2 ^ p7 := Int.ediv_nonneg hyb.1 hp2
  have hy2 : y / 2 ^ p7 ≤ 255 := by have := Int.ediv_le_self (2 ^ p7) hyb.1; omega
  obtain ⟨bb, hbb⟩ : ∃ bb : Bool, bb = bitF B pl := ⟨_, rfl⟩
  rw [← hbb] at hres
  have hbe : (bits BinOp.and IntKind.u8 (y / 2 ^ p7) 1 == 1) = bb := by
    rw [and1u8 _ hy1 hy2, hbb]
    unfold bitF
    rw [← hp8, ← hj, ← hp7, ← hy]
    rfl
  have gBy := Lib.hid hy
  have gBd := Lib.hid hB
  have gBR := Lib.hid hBR
  have hl33 := Lib.hid (dgl_length sd r)
  have hs33 := Lib.hid (show shaSum (dgl sd r) = sumS (dgl sd r) from sumS_sha (by rw [dgl_length]; omega))
  have hs37 := Lib.hid (show shaSum (dgl sd r ++ le4 (q : Int)) = B by rw [sumS_sha (by rw [List.length_append, dgl_length, le4_length]; omega), hB]; rfl)
  have hok := Lib.hid (dgl_ok hsd (show r < 256 by omega))
  have hrb : 0 ≤ (r : Int) ∧ (r : Int) ≤ 255 := by omega
  clear hP hf hz hpnd hq hp8 hj hp7 hB hBR hy hyb hp2 hbb hsd hT0 hp hpn hn0
  by_cases hfi : i < f
  · have e : pl = f := by omega
    clear hpl
    subst e
    have lk : decide ((pl : Int) > (i : Int)) = true := by simp; omega
    go_enter Tryd.func41, Tryd.ntmps41
    go_wp2_with (first
      | ((with_reducible refine at_bslice 39 ?_)
         go_loud (refine wpList_plain rfl fun K hK => wp_build0 rfl (hK _ _ ?_))
         clear hK K
         obtain ⟨b0, hb0⟩ : ∃ b0, b0 = (w.alloc (.cells (rootV sd) 24)).heap.size := ⟨_, rfl⟩
         rw [← hb0]
         rw [← gn0.out]
         refine gen_l (fun W => RdK n0 w sd W ∧ OwnB (n0 + 1) (.slice (some ⟨b0, 0, none⟩) 0 0) [] W) ⟨⟨((Below.refl _ _).alloc (by rw [gn0.out]; exact Nat.le_refl _) _).alloc (by rw [World.size_alloc, gn0.out]; omega) _, heap_past _ _ _ _ (heap_new _ _ _ _ gn0.out)⟩, OwnB.new (by rw [hb0, World.size_alloc, gn0.out]; exact Nat.le_refl _) [] (by decide) (heap_new _ _ _ _ hb0)⟩ ?_
         clear hb0
         rintro Wa ⟨k1, o1⟩
         have ka := Lib.hid k1
         have oa := Lib.hid o1
         clear k1 o1)
      | ((with_reducible refine at_sliceC 24 ?_); refine wpList_value (by rfl) (.slice (some ⟨n0, 0, none⟩) 32 32) (run_acut_all _ 24 5 32 (.tmp 7) rfl Tryd.underlying24 1 sz_u8 n0 0 rfl) ?_)
      | ((with_reducible refine at_appC 39 ?_)
         go_loud (refine wpList_plain rfl fun K hK => wp_app (w0 := Wa) (.tmp 17) (.tmp 18) rfl (n0 + 1) [] (rootL sd) _ rfl oa.out (some ⟨n0, 0, none⟩) 32 (by rw [rootL_length]; rfl) (row_root_at ka.out.hs gsd.out) (by rw [rootL_length]; decide) (by have := ka.out.lt; omega) (fun h => by cases h) (Below.refl _ _) (fun v1 Wb h1 h2 h3 => hK _ _ ?_))
         clear hK K
         rw [List.nil_append] at h1
         have kb := Lib.hid (ka.out.up h2)
         have ob := Lib.hid h1
         have zb := Lib.hid h3
         clear h1 h2 h3)
      | ((with_reducible refine at_bslice 39 ?_)
         refine wpList_plain rfl fun K hK => wp_ran _ (run_buildSlice _ 39 5 1 _ rfl Tryd.underlying39 (.int .u8 0) 1 info_byte2 (by decide) (by decide) [.int .u8 (r : Int)] rfl (by rfl) (fun v hv => by rw [List.mem_singleton.1 hv]; rfl)) (hK _ _ ?_)
         clear hK K
         obtain ⟨b2, hb2⟩ : ∃ b2, b2 = Wb.heap.size := ⟨_, rfl⟩
         go_loud (rw [← hb2])
         refine gen_l (fun W => RdK n0 w sd W ∧ OwnB (n0 + 1) v1 (rootL sd) W ∧ Row W (some ⟨b2, 0, none⟩) .u8 [(r : Int)] ∧ n0 + 1 ≤ W.heap.size) ⟨kb.out.later ((Below.refl _ _).alloc (Nat.le_refl _) _), ob.out.later ((Below.refl _ _).alloc (Nat.le_refl _) _), one_row8 hb2 hrb, by rw [World.size_alloc]; have := zb.out; omega⟩ ?_
         clear hb2
         rintro Wc ⟨k1, o1, r1, z1⟩
         have kc := Lib.hid k1
         have oc := Lib.hid o1
         have rc := Lib.hid r1
         have zc := Lib.hid z1
         clear k1 o1 r1 z1)
      | ((with_reducible refine at_appC 39 ?_)
         go_loud (refine wpList_plain rfl fun K hK => wp_app (w0 := Wc) (.tmp 19) (.tmp 22) rfl (n0 + 1) (rootL sd) [(r : Int)] _ rfl oc.out (some ⟨b2, 0, none⟩) 1 rfl rc.out (by rw [rootL_length, List.length_singleton]; decide) zc.out (fun h => by cases h) (Below.refl _ _) (fun v2 Wd h1 h2 h3 => hK _ _ ?_))
         clear hK K
         have h1' : OwnB (n0 + 1) v2 (dgl sd r) Wd := h1
         obtain ⟨g, cap, rfl, hg1, _, _, hcells⟩ := h1'.at (by rw [hl33.out]; omega)
         have kd := Lib.hid (kc.out.up h2)
         have od := Lib.hid h1'
         have gg1 := Lib.hid hg1
         have su := Lib.hid (show Calls Tryd.prog 40 #[.slice (some ⟨g, 0, none⟩) 33 cap] Wd (fun e w' => e = .returned (.agg (rootV (sumS (dgl sd r)))) ∧ Below Wd.heap.size Wd w') by
           have h := sum_any (dgl sd r) (some ⟨g, 0, none⟩) cap Wd (by rw [hl33.out]; omega) ⟨fun i hi => ⟨g, 0, rfl, by rw [Nat.zero_add]; exact hcells i hi⟩, hok.out⟩ (fun h => by cases h) (hT.out.below (n := n0) (by rw [gn0.out]; exact hT3.out) kd.out.below)
           rw [hl33.out, hs33.out] at h
           exact h)
         rw [hl33.out]
         clear h1 h1' h2 h3 hg1 hcells)
      | ((with_reducible refine su.out.mono ?_)
         rintro e We ⟨rfl, b1⟩
         have ke := Lib.hid (kd.out.later b1)
         have oe := Lib.hid (od.out.later b1)
         clear b1)
      | ((with_reducible refine at_store 24 ?_)
         refine wpList_store_row 24 (.tmp 10) (.tmp 25) rfl rfl We.heap.size rfl (rootV (sumS (dgl sd r))) rfl (fcells_one _ _ _) (by rw [row_size row_root]; simp [fcells]) _ 24 (heap_new _ _ _ _ rfl) (by simp [fcells]) (fun Wf hC hA => ?_)
         obtain ⟨qh, hqh⟩ : ∃ qh, qh = We.heap.size := ⟨_, rfl⟩
         have hgl : g < We.heap.size := (oe.out.2.resolve_left (fun h => by cases h.1)).elim fun g' h => h.elim fun cap' h => h.elim fun cur h => by cases h.1; exact blk_lt h.2.2.1
         have kl := ke.out.lt
         have bAf : Below We.heap.size We Wf := hA.below ((Below.refl _ _).alloc (Nat.le_refl _) _) (Nat.le_refl _) (by rw [World.size_alloc]; omega)
         have kf := Lib.hid (ke.out.later bAf)
         have of_ := Lib.hid (oe.out.later bAf)
         rw [← hqh] at hC ⊢
         have cf := Lib.hid hC
         have rd := Lib.hid (rread_sum8 hC (sumS_is (dgl sd r)))
         have eP : rdI (fun j => ((List.range 8).map (sumS (dgl sd r))).getD j 0) 8 = P := by rw [sum_rd8, gP.out]
         rw [eP] at rd
         clear hC hA hqh hgl kl bAf eP)
      | ((with_reducible refine at_sliceC 24 ?_); refine wpList_value (by rfl) (.slice (some ⟨qh, 0, none⟩) 8 32) (run_acut_to _ 24 5 32 (.tmp 10) _ rfl Tryd.underlying24 1 sz_u8 qh 0 rfl .i64 8 rfl (by omega)) ?_)
      | ((with_reducible refine rd.out.mono ?_)
         rintro e Wg ⟨rfl, rfl⟩)
      | ((with_reducible refine (rbytes_any (q : Int) Wf).mono ?_)
         rintro e Wh ⟨rfl, b1⟩
         have kh := Lib.hid (kf.out.later b1)
         have oh := Lib.hid (of_.out.later b1)
         clear b1)
      | ((with_reducible refine at_store 90 ?_)
         refine wpList_store_row 90 (.tmp 15) (.tmp 47) rfl rfl Wh.heap.size rfl (numV (q : Int)) rfl (fcells_one _ _ _) (by rw [num8_size]; exact row_size row_b8) _ 90 (heap_new _ _ _ _ rfl) (by rw [num8_size]; rfl) (fun Wi hC hA => ?_)
         obtain ⟨qb, hqb⟩ : ∃ qb, qb = Wh.heap.size := ⟨_, rfl⟩
         have bAi : Below Wh.heap.size Wh Wi := hA.below ((Below.refl _ _).alloc (Nat.le_refl _) _) (Nat.le_refl _) (by rw [World.size_alloc]; omega)
         have ki := Lib.hid (kh.out.later bAi)
         have oi := Lib.hid (oh.out.later bAi)
         rw [← hqb] at hC ⊢
         have ci := Lib.hid hC
         clear hC hA hqb bAi))
    refine reg9_any (n0 + 1) g cap qb r q sd B Wi hr hq6 gsd.out gBd.out oi.out ci.out (hT.out.below (n := n0) (by rw [gn0.out]; exact hT3.out) ki.out.below) _ _ _ _ _ _ _ _ _ _ _ _ _ _ _ _ _ _ _ _ _ _ _ _ _ _ _ _ _ _ _ _ _ _ _ _ _ _ _ _ _ _ _ _ _ _ _ _ _ _ _ _ _ _ _ _ _ _ _ _ _ _ _ _ ?_
    intro x48 x49 x50 x51 x52 x53 q16 Wj bj cj
    have kj := Lib.hid (ki.out.later bj)
    have hcl := Lib.hid (show Wj.cell? ⟨q16, j, none⟩ = some (.int .u8 y) by
      rw [cell_of_row Wj q16 j _ _ _ cj, List.getElem?_toArray, fcells_get _ _ _ _ hj32, gBy.out]
      rfl)
    clear bj cj
    cases bb with
    | true =>
      go_wp2_with (
        ((with_reducible refine at_load 5 ?_); go_loud (refine wpList_value (by rfl) _ (run_load_cell _ 5 (.tmp 57) rfl ⟨q16, j, none⟩ rfl (.int .u8 y) hcl.out _ Tryd.underlying5 rfl) ?_)))
      exact ret_t1 rfl _ rfl rfl ⟨by rw [hres.out]; rfl, gn0.out ▸ kj.out.below⟩
    | false =>
      go_wp2_with (
        ((with_reducible refine at_load 5 ?_); go_loud (refine wpList_value (by rfl) _ (run_load_cell _ 5 (.tmp 57) rfl ⟨q16, j, none⟩ rfl (.int .u8 y) hcl.out _ Tryd.underlying5 rfl) ?_)))
      exact ret_t1 rfl _ rfl rfl ⟨by rw [hres.out]; rfl, gn0.out ▸ kj.out.below⟩
  · have e : pl = i := by omega
    clear hpl
    subst e
    have lk : decide ((f : Int) > (pl : Int)) = false := by simp; omega
    go_enter Tryd.func41, Tryd.ntmps41
    go_wp2_with (first
      | ((with_reducible refine at_bslice 39 ?_)
         go_loud (refine wpList_plain rfl fun K hK => wp_build0 rfl (hK _ _ ?_))
         clear hK K
         obtain ⟨b0, hb0⟩ : ∃ b0, b0 = (w.alloc (.cells (rootV sd) 24)).heap.size := ⟨_, rfl⟩
         rw [← hb0]
         rw [← gn0.out]
         refine gen_l (fun W => RdK n0 w sd W ∧ OwnB (n0 + 1) (.slice (some ⟨b0, 0, none⟩) 0 0) [] W) ⟨⟨((Below.refl _ _).alloc (by rw [gn0.out]; exact Nat.le_refl _) _).alloc (by rw [World.size_alloc, gn0.out]; omega) _, heap_past _ _ _ _ (heap_new _ _ _ _ gn0.out)⟩, OwnB.new (by rw [hb0, World.size_alloc, gn0.out]; exact Nat.le_refl _) [] (by decide) (heap_new _ _ _ _ hb0)⟩ ?_
         clear hb0
         rintro Wa ⟨k1, o1⟩
         have ka := Lib.hid k1
         have oa := Lib.hid o1
         clear k1 o1)
      | ((with_reducible refine at_sliceC 24 ?_); refine wpList_value (by rfl) (.slice (some ⟨n0, 0, none⟩) 32 32) (run_acut_all _ 24 5 32 (.tmp 7) rfl Tryd.underlying24 1 sz_u8 n0 0 rfl) ?_)
      | ((with_reducible refine at_appC 39 ?_)
         go_loud (refine wpList_plain rfl fun K hK => wp_app (w0 := Wa) (.tmp 17) (.tmp 18) rfl (n0 + 1) [] (rootL sd) _ rfl oa.out (some ⟨n0, 0, none⟩) 32 (by rw [rootL_length]; rfl) (row_root_at ka.out.hs gsd.out) (by rw [rootL_length]; decide) (by have := ka.out.lt; omega) (fun h => by cases h) (Below.refl _ _) (fun v1 Wb h1 h2 h3 => hK _ _ ?_))
         clear hK K
         rw [List.nil_append] at h1
         have kb := Lib.hid (ka.out.up h2)
         have ob := Lib.hid h1
         have zb := Lib.hid h3
         clear h1 h2 h3)
      | ((with_reducible refine at_bslice 39 ?_)
         refine wpList_plain rfl fun K hK => wp_ran _ (run_buildSlice _ 39 5 1 _ rfl Tryd.underlying39 (.int .u8 0) 1 info_byte2 (by decide) (by decide) [.int .u8 (r : Int)] rfl (by rfl) (fun v hv => by rw [List.mem_singleton.1 hv]; rfl)) (hK _ _ ?_)
         clear hK K
         obtain ⟨b2, hb2⟩ : ∃ b2, b2 = Wb.heap.size := ⟨_, rfl⟩
         go_loud (rw [← hb2])
         refine gen_l (fun W => RdK n0 w sd W ∧ OwnB (n0 + 1) v1 (rootL sd) W ∧ Row W (some ⟨b2, 0, none⟩) .u8 [(r : Int)] ∧ n0 + 1 ≤ W.heap.size) ⟨kb.out.later ((Below.refl _ _).alloc (Nat.le_refl _) _), ob.out.later ((Below.refl _ _).alloc (Nat.le_refl _) _), one_row8 hb2 hrb, by rw [World.size_alloc]; have := zb.out; omega⟩ ?_
         clear hb2
         rintro Wc ⟨k1, o1, r1, z1⟩
         have kc := Lib.hid k1
         have oc := Lib.hid o1
         have rc := Lib.hid r1
         have zc := Lib.hid z1
         clear k1 o1 r1 z1)
      | ((with_reducible refine at_appC 39 ?_)
         go_loud (refine wpList_plain rfl fun K hK => wp_app (w0 := Wc) (.tmp 19) (.tmp 22) rfl (n0 + 1) (rootL sd) [(r : Int)] _ rfl oc.out (some ⟨b2, 0, none⟩) 1 rfl rc.out (by rw [rootL_length, List.length_singleton]; decide) zc.out (fun h => by cases h) (Below.refl _ _) (fun v2 Wd h1 h2 h3 => hK _ _ ?_))
         clear hK K
         have h1' : OwnB (n0 + 1) v2 (dgl sd r) Wd := h1
         obtain ⟨g, cap, rfl, hg1, _, _, hcells⟩ := h1'.at (by rw [hl33.out]; omega)
         have kd := Lib.hid (kc.out.up h2)
         have od := Lib.hid h1'
         have gg1 := Lib.hid hg1
         have su := Lib.hid (show Calls Tryd.prog 40 #[.slice (some ⟨g, 0, none⟩) 33 cap] Wd (fun e w' => e = .returned (.agg (rootV (sumS (dgl sd r)))) ∧ Below Wd.heap.size Wd w') by
           have h := sum_any (dgl sd r) (some ⟨g, 0, none⟩) cap Wd (by rw [hl33.out]; omega) ⟨fun i hi => ⟨g, 0, rfl, by rw [Nat.zero_add]; exact hcells i hi⟩, hok.out⟩ (fun h => by cases h) (hT.out.below (n := n0) (by rw [gn0.out]; exact hT3.out) kd.out.below)
           rw [hl33.out, hs33.out] at h
           exact h)
         rw [hl33.out]
         clear h1 h1' h2 h3 hg1 hcells)
      | ((with_reducible refine su.out.mono ?_)
         rintro e We ⟨rfl, b1⟩
         have ke := Lib.hid (kd.out.later b1)
         have oe := Lib.hid (od.out.later b1)
         clear b1)
      | ((with_reducible refine at_store 24 ?_)
         refine wpList_store_row 24 (.tmp 10) (.tmp 25) rfl rfl We.heap.size rfl (rootV (sumS (dgl sd r))) rfl (fcells_one _ _ _) (by rw [row_size row_root]; simp [fcells]) _ 24 (heap_new _ _ _ _ rfl) (by simp [fcells]) (fun Wf hC hA => ?_)
         obtain ⟨qh, hqh⟩ : ∃ qh, qh = We.heap.size := ⟨_, rfl⟩
         have hgl : g < We.heap.size := (oe.out.2.resolve_left (fun h => by cases h.1)).elim fun g' h => h.elim fun cap' h => h.elim fun cur h => by cases h.1; exact blk_lt h.2.2.1
         have kl := ke.out.lt
         have bAf : Below We.heap.size We Wf := hA.below ((Below.refl _ _).alloc (Nat.le_refl _) _) (Nat.le_refl _) (by rw [World.size_alloc]; omega)
         have kf := Lib.hid (ke.out.later bAf)
         have of_ := Lib.hid (oe.out.later bAf)
         rw [← hqh] at hC ⊢
         have cf := Lib.hid hC
         have rd := Lib.hid (rread_sum8 hC (sumS_is (dgl sd r)))
         have eP : rdI (fun j => ((List.range 8).map (sumS (dgl sd r))).getD j 0) 8 = P := by rw [sum_rd8, gP.out]
         rw [eP] at rd
         clear hC hA hqh hgl kl bAf eP)
      | ((with_reducible refine at_sliceC 24 ?_); refine wpList_value (by rfl) (.slice (some ⟨qh, 0, none⟩) 8 32) (run_acut_to _ 24 5 32 (.tmp 10) _ rfl Tryd.underlying24 1 sz_u8 qh 0 rfl .i64 8 rfl (by omega)) ?_)
      | ((with_reducible refine rd.out.mono ?_)
         rintro e Wg ⟨rfl, rfl⟩)
      | ((with_reducible refine (rbytes_any (q : Int) Wf).mono ?_)
         rintro e Wh ⟨rfl, b1⟩
         have kh := Lib.hid (kf.out.later b1)
         have oh := Lib.hid (of_.out.later b1)
         clear b1)
      | ((with_reducible refine at_store 90 ?_)
         refine wpList_store_row 90 (.tmp 15) (.tmp 47) rfl rfl Wh.heap.size rfl (numV (q : Int)) rfl (fcells_one _ _ _) (by rw [num8_size]; exact row_size row_b8) _ 90 (heap_new _ _ _ _ rfl) (by rw [num8_size]; rfl) (fun Wi hC hA => ?_)
         obtain ⟨qb, hqb⟩ : ∃ qb, qb = Wh.heap.size := ⟨_, rfl⟩
         have bAi : Below Wh.heap.size Wh Wi := hA.below ((Below.refl _ _).alloc (Nat.le_refl _) _) (Nat.le_refl _) (by rw [World.size_alloc]; omega)
         have ki := Lib.hid (kh.out.later bAi)
         have oi := Lib.hid (oh.out.later bAi)
         rw [← hqb] at hC ⊢
         have ci := Lib.hid hC
         clear hC hA hqb bAi))
    refine reg9_any (n0 + 1) g cap qb r q sd B Wi hr hq6 gsd.out gBd.out oi.out ci.out (hT.out.below (n := n0) (by rw [gn0.out]; exact hT3.out) ki.out.below) _ _ _ _ _ _ _ _ _ _ _ _ _ _ _ _ _ _ _ _ _ _ _ _ _ _ _ _ _ _ _ _ _ _ _ _ _ _ _ _ _ _ _ _ _ _ _ _ _ _ _ _ _ _ _ _ _ _ _ _ _ _ _ _ ?_
    intro x48 x49 x50 x51 x52 x53 q16 Wj bj cj
    have kj := Lib.hid (ki.out.later bj)
    have hcl := Lib.hid (show Wj.cell? ⟨q16, j, none⟩ = some (.int .u8 y) by
      rw [cell_of_row Wj q16 j _ _ _ cj, List.getElem?_toArray, fcells_get _ _ _ _ hj32, gBy.out]
      rfl)
    clear bj cj
    cases bb with
    | true =>
      go_wp2_with (
        ((with_reducible refine at_load 5 ?_); go_loud (refine wpList_value (by rfl) _ (run_load_cell _ 5 (.tmp 57) rfl ⟨q16, j, none⟩ rfl (.int .u8 y) hcl.out _ Tryd.underlying5 rfl) ?_)))
      exact ret_t1 rfl _ rfl rfl ⟨by rw [hres.out]; rfl, gn0.out ▸ kj.out.below⟩
    | false =>
      go_wp2_with (
        ((with_reducible refine at_load 5 ?_); go_loud (refine wpList_value (by rfl) _ (run_load_cell _ 5 (.tmp 57) rfl ⟨q16, j, none⟩ rfl (.int .u8 y) hcl.out _ Tryd.underlying5 rfl) ?_)))
      exact ret_t1 rfl _ rfl rfl ⟨by rw [hres.out]; rfl, gn0.out ▸ kj.out.below⟩
end Go.Proofs.YtfnjcpopadpmbaaDoor
