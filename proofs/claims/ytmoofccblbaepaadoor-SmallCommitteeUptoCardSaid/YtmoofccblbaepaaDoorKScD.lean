import Derived.Test.YtmoofccblbaepaaDoorKScC
set_option linter.unusedVariables false
set_option linter.unusedSimpArgs false
set_option linter.unnecessarySimpa false
/- The committee: its root, by the reference. -/
namespace Go.Proofs.YtmoofccblbaepaaDoor
open Go.RowKit BigFrame
set_option maxRecDepth 100000
section
variable {n N : Nat} {kd : Nat → CK} {f : Nat → Int} {t tc : TypeId} {K : Nat} {rs : List (Nat → Int)} {w W W' : World}
theorem RefR.later3 (h : RefR n N kd f t tc K rs w W) (hb : Below (n + 3) W W') : RefR n N kd f t tc K rs w W' :=
  ⟨h.toBox.later (hb.mono (by omega)), (hb.block _ (by omega)).trans h.hR, h.hC.block (hb.block _ (by omega)), h.is, h.hT.below (by have := h.h3; omega) hb, h.h3⟩
end
/-- Pack, told of worlds. -/
theorem pack_at (l : List Int) (va : Option Addr) (c k q : Nat) (W : World) (hl : SlB va c l W) (hk : l.length = k) (hq : (k + 31) / 32 = q) (h1 : 1 ≤ k) (h2 : k ≤ 100000) :
    Calls Tryd.prog 104 #[.slice va k c] W fun e w' => ∃ va' c', e = .returned (.slice va' q c') ∧ RowR w' va' (chunks l) ∧ (∀ b o, va' = some ⟨b, o, none⟩ → b < w'.heap.size) ∧ q ≤ c' ∧ Below W.heap.size W w' := by
  subst hk
  refine (rpack_any l va c W hl.row hl.low (by omega)).mono fun _ _ ⟨⟨va', c', h3, h4⟩, h5⟩ => ?_
  have hq' : (chunks l).length = q := by rw [chunks_length, hq]
  obtain ⟨g, cap, e, hg, hR⟩ := roots_of_own h4 (by omega)
  injection e with e1 e2 e3
  subst e1
  subst e3
  have hc := hR.choose_spec.2.2.1
  rw [hq'] at hR hc h3
  exact ⟨_, _, h3, hR.row (chunks l) (by omega) (fun _ _ => rfl) (chunks_is hl.row.ok), (fun b o e => by cases e; exact hR.lt), hc, h5⟩
theorem must_at (l : List Int) (va : Option Addr) (c q d : Nat) (m : Int) (W : World) (hT : Tabs W) (hl : RowR W va (chunks l)) (hlow : ∀ b o, va = some ⟨b, o, none⟩ → b < W.heap.size) (hc : q ≤ c) (hq : (l.length + 31) / 32 = q) (hm : m = (q : Int)) (hd : Dep q d) (hd40 : d ≤ 40) :
    Calls Tryd.prog 95 #[.slice va q c, .int .i64 m] W fun e w' => e = .returned (.agg (rootV (byR d l))) ∧ Below W.heap.size W w' := by
  subst hm
  exact must_any (chunks l) q q d va c W (by rw [chunks_length, hq]) (Nat.le_refl _) hd hd40 hl hlow hc hT
theorem must_rs (rs : List (Nat → Int)) (va : Option Addr) (c q d : Nat) (m : Int) (W : World) (hT : Tabs W) (hn : rs.length = q) (hl : RowR W va rs) (hlow : ∀ b o, va = some ⟨b, o, none⟩ → b < W.heap.size) (hc : q ≤ c) (hm : m = (q : Int)) (hd : Dep q d) (hd40 : d ≤ 40) :
    Calls Tryd.prog 95 #[.slice va q c, .int .i64 m] W fun e w' => e = .returned (.agg (rootV (fullT d (leaf rs)))) ∧ Below W.heap.size W w' := by
  subst hm
  exact must_any rs q q d va c W hn (Nat.le_refl _) hd hd40 hl hlow hc hT
set_option maxHeartbeats 8000000 in
theorem rroot_Committee (f : Nat → Int) (hf0 : ∀ j, j < 432 → (kdCommittee j).ok (f j)) (w : World) (hT0 : Tabs w) :
    Calls Tryd.prog 55 #[.agg (fcells 432 kdCommittee f).toArray] w fun e w' => e = .returned (.tuple #[.agg (rootV (rootCommittee f)), .int .i64 0]) ∧ Below w.heap.size w w' := by
  have hf := Lib.hid hf0
  have hT := Lib.hid hT0
  clear hf0 hT0
  go_enter Tryd.func55, Tryd.ntmps55
  go_wp2_with (first
    | ((with_reducible refine at_alloc 29 ?_); refine wpList_plain rfl fun K hK => wp_alloc_row 29 rfl 2 rfl zr 32 info_zr (hK _ _ ?_); clear hK K)
    | ((with_reducible refine at_alloc 158 ?_); go_loud (refine wpList_plain rfl fun K hK => wp_alloc_row 158 rfl 5 rfl (rep 64) 64 (by kernel_rfl) (hK _ _ ?_)); clear hK K
       refine gen_l (fun W => RefR w.heap.size 432 kdCommittee f 92 158 2 [] w W) (RefR.begin (heap_new _ _ _ _ rfl) rfl hT.out (by simp) (rep_get _)) ?_
       intro W hS0
       have hS := Lib.hid hS0
       clear hS0))
  go_loopw [6, 7] (fun v i wr => ∃ k : Nat, k ≤ 8 ∧ i = .int .i64 (k : Int) ∧ (∃ va c, v = .slice va k c) ∧ OwnR (w.heap.size + 3) v (keyRs f k) wr ∧ RefR w.heap.size 432 kdCommittee f 92 158 2 [] w wr) (fun _ i _ => 8 - (intOf i).toNat)
  case atStart => exact ⟨0, by omega, rfl, ⟨_, _, rfl⟩, ⟨rfl, Or.inl ⟨rfl, rfl⟩⟩, hS.out⟩
  case round =>
    obtain ⟨k, hk, rfl, ⟨va, c, rfl⟩, hO1, hS1⟩ := hrel
    clear hS
    have hS := Lib.hid hS1
    have hO := Lib.hid hO1
    clear hS1 hO1
    have hsz := hS.out.size
    by_cases hlt : k < 8
    · have lk : (k : Int) < 8 := by omega
      go_wp2_with (first
        | ((with_reducible refine at_alloc 29 ?_); go_loud (refine wpList_plain rfl fun K hK => wp_alloc_row 29 rfl 8 rfl zr 32 info_zr (hK _ _ ?_)); clear hK K
           refine gen_l (fun W => W.heap[wr.heap.size]? = some (.cells zr 29 (0, 0)) ∧ Below wr.heap.size wr W ∧ wr.heap.size < W.heap.size) ⟨heap_new _ _ _ _ rfl, (Below.refl _ _).alloc (Nat.le_refl _) _, by simp⟩ ?_
           rintro W ⟨hP1, hB1, hz1⟩
           have hP := Lib.hid hP1
           have hB := Lib.hid hB1
           have hz := Lib.hid hz1
           clear hP1 hB1 hz1)
        | ((with_reducible refine (pack_at (byL f (k * 48) 48) (some ⟨w.heap.size, k * 48, none⟩) 48 48 2 _ ((hS.out.later hB.out).toBox.sl (k * 48) 48 (kdC _ 48) (by omega) hf.out) (byL_length _ _ _) (by decide) (by decide) (by decide)).mono ?_)
           rintro e W1 ⟨va1, c1, rfl, hrw1, hlw1, hcq, hb1⟩
           have hrw := Lib.hid hrw1
           have hlw := Lib.hid hlw1
           have hP1 := Lib.hid ((hb1.block _ hz.out).trans hP.out)
           have hz1 := Lib.hid (Nat.lt_of_lt_of_le hz.out hb1.size)
           have hB1 := Lib.hid (hB.out.trans (hb1.mono (Nat.le_of_lt hz.out)))
           clear hrw1 hlw1 hb1 hP hB hz
           have hP := hP1
           have hB := hB1
           have hz := hz1
           clear hP1 hB1 hz1
           obtain ⟨W, hWW⟩ : ∃ W, W = W1 := ⟨_, rfl⟩
           subst hWW)
        | ((with_reducible refine (must_at (byL f (k * 48) 48) va1 c1 2 1 (2 : Int) _ (hS.out.later hB.out).hT hrw.out hlw.out hcq (by rw [byL_length]) rfl (by unfold Dep; decide) (by decide)).mono ?_)
           rintro e W1 ⟨rfl, hb1⟩
           have hP1 := Lib.hid ((hb1.block _ hz.out).trans hP.out)
           have hz1 := Lib.hid (Nat.lt_of_lt_of_le hz.out hb1.size)
           have hB1 := Lib.hid (hB.out.trans (hb1.mono (Nat.le_of_lt hz.out)))
           clear hrw hlw hcq hb1 hP hB hz
           have hP := hP1
           have hB := hB1
           have hz := hz1
           clear hP1 hB1 hz1
           obtain ⟨W, hWW⟩ : ∃ W, W = W1 := ⟨_, rfl⟩
           subst hWW)
        | ((with_reducible refine at_store 29 ?_); refine at_staddr 29 wr.heap.size 0 rfl ?_; go_loud (refine wpList_store_row_gen (w0 := wr) (n0 := wr.heap.size) 29 _ _ rfl rfl wr.heap.size rfl (rootV (byR 1 (byL f (k * 48) 48))) rfl (fcells_one _ _ _) (by rw [row_size row_root]; simp [fcells]) _ 29 hP.out (by rw [zr_size]; simp [fcells]) (Nat.le_refl _) hB.out (fun W1 hW1 hB1 _ => ?_))
           have hQ := Lib.hid hW1
           clear hP hB hW1
           have hB := Lib.hid hB1
           clear hB1
           obtain ⟨W, hWW⟩ : ∃ W, W = W1 := ⟨_, rfl⟩
           subst hWW)
        | ((with_reducible refine at_load 29 ?_); go_loud (refine wpList_value (by rfl) _ (run_load_rows _ 29 _ (by rfl) wr.heap.size 0 (by rfl) (fcells 32 (fun _ => .u8) (byR 1 (byL f (k * 48) 48))) _ hQ.out Tryd.underlying29 rfl (by rw [row_size row_root, fcells_length])) ?_))
        | ((with_reducible refine at_bslice 151 ?_); go_loud (refine wpList_plain rfl fun K hK => wp_ran _ (run_bslice_root _ _ rfl (byR 1 (byL f (k * 48) 48)) (by rfl)) (hK _ _ ?_)); clear hK K)
        | ((with_reducible refine at_call_builtin .append ?_); go_loud (refine wpList_plain rfl fun K hK => wp_appS (w0 := wr) (n0 := w.heap.size + 3) (.tmp 19) (.tmp 21) 151 29 rfl Tryd.underlying151 (.agg (rep 32)) 32 32 info_root rfl (by decide) (w.heap.size + 3) (keyRs f k).length _ (rcells (keyRs f k)) rfl (own_later (own_later hO.out hB.out) ((Below.refl _ _).alloc (Nat.le_refl _) _)) ⟨W.heap.size, 0, none⟩ 1 1 rfl (fcells 32 (fun _ => .u8) (byR 1 (byL f (k * 48) 48))) (by rw [fcells_length]) (range_whole (heap_new _ _ _ _ rfl)) rfl fcells_mem (by rw [keyRs_length]; omega) (by rw [keyRs_length]; omega) (by have := hB.out.size; rw [World.size_alloc]; omega) (Nat.le_refl _) ((hB.out.mono hsz).alloc (by have := hB.out.size; omega) _) (fun v1 W2 h1 b1 z1 o1 q1 => hK _ _ ?_)); clear hK K
           rw [Nat.mul_comm k 48] at h1
           rw [show rcells (keyRs f k) ++ fcells 32 (fun _ => .u8) (byR 1 (byL f (48 * k) 48)) = rcells (keyRs f (k + 1)) by rw [← keyRs_succ, rcells_append, rcells_one], show (keyRs f k).length + 1 = (keyRs f (k + 1)).length by simp [keyRs_length]] at h1
           obtain ⟨va2, c2, e2, _⟩ := own_form h1
           rw [keyRs_length] at e2
           subst e2
           have hO2 := Lib.hid h1
           have hS2 := Lib.hid (hS.out.later3 b1)
           clear h1 b1 z1 o1 q1))
      first
        | exact ⟨⟨k + 1, by omega, by go_num, ⟨_, _, rfl⟩, hO2.out, hS2.out⟩, by simp [intOf]; omega⟩
        | (refine ⟨?_, by simp [intOf]; omega⟩
           (repeat apply Exists.intro)
           exact ⟨⟨k + 1, by omega, by go_num, ⟨_, _, rfl⟩, hO2.out, hS2.out⟩, rfl⟩)
    · have e : k = 8 := by omega
      subst e
      clear hlt hk
      obtain ⟨g, cap, eg, hg, hR0⟩ := roots_of_own hO.out (by rw [keyRs_length]; decide)
      rw [keyRs_length] at eg hR0
      cases eg
      have hcap := hR0.choose_spec.2.2.1
      have hrk := Lib.hid (hR0.row (keyRs f 8) (by rw [keyRs_length]; exact Nat.le_refl _) (fun _ _ => rfl) (keyRs_is hf.out 8 (by decide)))
      have hgl := Lib.hid hR0.lt
      clear hR0
      go_wp2_with (first
        | ((with_reducible refine (must_rs (keyRs f 8) _ _ 8 3 (8 : Int) _ hS.out.hT (keyRs_length f 8) hrk.out (fun b o e => by cases e; exact hgl.out) hcap rfl (by unfold Dep; decide) (by decide)).mono ?_)
           rintro e W ⟨rfl, hb1⟩
           have hS1 := hS.out.later hb1
           clear hb1
           clear hS
           have hS := Lib.hid hS1
           clear hS1)
        | ((with_reducible refine at_store 29 ?_); refine at_staddr 29 (w.heap.size + 1 + 1) (32 * 0) rfl ?_; refine wpList_rootT rfl _ _ rfl 0 (keysR f) rfl rfl hS.out rfl (by decide) (keysR_is hf.out) (fun W1 hS1 => ?_)
           obtain ⟨W, hWW⟩ : ∃ W, W = W1 := ⟨_, rfl⟩
           subst hWW
           clear hS
           have hS := Lib.hid hS1
           clear hS1)
        | ((with_reducible refine (RefR.pack hS.out (byL f 384 48) (some ⟨w.heap.size, 384, none⟩) 48 48 2 (hS.out.toBox.sl 384 48 (kdC 384 48) (by decide) hf.out) (byL_length _ _ _) (by decide) (by decide) (by decide)).mono ?_)
           rintro e W ⟨va1, c1, rfl, hrw1, hlw1, hcq, hS1⟩
           have hrw := Lib.hid hrw1
           have hlw := Lib.hid hlw1
           clear hrw1 hlw1
           clear hS
           have hS := Lib.hid hS1
           clear hS1)
        | ((with_reducible refine (RefR.must hS.out (byL f 384 48) va1 c1 2 1 (2 : Int) hrw.out hlw.out hcq (by rw [byL_length]) rfl (by unfold Dep; decide) (by decide)).mono ?_)
           rintro e W ⟨rfl, hS1⟩
           clear hrw hlw hcq
           clear hS
           have hS := Lib.hid hS1
           clear hS1)
        | ((with_reducible refine at_store 29 ?_); refine at_staddr 29 (w.heap.size + 1 + 1) (32 * 1) rfl ?_; refine wpList_rootT rfl _ _ rfl 1 (byR 1 (byL f 384 48)) rfl rfl hS.out rfl (by decide) (byR_is (byL_ok (ok_u8 hf.out (kdC 384 48) (by decide)))) (fun W1 hS1 => ?_)
           obtain ⟨W, hWW⟩ : ∃ W, W = W1 := ⟨_, rfl⟩
           subst hWW
           clear hS
           have hS := Lib.hid hS1
           clear hS1)
        | ((with_reducible refine (RefR.last hS.out 1 (2 : Int) rfl rfl (by unfold Dep; decide) (by decide)).mono ?_)
           rintro e W ⟨rfl, hBf, hRf⟩
           have hRf1 := Lib.hid hRf
           clear hRf hS)
        | ((with_reducible refine at_store 29 ?_); go_loud (refine wpList_store_row_gen (w0 := w) (n0 := w.heap.size) 29 _ _ rfl rfl (w.heap.size + 1) rfl _ rfl (fcells_one _ _ _) (by rw [row_size row_root]; simp [fcells]) _ 29 hRf1.out (by rw [zr_size]; simp [fcells]) (by omega) hBf (fun W9 hW9 hBW _ => ?_))))
      exact ret_mid_tmp rfl (w.heap.size + 1) 0 (fcells 32 (fun _ => .u8) (rootCommittee f)) _ rfl hW9 Tryd.underlying29 rfl (by rw [row_size row_root, fcells_length]) rfl ⟨rfl, hBW⟩
end Go.Proofs.YtmoofccblbaepaaDoor
