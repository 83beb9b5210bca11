/- Oper's container Deposit: its bytes, by the reference. -/
/- Oper's container Deposit: its root, by the reference. -/
import Derived.Test.YtihelknkcomjpaaDoorJDpB
import Derived.Test.YtihelknkcomjpaaDoorKSrDepositData
import Derived.Test.YtihelknkcomjpaaDoorJRqS
set_option linter.unusedVariables false
set_option linter.unusedSimpArgs false
set_option linter.unnecessarySimpa false
namespace Go.Proofs.YtihelknkcomjpaaDoor
open Go.RowKit BigFrame
set_option maxRecDepth 100000
set_option maxHeartbeats 8000000 in
theorem renc_Deposit (f : Nat → Int) (hf0 : ∀ j, j < 401 → (kdDeposit j).ok (f j)) (w : World) :
    Calls Tryd.prog 11 #[.agg (fcells 401 kdDeposit f).toArray] w fun e w' => (∃ va c, e = .returned (.tuple #[.slice va 408 c, .int .i64 0]) ∧ (va = none → c = 0) ∧ OwnB w.heap.size (.slice va 408 c) (encLDeposit f) w') ∧ Below w.heap.size w w' := by
  have hf := Lib.hid hf0
  clear hf0
  go_enter Tryd.func11, Tryd.ntmps11
  go_wp2_with (first
    | ((with_reducible refine at_box 33 ?_); go_loud (refine wpList_box rfl 33 _ rfl _ rfl ?_)
       refine gen_l (fun W => RefE w.heap.size 401 kdDeposit f 33 [] w W) (RefE.begin (heap_new _ _ _ _ rfl) rfl) ?_
       intro W hS0
       have hS := Lib.hid hS0
       clear hS0))
  go_loopw [5, 7] (fun v i wr => ∃ k : Nat, k ≤ 7 ∧ i = .int .i64 (k : Int) ∧ (∃ va c, v = .slice va (32 * k) c) ∧ OwnB (w.heap.size + 1) v (byL f 0 (32 * k)) wr ∧ RefE w.heap.size 401 kdDeposit f 33 [] w wr) (fun _ i _ => 7 - (intOf i).toNat)
  case atStart => exact ⟨0, by omega, rfl, ⟨_, _, rfl⟩, OwnB.nil _ _, hS.out⟩
  case round =>
    obtain ⟨k, hk, rfl, ⟨va, c, rfl⟩, hO1, hS1⟩ := hrel
    clear hS
    have hS := Lib.hid hS1
    have hO := Lib.hid hO1
    clear hS1 hO1
    by_cases hlt : k < 7
    · have lk : (k : Int) < 7 := by omega
      have hn := block_lt hS.out.hX
      go_wp2_with (first
        | ((with_reducible refine at_bslice 34 ?_); go_loud (refine wpList_plain rfl fun K hK => wp_build0 rfl (hK _ _ ?_)); clear hK K)
        | ((with_reducible refine at_app 34 ?_); refine wpList_app (w0 := wr) rfl _ _ rfl wr.heap.size [] (byL f (k * 32) 32) _ rfl (OwnB.new (Nat.le_refl _) [] (by decide) (heap_new _ _ _ _ rfl)) (some ⟨w.heap.size, k * 32, none⟩) 32 rfl ((hS.out.toBox.row (k * 32) 32 (kdD (k * 32) 32 (by omega)) (by omega) hf.out).later ((Below.refl _ _).alloc (Nat.le_refl _) _)) (by simp [byL_length]) (by simp) (fun h => by cases h) ((Below.refl _ _).alloc (Nat.le_refl _) _) (fun v1 W1 h1 b1 z1 => ?_)
           rw [List.nil_append] at h1
           obtain ⟨va1, c1, e1, hv1⟩ := own_form h1
           rw [byL_length] at e1
           subst e1
           have hOa := Lib.hid h1
           have hb1 := Lib.hid b1
           have hn1 := Lib.hid hv1
           clear h1 b1 hv1)
        | ((with_reducible refine at_app 34 ?_); go_loud (refine wpList_app (w0 := wr) rfl _ _ rfl (w.heap.size + 1) (byL f 0 (32 * k)) (byL f (k * 32) 32) _ rfl (hO.out.later hb1.out) va1 c1 rfl (SlB.of_own hOa.out (byL_ok (ok_u8 hf.out (kdD (k * 32) 32 (by omega)) (by omega))) hn1.out).row (by simp only [byL_length]; omega) (by have := hb1.out.size; omega) hn1.out (hb1.out.mono (by omega)) (fun v2 W2 h2 b2 z2 => ?_))
           rw [Nat.mul_comm k 32, byL_appD f 0 (32 * k) (32 * k) 32 (by omega) (by omega)] at h2
           obtain ⟨va2, c2, e2, _⟩ := own_form h2
           rw [byL_length] at e2
           subst e2
           have hO2 := Lib.hid h2
           have hS2 := Lib.hid (show RefE w.heap.size 401 kdDeposit f 33 [] w W2 from ⟨hS.out.toBox.later b2, fun p hp => by simp at hp⟩)
           clear h2 b2))
      first
        | exact ⟨⟨k + 1, by omega, by go_num, ⟨_, _, rfl⟩, hO2.out, hS2.out⟩, by simp [intOf]; omega⟩
        | (refine ⟨?_, by simp [intOf]; omega⟩
           (repeat apply Exists.intro)
           exact ⟨⟨k + 1, by omega, by go_num, ⟨_, _, rfl⟩, hO2.out, hS2.out⟩, rfl⟩)
    · have e : k = 7 := by omega
      subst e
      clear hlt hk
      obtain ⟨vb, cb, eb, hbn⟩ := own_form hO.out
      rw [byL_length] at eb
      cases eb
      have hS3 := Lib.hid (hS.out.add (SlB.of_own hO.out (byL_ok (ok_u8 hf.out (kdD 0 (32 * 7) (by decide)) (by decide))) hbn) (byL_length f 0 (32 * 7)))
      clear hS
      have hS := Lib.hid hS3.out
      clear hS3 hbn
      go_wp2_with (first
        | ((with_reducible refine at_load 31 ?_); refine wpList_value (by rfl) _ (run_load_rows _ 31 _ (by rfl) w.heap.size 224 rfl (fcells 177 kdDepositData (shF f 224)) _ (hS.out.toBox.sub 224 177 kdDepositData (by intro j hj; simp only [kdDeposit, kdDepositData]; (repeat' split) <;> first | rfl | (exfalso; omega)) (by decide)) Tryd.underlying31 rfl (by rw [row_size rowDepositData, fcells_length])) ?_)
        | ((with_reducible refine (renc_DepositData (shF f 224) (sub_ok hf.out (by intro j hj; simp only [kdDeposit, kdDepositData]; (repeat' split) <;> first | rfl | (exfalso; omega)) (by decide)) _).mono ?_)
           rintro e W ⟨⟨va1, c1, rfl, hn1, ho1⟩, hb1⟩
           have hS1 := (hS.out.later hb1).add (SlB.of_own ho1 (encDepositData_ok (sub_ok hf.out (by intro j hj; simp only [kdDeposit, kdDepositData]; (repeat' split) <;> first | rfl | (exfalso; omega)) (by decide))) hn1) (encDepositData_length _)
           clear hn1 ho1 hb1
           clear hS
           have hS := Lib.hid hS1
           clear hS1)
        | ((with_reducible refine (RefE.lay2 hS.out (k := 2) (S := 408) (L := encLDeposit f) [224, 184] ?hV ?hZ rfl (by decide) (by decide) (by simp [msOf, byL_length, encDepositData_length]) (by decide) (by simp [msOf, encLDeposit]) (encDeposit_length f) (by decide)).mono ?hM)
           case hV => rfl
           case hZ => rfl
           rintro e W ⟨⟨va, c, rfl, hva, hOw⟩, hBf⟩
           have hOw1 := Lib.hid hOw
           have hva1 := Lib.hid hva
           clear hOw hva))
      exact ret_t2 rfl _ _ rfl rfl rfl ⟨⟨va, c, rfl, hva1.out, hOw1.out⟩, hBf⟩
end Go.Proofs.YtihelknkcomjpaaDoor
namespace Go.Proofs.YtihelknkcomjpaaDoor
open Go.RowKit BigFrame
set_option maxRecDepth 100000
section
variable {n N : Nat} {kd : Nat → CK} {f : Nat → Int} {t tc : TypeId} {K : Nat} {rs : List (Nat → Int)} {w W W' : World}
theorem RefR.later3D (h : RefR n N kd f t tc K rs w W) (hb : Below (n + 3) W W') : RefR n N kd f t tc K rs w W' :=
  ⟨h.toBox.later (hb.mono (by omega)), (hb.block _ (by omega)).trans h.hR, h.hC.block (hb.block _ (by omega)), h.is, h.hT.below (by have := h.h3; omega) hb, h.h3⟩
end
theorem must_rsD (rs : List (Nat → Int)) (va : Option Addr) (c q d : Nat) (m : Int) (W : World) (hT : Tabs W) (hn : rs.length = q) (hl : RowR W va rs) (hlow : ∀ b o, va = some ⟨b, o, none⟩ → b < W.heap.size) (hc : q ≤ c) (hm : m = (q : Int)) (hd : Dep q d) (hd40 : d ≤ 40) :
    Calls Tryd.prog 47 #[.slice va q c, .int .i64 m] W fun e w' => e = .returned (.agg (rootV (fullT d (leaf rs)))) ∧ Below W.heap.size W w' := by
  subst hm
  exact must_any rs q q d va c W hn (Nat.le_refl _) hd hd40 hl hlow hc hT
set_option maxHeartbeats 8000000 in
theorem rroot_Deposit (f : Nat → Int) (hf0 : ∀ j, j < 401 → (kdDeposit j).ok (f j)) (w : World) (hT0 : Tabs w) :
    Calls Tryd.prog 12 #[.agg (fcells 401 kdDeposit f).toArray] w fun e w' => e = .returned (.tuple #[.agg (rootV (rootDeposit f)), .int .i64 0]) ∧ Below w.heap.size w w' := by
  have hf := Lib.hid hf0
  have hT := Lib.hid hT0
  clear hf0 hT0
  go_enter Tryd.func12, Tryd.ntmps12
  go_wp2_with (first
    | ((with_reducible refine at_alloc 23 ?_); refine wpList_plain rfl fun K hK => wp_alloc_row 23 rfl 2 rfl zr 32 info_zr (hK _ _ ?_); clear hK K)
    | ((with_reducible refine at_alloc 97 ?_); go_loud (refine wpList_plain rfl fun K hK => wp_alloc_row 97 rfl 5 rfl (rep 64) 64 (by kernel_rfl) (hK _ _ ?_)); clear hK K
       refine gen_l (fun W => RefR w.heap.size 401 kdDeposit f 33 97 2 [] w W) (RefR.begin (heap_new _ _ _ _ rfl) rfl hT.out (by simp) (rep_get _)) ?_
       intro W hS0
       have hS := Lib.hid hS0
       clear hS0))
  go_loopw [6, 7] (fun v i wr => ∃ k : Nat, k ≤ 7 ∧ i = .int .i64 (k : Int) ∧ (∃ va c, v = .slice va k c) ∧ OwnR (w.heap.size + 3) v (proofRs f k) wr ∧ RefR w.heap.size 401 kdDeposit f 33 97 2 [] w wr) (fun _ i _ => 7 - (intOf i).toNat)
  case atStart => exact ⟨0, by omega, rfl, ⟨_, _, rfl⟩, ⟨rfl, Or.inl ⟨rfl, rfl⟩⟩, hS.out⟩
  case round =>
    obtain ⟨k, hk, rfl, ⟨va, c, rfl⟩, hO1, hS1⟩ := hrel
    clear hS
    have hS := Lib.hid hS1
    have hO := Lib.hid hO1
    clear hS1 hO1
    have hsz := hS.out.size
    by_cases hlt : k < 7
    · have lk : (k : Int) < 7 := by omega
      go_wp2_with (first
        | ((with_reducible refine at_alloc 23 ?_); go_loud (refine wpList_plain rfl fun K hK => wp_alloc_row 23 rfl 8 rfl zr 32 info_zr (hK _ _ ?_)); clear hK K
           refine gen_l (fun W => W.heap[wr.heap.size]? = some (.cells zr 23 (0, 0)) ∧ Below wr.heap.size wr W ∧ wr.heap.size < W.heap.size) ⟨heap_new _ _ _ _ rfl, (Below.refl _ _).alloc (Nat.le_refl _) _, by simp⟩ ?_
           rintro W ⟨hP1, hB1, hz1⟩
           have hP := Lib.hid hP1
           have hB := Lib.hid hB1
           have hz := Lib.hid hz1
           clear hP1 hB1 hz1)
        | ((with_reducible refine at_load 23 ?_); refine at_ldaddr 23 w.heap.size (k * 32) rfl ?_; refine wpList_value (by rfl) _ (run_load_rows _ 23 _ (by rfl) w.heap.size (k * 32) rfl (fcells 32 (fun _ => .u8) (shF f (k * 32))) _ ((hS.out.later hB.out).toBox.sub (k * 32) 32 (fun _ => .u8) (kdD (k * 32) 32 (by omega)) (by omega)) Tryd.underlying23 rfl (by rw [row_size row_root, fcells_length])) ?_)
        | ((with_reducible refine at_store 23 ?_); refine at_staddr 23 wr.heap.size 0 rfl ?_; go_loud (refine wpList_store_row_gen (w0 := wr) (n0 := wr.heap.size) 23 _ _ rfl rfl wr.heap.size rfl (rootV (shF f (k * 32))) rfl (fcells_one _ _ _) (by rw [row_size row_root]; simp [fcells]) _ 23 hP.out (by rw [zr_size]; simp [fcells]) (Nat.le_refl _) hB.out (fun W1 hW1 hB1 _ => ?_))
           have hQ := Lib.hid hW1
           clear hP hB hW1
           have hB := Lib.hid hB1
           clear hB1
           obtain ⟨W, hWW⟩ : ∃ W, W = W1 := ⟨_, rfl⟩
           subst hWW)
        | ((with_reducible refine at_load 23 ?_); go_loud (refine wpList_value (by rfl) _ (run_load_rows _ 23 _ (by rfl) wr.heap.size 0 (by rfl) (fcells 32 (fun _ => .u8) (shF f (k * 32))) _ hQ.out Tryd.underlying23 rfl (by rw [row_size row_root, fcells_length])) ?_))
        | ((with_reducible refine at_bslice 88 ?_); go_loud (refine wpList_plain rfl fun K hK => wp_ran _ (run_bslice_root _ _ rfl (shF f (k * 32)) (by rfl)) (hK _ _ ?_)); clear hK K)
        | ((with_reducible refine at_call_builtin .append ?_); go_loud (refine wpList_plain rfl fun K hK => wp_appS (w0 := wr) (n0 := w.heap.size + 3) (.tmp 17) (.tmp 19) 88 23 rfl Tryd.underlying88 (.agg (rep 32)) 32 32 info_root rfl (by decide) (w.heap.size + 3) (proofRs f k).length _ (rcells (proofRs f k)) rfl (own_later (own_later hO.out hB.out) ((Below.refl _ _).alloc (Nat.le_refl _) _)) ⟨W.heap.size, 0, none⟩ 1 1 rfl (fcells 32 (fun _ => .u8) (shF f (k * 32))) (by rw [fcells_length]) (range_whole (heap_new _ _ _ _ rfl)) rfl fcells_mem (by rw [proofRs_length]; omega) (by rw [proofRs_length]; omega) (by have := hB.out.size; rw [World.size_alloc]; omega) (Nat.le_refl _) ((hB.out.mono hsz).alloc (by have := hB.out.size; omega) _) (fun v1 W2 h1 b1 z1 o1 q1 => hK _ _ ?_)); clear hK K
           rw [Nat.mul_comm k 32] at h1
           rw [show rcells (proofRs f k) ++ fcells 32 (fun _ => .u8) (shF f (32 * k)) = rcells (proofRs f (k + 1)) by rw [← proofRs_succ, rcells_append, rcells_one], show (proofRs f k).length + 1 = (proofRs f (k + 1)).length by simp [proofRs_length]] at h1
           obtain ⟨va2, c2, e2, _⟩ := own_form h1
           rw [proofRs_length] at e2
           subst e2
           have hO2 := Lib.hid h1
           have hS2 := Lib.hid (hS.out.later3D b1)
           clear h1 b1 z1 o1 q1))
      first
        | exact ⟨⟨k + 1, by omega, by go_num, ⟨_, _, rfl⟩, hO2.out, hS2.out⟩, by simp [intOf]; omega⟩
        | (refine ⟨?_, by simp [intOf]; omega⟩
           (repeat apply Exists.intro)
           exact ⟨⟨k + 1, by omega, by go_num, ⟨_, _, rfl⟩, hO2.out, hS2.out⟩, rfl⟩)
    · have e : k = 7 := by omega
      subst e
      clear hlt hk
      obtain ⟨g, cap, eg, hg, hR0⟩ := roots_of_own hO.out (by rw [proofRs_length]; decide)
      rw [proofRs_length] at eg hR0
      cases eg
      have hcap := hR0.choose_spec.2.2.1
      have hrk := Lib.hid (hR0.row (proofRs f 7) (by rw [proofRs_length]; exact Nat.le_refl _) (fun _ _ => rfl) (proofRs_is hf.out 7 (by decide)))
      have hgl := Lib.hid hR0.lt
      clear hR0
      go_wp2_with (first
        | ((with_reducible refine (must_rsD (proofRs f 7) _ _ 7 3 (7 : Int) _ hS.out.hT (proofRs_length f 7) hrk.out (fun b o e => by cases e; exact hgl.out) hcap rfl (by unfold Dep; decide) (by decide)).mono ?_)
           rintro e W ⟨rfl, hb1⟩
           have hS1 := hS.out.later hb1
           clear hb1
           clear hS
           have hS := Lib.hid hS1
           clear hS1)
        | ((with_reducible refine at_store 23 ?_); refine at_staddr 23 (w.heap.size + 1 + 1) (32 * 0) rfl ?_; refine wpList_rootT rfl _ _ rfl 0 (proofR f) rfl rfl hS.out rfl (by decide) (proofR_is hf.out) (fun W1 hS1 => ?_)
           obtain ⟨W, hWW⟩ : ∃ W, W = W1 := ⟨_, rfl⟩
           subst hWW
           clear hS
           have hS := Lib.hid hS1
           clear hS1)
        | ((with_reducible refine at_load 31 ?_); refine wpList_value (by rfl) _ (run_load_rows _ 31 _ (by rfl) w.heap.size 224 rfl (fcells 177 kdDepositData (shF f 224)) _ (hS.out.toBox.sub 224 177 kdDepositData (by intro j hj; simp only [kdDeposit, kdDepositData]; (repeat' split) <;> first | rfl | (exfalso; omega)) (by decide)) Tryd.underlying31 rfl (by rw [row_size rowDepositData, fcells_length])) ?_)
        | ((with_reducible refine (rroot_DepositData (shF f 224) (sub_ok hf.out (by intro j hj; simp only [kdDeposit, kdDepositData]; (repeat' split) <;> first | rfl | (exfalso; omega)) (by decide)) _ hS.out.hT).mono ?_)
           rintro e W ⟨rfl, hb1⟩
           have hS1 := hS.out.later hb1
           clear hb1
           clear hS
           have hS := Lib.hid hS1
           clear hS1)
        | ((with_reducible refine at_store 23 ?_); refine at_staddr 23 (w.heap.size + 1 + 1) (32 * 1) rfl ?_; refine wpList_rootT rfl _ _ rfl 1 (rootDepositData (shF f 224)) rfl rfl hS.out rfl (by decide) (rootDepositData_is (sub_ok hf.out (by intro j hj; simp only [kdDeposit, kdDepositData]; (repeat' split) <;> first | rfl | (exfalso; omega)) (by decide))) (fun W1 hS1 => ?_)
           obtain ⟨W, hWW⟩ : ∃ W, W = W1 := ⟨_, rfl⟩
           subst hWW
           clear hS
           have hS := Lib.hid hS1
           clear hS1)
        | ((with_reducible refine (RefR.last hS.out 1 (2 : Int) rfl rfl (by unfold Dep; decide) (by decide)).mono ?_)
           rintro e W ⟨rfl, hBf, hRf⟩
           have hRf1 := Lib.hid hRf
           clear hRf hS)
        | ((with_reducible refine at_store 23 ?_); go_loud (refine wpList_store_row_gen (w0 := w) (n0 := w.heap.size) 23 _ _ rfl rfl (w.heap.size + 1) rfl _ rfl (fcells_one _ _ _) (by rw [row_size row_root]; simp [fcells]) _ 23 hRf1.out (by rw [zr_size]; simp [fcells]) (by omega) hBf (fun W9 hW9 hBW _ => ?_))))
      exact ret_mid_tmp rfl (w.heap.size + 1) 0 (fcells 32 (fun _ => .u8) (rootDeposit f)) _ rfl hW9 Tryd.underlying23 rfl (by rw [row_size row_root, fcells_length]) rfl ⟨rfl, hBW⟩
end Go.Proofs.YtihelknkcomjpaaDoor
