import Derived.Test.YtmoofccblbaepaaDoorKScB
set_option linter.unusedVariables false
set_option linter.unusedSimpArgs false
set_option linter.unnecessarySimpa false
/- The committee: its bytes, by the reference. -/
namespace Go.Proofs.YtmoofccblbaepaaDoor
open Go.RowKit BigFrame
set_option maxRecDepth 100000
theorem encC_two (f : Nat → Int) : byL f 0 384 ++ byL f 384 48 = encLCommittee f := byL_app f 0 384 384 48 rfl rfl
set_option maxHeartbeats 8000000 in
theorem renc_Committee (f : Nat → Int) (hf0 : ∀ j, j < 432 → (kdCommittee j).ok (f j)) (w : World) :
    Calls Tryd.prog 54 #[.agg (fcells 432 kdCommittee f).toArray] w fun e w' => (∃ va c, e = .returned (.tuple #[.slice va 432 c, .int .i64 0]) ∧ (va = none → c = 0) ∧ OwnB w.heap.size (.slice va 432 c) (encLCommittee f) w') ∧ Below w.heap.size w w' := by
  have hf := Lib.hid hf0
  clear hf0
  go_enter Tryd.func54, Tryd.ntmps54
  go_wp2_with (first
    | ((with_reducible refine at_box 92 ?_); go_loud (refine wpList_box rfl 92 _ rfl _ rfl ?_)
       refine gen_l (fun W => RefE w.heap.size 432 kdCommittee f 92 [] w W) (RefE.begin (heap_new _ _ _ _ rfl) rfl) ?_
       intro W hS0
       have hS := Lib.hid hS0
       clear hS0))
  go_loopw [5, 7] (fun v i wr => ∃ k : Nat, k ≤ 8 ∧ i = .int .i64 (k : Int) ∧ (∃ va c, v = .slice va (48 * k) c) ∧ OwnB (w.heap.size + 1) v (byL f 0 (48 * k)) wr ∧ RefE w.heap.size 432 kdCommittee f 92 [] w wr) (fun _ i _ => 8 - (intOf i).toNat)
  case atStart => exact ⟨0, by omega, rfl, ⟨_, _, rfl⟩, OwnB.nil _ _, hS.out⟩
  case round =>
    obtain ⟨k, hk, rfl, ⟨va, c, rfl⟩, hO1, hS1⟩ := hrel
    clear hS
    have hS := Lib.hid hS1
    have hO := Lib.hid hO1
    clear hS1 hO1
    by_cases hlt : k < 8
    · have lk : (k : Int) < 8 := by omega
      have hn := block_lt hS.out.hX
      go_wp2_with (first
        | ((with_reducible refine at_bslice 25 ?_); go_loud (refine wpList_plain rfl fun K hK => wp_build0 rfl (hK _ _ ?_)); clear hK K)
        | ((with_reducible refine at_app 25 ?_); refine wpList_app (w0 := wr) rfl _ _ rfl wr.heap.size [] (byL f (k * 48) 48) _ rfl (OwnB.new (Nat.le_refl _) [] (by decide) (heap_new _ _ _ _ rfl)) (some ⟨w.heap.size, k * 48, none⟩) 48 rfl ((hS.out.toBox.row (k * 48) 48 (kdC _ 48) (by omega) hf.out).later ((Below.refl _ _).alloc (Nat.le_refl _) _)) (by simp [byL_length]) (by simp) (fun h => by cases h) ((Below.refl _ _).alloc (Nat.le_refl _) _) (fun v1 W1 h1 b1 z1 => ?_)
           rw [List.nil_append] at h1
           obtain ⟨va1, c1, e1, hv1⟩ := own_form h1
           rw [byL_length] at e1
           subst e1
           have hOa := Lib.hid h1
           have hb1 := Lib.hid b1
           have hn1 := Lib.hid hv1
           clear h1 b1 hv1)
        | ((with_reducible refine at_app 25 ?_); go_loud (refine wpList_app (w0 := wr) rfl _ _ rfl (w.heap.size + 1) (byL f 0 (48 * k)) (byL f (k * 48) 48) _ rfl (hO.out.later hb1.out) va1 c1 rfl (SlB.of_own hOa.out (byL_ok (ok_u8 hf.out (kdC _ 48) (by omega))) hn1.out).row (by simp only [byL_length]; omega) (by have := hb1.out.size; omega) hn1.out (hb1.out.mono (by omega)) (fun v2 W2 h2 b2 z2 => ?_))
           rw [Nat.mul_comm k 48, byL_app f 0 (48 * k) (48 * k) 48 (by omega) (by omega)] at h2
           obtain ⟨va2, c2, e2, _⟩ := own_form h2
           rw [byL_length] at e2
           subst e2
           have hO2 := Lib.hid h2
           have hS2 := Lib.hid (show RefE w.heap.size 432 kdCommittee f 92 [] w W2 from ⟨hS.out.toBox.later b2, fun p hp => by simp at hp⟩)
           clear h2 b2))
      first
        | exact ⟨⟨k + 1, by omega, by go_num, ⟨_, _, rfl⟩, hO2.out, hS2.out⟩, by simp [intOf]; omega⟩
        | (refine ⟨?_, by simp [intOf]; omega⟩
           (repeat apply Exists.intro)
           exact ⟨⟨k + 1, by omega, by go_num, ⟨_, _, rfl⟩, hO2.out, hS2.out⟩, rfl⟩)
    · have e : k = 8 := by omega
      subst e
      clear hlt hk
      obtain ⟨vb, cb, eb, hbn⟩ := own_form hO.out
      rw [byL_length] at eb
      cases eb
      have hS3 := Lib.hid (hS.out.add (SlB.of_own hO.out (byL_ok (ok_u8 hf.out (kdC 0 (48 * 8)) (by decide))) hbn) (byL_length f 0 (48 * 8)))
      clear hS
      have hS := Lib.hid hS3.out
      clear hS3 hbn
      go_wp2_with (first
        | ((with_reducible refine at_bslice 25 ?_); go_loud (refine wpList_plain rfl fun K hK => wp_build0 rfl (hK _ _ ?_)); clear hK K)
        | ((with_reducible refine at_app 25 ?_); refine wpList_app (w0 := wr) rfl _ _ rfl wr.heap.size [] (byL f 384 48) _ rfl (OwnB.new (Nat.le_refl _) [] (by decide) (heap_new _ _ _ _ rfl)) (some ⟨w.heap.size, 384, none⟩) 48 rfl ((hS.out.toBox.row 384 48 (kdC _ 48) (by decide) hf.out).later ((Below.refl _ _).alloc (Nat.le_refl _) _)) (by simp [byL_length]) (by simp) (fun h => by cases h) ((Below.refl _ _).alloc (Nat.le_refl _) _) (fun v1 W1 h1 b1 z1 => ?_)
           obtain ⟨va1, c1, e1, hS1⟩ := hS.out.own h1 b1 (byL_ok (ok_u8 hf.out (kdC 384 48) (by decide))) (byL_length f 384 48)
           subst e1
           clear h1 b1 z1
           obtain ⟨W, hWW⟩ : ∃ W, W = W1 := ⟨_, rfl⟩
           subst hWW
           clear hS
           have hS := Lib.hid hS1
           clear hS1)
        | ((with_reducible refine (RefE.lay2 hS.out (k := 2) (S := 432) (L := encLCommittee f) [384, 48] ?hV ?hZ rfl (by decide) (by decide) (by simp [msOf, byL_length]) (by decide) (by simp [msOf, encC_two]) (encCommittee_length f) (by decide)).mono ?hM)
           case hV => rfl
           case hZ => rfl
           rintro e W ⟨⟨va, c, rfl, hva, hOw⟩, hBf⟩
           have hOw1 := Lib.hid hOw
           have hva1 := Lib.hid hva
           clear hOw hva))
      exact ret_t2 rfl _ _ rfl rfl rfl ⟨⟨va, c, rfl, hva1.out, hOw1.out⟩, hBf⟩
end Go.Proofs.YtmoofccblbaepaaDoor
