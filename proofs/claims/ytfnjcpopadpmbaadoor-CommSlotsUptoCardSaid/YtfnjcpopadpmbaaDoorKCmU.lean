/- What the law asks first is so. -/
import Derived.Test.YtfnjcpopadpmbaaDoorKCmT
import Derived.Test.YtfnjcpopadpmbaaDoorJCmR
set_option linter.unusedVariables false
set_option linter.unusedSimpArgs false
set_option linter.unnecessarySimpa false
namespace Go.Proofs.YtfnjcpopadpmbaaDoor
open Go.RowKit BigFrame
set_option maxRecDepth 100000
theorem act_all (a : Nat → Bool) (k : Nat) (h : ∀ i, i < k → a i = true) : (activesL a k).length = k := by
  induction k with
  | zero => rfl
  | succ k ih =>
    unfold activesL
    rw [if_pos (h k (by omega)), List.length_append, ih (fun i hi => h i (by omega))]
    rfl
theorem act_few (n : Nat) : (actL (List.replicate n v0) (0 : Int)).length = n := by
  unfold actL
  rw [List.length_replicate]
  refine act_all _ _ fun i hi => ?_
  have e : (List.replicate n v0).getD i nil0 = v0 := by simp [List.getD, hi]
  rw [e]
  unfold actB v0
  rw [if_neg (by decide), if_neg (by decide), if_neg (by decide), if_neg (by decide), if_pos rfl]
  decide
theorem few_of (W : World) (xs : Array Value) (hv : VsRep W xs (List.replicate 16 v0) (fun _ => 0)) (hT : TabC W) :
    Calls Tryd.prog 9 #[.agg xs, .int .u64 2, .int .u64 1] W fun r w' => ∃ va c, r = .returned (.tuple #[.slice va 2 c, .int .i64 0]) ∧ Below W.heap.size W w' := by
  have h := of_good xs (List.replicate 16 v0) (fun _ => 0) 2 1 16 (by omega) W hv (by rw [List.length_replicate]; omega) hT (act_few 16) (by decide)
  refine Calls.mono (show Calls Tryd.prog 9 #[.agg xs, .int .u64 2, .int .u64 1] W _ from h) ?_
  rintro r w' ⟨v, rfl, hO, hb⟩
  obtain ⟨va, c, ev, _⟩ := own_form hO
  have e : (segL (shufL (seedS (fun _ => 0) 1 ((2 / 4 : Nat) : Int)) (actL (List.replicate 16 v0) ((2 / 4 : Nat) : Int))) 16 (4 * cntN 16) (2 % 4 * cntN 16 + 1)).length = 2 :=
    (segL_length (by rw [shufL_length]; exact act_few 16) (by decide) (by decide)).trans (by decide)
  rw [e] at ev
  exact ⟨va, c, by rw [ev], hb⟩
theorem few_ob (W : World) (xs : Array Value) (hv : VsRep W xs (List.replicate 16 v0) (fun _ => 0)) (hT : TabC W) :
    Calls Tryd.prog 9 #[.agg xs, .int .u64 2, .int .u64 2] W fun r w' => r = .returned (.tuple #[.slice none 0 0, .int .i64 1]) ∧ Below W.heap.size W w' :=
  of_bad xs (List.replicate 16 v0) (fun _ => 0) 2 2 16 (by omega) W hv (by rw [List.length_replicate]; omega) hT (act_few 16) (by decide)
theorem few_co (W : World) (xs : Array Value) (hv : VsRep W xs (List.replicate 3 v0) (fun _ => 0)) :
    Calls Tryd.prog 8 #[.agg xs, .int .u64 0] W fun r w' => r = .returned (.int .u64 1) ∧ Below W.heap.size W w' := by
  have h := Count_any xs (List.replicate 3 v0) (fun _ => 0) 0 W hv (by rw [List.length_replicate]; omega)
  rw [act_few 3] at h
  exact h
theorem few_16 (w : World) : Calls Tryd.prog 16 #[.int .i64 16] w fun e w' => ∃ xs, e = .returned (.agg xs) ∧ VsRep w' xs (List.replicate 16 v0) (fun _ => 0) ∧ Below w.heap.size w w' := few_any 16 (by omega) w
theorem few_3 (w : World) : Calls Tryd.prog 16 #[.int .i64 3] w fun e w' => ∃ xs, e = .returned (.agg xs) ∧ VsRep w' xs (List.replicate 3 v0) (fun _ => 0) ∧ Below w.heap.size w w' := few_any 3 (by omega) w
set_option maxHeartbeats 4000000 in
theorem awake_ok : AwakeOk := by
  intro w hT0
  have hT := Lib.hid (fun (W : World) (hb : Below w.heap.size w W) => hT0.below hT0.size hb)
  clear hT0
  go_enter Tryd.func6, Tryd.ntmps6
  go_wp2_with (first
    | ((with_reducible refine (few_16 w).mono ?_)
       rintro e W1 ⟨xs, rfl, hv, b1⟩
       have g1 := Lib.hid hv
       have B1 := Lib.hid b1
       have Z1 := Lib.hid b1.size
       clear hv b1)
    | ((with_reducible refine (few_of W1 xs g1.out (hT.out _ B1.out)).mono ?_)
       rintro e W2 ⟨va, c, rfl, b2⟩
       have B2 := Lib.hid (B1.out.trans (b2.mono Z1.out))
       have Z2 := Lib.hid (Nat.le_trans Z1.out b2.size)
       clear b2)
    | ((with_reducible refine (few_16 W2).mono ?_)
       rintro e W3 ⟨ys, rfl, hv, b3⟩
       have g3 := Lib.hid hv
       have B3 := Lib.hid (B2.out.trans (b3.mono Z2.out))
       have Z3 := Lib.hid (Nat.le_trans Z2.out b3.size)
       clear hv b3)
    | ((with_reducible refine (few_ob W3 ys g3.out (hT.out _ B3.out)).mono ?_)
       rintro e W4 ⟨rfl, b4⟩
       have B4 := Lib.hid (B3.out.trans (b4.mono Z3.out))
       have Z4 := Lib.hid (Nat.le_trans Z3.out b4.size)
       clear b4)
    | ((with_reducible refine (few_3 W4).mono ?_)
       rintro e W5 ⟨zs, rfl, hv, b5⟩
       have g5 := Lib.hid hv
       have B5 := Lib.hid (B4.out.trans (b5.mono Z4.out))
       have Z5 := Lib.hid (Nat.le_trans Z4.out b5.size)
       clear hv b5)
    | ((with_reducible refine (few_co W5 zs g5.out).mono ?_)
       rintro e W6 ⟨rfl, b6⟩
       have B6 := Lib.hid (B5.out.trans (b6.mono Z5.out))
       clear b6))
  exact ret_t1 rfl _ rfl rfl ⟨rfl, B6.out⟩
end Go.Proofs.YtfnjcpopadpmbaaDoor
