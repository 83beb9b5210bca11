/- The law's states with few validators: few. -/
import Derived.Test.YtfnjcpopadpmbaaDoorKCmS
set_option linter.unusedVariables false
set_option linter.unusedSimpArgs false
set_option linter.unnecessarySimpa false
namespace Go.Proofs.YtfnjcpopadpmbaaDoor
open Go.RowKit BigFrame
set_option maxRecDepth 100000
/-- Where the loop of few stands. -/
def FewI (n0 : Nat) (w : World) (k : Nat) (W : World) : Prop := ∃ (a b c d e : Value) (x1 x2 x3 x4 : List Value), FewW n0 w (fsC a b c d e) (fiveL a b c d e k k k k k (valsL k) x1 x2 x3 x4) W
theorem valsL_succ (k : Nat) : valsL k ++ fcells 86 valK v0 = valsL (k + 1) := rfl
theorem zst_size : Tryd.zeroCells49.size = 1957 := by rw [← Array.length_toList, zst_list]; simp
theorem v0_ok (j : Nat) : (valK j).ok (v0 j) := by
  unfold v0
  split
  · rename_i h; subst h; exact ⟨by decide, by decide⟩
  split
  · rename_i h; subst h; exact ⟨by decide, by decide⟩
  split
  · rename_i h; subst h; exact ⟨by decide, by decide⟩
  cases valK j
  · exact ⟨by decide, by decide⟩
  · exact ⟨by decide, by decide⟩
  · exact Or.inl rfl
theorem zC_one (k : Nat) : (zC k).oneCell' = true := by
  unfold zC
  split
  · rename_i c _
    cases c <;> rfl
  · rfl
theorem fsF_one {n0 : Nat} {w : World} {C : Array Value} {a b c d e : Value} {n1 n2 n3 n4 n5 : Nat} {x0 x1 x2 x3 x4 : List Value} {W : World} (h : FewW n0 w C (fiveL a b c d e n1 n2 n3 n4 n5 x0 x1 x2 x3 x4) W) (k : Nat) : (fsF a b c d e k).oneCell' = true := by
  have f (i : Nat) (x : Ow) (hx : (fiveL a b c d e n1 n2 n3 n4 n5 x0 x1 x2 x3 x4)[i]? = some x) : x.v.oneCell' = true := by
    obtain ⟨va, cc, e, _⟩ := own_form (h.own.own i x hx)
    rw [e]
    rfl
  unfold fsF
  split
  · exact f 0 _ rfl
  split
  · exact f 1 _ rfl
  split
  · exact f 2 _ rfl
  split
  · exact f 3 _ rfl
  split
  · exact f 4 _ rfl
  exact zC_one k
theorem fsC_all {n0 : Nat} {w : World} {C : Array Value} {a b c d e : Value} {n1 n2 n3 n4 n5 : Nat} {x0 x1 x2 x3 x4 : List Value} {W : World} (h : FewW n0 w C (fiveL a b c d e n1 n2 n3 n4 n5 x0 x1 x2 x3 x4) W) : (fsC a b c d e).all (·.oneCell') = true := by
  rw [Array.all_eq_true_iff_forall_mem]
  intro v hv
  obtain ⟨k, _, rfl⟩ := List.mem_map.1 (List.mem_toArray.1 hv)
  exact fsF_one h k
theorem few_vs {n0 : Nat} {w : World} {a b c d e : Value} {k : Nat} {x1 x2 x3 x4 : List Value} {W : World} (h : FewW n0 w (fsC a b c d e) (fiveL a b c d e k k k k k (valsL k) x1 x2 x3 x4) W) : ∀ W', Apart n0 W W' → VsRep W' (fsC a b c d e) (List.replicate k v0) (fun _ => 0) := by
  intro W' hA
  have ho := own_apart (h.own.own 0 _ rfl) hA (by omega)
  obtain ⟨va, cc, ev, _⟩ := own_form ho
  simp only at ev ho
  subst ev
  have hrow := own_rowV ho
  have hk : k ≤ 9223372036854775807 := by
    rcases ho.2 with ⟨_, q⟩ | ⟨g, cap, cur, q1, _, _, q2, q3, _⟩
    · omega
    · unfold maxLen at q3; omega
  refine ⟨fsC_size _ _ _ _ _, fun v hv => ?_, ⟨va, cc, ?_, ⟨fun i hi => ?_, fun f hf j _ => ?_⟩, by rw [List.length_replicate]; exact hk⟩, fun j hj => ⟨?_, ⟨by decide, by decide⟩⟩⟩
  · obtain ⟨j, _, rfl⟩ := List.mem_map.1 (List.mem_toArray.1 hv)
    exact fsF_one h j
  · rw [fsC_get _ _ _ _ _ _ (by omega), List.length_replicate]; rfl
  · rw [List.length_replicate] at hi
    obtain ⟨b1, o1, e1, _⟩ := hrow (i * 86 + 0) _ (valsL_get k i 0 hi (by omega))
    subst e1
    refine ⟨b1, o1, rfl, fun j hj => ?_⟩
    obtain ⟨b2, o2, e2, hc⟩ := hrow (i * 86 + j) _ (valsL_get k i j hi hj)
    cases e2
    rw [Nat.add_assoc, hc]
    simp [List.getD, hi]
  · rw [List.eq_of_mem_replicate hf]
    exact v0_ok j
  · rw [fsC_get _ _ _ _ _ _ (by omega)]
    unfold fsF
    rw [if_neg (by omega), if_neg (by omega), if_neg (by omega), if_neg (by omega), if_neg (by omega)]
    unfold zC
    have e : stK (723 + j) = some .u8 := by
      unfold stK
      rw [if_neg (by omega), if_neg (by omega), if_neg (by omega)]
    rw [e]
    rfl
set_option maxHeartbeats 16000000 in
theorem few_any (n : Nat) (hn : n ≤ 100) (w : World) :
    Calls Tryd.prog 16 #[.int .i64 (n : Int)] w fun e w' => ∃ xs, e = .returned (.agg xs) ∧ VsRep w' xs (List.replicate n v0) (fun _ => 0) ∧ Below w.heap.size w w' := by
  obtain ⟨n0, hn0⟩ : ∃ n0, n0 = w.heap.size := ⟨_, rfl⟩
  have hn0' := Lib.hid hn0
  clear hn0
  have hnI : (n : Int) ≤ 100 := by omega
  go_enter Tryd.func16, Tryd.ntmps16
  go_wp2
  refine gen_world (FewI n0 w 0) ⟨.slice none 0 0, .slice none 0 0, .slice none 0 0, .slice none 0 0, .slice none 0 0, [], [], [], [], ?_, ?_, ?_, ?_, ?_⟩ ?_
  · rw [hn0'.out]; exact ((Below.refl _ _).alloc (Nat.le_refl _) _).alloc (by rw [World.size_alloc]; exact Nat.le_succ _) _
  · rw [hn0'.out]; simp
  · exact heap_past _ _ _ _ (heap_new _ _ _ _ hn0'.out)
  · rw [← fsC_zero]; exact heap_new _ _ _ _ (by rw [World.size_alloc, hn0'.out])
  · exact five_nil _ _
  intro W0 h0
  have e0 : w.heap.size = n0 := hn0'.out.symm
  rw [e0]
  clear e0
  go_loopw [4] (fun i wr => ∃ k : Nat, k ≤ n ∧ i = .int .i64 (k : Int) ∧ FewI n0 w k wr) (fun i _ => n - (intOf i).toNat)
  case atStart => exact ⟨0, by omega, rfl, h0⟩
  case round =>
    obtain ⟨k, hk, rfl, a, b, c, d, e, x1, x2, x3, x4, hF⟩ := hrel
    have g0 := Lib.hid hF
    clear hF h0
    by_cases hlt : k < n
    · have lk : (k : Int) < (n : Int) := by omega
      have wk : IntKind.i64.wrap ((k : Int) + 1) = ((k + 1 : Nat) : Int) := by rw [IntKind.wrap_i64]; omega
      have c0 := Lib.hid (show wr.cell? ⟨n0 + 1, 721, none⟩ = some a from g0.out.cell 721 (by decide))
      go_wp2_with (first
        | ((with_reducible refine at_load 36 ?_); refine wpList_value (by rfl) _ (run_load_cell _ 36 (.tmp 10) rfl ⟨n0 + 1, 721, none⟩ rfl a c0.out _ Tryd.underlying36 rfl) ?_)
        | ((with_reducible refine at_build 59 ?_); go_loud (refine wpList_value (by rfl) (.agg (fcells 86 valK v0).toArray) (run_build3 59 2 6 7 _ _ _ rfl (.int .u64 32000000000) (.int .u64 18446744073709551615) (.int .u64 18446744073709551615) _ rfl rfl rfl (build_val _)) ?_))
        | ((with_reducible refine at_bslice 36 ?_)
           refine wpList_plain rfl fun K hK => wp_ran _ (run_buildSlice _ 36 59 1 _ rfl Tryd.underlying36 (.agg (zeroOf Tryd.prog 59)) 86 info_val2 (by decide) (by decide) [(.agg (fcells 86 valK v0).toArray)] rfl (by rfl) (fun v hv => by rw [List.mem_singleton.1 hv]; simp [Value.cells, fcells])) (hK _ _ ?_)
           clear hK K
           obtain ⟨q0, hq0⟩ : ∃ q, q = wr.heap.size := ⟨_, rfl⟩
           go_loud (rw [← hq0])
           refine gen_l (fun W => FewW n0 w (fsC a b c d e) (fiveL a b c d e k k k k k (valsL k) x1 x2 x3 x4) W ∧ W.rangeAt q0 0 (fcells 86 valK v0)) ⟨g0.out.later ((Below.refl _ _).alloc (Nat.le_refl _) _), range_whole (by rw [one_flat]; exact heap_new _ _ _ _ hq0)⟩ ?_
           clear hq0
           rintro V0 ⟨h1, h2⟩
           have p0 := Lib.hid h1
           have r0 := Lib.hid h2
           clear h1 h2)
        | ((with_reducible refine at_appC 36 ?_)
           refine wpList_plain rfl fun K hK => wp_appL (n0 := n0) (w0 := w) (.tmp 11) (.tmp 13) 36 59 rfl Tryd.underlying36 (.agg (zeroOf Tryd.prog 59)) 86 128 info_val val_zs (by decide) (n0 + 2) (fiveL a b c d e k k k k k (valsL k) x1 x2 x3 x4) 0 k a (valsL k) rfl rfl p0.out.own (some ⟨q0, 0, none⟩) 1 1 rfl (fun h => by cases h) (fcells 86 valK v0) (by rw [fcells_length]) (RowV.range r0.out) fcells_mem0 (by omega) (by omega) p0.out.size (by omega) p0.out.below (fun vz cz W h1 h2 h3 h4 h5 h6 => hK _ _ ?_)
           clear hK K
           obtain ⟨s0, hs0⟩ : ∃ v : Value, v = .slice vz (k + 1) cz := ⟨_, rfl⟩
           rw [← hs0] at h2 ⊢
           have hsv0 : simpleV s0 = true := by rw [hs0]; rfl
           have e0 := Lib.hid (p0.out.app 0 _ rfl (show OwL (n0 + 2) (fiveL s0 b c d e (k + 1) k k k k (valsL k ++ fcells 86 valK v0) x1 x2 x3 x4) W from h2) h3 h5 h6)
           clear h1 h2 h3 h4 h5 h6 hs0)
        | ((with_reducible refine at_store 36 ?_)
           refine wpList_plain rfl fun K hK => wp_store1 36 (.tmp 15) (.tmp 14) rfl (n0 + 1) 721 rfl s0 rfl hsv0 (by kernel_rfl) _ _ e0.out.hX (by rw [fsC_size]; decide) (fun W0 hC hA => hK _ _ ?_)
           clear hK K
           rw [fsC_set0] at hC
           have g1 := Lib.hid (e0.out.store hA hC)
           have c1 := Lib.hid (show W0.cell? ⟨n0 + 1, 722, none⟩ = some b from g1.out.cell 722 (by decide))
           clear hC hA)
        | ((with_reducible refine at_load 37 ?_); refine wpList_value (by rfl) _ (run_load_cell _ 37 (.tmp 16) rfl ⟨n0 + 1, 722, none⟩ rfl b c1.out _ Tryd.underlying37 rfl) ?_)
        | ((with_reducible refine at_bslice 37 ?_)
           refine wpList_plain rfl fun K hK => wp_ran _ (run_buildSlice _ 37 22 1 _ rfl Tryd.underlying37 (.int .u64 0) 1 info_u64z (by decide) (by decide) [(.int .u64 32000000000)] rfl (by rfl) (fun v hv => by rw [List.mem_singleton.1 hv]; rfl)) (hK _ _ ?_)
           clear hK K
           obtain ⟨q1, hq1⟩ : ∃ q, q = W0.heap.size := ⟨_, rfl⟩
           go_loud (rw [← hq1])
           refine gen_l (fun W => FewW n0 w (fsC s0 b c d e) (fiveL s0 b c d e (k + 1) k k k k (valsL k ++ fcells 86 valK v0) x1 x2 x3 x4) W ∧ W.rangeAt q1 0 [(.int .u64 32000000000)]) ⟨g1.out.later ((Below.refl _ _).alloc (Nat.le_refl _) _), range_whole (heap_new _ _ _ _ hq1)⟩ ?_
           clear hq1
           rintro V1 ⟨h1, h2⟩
           have p1 := Lib.hid h1
           have r1 := Lib.hid h2
           clear h1 h2)
        | ((with_reducible refine at_appC 37 ?_)
           refine wpList_plain rfl fun K hK => wp_appL (n0 := n0) (w0 := w) (.tmp 17) (.tmp 18) 37 22 rfl Tryd.underlying37 (.int .u64 0) 1 8 info_u64 rfl (by decide) (n0 + 2) (fiveL s0 b c d e (k + 1) k k k k (valsL k ++ fcells 86 valK v0) x1 x2 x3 x4) 1 k b x1 rfl rfl p1.out.own (some ⟨q1, 0, none⟩) 1 1 rfl (fun h => by cases h) [(.int .u64 32000000000)] rfl (RowV.range r1.out) (fun u hu => by rw [List.mem_singleton.1 hu]; rfl) (by omega) (by omega) p1.out.size (by omega) p1.out.below (fun vz cz W h1 h2 h3 h4 h5 h6 => hK _ _ ?_)
           clear hK K
           obtain ⟨s1, hs1⟩ : ∃ v : Value, v = .slice vz (k + 1) cz := ⟨_, rfl⟩
           rw [← hs1] at h2 ⊢
           have hsv1 : simpleV s1 = true := by rw [hs1]; rfl
           have e1 := Lib.hid (p1.out.app 1 _ rfl (show OwL (n0 + 2) (fiveL s0 s1 c d e (k + 1) (k + 1) k k k (valsL k ++ fcells 86 valK v0) (x1 ++ [(.int .u64 32000000000)]) x2 x3 x4) W from h2) h3 h5 h6)
           clear h1 h2 h3 h4 h5 h6 hs1)
        | ((with_reducible refine at_store 37 ?_)
           refine wpList_plain rfl fun K hK => wp_store1 37 (.tmp 20) (.tmp 19) rfl (n0 + 1) 722 rfl s1 rfl hsv1 (by kernel_rfl) _ _ e1.out.hX (by rw [fsC_size]; decide) (fun W1 hC hA => hK _ _ ?_)
           clear hK K
           rw [fsC_set1] at hC
           have g2 := Lib.hid (e1.out.store hA hC)
           have c2 := Lib.hid (show W1.cell? ⟨n0 + 1, 987, none⟩ = some c from g2.out.cell 987 (by decide))
           clear hC hA)
        | ((with_reducible refine at_load 39 ?_); refine wpList_value (by rfl) _ (run_load_cell _ 39 (.tmp 21) rfl ⟨n0 + 1, 987, none⟩ rfl c c2.out _ Tryd.underlying39 rfl) ?_)
        | ((with_reducible refine at_bslice 39 ?_)
           refine wpList_plain rfl fun K hK => wp_ran _ (run_buildSlice _ 39 5 1 _ rfl Tryd.underlying39 (.int .u8 0) 1 info_byte2 (by decide) (by decide) [(.int .u8 0)] rfl (by rfl) (fun v hv => by rw [List.mem_singleton.1 hv]; rfl)) (hK _ _ ?_)
           clear hK K
           obtain ⟨q2, hq2⟩ : ∃ q, q = W1.heap.size := ⟨_, rfl⟩
           go_loud (rw [← hq2])
           refine gen_l (fun W => FewW n0 w (fsC s0 s1 c d e) (fiveL s0 s1 c d e (k + 1) (k + 1) k k k (valsL k ++ fcells 86 valK v0) (x1 ++ [(.int .u64 32000000000)]) x2 x3 x4) W ∧ W.rangeAt q2 0 [(.int .u8 0)]) ⟨g2.out.later ((Below.refl _ _).alloc (Nat.le_refl _) _), range_whole (heap_new _ _ _ _ hq2)⟩ ?_
           clear hq2
           rintro V2 ⟨h1, h2⟩
           have p2 := Lib.hid h1
           have r2 := Lib.hid h2
           clear h1 h2)
        | ((with_reducible refine at_appC 39 ?_)
           refine wpList_plain rfl fun K hK => wp_appL (n0 := n0) (w0 := w) (.tmp 22) (.tmp 23) 39 5 rfl Tryd.underlying39 (.int .u8 0) 1 1 info_b rfl (by decide) (n0 + 2) (fiveL s0 s1 c d e (k + 1) (k + 1) k k k (valsL k ++ fcells 86 valK v0) (x1 ++ [(.int .u64 32000000000)]) x2 x3 x4) 2 k c x2 rfl rfl p2.out.own (some ⟨q2, 0, none⟩) 1 1 rfl (fun h => by cases h) [(.int .u8 0)] rfl (RowV.range r2.out) (fun u hu => by rw [List.mem_singleton.1 hu]; rfl) (by omega) (by omega) p2.out.size (by omega) p2.out.below (fun vz cz W h1 h2 h3 h4 h5 h6 => hK _ _ ?_)
           clear hK K
           obtain ⟨s2, hs2⟩ : ∃ v : Value, v = .slice vz (k + 1) cz := ⟨_, rfl⟩
           rw [← hs2] at h2 ⊢
           have hsv2 : simpleV s2 = true := by rw [hs2]; rfl
           have e2 := Lib.hid (p2.out.app 2 _ rfl (show OwL (n0 + 2) (fiveL s0 s1 s2 d e (k + 1) (k + 1) (k + 1) k k (valsL k ++ fcells 86 valK v0) (x1 ++ [(.int .u64 32000000000)]) (x2 ++ [(.int .u8 0)]) x3 x4) W from h2) h3 h5 h6)
           clear h1 h2 h3 h4 h5 h6 hs2)
        | ((with_reducible refine at_store 39 ?_)
           refine wpList_plain rfl fun K hK => wp_store1 39 (.tmp 25) (.tmp 24) rfl (n0 + 1) 987 rfl s2 rfl hsv2 (by kernel_rfl) _ _ e2.out.hX (by rw [fsC_size]; decide) (fun W2 hC hA => hK _ _ ?_)
           clear hK K
           rw [fsC_set2] at hC
           have g3 := Lib.hid (e2.out.store hA hC)
           have c3 := Lib.hid (show W2.cell? ⟨n0 + 1, 988, none⟩ = some d from g3.out.cell 988 (by decide))
           clear hC hA)
        | ((with_reducible refine at_load 39 ?_); refine wpList_value (by rfl) _ (run_load_cell _ 39 (.tmp 26) rfl ⟨n0 + 1, 988, none⟩ rfl d c3.out _ Tryd.underlying39 rfl) ?_)
        | ((with_reducible refine at_bslice 39 ?_)
           refine wpList_plain rfl fun K hK => wp_ran _ (run_buildSlice _ 39 5 1 _ rfl Tryd.underlying39 (.int .u8 0) 1 info_byte2 (by decide) (by decide) [(.int .u8 0)] rfl (by rfl) (fun v hv => by rw [List.mem_singleton.1 hv]; rfl)) (hK _ _ ?_)
           clear hK K
           obtain ⟨q3, hq3⟩ : ∃ q, q = W2.heap.size := ⟨_, rfl⟩
           go_loud (rw [← hq3])
           refine gen_l (fun W => FewW n0 w (fsC s0 s1 s2 d e) (fiveL s0 s1 s2 d e (k + 1) (k + 1) (k + 1) k k (valsL k ++ fcells 86 valK v0) (x1 ++ [(.int .u64 32000000000)]) (x2 ++ [(.int .u8 0)]) x3 x4) W ∧ W.rangeAt q3 0 [(.int .u8 0)]) ⟨g3.out.later ((Below.refl _ _).alloc (Nat.le_refl _) _), range_whole (heap_new _ _ _ _ hq3)⟩ ?_
           clear hq3
           rintro V3 ⟨h1, h2⟩
           have p3 := Lib.hid h1
           have r3 := Lib.hid h2
           clear h1 h2)
        | ((with_reducible refine at_appC 39 ?_)
           refine wpList_plain rfl fun K hK => wp_appL (n0 := n0) (w0 := w) (.tmp 27) (.tmp 28) 39 5 rfl Tryd.underlying39 (.int .u8 0) 1 1 info_b rfl (by decide) (n0 + 2) (fiveL s0 s1 s2 d e (k + 1) (k + 1) (k + 1) k k (valsL k ++ fcells 86 valK v0) (x1 ++ [(.int .u64 32000000000)]) (x2 ++ [(.int .u8 0)]) x3 x4) 3 k d x3 rfl rfl p3.out.own (some ⟨q3, 0, none⟩) 1 1 rfl (fun h => by cases h) [(.int .u8 0)] rfl (RowV.range r3.out) (fun u hu => by rw [List.mem_singleton.1 hu]; rfl) (by omega) (by omega) p3.out.size (by omega) p3.out.below (fun vz cz W h1 h2 h3 h4 h5 h6 => hK _ _ ?_)
           clear hK K
           obtain ⟨s3, hs3⟩ : ∃ v : Value, v = .slice vz (k + 1) cz := ⟨_, rfl⟩
           rw [← hs3] at h2 ⊢
           have hsv3 : simpleV s3 = true := by rw [hs3]; rfl
           have e3 := Lib.hid (p3.out.app 3 _ rfl (show OwL (n0 + 2) (fiveL s0 s1 s2 s3 e (k + 1) (k + 1) (k + 1) (k + 1) k (valsL k ++ fcells 86 valK v0) (x1 ++ [(.int .u64 32000000000)]) (x2 ++ [(.int .u8 0)]) (x3 ++ [(.int .u8 0)]) x4) W from h2) h3 h5 h6)
           clear h1 h2 h3 h4 h5 h6 hs3)
        | ((with_reducible refine at_store 39 ?_)
           refine wpList_plain rfl fun K hK => wp_store1 39 (.tmp 30) (.tmp 29) rfl (n0 + 1) 988 rfl s3 rfl hsv3 (by kernel_rfl) _ _ e3.out.hX (by rw [fsC_size]; decide) (fun W3 hC hA => hK _ _ ?_)
           clear hK K
           rw [fsC_set3] at hC
           have g4 := Lib.hid (e3.out.store hA hC)
           have c4 := Lib.hid (show W3.cell? ⟨n0 + 1, 1092, none⟩ = some e from g4.out.cell 1092 (by decide))
           clear hC hA)
        | ((with_reducible refine at_load 37 ?_); refine wpList_value (by rfl) _ (run_load_cell _ 37 (.tmp 31) rfl ⟨n0 + 1, 1092, none⟩ rfl e c4.out _ Tryd.underlying37 rfl) ?_)
        | ((with_reducible refine at_bslice 37 ?_)
           refine wpList_plain rfl fun K hK => wp_ran _ (run_buildSlice _ 37 22 1 _ rfl Tryd.underlying37 (.int .u64 0) 1 info_u64z (by decide) (by decide) [(.int .u64 0)] rfl (by rfl) (fun v hv => by rw [List.mem_singleton.1 hv]; rfl)) (hK _ _ ?_)
           clear hK K
           obtain ⟨q4, hq4⟩ : ∃ q, q = W3.heap.size := ⟨_, rfl⟩
           go_loud (rw [← hq4])
           refine gen_l (fun W => FewW n0 w (fsC s0 s1 s2 s3 e) (fiveL s0 s1 s2 s3 e (k + 1) (k + 1) (k + 1) (k + 1) k (valsL k ++ fcells 86 valK v0) (x1 ++ [(.int .u64 32000000000)]) (x2 ++ [(.int .u8 0)]) (x3 ++ [(.int .u8 0)]) x4) W ∧ W.rangeAt q4 0 [(.int .u64 0)]) ⟨g4.out.later ((Below.refl _ _).alloc (Nat.le_refl _) _), range_whole (heap_new _ _ _ _ hq4)⟩ ?_
           clear hq4
           rintro V4 ⟨h1, h2⟩
           have p4 := Lib.hid h1
           have r4 := Lib.hid h2
           clear h1 h2)
        | ((with_reducible refine at_appC 37 ?_)
           refine wpList_plain rfl fun K hK => wp_appL (n0 := n0) (w0 := w) (.tmp 32) (.tmp 33) 37 22 rfl Tryd.underlying37 (.int .u64 0) 1 8 info_u64 rfl (by decide) (n0 + 2) (fiveL s0 s1 s2 s3 e (k + 1) (k + 1) (k + 1) (k + 1) k (valsL k ++ fcells 86 valK v0) (x1 ++ [(.int .u64 32000000000)]) (x2 ++ [(.int .u8 0)]) (x3 ++ [(.int .u8 0)]) x4) 4 k e x4 rfl rfl p4.out.own (some ⟨q4, 0, none⟩) 1 1 rfl (fun h => by cases h) [(.int .u64 0)] rfl (RowV.range r4.out) (fun u hu => by rw [List.mem_singleton.1 hu]; rfl) (by omega) (by omega) p4.out.size (by omega) p4.out.below (fun vz cz W h1 h2 h3 h4 h5 h6 => hK _ _ ?_)
           clear hK K
           obtain ⟨s4, hs4⟩ : ∃ v : Value, v = .slice vz (k + 1) cz := ⟨_, rfl⟩
           rw [← hs4] at h2 ⊢
           have hsv4 : simpleV s4 = true := by rw [hs4]; rfl
           have e4 := Lib.hid (p4.out.app 4 _ rfl (show OwL (n0 + 2) (fiveL s0 s1 s2 s3 s4 (k + 1) (k + 1) (k + 1) (k + 1) (k + 1) (valsL k ++ fcells 86 valK v0) (x1 ++ [(.int .u64 32000000000)]) (x2 ++ [(.int .u8 0)]) (x3 ++ [(.int .u8 0)]) (x4 ++ [(.int .u64 0)])) W from h2) h3 h5 h6)
           clear h1 h2 h3 h4 h5 h6 hs4)
        | ((with_reducible refine at_store 37 ?_)
           refine wpList_plain rfl fun K hK => wp_store1 37 (.tmp 35) (.tmp 34) rfl (n0 + 1) 1092 rfl s4 rfl hsv4 (by kernel_rfl) _ _ e4.out.hX (by rw [fsC_size]; decide) (fun W4 hC hA => hK _ _ ?_)
           clear hK K
           rw [fsC_set4] at hC
           have g5 := Lib.hid (e4.out.store hA hC)
           clear hC hA))
      have hfin := g5.out
      rw [valsL_succ] at hfin
      exact ⟨⟨k + 1, by omega, by go_num, _, _, _, _, _, _, _, _, _, hfin⟩, by simp [intOf]; omega⟩
    · have e2 : k = n := by omega
      subst e2
      obtain ⟨Lc, hLc⟩ : ∃ Lc, Lc = (List.range 1957).map (fsF a b c d e) := ⟨_, rfl⟩
      have hC0 : fsC a b c d e = Lc.toArray := by rw [hLc]; rfl
      have hVs := few_vs g0.out
      rw [hC0] at hVs
      have hfx := g0.out.hX
      rw [hC0] at hfx
      have hl : Lc.length = 1957 := by rw [hLc]; simp
      have hi1 := Lib.hid (show (Tryd.prog.info? 49).map (·.size) = some Lc.toArray.size by rw [List.size_toArray, hl]; exact row_size row_state)
      have hi2 := Lib.hid (show (Tryd.prog.info? 49).map (·.size) = some Lc.length by rw [hl]; exact row_size row_state)
      have hzz := Lib.hid (show Tryd.zeroCells49.size = Lc.toArray.size from zst_size.trans (show 1957 = Lc.toArray.size by simp [hl]))
      have hone := Lib.hid (show Lc.toArray.all (·.oneCell') = true by rw [← hC0]; exact fsC_all g0.out)
      have gV := Lib.hid hVs
      have gfx := Lib.hid hfx
      clear hLc hC0 hVs hfx hl
      go_wp2_with (first
        | ((with_reducible refine at_load 49 ?_); go_loud (refine wpList_value (by rfl) _ (run_load_box _ 49 (.tmp 3) rfl (n0 + 1) rfl _ Lc.toArray (0, 0) _ gfx.out Tryd.underlying49 rfl hi1.out) ?_))
        | ((with_reducible refine at_store 49 ?_); go_loud (refine wpList_store_row 49 (.tmp 2) (.tmp 36) rfl rfl n0 rfl Lc.toArray rfl hone.out hi1.out _ 49 g0.out.hR hzz.out ?_); intro W9 hC9 hA9))
      exact ret_cell rfl n0 0 Lc _ rfl (range_whole hC9) Tryd.underlying49 rfl hi2.out rfl ⟨_, rfl, gV.out W9 hA9, hn0'.out ▸ (hA9.below g0.out.below (Nat.le_refl _) (by have := g0.out.size; omega))⟩
end Go.Proofs.YtfnjcpopadpmbaaDoor
