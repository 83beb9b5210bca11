/- oper.ReadIndexed: where the bytes are no indexed attestation's. -/
/- pharosref08.ReadIndexed: where the bytes are no indexed attestation's. -/
/- Indexed attestations: what any bytes are read as, by the program and by the reference; what is written is read, what is read is written. -/
import Derived.Test.YtihelknkcomjpaaDoorJAw8
import Derived.Test.YtihelknkcomjpaaDoorJReach
import Derived.Test.YtihelknkcomjpaaDoorJHshX
import Derived.Test.YtihelknkcomjpaaDoorKSqData
import Derived.Test.YtihelknkcomjpaaDoorJIxE
import Derived.Test.YtihelknkcomjpaaDoorKSlData
import Derived.Test.YtihelknkcomjpaaDoorJLawS
set_option linter.unusedVariables false
set_option linter.unusedSimpArgs false
set_option linter.unnecessarySimpa false
namespace Go.Proofs.YtihelknkcomjpaaDoor
open Go.RowKit BigFrame
set_option maxRecDepth 100000
/-- What ssz.Each says of so many bytes, cut by eight, at most 64. -/
def each8 (L : Nat) : Int := if L % 8 ≠ 0 then 4 else if 64 < L / 8 then 6 else 0
set_option maxHeartbeats 4000000 in
theorem each_bad (va : Option Addr) (c L : Nat) (er : Int) (w : World) (hL : L ≤ 70368744177664) (he : each8 L = er) (hne : er ≠ 0) :
    Calls Tryd.prog 76 #[.slice va L c, .int .i64 8, .int .i64 64] w fun e w' => e = .returned (.tuple #[.slice none 0 0, .int .i64 er]) ∧ w = w' := by
  have r1 : (L : Int).tmod 8 = ((L % 8 : Nat) : Int) := (Int.ofNat_tmod L 8).symm
  have q1 : (L : Int).tdiv 8 = ((L / 8 : Nat) : Int) := (Int.ofNat_tdiv L 8).symm
  subst he
  refine (callsIn_wide (n := 3)).1 ?_
  refine callsIn_of_wp_marks Tryd.func76 rfl trivial ?_ rfl
  simp only [Tryd.ntmps76, List.size_toArray, List.length_cons, List.length_nil, Nat.reduceAdd, Nat.reduceSub, Array.replicate_succ, Array.replicate_zero, List.push_toArray, List.append_toArray, List.nil_append, List.cons_append]
  unfold each8 at hne ⊢
  by_cases c1 : L % 8 ≠ 0
  · simp only [if_pos c1]
    obtain ⟨m, hm⟩ : ∃ m, m = L % 8 := ⟨_, rfl⟩
    rw [← hm] at r1 c1
    have t1 : ((m : Int) != 0) = true := by simp; omega
    clear hne hm c1
    gi_wp2
    exact ⟨.tuple #[.slice none 0 0, .int .i64 4], by simp [results, Tryd.f76, go_sem], rfl, rfl⟩
  · by_cases c2 : 64 < L / 8
    · have c1' : L % 8 = 0 := by omega
      simp only [if_neg c1, if_pos c2]
      rw [c1'] at r1
      obtain ⟨m, hm⟩ : ∃ m, m = L / 8 := ⟨_, rfl⟩
      rw [← hm] at q1 c2
      have t1 : decide ((64 : Int) < (m : Int)) = true := by simp; omega
      have hmb : m ≤ 70368744177664 := by omega
      clear hne hm c1 c1'
      gi_wp2
      exact ⟨.tuple #[.slice none 0 0, .int .i64 6], by simp [results, Tryd.f76, go_sem], rfl, rfl⟩
    · exact absurd (by simp only [if_neg c1, if_neg c2]) hne
theorem run_build_idx0 {ρ : Operand → Value} {o : Oper} (w : World) (ho : o.op = .build 61 #[]) : (execOp ρ o).run Tryd.prog w = .ok (.value (.agg (idxC (.slice none 0 0) (fun _ => 0) (fun _ => 0)).toArray)) w := by
  have h : (Instr.build 61 #[]).run Tryd.prog w = .ok (.agg (idxC (.slice none 0 0) (fun _ => 0) (fun _ => 0)).toArray) w := by kernel_rfl
  exact run_build 61 #[] ho _ h
set_option maxHeartbeats 16000000 in
theorem readIdx_short (l : List Int) (L : Nat) (va : Option Addr) (c : Nat) (w : World) (hs0 : SlB va c l w) (hL0 : l.length = L) (hlow : ∀ ad, va = some ad → ad.block < w.heap.size) (hb : L < 228) :
    Calls Tryd.prog 25 #[.slice va L c] w fun e w' => e = .returned (.tuple #[.agg (idxC (.slice none 0 0) (fun _ => 0) (fun _ => 0)).toArray, .int .i64 ((4 : Nat) : Int)]) ∧ Below w.heap.size w w' := by
  have hs := Lib.hid hs0
  have hL := Lib.hid hL0
  have hlowH := Lib.hid hlow
  have hfew : l.length ≤ 70368744177664 := by omega
  clear hs0 hL0 hlow
  go_enter Tryd.func25, Tryd.ntmps25
  have he0 : ¬ (4 = 0) := by decide
  have hne : (((4 : Nat) : Int) == 0) = false := rfl
  have hne2 : (((4 : Nat) : Int) != 0) = true := rfl
  go_wp2_with (first
    | ((with_reducible refine at_alloc 61 ?_); refine wpList_plain rfl fun K hK => wp_alloc_row 61 rfl 2 rfl _ 197 infoIdx (hK _ _ ?_); clear hK K)
    | ((with_reducible refine at_alloc 61 ?_); refine wpList_plain rfl fun K hK => wp_alloc_row 61 rfl 4 rfl _ 197 infoIdx (hK _ _ ?_); clear hK K)
    | ((with_reducible refine (RdO.open L 228 (228 : Int) rfl hL.out 1 (1 : Int) rfl (by decide) (err := 4) (if_neg (by omega)) (by decide) hs.out.row hs.out.cap hs.out.nil hlowH.out hfew).mono ?_)
       rintro e W ⟨rfl, hS1, hW1⟩
       have hS := Lib.hid hS1
       clear hS1 hW1)
    | ((with_reducible refine at_bslice 82 ?_); go_loud (refine wpList_plain rfl fun K hK => wp_ran _ (run_bslice_int _ _ (by rfl) (0 : Int) (by rfl)) (hK _ _ ?_)); clear hK K
       have hS1 := hS.out.after ((Below.refl _ W).alloc (Nat.le_refl _) (.cells #[.int .i64 (0 : Int)] 3))
       clear hS
       have hS := Lib.hid hS1
       clear hS1)
    | ((with_reducible refine (RdO.offs0 hS.out (by decide) (228 : Int) _ 1 1).mono ?_)
       rintro e W2 ⟨rfl, hS1⟩
       clear hS
       have hS := Lib.hid hS1
       clear hS1)
    | ((with_reducible refine (RdO.later0 hS.out (by decide)).mono ?_)
       rintro e W3 ⟨rfl, hS1⟩
       clear hS
       have hS := Lib.hid hS1
       clear hS1)
    | ((with_reducible refine at_load 36 ?_); go_loud (refine wpList_value (by rfl) _ (run_load_cell _ 36 _ (by rfl) ⟨w.heap.size + 1 + 1, 4, none⟩ rfl (.int .i64 ((4 : Nat) : Int)) hS.out.errno _ Tryd.underlying36 rfl) ?_)))
  go_wp2_with (
    ((with_reducible refine at_load 36 ?_); go_loud (refine wpList_value (by rfl) _ (run_load_cell _ 36 _ (by rfl) ⟨w.heap.size + 1 + 1, 4, none⟩ rfl (.int .i64 ((4:Nat):Int)) hS.out.errno _ Tryd.underlying36 rfl) ?_)))
  rename_i K hK
  refine wp_region_held (S := fun _ => True) (by kernel_rfl) ?_
  have hTT : True := trivial
  refine takeL (i := 0) (v := (.pointer (some ⟨w.heap.size + 1, 101, none⟩))) rfl (by kernel_rfl) (by kernel_rfl) (by kernel_rfl) (fun _ _ _ h => h) rfl (by assumption) (fun w' hS' => by go_simp) ?_
  simp only [Act.put, List.setIfInBounds_toArray, List.set_cons_zero, List.set_cons_succ]
  refine takeL (i := 1) (v := (.slice (some ⟨w.heap.size + 1, 101, none⟩) 96 96)) rfl (by kernel_rfl) (by kernel_rfl) (by kernel_rfl) (fun _ _ _ h => h) rfl (by assumption) (fun w' hS' => by go_simp) ?_
  simp only [Act.put, List.setIfInBounds_toArray, List.set_cons_zero, List.set_cons_succ]
  refine takeL (i := 2) (v := (.pointer (some ⟨w.heap.size + 1 + 1, 0, none⟩))) rfl (by kernel_rfl) (by kernel_rfl) (by kernel_rfl) (fun _ _ _ h => h) rfl (by assumption) (fun w' hS' => by go_simp) ?_
  simp only [Act.put, List.setIfInBounds_toArray, List.set_cons_zero, List.set_cons_succ]
  refine oneL (i := 3) rfl (by kernel_rfl) rfl (wp_callE 50 #[.pointer (some ⟨w.heap.size + 1 + 1, 0, none⟩), .int .i64 96] (by go_simp) _ ((hS.out.drew _).bytesC 96 (96 : Int) rfl (by decide) (by decide) (fun h => absurd h (by omega))) ?_)
  rintro v W9 ⟨b2, o2, c2, q2, rfl, hcc2, hbl2, hrw2, hql2, hq2, hS1, hA9⟩
  refine ⟨trivial, ?_⟩
  simp only [Act.put, List.setIfInBounds_toArray, List.set_cons_zero, List.set_cons_succ]
  refine oneL (i := 4) rfl (by kernel_rfl) rfl (wp_copy_X _ _ rfl 101 96 b2 o2 c2 96 rfl rfl hS1 (.slice none 0 0 :: fcells 100 kdData (fun _ => 0)) [] (fun _ => 0) (by simp [idxC]) (by simp [fcells_length]) q2 hrw2 hql2 (fun W10 hS2 hA10 => ⟨trivial, ?_⟩))
  refine wpAnyH_done (by kernel_rfl) ?_ _
  refine hK _ _ ?_
  rw [if_neg he0] at hS2
  clear hK K hS hTT hrw2 hcc2 hbl2 hq2 hql2 hS1 hA9 hA10
  have hS := Lib.hid hS2
  clear hS2
  generalize goInt 96 = gi
  simp only [Act.put, List.setIfInBounds_toArray, List.set_cons_zero, List.set_cons_succ]
  go_wp2_with (
    ((with_reducible refine at_load 36 ?_); go_loud (refine wpList_value (by rfl) _ (run_load_cell _ 36 _ (by rfl) ⟨w.heap.size + 1 + 1, 4, none⟩ rfl (.int .i64 ((4:Nat):Int)) hS.out.errno _ Tryd.underlying36 rfl) ?_)))
  rename_i K hK
  have hz10 := hS.out.size
  refine wp_region_held (S := fun w' => w'.cell? ⟨w.heap.size + 1 + 1, 4, none⟩ = some (.int .i64 ((4:Nat):Int))) (by kernel_rfl) ?_
  have hSS : ({ W10 with drawn := W10.drawn + 1 } : World).cell? ⟨w.heap.size + 1 + 1, 4, none⟩ = some (.int .i64 ((4:Nat):Int)) := hS.out.errno
  refine takeL (i := 0) (v := (.agg (idxC (.slice none 0 0) (fun _ => 0) (fun _ => 0)).toArray)) rfl (by kernel_rfl) (by kernel_rfl) (by kernel_rfl) (fun _ _ _ h => h) rfl (by assumption) (fun w' _ => run_build_idx0 w' rfl) ?_
  simp only [Act.put, List.setIfInBounds_toArray, List.set_cons_zero, List.set_cons_succ]
  refine takeL (i := 1) (v := (.pointer (some ⟨w.heap.size + 1 + 1, 0, none⟩))) rfl (by kernel_rfl) (by kernel_rfl) (by kernel_rfl) (fun _ _ _ h => h) rfl (by assumption) (fun w' hS' => by go_simp) ?_
  simp only [Act.put, List.setIfInBounds_toArray, List.set_cons_zero, List.set_cons_succ]
  refine takeL (i := 2) (v := (.pointer (some ⟨w.heap.size + 1 + 1, 0, none⟩))) rfl (by kernel_rfl) (by kernel_rfl) (by kernel_rfl) (fun _ _ _ h => h) rfl (by assumption) (fun w' hS' => by go_simp) ?_
  simp only [Act.put, List.setIfInBounds_toArray, List.set_cons_zero, List.set_cons_succ]
  refine takeL (i := 3) (v := (.pointer (some ⟨w.heap.size + 1 + 1, 4, none⟩))) rfl (by kernel_rfl) (by kernel_rfl) (by kernel_rfl) (fun _ _ _ h => h) rfl (by assumption) (fun w' hS' => by go_simp) ?_
  simp only [Act.put, List.setIfInBounds_toArray, List.set_cons_zero, List.set_cons_succ]
  refine takeL (i := 4) (v := (.int .i64 ((4:Nat):Int))) rfl (by kernel_rfl) (by kernel_rfl) (by kernel_rfl) (fun _ _ _ h => h) rfl (by assumption) (fun w' hS' => run_load_cell _ 36 _ (by rfl) ⟨w.heap.size + 1 + 1, 4, none⟩ (by rfl) _ hS' _ Tryd.underlying36 rfl) ?_
  simp only [Act.put, List.setIfInBounds_toArray, List.set_cons_zero, List.set_cons_succ]
  refine oneL (i := 5) rfl (by kernel_rfl) rfl (wp_store_row 61 _ _ rfl w.heap.size rfl _ rfl (idxC_one _ _ _ _ _) (by rw [size_idx, List.size_toArray, idxC_length]) _ 61 (hS.out.drew _).hR (by simp [idxC, fcells_length]) (fun W11 hC11 hA11 => ⟨(hA11.cell (p := ⟨w.heap.size + 1 + 1, 4, none⟩) (by show w.heap.size + 1 + 1 < W10.heap.size; omega) (show w.heap.size + 1 + 1 ≠ w.heap.size by omega)).trans hS.out.errno, ?_⟩))
  have hSS2 : W11.cell? ⟨w.heap.size + 1 + 1, 4, none⟩ = some (.int .i64 ((4:Nat):Int)) := (hA11.cell (p := ⟨w.heap.size + 1 + 1, 4, none⟩) (by show w.heap.size + 1 + 1 < W10.heap.size; omega) (show w.heap.size + 1 + 1 ≠ w.heap.size by omega)).trans hS.out.errno
  clear hSS
  have hSS := hSS2
  clear hSS2
  simp only [Act.put, List.setIfInBounds_toArray, List.set_cons_zero, List.set_cons_succ]
  refine takeL (i := 6) (v := (.int .i64 ((4:Nat):Int))) rfl (by kernel_rfl) (by kernel_rfl) (by kernel_rfl) (fun _ _ _ h => h) rfl (by assumption) (fun w' hS' => by go_simp) ?_
  simp only [Act.put, List.setIfInBounds_toArray, List.set_cons_zero, List.set_cons_succ]
  refine wpAnyH_done (by kernel_rfl) ?_ _
  simp only [Exit.then]
  refine hK _ _ ?_
  have hBW : Below w.heap.size w W11 := hA11.below (hS.out.drew _).hB (Nat.le_refl _) (by show w.heap.size ≤ W10.heap.size; omega)
  clear hSS hK K
  go_wp2
  exact ret_mid_tmp rfl w.heap.size 0 (idxC (.slice none 0 0) (fun _ => 0) (fun _ => 0)) _ rfl (range_whole hC11) Tryd.underlying61 rfl (by rw [size_idx, idxC_length]) rfl ⟨rfl, hBW⟩
set_option maxHeartbeats 16000000 in
theorem readIdx_form (l : List Int) (L : Nat) (va : Option Addr) (c : Nat) (w : World) (hs0 : SlB va c l w) (hL0 : l.length = L) (hlow : ∀ ad, va = some ad → ad.block < w.heap.size) (hb : 228 ≤ L) (hfew : L ≤ 70368744177664) (hoff0 : offL l 0 ≠ 228) :
    Calls Tryd.prog 25 #[.slice va L c] w fun e w' => e = .returned (.tuple #[.agg (idxC (.slice none 0 0) (fun _ => 0) (fun _ => 0)).toArray, .int .i64 ((5 : Nat) : Int)]) ∧ Below w.heap.size w w' := by
  have hoff := Lib.hid hoff0
  clear hoff0
  have hs := Lib.hid hs0
  have hL := Lib.hid hL0
  have hlowH := Lib.hid hlow
  have hfew : l.length ≤ 70368744177664 := by omega
  clear hs0 hL0 hlow
  go_enter Tryd.func25, Tryd.ntmps25
  have he0 : ¬ (5 = 0) := by decide
  have hne : (((5 : Nat) : Int) == 0) = false := rfl
  have hne2 : (((5 : Nat) : Int) != 0) = true := rfl
  go_wp2_with (first
    | ((with_reducible refine at_alloc 61 ?_); refine wpList_plain rfl fun K hK => wp_alloc_row 61 rfl 2 rfl _ 197 infoIdx (hK _ _ ?_); clear hK K)
    | ((with_reducible refine at_alloc 61 ?_); refine wpList_plain rfl fun K hK => wp_alloc_row 61 rfl 4 rfl _ 197 infoIdx (hK _ _ ?_); clear hK K)
    | ((with_reducible refine (RdO.open L 228 (228 : Int) rfl hL.out 1 (1 : Int) rfl (by decide) (err := 0) (if_pos (by omega)) (by decide) hs.out.row hs.out.cap hs.out.nil hlowH.out (by rw [hL.out]; omega)).mono ?_)
       rintro e W ⟨rfl, hS1, hW1⟩
       have hS := Lib.hid hS1
       have hW := Lib.hid hW1
       clear hS1 hW1)
    | ((with_reducible refine at_bslice 82 ?_); go_loud (refine wpList_plain rfl fun K hK => wp_ran _ (run_bslice_int _ _ (by rfl) (0 : Int) (by rfl)) (hK _ _ ?_)); clear hK K
       have hS1 := hS.out.after ((Below.refl _ W).alloc (Nat.le_refl _) (.cells #[.int .i64 (0 : Int)] 3))
       have hW1 := hW.out.later (((Below.refl _ W).alloc hW.out.size (.cells #[.int .i64 (0 : Int)] 3)))
       have hz := hS.out.size)
    | ((with_reducible refine (RdO.offsB hS1 hW1 228 W.heap.size 1 1 (228 : Int) rfl [0] (by rw [hL.out]; omega) rfl (by decide) (by rw [hL.out]; omega) (one_ps W) (by rw [World.size_alloc]; omega) (by omega) (one_in (by rw [hL.out]; omega)) (off_one_bad hoff.out)).mono ?_)
       clear hS1 hW1 hz
       rintro e W2 ⟨rfl, offs, hS2⟩
       clear hS hW
       have hS := Lib.hid hS2
       clear hS2)
    | ((with_reducible refine (RdO.later0 hS.out (by decide)).mono ?_)
       rintro e W3 ⟨rfl, hS1⟩
       clear hS
       have hS := Lib.hid hS1
       clear hS1)
    | ((with_reducible refine at_load 36 ?_); go_loud (refine wpList_value (by rfl) _ (run_load_cell _ 36 _ (by rfl) ⟨w.heap.size + 1 + 1, 4, none⟩ rfl (.int .i64 ((5 : Nat) : Int)) hS.out.errno _ Tryd.underlying36 rfl) ?_)))
  go_wp2_with (
    ((with_reducible refine at_load 36 ?_); go_loud (refine wpList_value (by rfl) _ (run_load_cell _ 36 _ (by rfl) ⟨w.heap.size + 1 + 1, 4, none⟩ rfl (.int .i64 ((5:Nat):Int)) hS.out.errno _ Tryd.underlying36 rfl) ?_)))
  rename_i K hK
  refine wp_region_held (S := fun _ => True) (by kernel_rfl) ?_
  have hTT : True := trivial
  refine takeL (i := 0) (v := (.pointer (some ⟨w.heap.size + 1, 101, none⟩))) rfl (by kernel_rfl) (by kernel_rfl) (by kernel_rfl) (fun _ _ _ h => h) rfl (by assumption) (fun w' hS' => by go_simp) ?_
  simp only [Act.put, List.setIfInBounds_toArray, List.set_cons_zero, List.set_cons_succ]
  refine takeL (i := 1) (v := (.slice (some ⟨w.heap.size + 1, 101, none⟩) 96 96)) rfl (by kernel_rfl) (by kernel_rfl) (by kernel_rfl) (fun _ _ _ h => h) rfl (by assumption) (fun w' hS' => by go_simp) ?_
  simp only [Act.put, List.setIfInBounds_toArray, List.set_cons_zero, List.set_cons_succ]
  refine takeL (i := 2) (v := (.pointer (some ⟨w.heap.size + 1 + 1, 0, none⟩))) rfl (by kernel_rfl) (by kernel_rfl) (by kernel_rfl) (fun _ _ _ h => h) rfl (by assumption) (fun w' hS' => by go_simp) ?_
  simp only [Act.put, List.setIfInBounds_toArray, List.set_cons_zero, List.set_cons_succ]
  refine oneL (i := 3) rfl (by kernel_rfl) rfl (wp_callE 50 #[.pointer (some ⟨w.heap.size + 1 + 1, 0, none⟩), .int .i64 96] (by go_simp) _ ((hS.out.drew _).bytesC 96 (96 : Int) rfl (by decide) (by decide) (fun h => absurd h (by omega))) ?_)
  rintro v W9 ⟨b2, o2, c2, q2, rfl, hcc2, hbl2, hrw2, hql2, hq2, hS1, hA9⟩
  refine ⟨trivial, ?_⟩
  simp only [Act.put, List.setIfInBounds_toArray, List.set_cons_zero, List.set_cons_succ]
  refine oneL (i := 4) rfl (by kernel_rfl) rfl (wp_copy_X _ _ rfl 101 96 b2 o2 c2 96 rfl rfl hS1 (.slice none 0 0 :: fcells 100 kdData (fun _ => 0)) [] (fun _ => 0) (by simp [idxC]) (by simp [fcells_length]) q2 hrw2 hql2 (fun W10 hS2 hA10 => ⟨trivial, ?_⟩))
  refine wpAnyH_done (by kernel_rfl) ?_ _
  refine hK _ _ ?_
  rw [if_neg he0] at hS2
  clear hK K hS hTT hrw2 hcc2 hbl2 hq2 hql2 hS1 hA9 hA10
  have hS := Lib.hid hS2
  clear hS2
  generalize goInt 96 = gi
  simp only [Act.put, List.setIfInBounds_toArray, List.set_cons_zero, List.set_cons_succ]
  go_wp2_with (
    ((with_reducible refine at_load 36 ?_); go_loud (refine wpList_value (by rfl) _ (run_load_cell _ 36 _ (by rfl) ⟨w.heap.size + 1 + 1, 4, none⟩ rfl (.int .i64 ((5:Nat):Int)) hS.out.errno _ Tryd.underlying36 rfl) ?_)))
  rename_i K hK
  have hz10 := hS.out.size
  refine wp_region_held (S := fun w' => w'.cell? ⟨w.heap.size + 1 + 1, 4, none⟩ = some (.int .i64 ((5:Nat):Int))) (by kernel_rfl) ?_
  have hSS : ({ W10 with drawn := W10.drawn + 1 } : World).cell? ⟨w.heap.size + 1 + 1, 4, none⟩ = some (.int .i64 ((5:Nat):Int)) := hS.out.errno
  refine takeL (i := 0) (v := (.agg (idxC (.slice none 0 0) (fun _ => 0) (fun _ => 0)).toArray)) rfl (by kernel_rfl) (by kernel_rfl) (by kernel_rfl) (fun _ _ _ h => h) rfl (by assumption) (fun w' _ => run_build_idx0 w' rfl) ?_
  simp only [Act.put, List.setIfInBounds_toArray, List.set_cons_zero, List.set_cons_succ]
  refine takeL (i := 1) (v := (.pointer (some ⟨w.heap.size + 1 + 1, 0, none⟩))) rfl (by kernel_rfl) (by kernel_rfl) (by kernel_rfl) (fun _ _ _ h => h) rfl (by assumption) (fun w' hS' => by go_simp) ?_
  simp only [Act.put, List.setIfInBounds_toArray, List.set_cons_zero, List.set_cons_succ]
  refine takeL (i := 2) (v := (.pointer (some ⟨w.heap.size + 1 + 1, 0, none⟩))) rfl (by kernel_rfl) (by kernel_rfl) (by kernel_rfl) (fun _ _ _ h => h) rfl (by assumption) (fun w' hS' => by go_simp) ?_
  simp only [Act.put, List.setIfInBounds_toArray, List.set_cons_zero, List.set_cons_succ]
  refine takeL (i := 3) (v := (.pointer (some ⟨w.heap.size + 1 + 1, 4, none⟩))) rfl (by kernel_rfl) (by kernel_rfl) (by kernel_rfl) (fun _ _ _ h => h) rfl (by assumption) (fun w' hS' => by go_simp) ?_
  simp only [Act.put, List.setIfInBounds_toArray, List.set_cons_zero, List.set_cons_succ]
  refine takeL (i := 4) (v := (.int .i64 ((5:Nat):Int))) rfl (by kernel_rfl) (by kernel_rfl) (by kernel_rfl) (fun _ _ _ h => h) rfl (by assumption) (fun w' hS' => run_load_cell _ 36 _ (by rfl) ⟨w.heap.size + 1 + 1, 4, none⟩ (by rfl) _ hS' _ Tryd.underlying36 rfl) ?_
  simp only [Act.put, List.setIfInBounds_toArray, List.set_cons_zero, List.set_cons_succ]
  refine oneL (i := 5) rfl (by kernel_rfl) rfl (wp_store_row 61 _ _ rfl w.heap.size rfl _ rfl (idxC_one _ _ _ _ _) (by rw [size_idx, List.size_toArray, idxC_length]) _ 61 (hS.out.drew _).hR (by simp [idxC, fcells_length]) (fun W11 hC11 hA11 => ⟨(hA11.cell (p := ⟨w.heap.size + 1 + 1, 4, none⟩) (by show w.heap.size + 1 + 1 < W10.heap.size; omega) (show w.heap.size + 1 + 1 ≠ w.heap.size by omega)).trans hS.out.errno, ?_⟩))
  have hSS2 : W11.cell? ⟨w.heap.size + 1 + 1, 4, none⟩ = some (.int .i64 ((5:Nat):Int)) := (hA11.cell (p := ⟨w.heap.size + 1 + 1, 4, none⟩) (by show w.heap.size + 1 + 1 < W10.heap.size; omega) (show w.heap.size + 1 + 1 ≠ w.heap.size by omega)).trans hS.out.errno
  clear hSS
  have hSS := hSS2
  clear hSS2
  simp only [Act.put, List.setIfInBounds_toArray, List.set_cons_zero, List.set_cons_succ]
  refine takeL (i := 6) (v := (.int .i64 ((5:Nat):Int))) rfl (by kernel_rfl) (by kernel_rfl) (by kernel_rfl) (fun _ _ _ h => h) rfl (by assumption) (fun w' hS' => by go_simp) ?_
  simp only [Act.put, List.setIfInBounds_toArray, List.set_cons_zero, List.set_cons_succ]
  refine wpAnyH_done (by kernel_rfl) ?_ _
  simp only [Exit.then]
  refine hK _ _ ?_
  have hBW : Below w.heap.size w W11 := hA11.below (hS.out.drew _).hB (Nat.le_refl _) (by show w.heap.size ≤ W10.heap.size; omega)
  clear hSS hK K
  go_wp2
  exact ret_mid_tmp rfl w.heap.size 0 (idxC (.slice none 0 0) (fun _ => 0) (fun _ => 0)) _ rfl (range_whole hC11) Tryd.underlying61 rfl (by rw [size_idx, idxC_length]) rfl ⟨rfl, hBW⟩
set_option maxHeartbeats 16000000 in
theorem readIdx_each (l : List Int) (L : Nat) (va : Option Addr) (c : Nat) (w : World) (hs0 : SlB va c l w) (hL0 : l.length = L) (hlow : ∀ ad, va = some ad → ad.block < w.heap.size) (hb : 228 ≤ L) (hfew : L ≤ 70368744177664) (hoff0 : offL l 0 = 228) (er : Nat) (hE : each8 (L - 228) = (er : Int)) (he0 : ¬ (er = 0)) :
    Calls Tryd.prog 25 #[.slice va L c] w fun e w' => e = .returned (.tuple #[.agg (idxC (.slice none 0 0) (fun _ => 0) (fun _ => 0)).toArray, .int .i64 (er : Int)]) ∧ Below w.heap.size w w' := by
  have ho0 := Lib.hid (show ([0].map (offL l) ++ [l.length]).getD 0 0 = 228 from hoff0)
  have ho1 := Lib.hid (show ([0].map (offL l) ++ [l.length]).getD (0 + 1) 0 = L from hL0)
  have ho2 := Lib.hid (show 0 + 1 < ([0].map (offL l) ++ [l.length]).length from Nat.lt_succ_self 1)
  have ho3 := Lib.hid (show ([0].map (offL l) ++ [l.length]).length ≤ 1000 from (by decide : 2 ≤ 1000))
  have hoff := Lib.hid hoff0
  obtain ⟨k, hk⟩ : ∃ k, k = L - 228 := ⟨_, rfl⟩
  have hk2 : L = 228 + k := by omega
  have hk3 := Lib.hid hk2
  rw [← hk] at hE
  have hE' := Lib.hid (fun va c w => each_bad va c k (er : Int) w (by omega) hE (by omega))
  clear hoff0 hk hk2 hE
  have hs := Lib.hid hs0
  have hL := Lib.hid hL0
  have hlowH := Lib.hid hlow
  have hfew : l.length ≤ 70368744177664 := by omega
  clear hs0 hL0 hlow
  go_enter Tryd.func25, Tryd.ntmps25
  have hne : ((er : Int) == 0) = false := by simp; omega
  have hne2 : ((er : Int) != 0) = true := by simp; omega
  go_wp2_with (first
    | ((with_reducible refine at_alloc 61 ?_); refine wpList_plain rfl fun K hK => wp_alloc_row 61 rfl 2 rfl _ 197 infoIdx (hK _ _ ?_); clear hK K)
    | ((with_reducible refine at_alloc 61 ?_); refine wpList_plain rfl fun K hK => wp_alloc_row 61 rfl 4 rfl _ 197 infoIdx (hK _ _ ?_); clear hK K)
    | ((with_reducible refine (RdO.open L 228 (228 : Int) rfl hL.out 1 (1 : Int) rfl (by decide) (err := 0) (if_pos (by omega)) (by decide) hs.out.row hs.out.cap hs.out.nil hlowH.out (by rw [hL.out]; omega)).mono ?_)
       rintro e W ⟨rfl, hS1, hW1⟩
       have hS := Lib.hid hS1
       have hW := Lib.hid hW1
       clear hS1 hW1)
    | ((with_reducible refine at_bslice 82 ?_); go_loud (refine wpList_plain rfl fun K hK => wp_ran _ (run_bslice_int _ _ (by rfl) (0 : Int) (by rfl)) (hK _ _ ?_)); clear hK K
       have hS1 := hS.out.after ((Below.refl _ W).alloc (Nat.le_refl _) (.cells #[.int .i64 (0 : Int)] 3))
       have hW1 := hW.out.later (((Below.refl _ W).alloc hW.out.size (.cells #[.int .i64 (0 : Int)] 3)))
       have hz := hS.out.size)
    | ((with_reducible refine (RdO.offsG hS1 hW1 228 W.heap.size 1 1 (228 : Int) rfl [0] (by rw [hL.out]; omega) rfl (by decide) (by rw [hL.out]; omega) (one_ps W) (by rw [World.size_alloc]; omega) (by omega) (one_in (by rw [hL.out]; omega)) (off_one hoff.out (by rw [hL.out]; omega))).mono ?_)
       clear hS1 hW1 hz
       rintro e W2 ⟨rfl, hS2⟩
       clear hS hW
       have hS := Lib.hid hS2
       clear hS2)
    | ((with_reducible refine (RdO.later hS.out ho2.out ho3.out 228 L ho0.out ho1.out (by omega) (by rw [hL.out]; exact Nat.le_refl _) (by rw [hL.out]; omega) (by decide) k (by have := hk3.out; omega)).mono ?_)
       rintro e W ⟨vb, cb, rfl, hb1, hbl1, hS1⟩
       clear hb1 hbl1
       clear hS
       have hS := Lib.hid hS1
       clear hS1)
    | ((with_reducible refine at_load 36 ?_); go_loud (refine wpList_value (by rfl) _ (run_load_cell _ 36 _ (by rfl) ⟨w.heap.size + 1 + 1, 4, none⟩ rfl (.int .i64 0) hS.out.errno _ Tryd.underlying36 rfl) ?_))
    | ((with_reducible refine (hE'.out vb cb _).mono ?_)
       rintro e W2 ⟨rfl, rfl⟩)
    | ((with_reducible refine (RdO.fail hS.out er er (er : Int) rfl (if_pos rfl)).mono ?_)
       rintro e W3 ⟨rfl, hS1, hA3⟩
       clear hA3
       clear hS
       have hS := Lib.hid hS1
       clear hS1))
  refine wp_loop_once ?_
  go_wp2_with (
    ((with_reducible refine at_load 36 ?_); go_loud (refine wpList_value (by rfl) _ (run_load_cell _ 36 _ (by rfl) ⟨w.heap.size + 1 + 1, 4, none⟩ rfl (.int .i64 (er:Int)) hS.out.errno _ Tryd.underlying36 rfl) ?_)))
  rename_i K hK
  refine wp_region_held (S := fun _ => True) (by kernel_rfl) ?_
  have hTT : True := trivial
  refine takeL (i := 0) (v := (.pointer (some ⟨w.heap.size + 1, 101, none⟩))) rfl (by kernel_rfl) (by kernel_rfl) (by kernel_rfl) (fun _ _ _ h => h) rfl (by assumption) (fun w' hS' => by go_simp) ?_
  simp only [Act.put, List.setIfInBounds_toArray, List.set_cons_zero, List.set_cons_succ]
  refine takeL (i := 1) (v := (.slice (some ⟨w.heap.size + 1, 101, none⟩) 96 96)) rfl (by kernel_rfl) (by kernel_rfl) (by kernel_rfl) (fun _ _ _ h => h) rfl (by assumption) (fun w' hS' => by go_simp) ?_
  simp only [Act.put, List.setIfInBounds_toArray, List.set_cons_zero, List.set_cons_succ]
  refine takeL (i := 2) (v := (.pointer (some ⟨w.heap.size + 1 + 1, 0, none⟩))) rfl (by kernel_rfl) (by kernel_rfl) (by kernel_rfl) (fun _ _ _ h => h) rfl (by assumption) (fun w' hS' => by go_simp) ?_
  simp only [Act.put, List.setIfInBounds_toArray, List.set_cons_zero, List.set_cons_succ]
  refine oneL (i := 3) rfl (by kernel_rfl) rfl (wp_callE 50 #[.pointer (some ⟨w.heap.size + 1 + 1, 0, none⟩), .int .i64 96] (by go_simp) _ ((hS.out.drew _).bytesC 96 (96 : Int) rfl (by decide) (by decide) (fun h => absurd h (by omega))) ?_)
  rintro v W9 ⟨b2, o2, c2, q2, rfl, hcc2, hbl2, hrw2, hql2, hq2, hS1, hA9⟩
  refine ⟨trivial, ?_⟩
  simp only [Act.put, List.setIfInBounds_toArray, List.set_cons_zero, List.set_cons_succ]
  refine oneL (i := 4) rfl (by kernel_rfl) rfl (wp_copy_X _ _ rfl 101 96 b2 o2 c2 96 rfl rfl hS1 (.slice none 0 0 :: fcells 100 kdData (fun _ => 0)) [] (fun _ => 0) (by simp [idxC]) (by simp [fcells_length]) q2 hrw2 hql2 (fun W10 hS2 hA10 => ⟨trivial, ?_⟩))
  refine wpAnyH_done (by kernel_rfl) ?_ _
  refine hK _ _ ?_
  rw [if_neg he0] at hS2
  clear hK K hS hTT hrw2 hcc2 hbl2 hq2 hql2 hS1 hA9 hA10
  have hS := Lib.hid hS2
  clear hS2
  generalize goInt 96 = gi
  simp only [Act.put, List.setIfInBounds_toArray, List.set_cons_zero, List.set_cons_succ]
  go_wp2_with (
    ((with_reducible refine at_load 36 ?_); go_loud (refine wpList_value (by rfl) _ (run_load_cell _ 36 _ (by rfl) ⟨w.heap.size + 1 + 1, 4, none⟩ rfl (.int .i64 (er:Int)) hS.out.errno _ Tryd.underlying36 rfl) ?_)))
  rename_i K hK
  have hz10 := hS.out.size
  refine wp_region_held (S := fun w' => w'.cell? ⟨w.heap.size + 1 + 1, 4, none⟩ = some (.int .i64 (er:Int))) (by kernel_rfl) ?_
  have hSS : ({ W10 with drawn := W10.drawn + 1 } : World).cell? ⟨w.heap.size + 1 + 1, 4, none⟩ = some (.int .i64 (er:Int)) := hS.out.errno
  refine takeL (i := 0) (v := (.agg (idxC (.slice none 0 0) (fun _ => 0) (fun _ => 0)).toArray)) rfl (by kernel_rfl) (by kernel_rfl) (by kernel_rfl) (fun _ _ _ h => h) rfl (by assumption) (fun w' _ => run_build_idx0 w' rfl) ?_
  simp only [Act.put, List.setIfInBounds_toArray, List.set_cons_zero, List.set_cons_succ]
  refine takeL (i := 1) (v := (.pointer (some ⟨w.heap.size + 1 + 1, 0, none⟩))) rfl (by kernel_rfl) (by kernel_rfl) (by kernel_rfl) (fun _ _ _ h => h) rfl (by assumption) (fun w' hS' => by go_simp) ?_
  simp only [Act.put, List.setIfInBounds_toArray, List.set_cons_zero, List.set_cons_succ]
  refine takeL (i := 2) (v := (.pointer (some ⟨w.heap.size + 1 + 1, 0, none⟩))) rfl (by kernel_rfl) (by kernel_rfl) (by kernel_rfl) (fun _ _ _ h => h) rfl (by assumption) (fun w' hS' => by go_simp) ?_
  simp only [Act.put, List.setIfInBounds_toArray, List.set_cons_zero, List.set_cons_succ]
  refine takeL (i := 3) (v := (.pointer (some ⟨w.heap.size + 1 + 1, 4, none⟩))) rfl (by kernel_rfl) (by kernel_rfl) (by kernel_rfl) (fun _ _ _ h => h) rfl (by assumption) (fun w' hS' => by go_simp) ?_
  simp only [Act.put, List.setIfInBounds_toArray, List.set_cons_zero, List.set_cons_succ]
  refine takeL (i := 4) (v := (.int .i64 (er:Int))) rfl (by kernel_rfl) (by kernel_rfl) (by kernel_rfl) (fun _ _ _ h => h) rfl (by assumption) (fun w' hS' => run_load_cell _ 36 _ (by rfl) ⟨w.heap.size + 1 + 1, 4, none⟩ (by rfl) _ hS' _ Tryd.underlying36 rfl) ?_
  simp only [Act.put, List.setIfInBounds_toArray, List.set_cons_zero, List.set_cons_succ]
  refine oneL (i := 5) rfl (by kernel_rfl) rfl (wp_store_row 61 _ _ rfl w.heap.size rfl _ rfl (idxC_one _ _ _ _ _) (by rw [size_idx, List.size_toArray, idxC_length]) _ 61 (hS.out.drew _).hR (by simp [idxC, fcells_length]) (fun W11 hC11 hA11 => ⟨(hA11.cell (p := ⟨w.heap.size + 1 + 1, 4, none⟩) (by show w.heap.size + 1 + 1 < W10.heap.size; omega) (show w.heap.size + 1 + 1 ≠ w.heap.size by omega)).trans hS.out.errno, ?_⟩))
  have hSS2 : W11.cell? ⟨w.heap.size + 1 + 1, 4, none⟩ = some (.int .i64 (er:Int)) := (hA11.cell (p := ⟨w.heap.size + 1 + 1, 4, none⟩) (by show w.heap.size + 1 + 1 < W10.heap.size; omega) (show w.heap.size + 1 + 1 ≠ w.heap.size by omega)).trans hS.out.errno
  clear hSS
  have hSS := hSS2
  clear hSS2
  simp only [Act.put, List.setIfInBounds_toArray, List.set_cons_zero, List.set_cons_succ]
  refine takeL (i := 6) (v := (.int .i64 (er:Int))) rfl (by kernel_rfl) (by kernel_rfl) (by kernel_rfl) (fun _ _ _ h => h) rfl (by assumption) (fun w' hS' => by go_simp) ?_
  simp only [Act.put, List.setIfInBounds_toArray, List.set_cons_zero, List.set_cons_succ]
  refine wpAnyH_done (by kernel_rfl) ?_ _
  simp only [Exit.then]
  refine hK _ _ ?_
  have hBW : Below w.heap.size w W11 := hA11.below (hS.out.drew _).hB (Nat.le_refl _) (by show w.heap.size ≤ W10.heap.size; omega)
  clear hSS hK K
  go_wp2
  exact ret_mid_tmp rfl w.heap.size 0 (idxC (.slice none 0 0) (fun _ => 0) (fun _ => 0)) _ rfl (range_whole hC11) Tryd.underlying61 rfl (by rw [size_idx, idxC_length]) rfl ⟨rfl, hBW⟩
end Go.Proofs.YtihelknkcomjpaaDoor
namespace Go.Proofs.YtihelknkcomjpaaDoor
open Go.RowKit BigFrame
set_option maxRecDepth 100000
/-- The result's box, the struct's box. -/
structure RqX (n : Nat) (Z C : List Value) (t : TypeId) (w W : World) : Prop where
  hR : W.heap[n]? = some (.cells Z.toArray t (0, 0))
  hX : W.heap[n + 1]? = some (.cells C.toArray t (0, 0))
  hB : Below n w W
section
variable {n : Nat} {Z C : List Value} {t : TypeId} {w W W' : World}
theorem RqX.size (h : RqX n Z C t w W) : n + 2 ≤ W.heap.size := by
  have := block_lt h.hX
  omega
theorem RqX.later (h : RqX n Z C t w W) (hb : Below W.heap.size W W') : RqX n Z C t w W' := by
  have hs := h.size
  exact ⟨(hb.block n (by omega)).trans h.hR, (hb.block (n + 1) (by omega)).trans h.hX, h.hB.trans (hb.mono (by omega))⟩
theorem RqX.begin {Z0 C0 : Array Value} (hZ : Z0 = Z.toArray) (hC : C0 = C.toArray) (hn : w.heap.size = n) : RqX n Z C t w ((w.alloc (.cells Z0 t)).alloc (.cells C0 t)) := by
  subst hZ
  subst hC
  subst hn
  exact ⟨heap_past _ _ _ _ (heap_new _ _ _ _ rfl), heap_new _ _ _ _ (by simp), ((Below.refl _ _).alloc (Nat.le_refl _) _).alloc (by simp) _⟩
theorem RqX.set {C' : List Value} (h : RqX n Z C t w W) (hA : Apart (n + 1) W W') (hC : W'.heap[n + 1]? = some (.cells C'.toArray t (0, 0))) : RqX n Z C' t w W' := by
  have hs := h.size
  exact ⟨(hA.block n (by omega) (by omega)).trans h.hR, hC, hA.below h.hB (by omega) (by omega)⟩
end
theorem zsAt_idx (W : World) : IntsAt W.heap.size [0, 128, 96] (W.alloc (.cells #[.int .i64 0, .int .i64 128, .int .i64 96] 3)) := by
  have h := zsV_at [0, 128, 96] W
  rw [zsV_flat] at h
  exact h
set_option maxHeartbeats 16000000 in
theorem rreadIdx_short (l : List Int) (L : Nat) (va : Option Addr) (c : Nat) (w : World) (hs0 : SlB va c l w) (hL0 : l.length = L) (hb : L < 228) :
    Calls Tryd.prog 26 #[.slice va L c] w fun e w' => e = .returned (.tuple #[.agg (idxC (.slice none 0 0) (fun _ => 0) (fun _ => 0)).toArray, .int .i64 ((4 : Nat) : Int)]) ∧ Below w.heap.size w w' := by
  have hs := Lib.hid hs0
  have hL := Lib.hid hL0
  clear hs0 hL0
  go_enter Tryd.func26, Tryd.ntmps26
  have hcut := Lib.hid (fun (W : World) (gs : Nat) (hZ : IntsAt gs [0, 128, 96] W) => cut_short l va c gs [0, 128, 96] 3 3 W hZ rfl (by decide) (by decide) (by decide) (by rw [hL.out]; exact hb))
  rw [hL.out] at hcut
  go_wp2_with (first
    | ((with_reducible refine at_alloc 61 ?_); refine wpList_plain rfl fun K hK => wp_alloc_row 61 rfl 2 rfl _ 197 infoIdx (hK _ _ ?_); clear hK K)
    | ((with_reducible refine at_alloc 61 ?_); refine wpList_plain rfl fun K hK => wp_alloc_row 61 rfl 4 rfl _ 197 infoIdx (hK _ _ ?_); clear hK K
       refine gen_l (fun W => RqX w.heap.size (idxC (.slice none 0 0) (fun _ => 0) (fun _ => 0)) (idxC (.slice none 0 0) (fun _ => 0) (fun _ => 0)) 61 w W) (RqX.begin rfl rfl rfl) ?_
       intro W hS1
       have hS := Lib.hid hS1
       clear hS1)
    | ((with_reducible refine (hcut.out _ W.heap.size ?hZ).mono ?hM)
       case hZ => exact zsAt_idx W
       rintro e W2 ⟨rfl, rfl⟩
       have hS1 := hS.out.later ((Below.refl _ W).alloc (Nat.le_refl _) (.cells #[.int .i64 0, .int .i64 128, .int .i64 96] 3)))
    | ((with_reducible refine at_load 61 ?_); go_loud (refine wpList_value (by rfl) _ (run_load_box _ 61 _ (by rfl) (w.heap.size + 1) (by rfl) _ _ (0, 0) _ hS1.hX Tryd.underlying61 rfl (by rw [size_idx, List.size_toArray, idxC_length])) ?_))
    | ((with_reducible refine at_store 61 ?_); refine at_staddr 61 w.heap.size 0 rfl ?_; go_loud (refine wpList_plain rfl fun K hK => wp_store_row 61 _ _ rfl w.heap.size rfl _ rfl (idxC_one _ _ _ _ _) (by rw [size_idx, List.size_toArray, idxC_length]) _ 61 hS1.hR rfl (fun W11 hC11 hA11 => hK _ _ ?_)); clear hK K))
  exact ret_mid_tmp rfl w.heap.size 0 (idxC (.slice none 0 0) (fun _ => 0) (fun _ => 0)) _ rfl (range_whole hC11) Tryd.underlying61 rfl (by rw [size_idx, idxC_length]) rfl ⟨rfl, hA11.below hS1.hB (Nat.le_refl _) (by have := hS1.size; omega)⟩
set_option maxHeartbeats 16000000 in
theorem rreadIdx_form (l : List Int) (L : Nat) (va : Option Addr) (c : Nat) (w : World) (hs0 : SlB va c l w) (hL0 : l.length = L) (hb : 228 ≤ L) (hfew : L ≤ 70368744177664) (hoff0 : offL l 0 ≠ 228) :
    Calls Tryd.prog 26 #[.slice va L c] w fun e w' => e = .returned (.tuple #[.agg (idxC (.slice none 0 0) (fun _ => 0) (fun _ => 0)).toArray, .int .i64 ((5 : Nat) : Int)]) ∧ Below w.heap.size w w' := by
  have hoff := Lib.hid hoff0
  clear hoff0
  have hs := Lib.hid hs0
  have hL := Lib.hid hL0
  clear hs0 hL0
  go_enter Tryd.func26, Tryd.ntmps26
  have hcut := Lib.hid (fun (W : World) (gs : Nat) (hl : SlB va c l W) (hZ : IntsAt gs [0, 128, 96] W) => cutu_form l va c gs [0, 128, 96] 3 3 W hl hZ rfl (by decide) (by decide) (by decide) (by rw [hL.out]; exact hb) (by decide) (by rw [hL.out]; exact hfew) 1 rfl (by decide) (off_one_bad hoff.out))
  rw [hL.out] at hcut
  go_wp2_with (first
    | ((with_reducible refine at_alloc 61 ?_); refine wpList_plain rfl fun K hK => wp_alloc_row 61 rfl 2 rfl _ 197 infoIdx (hK _ _ ?_); clear hK K)
    | ((with_reducible refine at_alloc 61 ?_); refine wpList_plain rfl fun K hK => wp_alloc_row 61 rfl 4 rfl _ 197 infoIdx (hK _ _ ?_); clear hK K
       refine gen_l (fun W => RqX w.heap.size (idxC (.slice none 0 0) (fun _ => 0) (fun _ => 0)) (idxC (.slice none 0 0) (fun _ => 0) (fun _ => 0)) 61 w W) (RqX.begin rfl rfl rfl) ?_
       intro W hS1
       have hS := Lib.hid hS1
       clear hS1)
    | ((with_reducible refine (hcut.out _ W.heap.size ?hI ?hZ).mono ?hM)
       case hI => exact (hs.out.later hS.out.hB).later ((Below.refl _ W).alloc (Nat.le_refl _) _)
       case hZ => exact zsAt_idx W
       rintro e W2 ⟨rfl, hb2⟩
       have hS1 := (hS.out.later ((Below.refl _ W).alloc (Nat.le_refl _) (.cells #[.int .i64 0, .int .i64 128, .int .i64 96] 3))).later hb2)
    | ((with_reducible refine at_load 61 ?_); go_loud (refine wpList_value (by rfl) _ (run_load_box _ 61 _ (by rfl) (w.heap.size + 1) (by rfl) _ _ (0, 0) _ hS1.hX Tryd.underlying61 rfl (by rw [size_idx, List.size_toArray, idxC_length])) ?_))
    | ((with_reducible refine at_store 61 ?_); refine at_staddr 61 w.heap.size 0 rfl ?_; go_loud (refine wpList_plain rfl fun K hK => wp_store_row 61 _ _ rfl w.heap.size rfl _ rfl (idxC_one _ _ _ _ _) (by rw [size_idx, List.size_toArray, idxC_length]) _ 61 hS1.hR rfl (fun W11 hC11 hA11 => hK _ _ ?_)); clear hK K))
  exact ret_mid_tmp rfl w.heap.size 0 (idxC (.slice none 0 0) (fun _ => 0) (fun _ => 0)) _ rfl (range_whole hC11) Tryd.underlying61 rfl (by rw [size_idx, idxC_length]) rfl ⟨rfl, hA11.below hS1.hB (Nat.le_refl _) (by have := hS1.size; omega)⟩
/-- With the parts that were cut. -/
structure RqP (n : Nat) (Z C : List Value) (t : TypeId) (gp cp : Nat) (ps : List (List Int)) (w W : World) : Prop extends RqX n Z C t w W where
  hP : PartsV (n + 1 + 1) (.slice (some ⟨gp, 0, none⟩) ps.length cp) ps W
section
variable {n : Nat} {Z C : List Value} {t : TypeId} {gp cp : Nat} {ps : List (List Int)} {w W W' : World}
theorem RqP.later (h : RqP n Z C t gp cp ps w W) (hb : Below W.heap.size W W') : RqP n Z C t gp cp ps w W' := ⟨h.toRqX.later hb, h.hP.later hb⟩
theorem RqP.set {C' : List Value} (h : RqP n Z C t gp cp ps w W) (hA : Apart (n + 1) W W') (hC : W'.heap[n + 1]? = some (.cells C'.toArray t (0, 0))) : RqP n Z C' t gp cp ps w W' := ⟨h.toRqX.set hA hC, h.hP.move hA (by omega)⟩
theorem RqP.part (h : RqP n Z C t gp cp ps w W) (i k : Nat) (q : List Int) (hi : i < ps.length) (hq : ps.getD i [] = q) (hk : q.length = k) : ∃ va ci, W.cell? ⟨gp, i, none⟩ = some (.slice va k ci) ∧ SlB va ci q W ∧ ∀ b o, va = some ⟨b, o, none⟩ → n + 1 + 1 ≤ b := by
  obtain ⟨g, c, e, hg, hgs, h2⟩ := h.hP
  injection e with e1 e2 e3
  cases e1
  obtain ⟨va, ci, h3, h4, h5, h6, h7⟩ := h2 i hi
  rw [hq] at h3 h4 h6
  rw [hk] at h3
  exact ⟨va, ci, h3, ⟨h4, h5, h6, fun b o e => (h7 b o e).2⟩, fun b o e => (h7 b o e).1⟩
theorem RqP.of (h : RqX n Z C t w W) {v : Value} {k : Nat} (hk : ps.length = k) (hb : Below W.heap.size W W') (hP : PartsV W.heap.size v ps W') : ∃ gp cp, v = .slice (some ⟨gp, 0, none⟩) k cp ∧ RqP n Z C t gp cp ps w W' := by
  subst hk
  have hs := h.size
  obtain ⟨g, c, e, hg, hgs, h2⟩ := hP
  refine ⟨g, c, e, h.later hb, g, c, rfl, by omega, hgs, fun i hi => ?_⟩
  obtain ⟨va, ci, h3, h4, h5, h6, h7⟩ := h2 i hi
  exact ⟨va, ci, h3, h4, h5, h6, fun b o e => ⟨by have := (h7 b o e).1; omega, (h7 b o e).2⟩⟩
end
/-- A struct is stored into a field. -/
theorem wpList_rowsP {n : Nat} {Z C : List Value} {t : TypeId} {gp cp : Nat} {ps : List (List Int)} {w W : World} {ops : Array Oper} {rest : List Oper} {o : Oper} {a : Act} {Q : Exit → Act → World → Prop} (hg : o.guard = none) (ty : TypeId) (x y : Operand) (ho : o.op = .store ty x y) (off : Nat) (hx : a.eval x = .pointer (some ⟨n + 1, off, none⟩)) (vs : List Value) (hy : a.eval y = .agg vs.toArray) (hz : (Tryd.prog.info? ty).map (·.size) = some vs.length) (h1 : ∀ v ∈ vs, v.oneCell' = true)
    (h : RqP n Z C t gp cp ps w W) (pre mid post : List Value) (hC : C = pre ++ (mid ++ post)) (hp : pre.length = off) (hl : vs.length = mid.length) (hk : ∀ W', RqP n Z (pre ++ (vs ++ post)) t gp cp ps w W' → Apart (n + 1) W W' → wpList Tryd.prog ops Q rest (a.put o.dst undef) W') : wpList Tryd.prog ops Q (o :: rest) a W := by
  subst hC
  have ht : W.there (n + 1) off vs.toArray.size := fun j hj => by
    have hj : j < vs.length := by simpa using hj
    refine ⟨?_, Joins.unfrozen_of_block h.hX _⟩
    rw [cell_of_row W (n + 1) _ _ _ _ h.hX, List.getElem?_toArray, List.getElem?_append_right (by omega), List.getElem?_append_left (by omega), List.getElem?_eq_getElem (by omega)]
    rfl
  refine wpList_plain hg fun Kc hKc => wp_store_mid ty x y ho (n + 1) off _ hx hy ht (by rw [hz]; simp) (by simpa using h1) (hKc _ _ (hk _ ?_ ?_))
  · have hA : Apart (n + 1) W (W.setCells (n + 1) off vs.toArray.toList) := (Apart.refl _ _).setCells _ _ _ (Or.inl rfl)
    have hC := setCells_list (n + 1) vs.toArray.toList off W _ t h.hX (by simp; omega)
    rw [show (pre ++ (mid ++ post)).toArray.toList = pre ++ (mid ++ post) from rfl, show vs.toArray.toList = vs from rfl, splice_mid hp hl] at hC
    exact h.set hA hC
  · exact (Apart.refl _ _).setCells _ _ _ (Or.inl rfl)
theorem cutU_idx {l : List Int} {L k : Nat} (hL : l.length = L) (ho : offL l 0 = 228) (hk : L = 228 + k) : cutU [0, 128, 96] l = [(l.drop 228).take k, (l.drop 4).take 128, (l.drop 132).take 96] := by
  have e : L - 228 = k := by omega
  simp [cutU, partU, cutO, cutA, headN, List.range_succ, ho, hL, e]
set_option maxHeartbeats 16000000 in
theorem rreadIdx_each (l : List Int) (L k : Nat) (va : Option Addr) (c : Nat) (w : World) (hs0 : SlB va c l w) (hL0 : l.length = L) (hLk0 : L = 228 + k) (hfew : L ≤ 70368744177664) (hoff0 : offL l 0 = 228) (er : Nat) (hE : eachE k 8 64 = (er : Int)) (he0 : ¬ (er = 0)) :
    Calls Tryd.prog 26 #[.slice va L c] w fun e w' => e = .returned (.tuple #[.agg (idxC (.slice none 0 0) (fun _ => 0) (fun _ => 0)).toArray, .int .i64 (er : Int)]) ∧ Below w.heap.size w w' := by
  have hE' := Lib.hid (fun va c w => show Calls Tryd.prog 79 #[.slice va k c, .int .i64 8, .int .i64 64] w (fun e w' => e = .returned (.tuple #[.slice none 0 0, .int .i64 (er : Int)]) ∧ w = w') from reach_bad va c k 8 64 (er : Int) w (by omega) (by decide) hE (by omega))
  clear hE
  have hk3 := Lib.hid hLk0
  have hoff := Lib.hid hoff0
  clear hoff0 hLk0
  have hs := Lib.hid hs0
  have hL := Lib.hid hL0
  clear hs0 hL0
  go_enter Tryd.func26, Tryd.ntmps26
  have hcut := Lib.hid (fun (W : World) (gs : Nat) (hl : SlB va c l W) (hZ : IntsAt gs [0, 128, 96] W) => cutu_ok l va c gs [0, 128, 96] 3 3 W hl hZ rfl (by decide) (by decide) (by decide) (by rw [hL.out, hk3.out]; exact Nat.le_add_right _ _) (by decide) (by rw [hL.out]; exact hfew) 1 rfl (by decide) (off_one hoff.out (by rw [hL.out, hk3.out]; exact Nat.le_add_right _ _)))
  rw [hL.out, cutU_idx hL.out hoff.out hk3.out] at hcut
  have hl0 := Lib.hid (show ((l.drop 228).take k).length = k by rw [List.length_take, List.length_drop, hL.out, hk3.out]; omega)
  have hl1 := Lib.hid (show ((l.drop 4).take 128).length = 128 by rw [List.length_take, List.length_drop, hL.out, hk3.out]; omega)
  have hl2 := Lib.hid (show ((l.drop 132).take 96).length = 96 by rw [List.length_take, List.length_drop, hL.out, hk3.out]; omega)
  have hne : ((er : Int) == 0) = false := by simp; omega
  have hne2 : ((er : Int) != 0) = true := by simp; omega
  go_wp2_with (first
    | ((with_reducible refine at_alloc 61 ?_); refine wpList_plain rfl fun K hK => wp_alloc_row 61 rfl 2 rfl _ 197 infoIdx (hK _ _ ?_); clear hK K)
    | ((with_reducible refine at_alloc 61 ?_); refine wpList_plain rfl fun K hK => wp_alloc_row 61 rfl 4 rfl _ 197 infoIdx (hK _ _ ?_); clear hK K
       refine gen_l (fun W => RqX w.heap.size (idxC (.slice none 0 0) (fun _ => 0) (fun _ => 0)) (idxC (.slice none 0 0) (fun _ => 0) (fun _ => 0)) 61 w W) (RqX.begin rfl rfl rfl) ?_
       intro W hS1
       have hS := Lib.hid hS1
       clear hS1)
    | ((with_reducible refine (hcut.out _ W.heap.size ?hI ?hZ).mono ?hM)
       case hI => exact (hs.out.later hS.out.hB).later ((Below.refl _ W).alloc (Nat.le_refl _) _)
       case hZ => exact zsAt_idx W
       rintro e W2 ⟨⟨v, rfl, hP1⟩, hb2⟩
       obtain ⟨gp, cp, rfl, hS1⟩ := RqP.of (hS.out.later ((Below.refl _ W).alloc (Nat.le_refl _) (.cells #[.int .i64 0, .int .i64 128, .int .i64 96] 3))) (k := 3) rfl hb2 hP1
       clear hS hP1 hb2
       have hS := Lib.hid hS1
       obtain ⟨vq, cq, hcq1, hq1, _⟩ := hS1.part 0 k ((l.drop 228).take k) (by simp) rfl hl0.out
       have hcq := Lib.hid hcq1
       clear hS1 hcq1 hq1)
    | ((with_reducible refine at_iaddr 96 ?_); refine wpList_value (by rfl) _ (run_index_slice _ 96 34 _ _ rfl Tryd.underlying96 1 sz_bs gp 0 3 cp rfl .i64 0 rfl (by decide) 0 (by decide)) ?_)
    | ((with_reducible refine at_load 34 ?_); refine wpList_value (by rfl) _ (run_load_cell _ 34 _ (by rfl) ⟨gp, 0, none⟩ rfl (.slice vq k cq) hcq.out _ Tryd.underlying34 rfl) ?_)
    | ((with_reducible refine (hE'.out vq cq _).mono ?_)
       rintro e W3 ⟨rfl, rfl⟩)
    | ((with_reducible refine at_build 61 ?_); go_loud (refine wpList_value (by rfl) _ (run_build_idx0 _ rfl) ?_))
    | ((with_reducible refine at_store 61 ?_); refine at_staddr 61 w.heap.size 0 rfl ?_; go_loud (refine wpList_plain rfl fun K hK => wp_store_row 61 _ _ rfl w.heap.size rfl _ rfl (idxC_one _ _ _ _ _) (by rw [size_idx, List.size_toArray, idxC_length]) _ 61 hS.out.hR rfl (fun W11 hC11 hA11 => hK _ _ ?_)); clear hK K))
  exact ret_mid_tmp rfl w.heap.size 0 (idxC (.slice none 0 0) (fun _ => 0) (fun _ => 0)) _ rfl (range_whole hC11) Tryd.underlying61 rfl (by rw [size_idx, idxC_length]) rfl ⟨rfl, hA11.below hS.out.hB (Nat.le_refl _) (by have := hS.out.size; omega)⟩
theorem fcells_set {N m : Nat} {f g : Nat → Int} {y : Int} (hm : m < N) (hg : ∀ i, i < N → g i = if i = m then y else f i) : (fcells N (fun _ => .u8) f).set m (.int .u8 y) = fcells N (fun _ => .u8) g := by
  apply List.ext_getElem?
  intro i
  rw [List.getElem?_set]
  by_cases hi : i < N
  · rw [fcells_get _ _ _ _ hi, fcells_get _ _ _ _ hi, hg i hi, fcells_length]
    by_cases e : m = i
    · subst e
      rw [if_pos rfl, if_pos hm, if_pos rfl]
      rfl
    · rw [if_neg e, if_neg (fun h => e h.symm)]
  · have e : m ≠ i := by omega
    rw [if_neg e, List.getElem?_eq_none (by rw [fcells_length]; omega), List.getElem?_eq_none (by rw [fcells_length]; omega)]
theorem idxC_set {s : Value} {fd f g : Nat → Int} {m : Nat} {y : Int} (hm : m < 96) (hg : ∀ i, i < 96 → g i = if i = m then y else f i) : (idxC s fd f).toArray.setIfInBounds (101 + m) (.int .u8 y) = (idxC s fd g).toArray := by
  rw [List.setIfInBounds_toArray]
  congr 1
  show ((s :: fcells 100 kdData fd) ++ fcells 96 (fun _ => .u8) f).set (101 + m) _ = (s :: fcells 100 kdData fd) ++ fcells 96 (fun _ => .u8) g
  rw [List.set_append_right _ _ (by simp [fcells_length])]
  congr 1
  rw [show 101 + m - (s :: fcells 100 kdData fd).length = m by simp [fcells_length]]
  exact fcells_set hm hg
def sigUp (l : List Int) (j i : Nat) : Int := if i < j then l.getD (132 + i) 0 else 0
set_option maxHeartbeats 16000000 in
theorem rreadIdx_ok (l : List Int) (L kk : Nat) (va : Option Addr) (c : Nat) (w : World) (hs0 : SlB va c l w) (hL0 : l.length = L) (hLk00 : L = 228 + 8 * kk) (hk64 : kk ≤ 64) (hoff0 : offL l 0 = 228) :
    Calls Tryd.prog 26 #[.slice va L c] w fun e w' => (∃ vn cn, e = .returned (.tuple #[.agg (idxC (.slice vn kk cn) (rdData ((l.drop 4).take 128)) (fun j => l.getD (132 + j) 0)).toArray, .int .i64 0]) ∧ w'.ownsRow w.heap.size 27 1 (.slice vn kk cn) kk ((numsR (l.drop 228) kk).map (Value.int .u64))) ∧ Below w.heap.size w w' := by
  have hfew : L ≤ 70368744177664 := by omega
  obtain ⟨k, hkk⟩ : ∃ k, k = 8 * kk := ⟨_, rfl⟩
  have hLk0 : L = 228 + k := by omega
  clear hLk00
  have hkk' := Lib.hid hkk
  have hnt0 := numsR_take (l.drop 228) kk
  obtain ⟨nums, hnums⟩ : ∃ nums, nums = numsR (l.drop 228) kk := ⟨_, rfl⟩
  rw [← hnums] at hnt0 ⊢
  have hnl : nums.length = kk := by rw [hnums, numsR_length]
  have hnt := Lib.hid hnt0
  have hE' := Lib.hid (fun va c w (h : SlB va c ((l.drop 228).take k) w) => show Calls Tryd.prog 79 #[.slice va k c, .int .i64 8, .int .i64 64] w (fun e w' => (∃ v, e = .returned (.tuple #[v, .int .i64 0]) ∧ OutI w.heap.size kk v (fun i => (((l.drop 228).take k).drop (8 * i)).take 8) w') ∧ Below w.heap.size w w') from reach_any ((l.drop 228).take k) kk 8 64 k hk64 (by decide) hkk.symm (by rw [List.length_take, List.length_drop, hL0, hLk0]; omega) (by omega) (by decide) (by omega) va c w h)
  clear hkk hnums hnt0
  have hk3 := Lib.hid hLk0
  have hoff := Lib.hid hoff0
  clear hoff0 hLk0
  have hs := Lib.hid hs0
  have hL := Lib.hid hL0
  clear hs0 hL0
  go_enter Tryd.func26, Tryd.ntmps26
  have hcut := Lib.hid (fun (W : World) (gs : Nat) (hl : SlB va c l W) (hZ : IntsAt gs [0, 128, 96] W) => cutu_ok l va c gs [0, 128, 96] 3 3 W hl hZ rfl (by decide) (by decide) (by decide) (by rw [hL.out, hk3.out]; exact Nat.le_add_right _ _) (by decide) (by rw [hL.out]; exact hfew) 1 rfl (by decide) (off_one hoff.out (by rw [hL.out, hk3.out]; exact Nat.le_add_right _ _)))
  rw [hL.out, cutU_idx hL.out hoff.out hk3.out] at hcut
  have hl0 := Lib.hid (show ((l.drop 228).take k).length = k by rw [List.length_take, List.length_drop, hL.out, hk3.out]; omega)
  have hl1 := Lib.hid (show ((l.drop 4).take 128).length = 128 by rw [List.length_take, List.length_drop, hL.out, hk3.out]; omega)
  have hl2 := Lib.hid (show ((l.drop 132).take 96).length = 96 by rw [List.length_take, List.length_drop, hL.out, hk3.out]; omega)
  go_wp2_with (first
    | ((with_reducible refine at_alloc 61 ?_); refine wpList_plain rfl fun K hK => wp_alloc_row 61 rfl 2 rfl _ 197 infoIdx (hK _ _ ?_); clear hK K)
    | ((with_reducible refine at_alloc 61 ?_); refine wpList_plain rfl fun K hK => wp_alloc_row 61 rfl 4 rfl _ 197 infoIdx (hK _ _ ?_); clear hK K
       refine gen_l (fun W => RqX w.heap.size (idxC (.slice none 0 0) (fun _ => 0) (fun _ => 0)) (idxC (.slice none 0 0) (fun _ => 0) (fun _ => 0)) 61 w W) (RqX.begin rfl rfl rfl) ?_
       intro W hS1
       have hS := Lib.hid hS1
       clear hS1)
    | ((with_reducible refine (hcut.out _ W.heap.size ?hI ?hZ).mono ?hM)
       case hI => exact (hs.out.later hS.out.hB).later ((Below.refl _ W).alloc (Nat.le_refl _) _)
       case hZ => exact zsAt_idx W
       rintro e W2 ⟨⟨v, rfl, hP1⟩, hb2⟩
       obtain ⟨gp, cp, rfl, hS1⟩ := RqP.of (hS.out.later ((Below.refl _ W).alloc (Nat.le_refl _) (.cells #[.int .i64 0, .int .i64 128, .int .i64 96] 3))) (k := 3) rfl hb2 hP1
       clear hS hP1 hb2
       have hS := Lib.hid hS1
       obtain ⟨vq, cq, hcq1, hq1, _⟩ := hS1.part 0 k ((l.drop 228).take k) (by simp) rfl hl0.out
       have hcq := Lib.hid hcq1
       have hq := Lib.hid hq1
       clear hS1 hcq1 hq1)
    | ((with_reducible refine at_iaddr 96 ?_); refine wpList_value (by rfl) _ (run_index_slice _ 96 34 _ _ rfl Tryd.underlying96 1 sz_bs gp 0 3 cp rfl .i64 0 rfl (by decide) 0 (by decide)) ?_)
    | ((with_reducible refine at_load 34 ?_); refine wpList_value (by rfl) _ (run_load_cell _ 34 _ (by rfl) ⟨gp, 0, none⟩ rfl (.slice vq k cq) hcq.out _ Tryd.underlying34 rfl) ?_)
    | ((with_reducible refine (hE'.out vq cq _ hq.out).mono ?_)
       rintro e W3 ⟨⟨vE, rfl, hO1⟩, hb3⟩
       obtain ⟨ve, ce, rfl⟩ := hO1.form
       have hS1 := hS.out.later hb3
       have hzE : w.heap.size + 2 ≤ W2.heap.size := hS.out.size
       have hO := Lib.hid hO1
       clear hS hb3 hO1 hE' hcq hq
       have hS := Lib.hid hS1
       clear hS1))
  have hplen : ∀ j, j < kk → ((((l.drop 228).take k).drop (8 * j)).take 8).length = 8 := fun j hj => by
    have h1 := hl0.out
    have h2 := hkk'.out
    rw [List.length_take, List.length_drop, h1]
    omega
  have hpc : ∀ j, j < kk → (((l.drop 228).take k).drop (8 * j)).take 8 = ((l.drop 228).drop (8 * j)).take 8 := fun j hj => by
    have h2 := hkk'.out
    rw [List.drop_take, List.take_take, show min 8 (k - 8 * j) = 8 by omega]
  have hat := Lib.hid (fun j hj => OutI.at' hO.out j hj)
  have hplenH := Lib.hid hplen
  have hpcH := Lib.hid hpc
  have hz3 := hS.out.size
  have hS3 := Lib.hid hS.out
  clear hplen hpc hO
  go_loopw [9] (fun i wr => ∃ (j : Nat) (v : Value), j ≤ kk ∧ i = .int .i64 (j : Int) ∧ wr.heap[w.heap.size + 1]? = some (.cells (idxC v (fun _ => 0) (fun _ => 0)).toArray 61 (0, 0)) ∧ wr.ownsRow W3.heap.size 27 1 v j ((nums.take j).map (Value.int .u64)) ∧ Apart (w.heap.size + 1) W3 wr) (fun i _ => kk - (intOf i).toNat)
  case atStart => exact ⟨0, _, by omega, rfl, hS.out.hX, ⟨rfl, Or.inl ⟨rfl, rfl⟩⟩, Apart.refl _ _⟩
  case round =>
    obtain ⟨j, v, hj, rfl, hX1, hN1, hA1⟩ := hrel
    obtain ⟨wr0, hwr0⟩ : ∃ W, W = wr := ⟨_, rfl⟩
    subst hwr0
    clear hS
    obtain ⟨vn, cn, rfl, hvn⟩ := own_form hN1
    have hX := Lib.hid hX1
    have hN := Lib.hid hN1
    have hA := Lib.hid hA1
    clear hX1 hN1 hA1
    by_cases hlt : j < kk
    · have lj : (j : Int) < (kk : Int) := by omega
      obtain ⟨g, b, o, ci, ⟨cap, hve⟩, hc1, hr1, hg1, hg2, hb1, hb2⟩ := hat.out j hlt
      injection hve with hve1 hve2 hve3
      subst hve1
      subst hve3
      have hlen8 := hplenH.out j hlt
      rw [hlen8] at hc1
      have hc := Lib.hid ((hA.out.cell (p := ⟨g, j, none⟩) hg2 (show g ≠ w.heap.size + 1 by omega)).trans hc1)
      have hr2 : Row wr0 (some ⟨b, o, none⟩) .u8 (((l.drop 228).drop (8 * j)).take 8) := by
        rw [← hpcH.out j hlt]
        exact ⟨fun q hq => by
          obtain ⟨b', o', e, hcc⟩ := hr1.cell q hq
          cases e
          exact ⟨b, o, rfl, (hA.out.cell (p := ⟨b, o + q, none⟩) hb2 (show b ≠ w.heap.size + 1 by omega)).trans hcc⟩, hr1.ok⟩
      rw [hpcH.out j hlt] at hlen8
      have hntj := Lib.hid (hnt.out j hlt)
      generalize ((l.drop 228).drop (8 * j)).take 8 = q at *
      have h8 := Lib.hid (show Calls Tryd.prog 80 #[.slice (some ⟨b, o, none⟩) 8 ci] wr0 fun e w' => e = .returned (.tuple #[.int .u64 (rdQ q), .int .i64 0]) ∧ wr0 = w' from by
        have h := rread_any q (some ⟨b, o, none⟩) ci wr0 hr2
        rw [hlen8, if_pos rfl, if_pos rfl] at h
        exact h)
      clear hr1 hr2 hc1 hlen8
      generalize rdQ q = y at *
      have hxl : wr0.cell? ⟨w.heap.size + 1, 0, none⟩ = some (.slice vn j cn) := by rw [cell_of_row wr0 _ 0 _ _ _ hX.out]; rfl
      have hxlH := Lib.hid hxl
      clear hxl
      go_wp2_with (first
        | ((with_reducible refine at_iaddr 96 ?_); go_loud (refine wpList_value (by rfl) _ (run_index_slice _ 96 34 _ _ rfl Tryd.underlying96 1 sz_bs g 0 kk ce rfl .i64 j rfl hlt j (by omega)) ?_))
        | ((with_reducible refine at_load 34 ?_); go_loud (refine wpList_value (by rfl) _ (run_load_cell _ 34 _ (by rfl) ⟨g, j, none⟩ (by rfl) (.slice (some ⟨b, o, none⟩) 8 ci) hc.out _ Tryd.underlying34 rfl) ?_))
        | ((with_reducible refine h8.out.mono ?_)
           rintro e W1 ⟨rfl, rfl⟩
           clear h8)
        | ((with_reducible refine at_load 55 ?_); go_loud (refine wpList_value (by rfl) _ (run_load_cell _ 55 _ (by rfl) ⟨w.heap.size + 1, 0, none⟩ (by rfl) (.slice vn j cn) hxlH.out _ Tryd.underlying55 rfl) ?_))
        | ((with_reducible refine at_bslice 55 ?_); go_loud (refine wpList_plain rfl fun K hK => wp_ran _ (run_bslice_u64 _ _ (by rfl) y (by rfl)) (hK _ _ ?_)); clear hK K)
        | ((with_reducible refine at_app 55 ?_); go_loud (refine wpList_plain rfl fun K hK => wp_appS (w0 := wr0) (n0 := W3.heap.size) (.tmp 48) (.tmp 50) 55 27 rfl Tryd.underlying55 (.int .u64 0) 1 8 info_u64a rfl (by decide) W3.heap.size j (.slice vn j cn) _ rfl (own_later hN.out ((Below.refl _ _).alloc (Nat.le_refl _) _)) ⟨wr0.heap.size, 0, none⟩ 1 1 rfl [.int .u64 y] rfl (range_whole (heap_new _ _ _ _ rfl)) rfl (by simp [Value.oneCell']) (by omega) (by omega) (by rw [World.size_alloc]; have := hA.out.size; omega) (Nat.le_refl _) ((Below.refl _ _).alloc hA.out.size _) (fun v1 W1 h1 b1 z1 o1 q1 => hK _ _ ?_)); clear hK K
           obtain ⟨va1, c1, e1, _⟩ := own_form h1
           subst e1
           have h1' := Lib.hid h1
           have hap := Lib.hid (show Apart (w.heap.size + 1) W3 W1 from ⟨b1.os.trans hA.out.os, b1.tape.trans hA.out.tape, b1.output.trans hA.out.output, Nat.le_trans hA.out.size b1.size, fun b hb hbi => (b1.block b hb).trans (hA.out.block b hb hbi)⟩)
           have hC1 := Lib.hid ((b1.block (w.heap.size + 1) (by omega)).trans hX.out)
           clear h1 b1 z1 o1 q1)
        | ((with_reducible refine at_store 55 ?_); refine at_staddr 55 (w.heap.size + 1) 0 rfl ?_; go_loud (refine wpList_plain rfl fun K hK => wp_store1 55 _ _ rfl (w.heap.size + 1) 0 rfl (.slice va1 (j + 1) c1) rfl rfl sz_us _ _ hC1.out (by simp [idxC]) (fun W2 hC2 hx2 => hK _ _ ?_)); clear hK K))
      have hN2 : W2.ownsRow W3.heap.size 27 1 (.slice va1 (j + 1) c1) (j + 1) ((nums.take (j + 1)).map (Value.int .u64)) := by
        have h5 := own_apart h1'.out hx2 (by omega)
        rw [hntj.out, List.map_append]
        exact h5
      exact ⟨⟨j + 1, .slice va1 (j + 1) c1, by omega, by go_num, hC2, hN2, hap.out.trans hx2⟩, by simp [intOf]; omega⟩
    · have e : j = kk := by omega
      subst e
      clear hnt hat hplenH hpcH hlt hj
      have hS := Lib.hid (hS3.out.set hA.out hX.out)
      have hNw := own_weak hN.out (show w.heap.size + 2 ≤ W3.heap.size from hz3)
      rw [← hnl, List.take_length, hnl] at hNw
      have hM := Lib.hid hNw
      clear hS3 hNw hN hX hA hvn
      obtain ⟨vq, cq, hcq1, hq1, _⟩ := hS.out.part 1 128 ((l.drop 4).take 128) (by simp) rfl hl1.out
      have hcq := Lib.hid hcq1
      have hq := Lib.hid hq1
      clear hcq1 hq1
      go_wp2_with (first
        | ((with_reducible refine at_iaddr 96 ?_); refine wpList_value (by rfl) _ (run_index_slice _ 96 34 _ _ rfl Tryd.underlying96 1 sz_bs gp 0 3 cp rfl .i64 1 rfl (by decide) 1 (by decide)) ?_)
        | ((with_reducible refine at_load 34 ?_); refine wpList_value (by rfl) _ (run_load_cell _ 34 _ (by rfl) ⟨gp, 1, none⟩ rfl (.slice vq 128 cq) hcq.out _ Tryd.underlying34 rfl) ?_)
        | ((with_reducible refine (rreadData_ok _ vq cq _ hq.out hl1.out).mono ?_)
           rintro e W6 ⟨rfl, hb1⟩
           have hS1 := hS.out.later hb1
           have hM1 := own_later hM.out hb1
           clear hb1 hS hM hq hcq
           have hS := Lib.hid hS1
           have hM := Lib.hid hM1
           clear hS1 hM1)
        | ((with_reducible refine at_store 59 ?_); refine at_staddr 59 (w.heap.size + 1) 1 rfl ?_; refine wpList_rowsP rfl 59 _ _ rfl 1 rfl (fcells 100 kdData (rdData ((l.drop 4).take 128))) rfl (by rw [row_size rowData, fcells_length]) fcells_mem hS.out [.slice vn j cn] (fcells 100 kdData fun _ => 0) (fcells 96 (fun _ => .u8) fun _ => 0) rfl rfl (by rw [fcells_length, fcells_length]) (fun W7 hS1 hA7 => ?_)
           have hM1 := own_apart hM.out hA7 (by omega)
           clear hS hM hA7
           have hS := Lib.hid hS1
           have hM := Lib.hid hM1
           clear hS1 hM1))
      obtain ⟨WS, hWS⟩ : ∃ WS, WS = W7 := ⟨_, rfl⟩
      subst hWS
      have hS7 := Lib.hid hS.out
      have hz7 := hS.out.size
      obtain ⟨vq, cq, hcq1, hq1, hql1⟩ := hS.out.part 2 96 ((l.drop 132).take 96) (by simp) rfl hl2.out
      obtain ⟨bq, oq, rfl, _⟩ := hq1.row.cell 0 (by rw [hl2.out]; decide)
      have hqb := hql1 bq oq rfl
      have hqs := hq1.low bq oq rfl
      have hpcell := Lib.hid (fun (W : World) (h : Apart (w.heap.size + 1) WS W) => (h.cell (p := ⟨gp, 2, none⟩) (block_lt_of_cell hcq1) (show gp ≠ w.heap.size + 1 by
        obtain ⟨g, c', e, hg, _⟩ := hS.out.hP
        injection e with e1
        cases e1
        omega)).trans hcq1)
      have hqcell := Lib.hid (fun (W : World) (h : Apart (w.heap.size + 1) WS W) (j : Nat) (hj : j < 96) => show W.cell? ⟨bq, oq + j, none⟩ = some (.int .u8 (l.getD (132 + j) 0)) from by
        obtain ⟨b', o', e, hc⟩ := hq1.row.cell j (by rw [hl2.out]; exact hj)
        cases e
        rw [drop_take_get _ _ _ _ hj] at hc
        exact (h.cell (p := ⟨bq, oq + j, none⟩) hqs (show bq ≠ w.heap.size + 1 by omega)).trans hc)
      clear hcq1 hq1 hql1
      go_loopw [11] (fun i wr => ∃ m : Nat, m ≤ 96 ∧ i = .int .i64 (m : Int) ∧ wr.heap[w.heap.size + 1]? = some (.cells (idxC (.slice vn j cn) (rdData ((l.drop 4).take 128)) (sigUp l m)).toArray 61 (0, 0)) ∧ Apart (w.heap.size + 1) WS wr) (fun i _ => 96 - (intOf i).toNat)
      case atStart => exact ⟨0, by omega, rfl, by rw [← idxC_sig (f := fun _ => 0) (g := sigUp l 0) (fun i hi => by simp [sigUp])]; exact hS.out.hX, Apart.refl _ _⟩
      case round =>
        obtain ⟨m, hm, rfl, hX1, hA1⟩ := hrel
        clear hS
        have hX := Lib.hid hX1
        have hA := Lib.hid hA1
        clear hX1 hA1
        by_cases hlt : m < 96
        · have lm : (m : Int) < 96 := by omega
          have hc1 := Lib.hid (hpcell.out _ hA.out)
          have hc2 := Lib.hid (hqcell.out _ hA.out m hlt)
          generalize hy : l.getD (132 + m) 0 = y at *
          have hy' := Lib.hid hy
          clear hy
          go_wp2_with (first
            | ((with_reducible refine at_iaddr 96 ?_); refine wpList_value (by rfl) _ (run_index_slice _ 96 34 _ _ rfl Tryd.underlying96 1 sz_bs gp 0 3 cp rfl .i64 2 rfl (by decide) 2 (by decide)) ?_)
            | ((with_reducible refine at_load 34 ?_); refine wpList_value (by rfl) _ (run_load_cell _ 34 _ (by rfl) ⟨gp, 2, none⟩ rfl (.slice (some ⟨bq, oq, none⟩) 96 cq) hc1.out _ Tryd.underlying34 rfl) ?_)
            | ((with_reducible refine at_iaddr 34 ?_); go_loud (refine wpList_value (by rfl) _ (run_index_slice _ 34 5 _ _ rfl Tryd.underlying34 1 sz_u8 bq oq 96 cq rfl .i64 m rfl hlt (oq + m) (by omega)) ?_))
            | ((with_reducible refine at_load 5 ?_); go_loud (refine wpList_value (by rfl) _ (run_load_cell _ 5 _ (by rfl) ⟨bq, oq + m, none⟩ rfl (.int .u8 y) hc2.out _ Tryd.underlying5 rfl) ?_))
            | ((with_reducible refine at_store 5 ?_); go_loud (refine wpList_plain rfl fun K hK => wp_store1 5 _ _ rfl (w.heap.size + 1) (101 + m) rfl (.int .u8 y) rfl rfl sz_u8 _ _ hX.out (by simp [idxC, fcells_length]; omega) (fun W8 hC8 hx8 => hK _ _ ?_)); clear hK K))
          have hC9 : W8.heap[w.heap.size + 1]? = some (.cells (idxC (.slice vn j cn) (rdData ((l.drop 4).take 128)) (sigUp l (m + 1))).toArray 61 (0, 0)) := by
            rw [hC8, idxC_set (g := sigUp l (m + 1)) hlt (fun i hi => ?_)]
            rw [← hy'.out]
            unfold sigUp
            by_cases e : i = m
            · subst e; simp
            · rw [if_neg e]
              by_cases e2 : i < m
              · rw [if_pos e2, if_pos (by omega)]
              · rw [if_neg e2, if_neg (by omega)]
          exact ⟨⟨m + 1, by omega, by go_num, hC9, hA.out.trans hx8⟩, by simp [intOf]; omega⟩
        · have e : m = 96 := by omega
          subst e
          clear hlt hm
          have hX2 : wr.heap[w.heap.size + 1]? = some (.cells (idxC (.slice vn j cn) (rdData ((l.drop 4).take 128)) (fun i => l.getD (132 + i) 0)).toArray 61 (0, 0)) := by
            rw [← idxC_sig (f := sigUp l 96) (fun i hi => by simp [sigUp, hi])]
            exact hX.out
          have hM2 := own_apart hM.out hA.out (by omega)
          have hS2 := hS7.out.toRqX.set hA.out hX2
          clear hX hA hX2 hM hS7 hpcell hqcell
          have hS := Lib.hid hS2
          have hM := Lib.hid hM2
          clear hS2 hM2
          go_wp2_with (first
            | ((with_reducible refine at_load 61 ?_); go_loud (refine wpList_value (by rfl) _ (run_load_box _ 61 _ (by rfl) (w.heap.size + 1) (by rfl) _ _ (0, 0) _ hS.out.hX Tryd.underlying61 rfl (by rw [size_idx, List.size_toArray, idxC_length])) ?_))
            | ((with_reducible refine at_store 61 ?_); refine at_staddr 61 w.heap.size 0 rfl ?_; go_loud (refine wpList_plain rfl fun K hK => wp_store_row 61 _ _ rfl w.heap.size rfl _ rfl (idxC_one _ _ _ _ _) (by rw [size_idx, List.size_toArray, idxC_length]) _ 61 hS.out.hR (by rw [List.size_toArray, idxC_length, List.size_toArray, idxC_length]) (fun W11 hC11 hA11 => hK _ _ ?_)); clear hK K))
          have hM3 := own_weak (own_apart hM.out hA11 (by omega)) (show w.heap.size ≤ w.heap.size + 2 by omega)
          exact ret_mid_tmp rfl w.heap.size 0 (idxC (.slice vn j cn) (rdData ((l.drop 4).take 128)) (fun i => l.getD (132 + i) 0)) _ rfl (range_whole hC11) Tryd.underlying61 rfl (by rw [size_idx, idxC_length]) rfl ⟨⟨vn, cn, rfl, hM3⟩, hA11.below hS.out.hB (Nat.le_refl _) (by have := hS.out.size; omega)⟩
end Go.Proofs.YtihelknkcomjpaaDoor
namespace Go.Proofs.YtihelknkcomjpaaDoor
open Go.RowKit BigFrame
set_option maxRecDepth 100000
/-- What these bytes are read as. -/
def IdxRd (l : List Int) (eI : Nat) (who : List Int) (fd fs : Nat → Int) : Prop :=
  (eI ≠ 0 ∧ who = [] ∧ fd = (fun _ => 0) ∧ fs = (fun _ => 0) ∧ (l.length < 228 ∧ eI = 4 ∨ 228 ≤ l.length ∧ offL l 0 ≠ 228 ∧ eI = 5 ∨ 228 ≤ l.length ∧ offL l 0 = 228 ∧ each8 (l.length - 228) = (eI : Int))) ∨
  (eI = 0 ∧ ∃ k, l.length = 228 + 8 * k ∧ k ≤ 64 ∧ offL l 0 = 228 ∧ who = numsR (l.drop 228) k ∧ fd = rdData ((l.drop 4).take 128) ∧ fs = fun j => l.getD (132 + j) 0)
theorem each8_nat (L : Nat) : ∃ e : Nat, each8 L = (e : Int) := by
  unfold each8
  split
  · exact ⟨4, rfl⟩
  · split
    · exact ⟨6, rfl⟩
    · exact ⟨0, rfl⟩
theorem idxRd_some (l : List Int) : ∃ eI who fd fs, IdxRd l eI who fd fs := by
  by_cases c1 : l.length < 228
  · exact ⟨4, [], _, _, Or.inl ⟨by decide, rfl, rfl, rfl, Or.inl ⟨c1, rfl⟩⟩⟩
  · by_cases c2 : offL l 0 = 228
    · obtain ⟨e, he⟩ := each8_nat (l.length - 228)
      by_cases c3 : e = 0
      · subst c3
        unfold each8 at he
        split at he
        · cases he
        · split at he
          · cases he
          · refine ⟨0, _, _, _, Or.inr ⟨rfl, (l.length - 228) / 8, by omega, by omega, c2, rfl, rfl, rfl⟩⟩
      · exact ⟨e, [], _, _, Or.inl ⟨c3, rfl, rfl, rfl, Or.inr (Or.inr ⟨by omega, c2, he⟩)⟩⟩
    · exact ⟨5, [], _, _, Or.inl ⟨by decide, rfl, rfl, rfl, Or.inr (Or.inl ⟨by omega, c2, rfl⟩)⟩⟩
/-- The cells of an indexed attestation, its list standing. -/
def RepIdx (who : List Int) (fd fs : Nat → Int) (Y : Array Value) (W : World) : Prop :=
  ∃ vn cn, Y = (idxC (.slice vn who.length cn) fd fs).toArray ∧ Row W vn .u64 who
theorem RepIdx.later {who : List Int} {fd fs : Nat → Int} (Y : Array Value) (W W' : World) (h : RepIdx who fd fs Y W) (hb : Below W.heap.size W W') : RepIdx who fd fs Y W' := by
  obtain ⟨vn, cn, e, h1⟩ := h
  exact ⟨vn, cn, e, h1.later hb⟩
theorem RepIdx.size {who : List Int} {fd fs : Nat → Int} {Y : Array Value} {W : World} (h : RepIdx who fd fs Y W) : Y.size = 197 := by
  obtain ⟨vn, cn, rfl, _⟩ := h
  rw [List.size_toArray, idxC_length]
theorem RepIdx.one {who : List Int} {fd fs : Nat → Int} {Y : Array Value} {W : World} (h : RepIdx who fd fs Y W) : Y.all (·.oneCell') = true := by
  obtain ⟨vn, cn, rfl, _⟩ := h
  exact idxC_one _ _ _ _ _
theorem RepIdx.congr {who : List Int} {fd fs fd' fs' : Nat → Int} {Y : Array Value} {W : World} (h : RepIdx who fd fs Y W) (hd : ∀ j, j < 100 → fd j = fd' j) (hs : ∀ j, j < 96 → fs j = fs' j) : RepIdx who fd' fs' Y W := by
  obtain ⟨vn, cn, e, h1⟩ := h
  refine ⟨vn, cn, ?_, h1⟩
  rw [e]
  unfold idxC
  rw [fcells_congr (N := 100) (kd := kdData) hd, fcells_congr (N := 96) (kd := fun _ => .u8) hs]
theorem rowU_of_own {base n c : Nat} {va : Option Addr} {l : List Int} {w : World} (h : w.ownsRow base 27 1 (.slice va n c) n (l.map (Value.int .u64))) (hok : ∀ m ∈ l, CK.ok .u64 m) : Row w va .u64 l ∧ ∀ b o, va = some ⟨b, o, none⟩ → b < w.heap.size := by
  refine ⟨⟨fun i hi => ?_, hok⟩, fun b o e => ?_⟩
  · obtain ⟨b, o, e, hc⟩ := own_rowV h i (.int .u64 (l.getD i 0)) (by simp [List.getD, hi])
    exact ⟨b, o, e, hc⟩
  · subst e
    rcases h.2 with ⟨e1, _⟩ | ⟨g, cap, cur, e1, _, h3, _⟩
    · cases e1
    · cases e1
      exact block_lt h3
theorem numsR_ok {q : List Int} {k : Nat} (hl : 8 * k ≤ q.length) (hok : ∀ x ∈ q, CK.ok .u8 x) : ∀ m ∈ numsR q k, CK.ok .u64 m := fun m hm => by
  obtain ⟨i, hi, rfl⟩ := List.mem_map.1 hm
  have hi' : i < k := by simpa using hi
  exact rdQ_ok _ (by rw [List.length_take, List.length_drop]; omega) (take_ok hok _ _)
theorem row_nil {w : World} {k : CK} : Row w none k [] := ⟨fun i hi => absurd hi (by simp), fun m hm => by simp at hm⟩
/-! What is written is read, what is read is written. -/
theorem four_bytes {l : List Int} (hok : ∀ x ∈ l, CK.ok .u8 x) (hl : 4 ≤ l.length) (n : Nat) (ho : offL l 0 = n) : l.take 4 = le4 (n : Int) := by
  have h1 := offL_is hok 0
  rw [ho] at h1
  simp only [rdI, Nat.zero_add] at h1
  have b := fun i => list_isB hok i
  have b0 := b 0; have b1 := b 1; have b2 := b 2; have b3 := b 3
  unfold IsB at b0 b1 b2 b3
  have e0 : l.getD 0 0 = leB n 0 := by unfold leB; omega
  have e1 : l.getD 1 0 = leB n 1 := by unfold leB; omega
  have e2 : l.getD 2 0 = leB n 2 := by unfold leB; omega
  have e3 : l.getD 3 0 = leB n 3 := by unfold leB; omega
  apply List.ext_getElem?
  intro i
  by_cases hi : i < 4
  · have hg : (l.take 4)[i]? = some (l.getD i 0) := by
      rw [List.getElem?_take_of_lt hi, List.getElem?_eq_getElem (by omega)]
      simp [List.getD, show i < l.length by omega]
    rw [hg]
    match i, hi with
    | 0, _ => exact congrArg some e0
    | 1, _ => exact congrArg some e1
    | 2, _ => exact congrArg some e2
    | 3, _ => exact congrArg some e3
  · rw [List.getElem?_eq_none (by rw [List.length_take]; omega), List.getElem?_eq_none (by rw [le4_length]; omega)]
theorem numsL_rd : ∀ (k : Nat) (q : List Int), q.length = 8 * k → (∀ x ∈ q, CK.ok .u8 x) → numsL (numsR q k) = q := by
  intro k q hl hok
  have key : ∀ j, j ≤ k → numsL ((numsR q k).take j) = q.take (8 * j) := by
    intro j
    induction j with
    | zero => intro _; simp [numsL]
    | succ j ih =>
      intro hj
      rw [numsL_take _ j (by rw [numsR_length]; omega), ih (by omega)]
      have e : (numsR q k).getD j 0 = rdQ ((q.drop (8 * j)).take 8) := by simp [numsR, List.getD, show j < k by omega]
      rw [e, numL_rdQ _ (by rw [List.length_take, List.length_drop]; omega) (take_ok hok _ _), show 8 * (j + 1) = 8 * j + 8 by omega, List.take_add]
  have h := key k (Nat.le_refl k)
  rwa [List.take_of_length_le (by rw [numsR_length]; exact Nat.le_refl _), List.take_of_length_le (by omega)] at h
theorem numsR_drop (q : List Int) (k : Nat) : numsR q (k + 1) = rdQ (q.take 8) :: numsR (q.drop 8) k := by
  unfold numsR
  rw [List.range_succ_eq_map, List.map_cons, List.map_map]
  congr 1
  apply List.map_congr_left
  intro i _
  show rdQ ((q.drop (8 * (i + 1))).take 8) = rdQ (((q.drop 8).drop (8 * i)).take 8)
  rw [List.drop_drop, show 8 + 8 * i = 8 * (i + 1) by omega]
theorem numsR_enc : ∀ (who : List Int), (∀ m ∈ who, CK.ok .u64 m) → numsR (numsL who) who.length = who
  | [], _ => rfl
  | m :: who, h => by
    have e1 : numsL (m :: who) = numL m ++ numsL who := by simp [numsL]
    have hm : CK.ok .u64 m := h m (by simp)
    rw [List.length_cons, numsR_drop, e1]
    have e2 : (numL m ++ numsL who).take 8 = numL m := by rw [List.take_left' (numL_length m)]
    have e3 : (numL m ++ numsL who).drop 8 = numsL who := by rw [List.drop_left' (numL_length m)]
    rw [e2, e3, rdQ_numL m hm.1 hm.2, numsR_enc who fun x hx => h x (by simp [hx])]
theorem offL_enc (who : List Int) (fd fs : Nat → Int) : offL (encLIdx who fd fs) 0 = 228 := by
  unfold offL
  have e : rdI (fun j => (encLIdx who fd fs).getD (0 + j) 0) 4 = rdI (fun j => (le4 228).getD j 0) 4 := rdI_ext 4 fun j hj => by
    rw [Nat.zero_add]
    simp only [encLIdx, List.append_assoc, List.getD]
    rw [List.getElem?_append_left (by rw [le4_length]; exact hj)]
  rw [e]
  decide
theorem encIdx_rd {l : List Int} {who : List Int} {fd fs : Nat → Int} (hok : ∀ x ∈ l, CK.ok .u8 x) (h : IdxRd l 0 who fd fs) : encLIdx who fd fs = l ∧ who.length ≤ 64 ∧ (∀ m ∈ who, CK.ok .u64 m) ∧ (∀ j, j < 100 → (kdData j).ok (fd j)) ∧ ∀ j, j < 96 → CK.ok .u8 (fs j) := by
  rcases h with ⟨h0, _⟩ | ⟨_, k, hl, hk, ho, rfl, rfl, rfl⟩
  · exact absurd rfl h0
  · have h4 : ((l.drop 4).take 128).length = 128 := by rw [List.length_take, List.length_drop]; omega
    refine ⟨?_, by rw [numsR_length]; exact hk, numsR_ok (by rw [List.length_drop]; omega) (fun x hx => hok x (List.mem_of_mem_drop hx)), rdok_Data h4 (take_ok hok _ _), fun j _ => list_isB hok _⟩
    unfold encLIdx
    rw [numsL_rd k (l.drop 228) (by rw [List.length_drop]; omega) (fun x hx => hok x (List.mem_of_mem_drop hx)), encrd_Data _ h4 (take_ok hok _ _), byL_rd _ l 0 132 96 (fun j _ => by rw [Nat.zero_add]) (by omega)]
    rw [show le4 228 = l.take 4 from (four_bytes hok (by omega) 228 ho).symm]
    rw [List.append_assoc, cat_next l 132 96 228 (by decide), List.append_assoc, cat_next l 4 128 132 (by decide), List.take_append_drop]
theorem idxRd_enc {who : List Int} {fd fs : Nat → Int} (hk : who.length ≤ 64) (hw : ∀ m ∈ who, CK.ok .u64 m) (hd : ∀ j, j < 100 → (kdData j).ok (fd j)) (hs : ∀ j, j < 96 → CK.ok .u8 (fs j)) :
    ∃ fd' fs', IdxRd (encLIdx who fd fs) 0 who fd' fs' ∧ (∀ j, j < 100 → fd' j = fd j) ∧ ∀ j, j < 96 → fs' j = fs j := by
  have hlen := encIdx_length who fd fs
  have e228 : (encLIdx who fd fs).drop 228 = numsL who := by
    unfold encLIdx
    rw [List.drop_left' (by simp [le4_length, encData_length, byL_length])]
  have e4 : ((encLIdx who fd fs).drop 4).take 128 = encLData fd := by
    rw [show encLIdx who fd fs = le4 228 ++ (encLData fd ++ (byL fs 0 96 ++ numsL who)) by simp [encLIdx]]
    exact drop_take_mid _ _ _ 4 128 rfl (encData_length _)
  have e132 : ((encLIdx who fd fs).drop 132).take 96 = byL fs 0 96 := by
    rw [show encLIdx who fd fs = (le4 228 ++ encLData fd) ++ (byL fs 0 96 ++ numsL who) by simp [encLIdx]]
    exact drop_take_mid _ _ _ 132 96 (by simp [le4_length, encData_length]) (byL_length _ _ _)
  refine ⟨_, _, Or.inr ⟨rfl, who.length, hlen, hk, offL_enc _ _ _, by rw [e228, numsR_enc who hw], rfl, rfl⟩, fun j hj => ?_, fun j hj => ?_⟩
  · rw [e4]
    exact rdenc_Data fd hd j hj
  · show (encLIdx who fd fs).getD (132 + j) 0 = fs j
    rw [← drop_take_get _ 132 96 j hj, e132, byL_get _ _ _ _ hj, Nat.zero_add]
end Go.Proofs.YtihelknkcomjpaaDoor
