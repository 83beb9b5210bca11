import Derived.Test.YtmoofccblbaepaaDoorJRqS
import Derived.Test.YtmoofccblbaepaaDoorJScD
set_option linter.unusedVariables false
set_option linter.unusedSimpArgs false
set_option linter.unnecessarySimpa false
/- The committee: reading, the program's. -/
namespace Go.Proofs.YtmoofccblbaepaaDoor
open Go.RowKit BigFrame
set_option maxRecDepth 100000
/-- What the bytes are read as. -/
def rdCommittee (l : List Int) (k : Nat) : Int := l.getD k 0
theorem infoCommittee : (Tryd.prog.info? 92).map (fun i => (i.zero, i.size)) = some (some (.agg (fcells 432 kdCommittee fun _ => 0).toArray), 432) := by kernel_rfl
theorem builtCommittee (w : World) : (Instr.build 92 #[]).run Tryd.prog w = .ok (.agg (fcells 432 kdCommittee fun _ => 0).toArray) w := by kernel_rfl
set_option maxHeartbeats 16000000 in
theorem readCommittee_ok (l : List Int) (va : Option Addr) (c : Nat) (w : World) (hrow0 : Row w va .u8 l) (hcap : l.length ≤ c) (hnil0 : va = none → c = 0) (hlow0 : ∀ ad, va = some ad → ad.block < w.heap.size) (hkl0 : l.length = 432) :
    Calls Tryd.prog 56 #[.slice va 432 c] w fun e w' => e = .returned (.tuple #[.agg (fcells 432 kdCommittee (rdCommittee l)).toArray, .int .i64 0]) ∧ Below w.heap.size w w' := by
  have hrow := Lib.hid hrow0
  have hnil := Lib.hid hnil0
  have hlow := Lib.hid hlow0
  have hkl := Lib.hid hkl0
  have hfew : l.length ≤ 70368744177664 := by rw [hkl0]; decide
  clear hkl0
  clear hrow0 hnil0 hlow0
  go_enter Tryd.func56, Tryd.ntmps56
  go_wp2_with (first
    | ((with_reducible refine at_alloc 92 ?_); refine wpList_plain rfl fun K hK => wp_alloc_row 92 rfl 2 rfl _ 432 infoCommittee (hK _ _ ?_); clear hK K)
    | ((with_reducible refine at_alloc 92 ?_); refine wpList_plain rfl fun K hK => wp_alloc_row 92 rfl 4 rfl _ 432 infoCommittee (hK _ _ ?_); clear hK K)
    | ((with_reducible refine (RdS.open (N := 432) (kd := kdCommittee) (r := rdCommittee l) rfl 432 432 (432 : Int) rfl hkl.out (err := 0) rfl (by decide) hrow.out hcap hnil.out hlow.out hfew).mono ?_)
       rintro e W ⟨rfl, hS1⟩
       have hS := Lib.hid hS1
       clear hS1))
  go_loopw [9] (fun i wr => ∃ k : Nat, k ≤ 8 ∧ i = .int .i64 (k : Int) ∧ RdS w.heap.size 432 kdCommittee 92 l va c (48 * k) 0 (48 * k) (rdCommittee l) w wr) (fun i _ => 8 - (intOf i).toNat)
  case atStart => exact ⟨0, by omega, rfl, hS.out⟩
  case round =>
    obtain ⟨k, hk, rfl, hS1⟩ := hrel
    clear hS
    have hS := Lib.hid hS1
    clear hS1
    by_cases hlt : k < 8
    · have lk : (k : Int) < 8 := by omega
      go_wp2
      rename_i K hK
      refine wp_region_held (S := fun _ => True) (by kernel_rfl) ?_
      have hTT : True := trivial
      refine takeL (i := 0) (v := (.int .i64 (k : Int))) rfl (by kernel_rfl) (by kernel_rfl) (by kernel_rfl) (fun _ _ _ h => h) rfl (by assumption) (fun w' hS' => by go_simp) ?_
      simp only [Act.put, List.setIfInBounds_toArray, List.set_cons_zero, List.set_cons_succ]
      refine takeL (i := 1) (v := (.pointer (some ⟨w.heap.size + 1, 0, none⟩))) rfl (by kernel_rfl) (by kernel_rfl) (by kernel_rfl) (fun _ _ _ h => h) rfl (by assumption) (fun w' hS' => by go_simp) ?_
      simp only [Act.put, List.setIfInBounds_toArray, List.set_cons_zero, List.set_cons_succ]
      refine takeL (i := 2) (v := (.pointer (some ⟨w.heap.size + 1, k * 48, none⟩))) rfl (by kernel_rfl) (by kernel_rfl) (by kernel_rfl) (fun _ _ _ h => h) rfl (by assumption) (fun w' hS' => by go_simp) ?_
      simp only [Act.put, List.setIfInBounds_toArray, List.set_cons_zero, List.set_cons_succ]
      refine takeL (i := 3) (v := (.slice (some ⟨w.heap.size + 1, k * 48, none⟩) 48 48)) rfl (by kernel_rfl) (by kernel_rfl) (by kernel_rfl) (fun _ _ _ h => h) rfl (by assumption) (fun w' hS' => by go_simp) ?_
      simp only [Act.put, List.setIfInBounds_toArray, List.set_cons_zero, List.set_cons_succ]
      refine takeL (i := 4) (v := (.pointer (some ⟨w.heap.size + 1 + 1, 0, none⟩))) rfl (by kernel_rfl) (by kernel_rfl) (by kernel_rfl) (fun _ _ _ h => h) rfl (by assumption) (fun w' hS' => by go_simp) ?_
      simp only [Act.put, List.setIfInBounds_toArray, List.set_cons_zero, List.set_cons_succ]
      refine oneL (i := 5) rfl (by kernel_rfl) rfl (wp_callE 102 #[.pointer (some ⟨w.heap.size + 1 + 1, 0, none⟩), .int .i64 48] (by go_simp) _ ((hS.out.drew _).bytesE 48 (48 : Int) rfl (by decide) (by decide) (fun _ => by rw [hkl.out]; omega)) ?_)
      rintro v W ⟨b, o', c', q, rfl, hcc, hbl, hrw, hql, hq, hS1⟩
      refine ⟨trivial, ?_⟩
      simp only [Act.put, List.setIfInBounds_toArray, List.set_cons_zero, List.set_cons_succ]
      rw [Nat.mul_comm k 48]
      refine oneL (i := 6) rfl (by kernel_rfl) rfl (wp_copy_rd _ _ rfl (48 * k) 48 b o' c' 48 rfl rfl hS1 q hrw hql rfl (kdC (48 * k) 48) (by omega) (fun e j hj => by rw [hq (by trivial), drop_take_get _ _ _ _ hj]; rfl) (fun W hS2 => ⟨trivial, ?_⟩))
      refine wpAnyH_done (by kernel_rfl) ?_ _
      refine hK _ _ ?_
      clear hK K hS hTT hrw hcc hbl hq hql hS1
      have hS := Lib.hid hS2
      clear hS2
      generalize goInt 48 = gi
      simp only [Act.put, List.setIfInBounds_toArray, List.set_cons_zero, List.set_cons_succ]
      go_wp2
      first
        | exact ⟨⟨k + 1, by omega, by go_num, hS.out⟩, by simp [intOf]; omega⟩
        | (refine ⟨?_, by simp [intOf]; omega⟩
           (repeat apply Exists.intro)
           exact ⟨⟨k + 1, by omega, by go_num, hS.out⟩, rfl⟩)
    · have e : k = 8 := by omega
      subst e
      clear hlt hk
      go_wp2
      rename_i K hK
      refine wp_region_held (S := fun _ => True) (by kernel_rfl) ?_
      have hTT : True := trivial
      refine takeL (i := 0) (v := (.pointer (some ⟨w.heap.size + 1, 384, none⟩))) rfl (by kernel_rfl) (by kernel_rfl) (by kernel_rfl) (fun _ _ _ h => h) rfl (by assumption) (fun w' hS' => by go_simp) ?_
      simp only [Act.put, List.setIfInBounds_toArray, List.set_cons_zero, List.set_cons_succ]
      refine takeL (i := 1) (v := (.slice (some ⟨w.heap.size + 1, 384, none⟩) 48 48)) rfl (by kernel_rfl) (by kernel_rfl) (by kernel_rfl) (fun _ _ _ h => h) rfl (by assumption) (fun w' hS' => by go_simp) ?_
      simp only [Act.put, List.setIfInBounds_toArray, List.set_cons_zero, List.set_cons_succ]
      refine takeL (i := 2) (v := (.pointer (some ⟨w.heap.size + 1 + 1, 0, none⟩))) rfl (by kernel_rfl) (by kernel_rfl) (by kernel_rfl) (fun _ _ _ h => h) rfl (by assumption) (fun w' hS' => by go_simp) ?_
      simp only [Act.put, List.setIfInBounds_toArray, List.set_cons_zero, List.set_cons_succ]
      refine oneL (i := 3) rfl (by kernel_rfl) rfl (wp_callE 102 #[.pointer (some ⟨w.heap.size + 1 + 1, 0, none⟩), .int .i64 48] (by go_simp) _ ((hS.out.drew _).bytesE 48 (48 : Int) rfl (by decide) (by decide) (fun _ => by rw [hkl.out]; decide)) ?_)
      rintro v W ⟨b, o', c', q, rfl, hcc, hbl, hrw, hql, hq, hS1⟩
      refine ⟨trivial, ?_⟩
      simp only [Act.put, List.setIfInBounds_toArray, List.set_cons_zero, List.set_cons_succ]
      refine oneL (i := 4) rfl (by kernel_rfl) rfl (wp_copy_rd _ _ rfl 384 48 b o' c' 48 rfl rfl hS1 q hrw hql rfl (kdC 384 48) (by decide) (fun e j hj => by rw [hq (by trivial), drop_take_get _ _ _ _ hj]; rfl) (fun W hS2 => ⟨trivial, ?_⟩))
      refine wpAnyH_done (by kernel_rfl) ?_ _
      refine hK _ _ ?_
      clear hK K hS hTT hrw hcc hbl hq hql hS1
      have hS := Lib.hid hS2
      clear hS2
      generalize goInt 48 = gi
      simp only [Act.put, List.setIfInBounds_toArray, List.set_cons_zero, List.set_cons_succ]
      go_wp2_with (first
        | ((with_reducible refine at_load 31 ?_); go_loud (refine wpList_value (by rfl) _ (run_load_cell _ 31 _ (by rfl) ⟨w.heap.size + 1 + 1, 4, none⟩ rfl (.int .i64 0) hS.out.errno _ Tryd.underlying31 rfl) ?_))
        | ((with_reducible refine at_load 92 ?_); go_loud (refine wpList_value (by rfl) _ (run_load_box _ 92 _ (by rfl) (w.heap.size + 1) (by rfl) _ _ (0, 0) _ hS.out.res Tryd.underlying92 rfl (by rw [row_size rowCommittee]; simp [fcells])) ?_))
        | ((with_reducible refine at_store 92 ?_); refine at_staddr 92 w.heap.size 0 rfl ?_; go_loud (refine wpList_store_row_gen (w0 := w) (n0 := w.heap.size) 92 _ _ rfl rfl w.heap.size rfl _ rfl (fcells_one _ _ _) (by rw [row_size rowCommittee]; simp [fcells]) _ 92 hS.out.hR (by simp [fcells]) (by omega) hS.out.hB (fun W9 hW9 hBW _ => ?_))))
      exact ret_mid_tmp rfl w.heap.size 0 (fcells 432 kdCommittee (rdCommittee l)) _ rfl hW9 Tryd.underlying92 rfl (by rw [row_size rowCommittee, fcells_length]) rfl ⟨rfl, hBW⟩
set_option maxHeartbeats 16000000 in
theorem readCommittee_bad (l : List Int) (va : Option Addr) (c : Nat) (w : World) (hrow0 : Row w va .u8 l) (hcap : l.length ≤ c) (hnil0 : va = none → c = 0) (hlow0 : ∀ ad, va = some ad → ad.block < w.heap.size) (hne0 : l.length ≠ 432) (hfew : l.length ≤ 70368744177664) :
    Calls Tryd.prog 56 #[.slice va l.length c] w fun e w' => e = .returned (.tuple #[.agg (fcells 432 kdCommittee (fun _ => 0)).toArray, .int .i64 4]) ∧ Below w.heap.size w w' := by
  have hrow := Lib.hid hrow0
  have hnil := Lib.hid hnil0
  have hlow := Lib.hid hlow0
  have hkl := Lib.hid (rfl : l.length = l.length)
  have hne := hne0
  clear hne0
  clear hrow0 hnil0 hlow0
  go_enter Tryd.func56, Tryd.ntmps56
  go_wp2_with (first
    | ((with_reducible refine at_alloc 92 ?_); refine wpList_plain rfl fun K hK => wp_alloc_row 92 rfl 2 rfl _ 432 infoCommittee (hK _ _ ?_); clear hK K)
    | ((with_reducible refine at_alloc 92 ?_); refine wpList_plain rfl fun K hK => wp_alloc_row 92 rfl 4 rfl _ 432 infoCommittee (hK _ _ ?_); clear hK K)
    | ((with_reducible refine (RdS.open (N := 432) (kd := kdCommittee) (r := rdCommittee l) rfl l.length 432 (432 : Int) rfl hkl.out (err := 4) (if_neg hne) (by decide) hrow.out hcap hnil.out hlow.out hfew).mono ?_)
       rintro e W ⟨rfl, hS1⟩
       have hS := Lib.hid hS1
       clear hS1))
  go_loopw [9] (fun i wr => ∃ k : Nat, k ≤ 8 ∧ i = .int .i64 (k : Int) ∧ RdS w.heap.size 432 kdCommittee 92 l va c (48 * k) 4 (48 * k) (rdCommittee l) w wr) (fun i _ => 8 - (intOf i).toNat)
  case atStart => exact ⟨0, by omega, rfl, hS.out⟩
  case round =>
    obtain ⟨k, hk, rfl, hS1⟩ := hrel
    clear hS
    have hS := Lib.hid hS1
    clear hS1
    by_cases hlt : k < 8
    · have lk : (k : Int) < 8 := by omega
      go_wp2
      rename_i K hK
      refine wp_region_held (S := fun _ => True) (by kernel_rfl) ?_
      have hTT : True := trivial
      refine takeL (i := 0) (v := (.int .i64 (k : Int))) rfl (by kernel_rfl) (by kernel_rfl) (by kernel_rfl) (fun _ _ _ h => h) rfl (by assumption) (fun w' hS' => by go_simp) ?_
      simp only [Act.put, List.setIfInBounds_toArray, List.set_cons_zero, List.set_cons_succ]
      refine takeL (i := 1) (v := (.pointer (some ⟨w.heap.size + 1, 0, none⟩))) rfl (by kernel_rfl) (by kernel_rfl) (by kernel_rfl) (fun _ _ _ h => h) rfl (by assumption) (fun w' hS' => by go_simp) ?_
      simp only [Act.put, List.setIfInBounds_toArray, List.set_cons_zero, List.set_cons_succ]
      refine takeL (i := 2) (v := (.pointer (some ⟨w.heap.size + 1, k * 48, none⟩))) rfl (by kernel_rfl) (by kernel_rfl) (by kernel_rfl) (fun _ _ _ h => h) rfl (by assumption) (fun w' hS' => by go_simp) ?_
      simp only [Act.put, List.setIfInBounds_toArray, List.set_cons_zero, List.set_cons_succ]
      refine takeL (i := 3) (v := (.slice (some ⟨w.heap.size + 1, k * 48, none⟩) 48 48)) rfl (by kernel_rfl) (by kernel_rfl) (by kernel_rfl) (fun _ _ _ h => h) rfl (by assumption) (fun w' hS' => by go_simp) ?_
      simp only [Act.put, List.setIfInBounds_toArray, List.set_cons_zero, List.set_cons_succ]
      refine takeL (i := 4) (v := (.pointer (some ⟨w.heap.size + 1 + 1, 0, none⟩))) rfl (by kernel_rfl) (by kernel_rfl) (by kernel_rfl) (fun _ _ _ h => h) rfl (by assumption) (fun w' hS' => by go_simp) ?_
      simp only [Act.put, List.setIfInBounds_toArray, List.set_cons_zero, List.set_cons_succ]
      refine oneL (i := 5) rfl (by kernel_rfl) rfl (wp_callE 102 #[.pointer (some ⟨w.heap.size + 1 + 1, 0, none⟩), .int .i64 48] (by go_simp) _ ((hS.out.drew _).bytesE 48 (48 : Int) rfl (by decide) (by decide) (fun e => absurd e (by decide))) ?_)
      rintro v W ⟨b, o', c', q, rfl, hcc, hbl, hrw, hql, hq, hS1⟩
      refine ⟨trivial, ?_⟩
      simp only [Act.put, List.setIfInBounds_toArray, List.set_cons_zero, List.set_cons_succ]
      rw [Nat.mul_comm k 48]
      refine oneL (i := 6) rfl (by kernel_rfl) rfl (wp_copy_rd _ _ rfl (48 * k) 48 b o' c' 48 rfl rfl hS1 q hrw hql rfl (kdC (48 * k) 48) (by omega) (fun e => absurd e (by decide)) (fun W hS2 => ⟨trivial, ?_⟩))
      refine wpAnyH_done (by kernel_rfl) ?_ _
      refine hK _ _ ?_
      clear hK K hS hTT hrw hcc hbl hq hql hS1
      have hS := Lib.hid hS2
      clear hS2
      generalize goInt 48 = gi
      simp only [Act.put, List.setIfInBounds_toArray, List.set_cons_zero, List.set_cons_succ]
      go_wp2
      first
        | exact ⟨⟨k + 1, by omega, by go_num, hS.out⟩, by simp [intOf]; omega⟩
        | (refine ⟨?_, by simp [intOf]; omega⟩
           (repeat apply Exists.intro)
           exact ⟨⟨k + 1, by omega, by go_num, hS.out⟩, rfl⟩)
    · have e : k = 8 := by omega
      subst e
      clear hlt hk
      go_wp2
      rename_i K hK
      refine wp_region_held (S := fun _ => True) (by kernel_rfl) ?_
      have hTT : True := trivial
      refine takeL (i := 0) (v := (.pointer (some ⟨w.heap.size + 1, 384, none⟩))) rfl (by kernel_rfl) (by kernel_rfl) (by kernel_rfl) (fun _ _ _ h => h) rfl (by assumption) (fun w' hS' => by go_simp) ?_
      simp only [Act.put, List.setIfInBounds_toArray, List.set_cons_zero, List.set_cons_succ]
      refine takeL (i := 1) (v := (.slice (some ⟨w.heap.size + 1, 384, none⟩) 48 48)) rfl (by kernel_rfl) (by kernel_rfl) (by kernel_rfl) (fun _ _ _ h => h) rfl (by assumption) (fun w' hS' => by go_simp) ?_
      simp only [Act.put, List.setIfInBounds_toArray, List.set_cons_zero, List.set_cons_succ]
      refine takeL (i := 2) (v := (.pointer (some ⟨w.heap.size + 1 + 1, 0, none⟩))) rfl (by kernel_rfl) (by kernel_rfl) (by kernel_rfl) (fun _ _ _ h => h) rfl (by assumption) (fun w' hS' => by go_simp) ?_
      simp only [Act.put, List.setIfInBounds_toArray, List.set_cons_zero, List.set_cons_succ]
      refine oneL (i := 3) rfl (by kernel_rfl) rfl (wp_callE 102 #[.pointer (some ⟨w.heap.size + 1 + 1, 0, none⟩), .int .i64 48] (by go_simp) _ ((hS.out.drew _).bytesE 48 (48 : Int) rfl (by decide) (by decide) (fun e => absurd e (by decide))) ?_)
      rintro v W ⟨b, o', c', q, rfl, hcc, hbl, hrw, hql, hq, hS1⟩
      refine ⟨trivial, ?_⟩
      simp only [Act.put, List.setIfInBounds_toArray, List.set_cons_zero, List.set_cons_succ]
      refine oneL (i := 4) rfl (by kernel_rfl) rfl (wp_copy_rd _ _ rfl 384 48 b o' c' 48 rfl rfl hS1 q hrw hql rfl (kdC 384 48) (by decide) (fun e => absurd e (by decide)) (fun W hS2 => ⟨trivial, ?_⟩))
      refine wpAnyH_done (by kernel_rfl) ?_ _
      refine hK _ _ ?_
      clear hK K hS hTT hrw hcc hbl hq hql hS1
      have hS := Lib.hid hS2
      clear hS2
      generalize goInt 48 = gi
      simp only [Act.put, List.setIfInBounds_toArray, List.set_cons_zero, List.set_cons_succ]
      go_wp2_with (first
        | ((with_reducible refine at_load 31 ?_); go_loud (refine wpList_value (by rfl) _ (run_load_cell _ 31 _ (by rfl) ⟨w.heap.size + 1 + 1, 4, none⟩ rfl (.int .i64 4) hS.out.errno _ Tryd.underlying31 rfl) ?_)))
      refine wp_region_held (S := fun w' => w'.cell? ⟨w.heap.size + 1 + 1, 4, none⟩ = some (.int .i64 4)) (by kernel_rfl) ?_
      have hTT : ({ W with drawn := W.drawn + 1 } : World).cell? ⟨w.heap.size + 1 + 1, 4, none⟩ = some (.int .i64 4) := hS.out.errno
      have hS2 := hS.out.drew (W.drawn + 1)
      have hsz := hS.out.size
      refine takeL (i := 0) (v := (.agg (fcells 432 kdCommittee fun _ => 0).toArray)) rfl (by kernel_rfl) (by kernel_rfl) (by kernel_rfl) (fun _ _ _ h => h) rfl (by assumption) (fun w' _ => run_build 92 #[] (by rfl) _ (builtCommittee w')) ?_
      simp only [Act.put, List.setIfInBounds_toArray, List.set_cons_zero, List.set_cons_succ]
      refine takeL (i := 1) (v := (.pointer (some ⟨w.heap.size + 1 + 1, 0, none⟩))) rfl (by kernel_rfl) (by kernel_rfl) (by kernel_rfl) (fun _ _ _ h => h) rfl (by assumption) (fun w' hS' => by go_simp) ?_
      simp only [Act.put, List.setIfInBounds_toArray, List.set_cons_zero, List.set_cons_succ]
      refine takeL (i := 2) (v := (.pointer (some ⟨w.heap.size + 1 + 1, 0, none⟩))) rfl (by kernel_rfl) (by kernel_rfl) (by kernel_rfl) (fun _ _ _ h => h) rfl (by assumption) (fun w' hS' => by go_simp) ?_
      simp only [Act.put, List.setIfInBounds_toArray, List.set_cons_zero, List.set_cons_succ]
      refine takeL (i := 3) (v := (.pointer (some ⟨w.heap.size + 1 + 1, 4, none⟩))) rfl (by kernel_rfl) (by kernel_rfl) (by kernel_rfl) (fun _ _ _ h => h) rfl (by assumption) (fun w' hS' => by go_simp) ?_
      simp only [Act.put, List.setIfInBounds_toArray, List.set_cons_zero, List.set_cons_succ]
      refine takeL (i := 4) (v := (.int .i64 4)) rfl (by kernel_rfl) (by kernel_rfl) (by kernel_rfl) (fun _ _ _ h => h) rfl (by assumption) (fun w' hS' => run_load_cell w' 31 _ (by rfl) ⟨w.heap.size + 1 + 1, 4, none⟩ (by rfl) _ hS' _ Tryd.underlying31 rfl) ?_
      simp only [Act.put, List.setIfInBounds_toArray, List.set_cons_zero, List.set_cons_succ]
      refine oneL (i := 5) rfl (by kernel_rfl) rfl (wp_store_row 92 _ _ rfl w.heap.size rfl _ rfl (fcells_one _ _ _) (by rw [row_size rowCommittee]; simp [fcells]) _ 92 hS2.hR (by simp [fcells]) (fun W4 hC4 hA4 => ?_))
      have hTT : W4.cell? ⟨w.heap.size + 1 + 1, 4, none⟩ = some (.int .i64 4) := (World.cell?_of_block (w := { W with drawn := W.drawn + 1 }) (hA4.block (w.heap.size + 1 + 1) (show w.heap.size + 1 + 1 < W.heap.size by omega) (show w.heap.size + 1 + 1 ≠ w.heap.size by omega))).trans hS2.errno
      refine ⟨hTT, ?_⟩
      simp only [Act.put, List.setIfInBounds_toArray, List.set_cons_zero, List.set_cons_succ]
      refine takeL (i := 6) (v := (.int .i64 4)) rfl (by kernel_rfl) (by kernel_rfl) (by kernel_rfl) (fun _ _ _ h => h) rfl (by assumption) (fun w' hS' => by go_simp) ?_
      simp only [Act.put, List.setIfInBounds_toArray, List.set_cons_zero, List.set_cons_succ]
      refine wpAnyH_done (by kernel_rfl) ?_ _
      have hB4 := hA4.below hS2.hB (Nat.le_refl _) (show w.heap.size ≤ W.heap.size by omega)
      clear hS hS2 hA4 hTT
      go_wp2
      exact ret_mid_tmp rfl w.heap.size 0 (fcells 432 kdCommittee fun _ => 0) _ rfl (range_whole hC4) Tryd.underlying92 rfl (by rw [row_size rowCommittee, fcells_length]) rfl ⟨rfl, hB4⟩
end Go.Proofs.YtmoofccblbaepaaDoor
