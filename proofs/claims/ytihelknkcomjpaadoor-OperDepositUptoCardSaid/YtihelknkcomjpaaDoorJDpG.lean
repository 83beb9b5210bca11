/- Oper's container Deposit: reading, the program's. -/
/- Oper's container Deposit: what is written is read, what is read is written. -/
/- Oper's container Deposit: reading, the reference's. -/
import Derived.Test.YtihelknkcomjpaaDoorJRqS
import Derived.Test.YtihelknkcomjpaaDoorJDpB
import Derived.Test.YtihelknkcomjpaaDoorKSpDepositData
import Derived.Test.YtihelknkcomjpaaDoorJLawS
import Derived.Test.YtihelknkcomjpaaDoorKSlDepositData
import Derived.Test.YtihelknkcomjpaaDoorKSqDepositData
set_option linter.unusedVariables false
set_option linter.unusedSimpArgs false
set_option linter.unnecessarySimpa false
namespace Go.Proofs.YtihelknkcomjpaaDoor
open Go.RowKit BigFrame
set_option maxRecDepth 100000
/-- What the bytes are read as. -/
def rdDeposit (l : List Int) (k : Nat) : Int := if k < 224 then l.getD (0 + (k - 0)) 0 else rdDepositData ((l.drop 224).take 184) (k - 224)
theorem infoDeposit : (Tryd.prog.info? 33).map (fun i => (i.zero, i.size)) = some (some (.agg (fcells 401 kdDeposit fun _ => 0).toArray), 401) := by kernel_rfl
theorem builtDeposit (w : World) : (Instr.build 33 #[]).run Tryd.prog w = .ok (.agg (fcells 401 kdDeposit fun _ => 0).toArray) w := by kernel_rfl
set_option maxHeartbeats 16000000 in
theorem readDeposit_ok (l : List Int) (va : Option Addr) (c : Nat) (w : World) (hrow0 : Row w va .u8 l) (hcap : l.length ≤ c) (hnil0 : va = none → c = 0) (hlow0 : ∀ ad, va = some ad → ad.block < w.heap.size) (hkl0 : l.length = 408) :
    Calls Tryd.prog 13 #[.slice va 408 c] w fun e w' => e = .returned (.tuple #[.agg (fcells 401 kdDeposit (rdDeposit l)).toArray, .int .i64 0]) ∧ Below w.heap.size w w' := by
  have hrow := Lib.hid hrow0
  have hnil := Lib.hid hnil0
  have hlow := Lib.hid hlow0
  have hkl := Lib.hid hkl0
  have hfew : l.length ≤ 70368744177664 := by rw [hkl0]; decide
  clear hkl0
  clear hrow0 hnil0 hlow0
  go_enter Tryd.func13, Tryd.ntmps13
  go_wp2_with (first
    | ((with_reducible refine at_alloc 33 ?_); refine wpList_plain rfl fun K hK => wp_alloc_row 33 rfl 2 rfl _ 401 infoDeposit (hK _ _ ?_); clear hK K)
    | ((with_reducible refine at_alloc 33 ?_); refine wpList_plain rfl fun K hK => wp_alloc_row 33 rfl 4 rfl _ 401 infoDeposit (hK _ _ ?_); clear hK K)
    | ((with_reducible refine (RdS.open (N := 401) (kd := kdDeposit) (r := rdDeposit l) rfl 408 408 (408 : Int) rfl hkl.out (err := 0) rfl (by decide) hrow.out hcap hnil.out hlow.out hfew).mono ?_)
       rintro e W ⟨rfl, hS1⟩
       have hS := Lib.hid hS1
       clear hS1))
  go_loopw [11] (fun i wr => ∃ k : Nat, k ≤ 7 ∧ i = .int .i64 (k : Int) ∧ RdS w.heap.size 401 kdDeposit 33 l va c (32 * k) 0 (32 * k) (rdDeposit l) w wr) (fun i _ => 7 - (intOf i).toNat)
  case atStart => exact ⟨0, by omega, rfl, hS.out⟩
  case round =>
    obtain ⟨k, hk, rfl, hS1⟩ := hrel
    clear hS
    have hS := Lib.hid hS1
    clear hS1
    by_cases hlt : k < 7
    · have lk : (k : Int) < 7 := by omega
      go_wp2
      rename_i K hK
      refine wp_region_held (S := fun _ => True) (by kernel_rfl) ?_
      have hTT : True := trivial
      refine takeL (i := 0) (v := (.int .i64 (k : Int))) rfl (by kernel_rfl) (by kernel_rfl) (by kernel_rfl) (fun _ _ _ h => h) rfl (by assumption) (fun w' hS' => by go_simp) ?_
      simp only [Act.put, List.setIfInBounds_toArray, List.set_cons_zero, List.set_cons_succ]
      refine takeL (i := 1) (v := (.pointer (some ⟨w.heap.size + 1, 0, none⟩))) rfl (by kernel_rfl) (by kernel_rfl) (by kernel_rfl) (fun _ _ _ h => h) rfl (by assumption) (fun w' hS' => by go_simp) ?_
      simp only [Act.put, List.setIfInBounds_toArray, List.set_cons_zero, List.set_cons_succ]
      refine takeL (i := 2) (v := (.pointer (some ⟨w.heap.size + 1, k * 32, none⟩))) rfl (by kernel_rfl) (by kernel_rfl) (by kernel_rfl) (fun _ _ _ h => h) rfl (by assumption) (fun w' hS' => by go_simp) ?_
      simp only [Act.put, List.setIfInBounds_toArray, List.set_cons_zero, List.set_cons_succ]
      refine takeL (i := 3) (v := (.slice (some ⟨w.heap.size + 1, k * 32, none⟩) 32 32)) rfl (by kernel_rfl) (by kernel_rfl) (by kernel_rfl) (fun _ _ _ h => h) rfl (by assumption) (fun w' hS' => by go_simp) ?_
      simp only [Act.put, List.setIfInBounds_toArray, List.set_cons_zero, List.set_cons_succ]
      refine takeL (i := 4) (v := (.pointer (some ⟨w.heap.size + 1 + 1, 0, none⟩))) rfl (by kernel_rfl) (by kernel_rfl) (by kernel_rfl) (fun _ _ _ h => h) rfl (by assumption) (fun w' hS' => by go_simp) ?_
      simp only [Act.put, List.setIfInBounds_toArray, List.set_cons_zero, List.set_cons_succ]
      refine oneL (i := 5) rfl (by kernel_rfl) rfl (wp_callE 50 #[.pointer (some ⟨w.heap.size + 1 + 1, 0, none⟩), .int .i64 32] (by go_simp) _ ((hS.out.drew _).bytesE 32 (32 : Int) rfl (by decide) (by decide) (fun _ => by rw [hkl.out]; omega)) ?_)
      rintro v W ⟨b, o', c', q, rfl, hcc, hbl, hrw, hql, hq, hS1⟩
      refine ⟨trivial, ?_⟩
      simp only [Act.put, List.setIfInBounds_toArray, List.set_cons_zero, List.set_cons_succ]
      rw [Nat.mul_comm k 32]
      refine oneL (i := 6) rfl (by kernel_rfl) rfl (wp_copy_rd _ _ rfl (32 * k) 32 b o' c' 32 rfl rfl hS1 q hrw hql rfl (kdD (32 * k) 32 (by omega)) (by omega) (fun e j hj => by rw [hq (by trivial), drop_take_get _ _ _ _ hj]; unfold rdDeposit; rw [if_pos (by omega)]; congr 1; omega) (fun W hS2 => ⟨trivial, ?_⟩))
      refine wpAnyH_done (by kernel_rfl) ?_ _
      refine hK _ _ ?_
      clear hK K hS hTT hrw hcc hbl hq hql hS1
      have hS := Lib.hid hS2
      clear hS2
      generalize goInt 32 = gi
      simp only [Act.put, List.setIfInBounds_toArray, List.set_cons_zero, List.set_cons_succ]
      go_wp2
      first
        | exact ⟨⟨k + 1, by omega, by go_num, hS.out⟩, by simp [intOf]; omega⟩
        | (refine ⟨?_, by simp [intOf]; omega⟩
           (repeat apply Exists.intro)
           exact ⟨⟨k + 1, by omega, by go_num, hS.out⟩, rfl⟩)
    · have e : k = 7 := by omega
      subst e
      clear hlt hk
      obtain ⟨W, hWW⟩ : ∃ W, W = wr := ⟨_, rfl⟩
      subst hWW
      have hS3 : RdS w.heap.size 401 kdDeposit 33 l va c 224 0 224 (rdDeposit l) w W := hS.out
      clear hS
      have hS := Lib.hid hS3
      clear hS3
      go_wp2_with (first
        | ((with_reducible refine at_load 36 ?_); go_loud (refine wpList_value (by rfl) _ (run_load_cell _ 36 _ (by rfl) ⟨w.heap.size + 1 + 1, 4, none⟩ rfl (.int .i64 0) hS.out.errno _ Tryd.underlying36 rfl) ?_))
        | ((with_reducible refine (RdS.bytesC hS.out 184 (184 : Int) rfl (by decide) (by decide) (fun _ => by rw [hkl.out]; decide)).mono ?_)
           rintro e W ⟨b, o', c', q, rfl, hcc, hbl, hrw1, hql1, hq1, hS1⟩
           have hrw := Lib.hid hrw1
           have hql := Lib.hid hql1
           have hq := Lib.hid hq1
           clear hrw1 hql1 hq1
           clear hS
           have hS := Lib.hid hS1
           clear hS1)
        | ((with_reducible refine (readDepositData_ok q (some ⟨b, o', none⟩) c' _ hrw.out (by rw [hql.out]; exact hcc) (fun e => by cases e) (fun ad e => by cases e; exact hbl) hql.out).mono ?_)
           rintro e W ⟨rfl, hb1⟩
           have hS1 := hS.out.later hb1
           clear hb1 hcc hbl hrw
           clear hS
           have hS := Lib.hid hS1
           clear hS1)
        | ((with_reducible refine at_alloc 31 ?_); go_loud (refine wpList_alloc_store rfl rfl 31 _ _ rfl rfl rfl (fcells 177 kdDepositData (rdDepositData q)).toArray rfl rfl (zeroOf Tryd.prog 31) (row_zero rowDepositData).1 (row_zero rowDepositData).2 (fcells_one _ _ _) ?_))
        | ((with_reducible refine at_load 31 ?_); go_loud (refine wpList_value (by rfl) _ (run_load_box _ 31 _ (by rfl) W.heap.size (by rfl) _ _ (0, 0) _ (heap_new W (fcells 177 kdDepositData (rdDepositData q)).toArray 31 W.heap.size rfl) Tryd.underlying31 rfl (by rw [row_size rowDepositData]; simp [fcells])) ?_))
        | ((with_reducible refine at_store 31 ?_); refine at_staddr 31 (w.heap.size + 1) 224 rfl ?_; refine wpList_rdrows rfl 31 _ _ rfl 224 177 rfl kdDepositData (rdDepositData q) rfl (row_size rowDepositData) (hS.out.later ((Below.refl _ _).alloc (Nat.le_refl _) _)) rfl (by intro j hj; simp only [kdDeposit, kdDepositData]; (repeat' split) <;> first | rfl | (exfalso; omega)) (by decide) (fun e j hj => by rw [hq.out (by trivial)]; simp only [rdDeposit]; (repeat' split) <;> first | (exfalso; omega) | (congr 1 <;> omega)) (fun W1 hS1 => ?_)
           obtain ⟨W, hWW⟩ : ∃ W, W = W1 := ⟨_, rfl⟩
           subst hWW
           clear hq hql
           clear hS
           have hS := Lib.hid hS1
           clear hS1)
        | ((with_reducible refine (RdS.fail0 hS.out).mono ?_)
           rintro e W ⟨rfl, hS1⟩
           clear hS
           have hS := Lib.hid hS1
           clear hS1)
        | ((with_reducible refine at_load 36 ?_); go_loud (refine wpList_value (by rfl) _ (run_load_cell _ 36 _ (by rfl) ⟨w.heap.size + 1 + 1, 4, none⟩ rfl (.int .i64 0) hS.out.errno _ Tryd.underlying36 rfl) ?_))
        | ((with_reducible refine at_load 33 ?_); go_loud (refine wpList_value (by rfl) _ (run_load_box _ 33 _ (by rfl) (w.heap.size + 1) (by rfl) _ _ (0, 0) _ hS.out.res Tryd.underlying33 rfl (by rw [row_size rowDeposit]; simp [fcells])) ?_))
        | ((with_reducible refine at_store 33 ?_); refine at_staddr 33 w.heap.size 0 rfl ?_; go_loud (refine wpList_store_row_gen (w0 := w) (n0 := w.heap.size) 33 _ _ rfl rfl w.heap.size rfl _ rfl (fcells_one _ _ _) (by rw [row_size rowDeposit]; simp [fcells]) _ 33 hS.out.hR (by simp [fcells]) (by omega) hS.out.hB (fun W9 hW9 hBW _ => ?_))))
      exact ret_mid_tmp rfl w.heap.size 0 (fcells 401 kdDeposit (rdDeposit l)) _ rfl hW9 Tryd.underlying33 rfl (by rw [row_size rowDeposit, fcells_length]) rfl ⟨rfl, hBW⟩
set_option maxHeartbeats 16000000 in
theorem readDeposit_bad (l : List Int) (va : Option Addr) (c : Nat) (w : World) (hrow0 : Row w va .u8 l) (hcap : l.length ≤ c) (hnil0 : va = none → c = 0) (hlow0 : ∀ ad, va = some ad → ad.block < w.heap.size) (hne0 : l.length ≠ 408) (hfew : l.length ≤ 70368744177664) :
    Calls Tryd.prog 13 #[.slice va l.length c] w fun e w' => e = .returned (.tuple #[.agg (fcells 401 kdDeposit (fun _ => 0)).toArray, .int .i64 4]) ∧ Below w.heap.size w w' := by
  have hrow := Lib.hid hrow0
  have hnil := Lib.hid hnil0
  have hlow := Lib.hid hlow0
  have hkl := Lib.hid (rfl : l.length = l.length)
  have hne := hne0
  clear hne0
  clear hrow0 hnil0 hlow0
  go_enter Tryd.func13, Tryd.ntmps13
  go_wp2_with (first
    | ((with_reducible refine at_alloc 33 ?_); refine wpList_plain rfl fun K hK => wp_alloc_row 33 rfl 2 rfl _ 401 infoDeposit (hK _ _ ?_); clear hK K)
    | ((with_reducible refine at_alloc 33 ?_); refine wpList_plain rfl fun K hK => wp_alloc_row 33 rfl 4 rfl _ 401 infoDeposit (hK _ _ ?_); clear hK K)
    | ((with_reducible refine (RdS.open (N := 401) (kd := kdDeposit) (r := rdDeposit l) rfl l.length 408 (408 : Int) rfl hkl.out (err := 4) (if_neg hne) (by decide) hrow.out hcap hnil.out hlow.out hfew).mono ?_)
       rintro e W ⟨rfl, hS1⟩
       have hS := Lib.hid hS1
       clear hS1))
  go_loopw [11] (fun i wr => ∃ k : Nat, k ≤ 7 ∧ i = .int .i64 (k : Int) ∧ RdS w.heap.size 401 kdDeposit 33 l va c (32 * k) 4 (32 * k) (rdDeposit l) w wr) (fun i _ => 7 - (intOf i).toNat)
  case atStart => exact ⟨0, by omega, rfl, hS.out⟩
  case round =>
    obtain ⟨k, hk, rfl, hS1⟩ := hrel
    clear hS
    have hS := Lib.hid hS1
    clear hS1
    by_cases hlt : k < 7
    · have lk : (k : Int) < 7 := by omega
      go_wp2
      rename_i K hK
      refine wp_region_held (S := fun _ => True) (by kernel_rfl) ?_
      have hTT : True := trivial
      refine takeL (i := 0) (v := (.int .i64 (k : Int))) rfl (by kernel_rfl) (by kernel_rfl) (by kernel_rfl) (fun _ _ _ h => h) rfl (by assumption) (fun w' hS' => by go_simp) ?_
      simp only [Act.put, List.setIfInBounds_toArray, List.set_cons_zero, List.set_cons_succ]
      refine takeL (i := 1) (v := (.pointer (some ⟨w.heap.size + 1, 0, none⟩))) rfl (by kernel_rfl) (by kernel_rfl) (by kernel_rfl) (fun _ _ _ h => h) rfl (by assumption) (fun w' hS' => by go_simp) ?_
      simp only [Act.put, List.setIfInBounds_toArray, List.set_cons_zero, List.set_cons_succ]
      refine takeL (i := 2) (v := (.pointer (some ⟨w.heap.size + 1, k * 32, none⟩))) rfl (by kernel_rfl) (by kernel_rfl) (by kernel_rfl) (fun _ _ _ h => h) rfl (by assumption) (fun w' hS' => by go_simp) ?_
      simp only [Act.put, List.setIfInBounds_toArray, List.set_cons_zero, List.set_cons_succ]
      refine takeL (i := 3) (v := (.slice (some ⟨w.heap.size + 1, k * 32, none⟩) 32 32)) rfl (by kernel_rfl) (by kernel_rfl) (by kernel_rfl) (fun _ _ _ h => h) rfl (by assumption) (fun w' hS' => by go_simp) ?_
      simp only [Act.put, List.setIfInBounds_toArray, List.set_cons_zero, List.set_cons_succ]
      refine takeL (i := 4) (v := (.pointer (some ⟨w.heap.size + 1 + 1, 0, none⟩))) rfl (by kernel_rfl) (by kernel_rfl) (by kernel_rfl) (fun _ _ _ h => h) rfl (by assumption) (fun w' hS' => by go_simp) ?_
      simp only [Act.put, List.setIfInBounds_toArray, List.set_cons_zero, List.set_cons_succ]
      refine oneL (i := 5) rfl (by kernel_rfl) rfl (wp_callE 50 #[.pointer (some ⟨w.heap.size + 1 + 1, 0, none⟩), .int .i64 32] (by go_simp) _ ((hS.out.drew _).bytesE 32 (32 : Int) rfl (by decide) (by decide) (fun e => absurd e (by decide))) ?_)
      rintro v W ⟨b, o', c', q, rfl, hcc, hbl, hrw, hql, hq, hS1⟩
      refine ⟨trivial, ?_⟩
      simp only [Act.put, List.setIfInBounds_toArray, List.set_cons_zero, List.set_cons_succ]
      rw [Nat.mul_comm k 32]
      refine oneL (i := 6) rfl (by kernel_rfl) rfl (wp_copy_rd _ _ rfl (32 * k) 32 b o' c' 32 rfl rfl hS1 q hrw hql rfl (kdD (32 * k) 32 (by omega)) (by omega) (fun e => absurd e (by decide)) (fun W hS2 => ⟨trivial, ?_⟩))
      refine wpAnyH_done (by kernel_rfl) ?_ _
      refine hK _ _ ?_
      clear hK K hS hTT hrw hcc hbl hq hql hS1
      have hS := Lib.hid hS2
      clear hS2
      generalize goInt 32 = gi
      simp only [Act.put, List.setIfInBounds_toArray, List.set_cons_zero, List.set_cons_succ]
      go_wp2
      first
        | exact ⟨⟨k + 1, by omega, by go_num, hS.out⟩, by simp [intOf]; omega⟩
        | (refine ⟨?_, by simp [intOf]; omega⟩
           (repeat apply Exists.intro)
           exact ⟨⟨k + 1, by omega, by go_num, hS.out⟩, rfl⟩)
    · have e : k = 7 := by omega
      subst e
      clear hlt hk
      obtain ⟨W, hWW⟩ : ∃ W, W = wr := ⟨_, rfl⟩
      subst hWW
      have hS3 : RdS w.heap.size 401 kdDeposit 33 l va c 224 4 224 (rdDeposit l) w W := hS.out
      clear hS
      have hS := Lib.hid hS3
      clear hS3
      go_wp2_with (first
        | ((with_reducible refine at_load 36 ?_); go_loud (refine wpList_value (by rfl) _ (run_load_cell _ 36 _ (by rfl) ⟨w.heap.size + 1 + 1, 4, none⟩ rfl (.int .i64 4) hS.out.errno _ Tryd.underlying36 rfl) ?_))
        | ((with_reducible refine at_load 36 ?_); go_loud (refine wpList_value (by rfl) _ (run_load_cell _ 36 _ (by rfl) ⟨w.heap.size + 1 + 1, 4, none⟩ rfl (.int .i64 4) hS.out.errno _ Tryd.underlying36 rfl) ?_)))
      refine wp_region_held (S := fun w' => w'.cell? ⟨w.heap.size + 1 + 1, 4, none⟩ = some (.int .i64 4)) (by kernel_rfl) ?_
      have hTT : ({ W with drawn := W.drawn + 1 } : World).cell? ⟨w.heap.size + 1 + 1, 4, none⟩ = some (.int .i64 4) := hS.out.errno
      have hS2 := hS.out.drew (W.drawn + 1)
      have hsz := hS.out.size
      refine takeL (i := 0) (v := (.agg (fcells 401 kdDeposit fun _ => 0).toArray)) rfl (by kernel_rfl) (by kernel_rfl) (by kernel_rfl) (fun _ _ _ h => h) rfl (by assumption) (fun w' _ => run_build 33 #[] (by rfl) _ (builtDeposit w')) ?_
      simp only [Act.put, List.setIfInBounds_toArray, List.set_cons_zero, List.set_cons_succ]
      refine takeL (i := 1) (v := (.pointer (some ⟨w.heap.size + 1 + 1, 0, none⟩))) rfl (by kernel_rfl) (by kernel_rfl) (by kernel_rfl) (fun _ _ _ h => h) rfl (by assumption) (fun w' hS' => by go_simp) ?_
      simp only [Act.put, List.setIfInBounds_toArray, List.set_cons_zero, List.set_cons_succ]
      refine takeL (i := 2) (v := (.pointer (some ⟨w.heap.size + 1 + 1, 0, none⟩))) rfl (by kernel_rfl) (by kernel_rfl) (by kernel_rfl) (fun _ _ _ h => h) rfl (by assumption) (fun w' hS' => by go_simp) ?_
      simp only [Act.put, List.setIfInBounds_toArray, List.set_cons_zero, List.set_cons_succ]
      refine takeL (i := 3) (v := (.pointer (some ⟨w.heap.size + 1 + 1, 4, none⟩))) rfl (by kernel_rfl) (by kernel_rfl) (by kernel_rfl) (fun _ _ _ h => h) rfl (by assumption) (fun w' hS' => by go_simp) ?_
      simp only [Act.put, List.setIfInBounds_toArray, List.set_cons_zero, List.set_cons_succ]
      refine takeL (i := 4) (v := (.int .i64 4)) rfl (by kernel_rfl) (by kernel_rfl) (by kernel_rfl) (fun _ _ _ h => h) rfl (by assumption) (fun w' hS' => run_load_cell w' 36 _ (by rfl) ⟨w.heap.size + 1 + 1, 4, none⟩ (by rfl) _ hS' _ Tryd.underlying36 rfl) ?_
      simp only [Act.put, List.setIfInBounds_toArray, List.set_cons_zero, List.set_cons_succ]
      refine oneL (i := 5) rfl (by kernel_rfl) rfl (wp_store_row 33 _ _ rfl w.heap.size rfl _ rfl (fcells_one _ _ _) (by rw [row_size rowDeposit]; simp [fcells]) _ 33 hS2.hR (by simp [fcells]) (fun W4 hC4 hA4 => ?_))
      have hTT : W4.cell? ⟨w.heap.size + 1 + 1, 4, none⟩ = some (.int .i64 4) := (World.cell?_of_block (w := { W with drawn := W.drawn + 1 }) (hA4.block (w.heap.size + 1 + 1) (show w.heap.size + 1 + 1 < W.heap.size by omega) (show w.heap.size + 1 + 1 ≠ w.heap.size by omega))).trans hS2.errno
      refine ⟨hTT, ?_⟩
      simp only [Act.put, List.setIfInBounds_toArray, List.set_cons_zero, List.set_cons_succ]
      refine takeL (i := 6) (v := (.int .i64 4)) rfl (by kernel_rfl) (by kernel_rfl) (by kernel_rfl) (fun _ _ _ h => h) rfl (by assumption) (fun w' hS' => by go_simp) ?_
      simp only [Act.put, List.setIfInBounds_toArray, List.set_cons_zero, List.set_cons_succ]
      refine wpAnyH_done (by kernel_rfl) ?_ _
      have hB4 := hA4.below hS2.hB (Nat.le_refl _) (show w.heap.size ≤ W.heap.size by omega)
      clear hS hS2 hA4 hTT
      go_wp2
      exact ret_mid_tmp rfl w.heap.size 0 (fcells 401 kdDeposit fun _ => 0) _ rfl (range_whole hC4) Tryd.underlying33 rfl (by rw [row_size rowDeposit, fcells_length]) rfl ⟨rfl, hB4⟩
end Go.Proofs.YtihelknkcomjpaaDoor
namespace Go.Proofs.YtihelknkcomjpaaDoor
open Go.RowKit BigFrame
set_option maxRecDepth 100000
theorem encDeposit_congr {f g : Nat → Int} (h : ∀ k, k < 401 → f k = g k) : encLDeposit f = encLDeposit g := by
  unfold encLDeposit
  rw [byL_congr (f := f) (g := g) (o := 0) (n := 224) fun j hj => h (0 + j) (by omega)]
  rw [encDepositData_congr (f := shF f 224) (g := shF g 224) fun j hj => h (224 + j) (by omega)]
theorem partDeposit_0 (f : Nat → Int) : ((encLDeposit f).drop 0).take 224 = byL f 0 224 := by
    rw [show encLDeposit f = ([]) ++ ((byL f 0 224) ++ ((encLDepositData (shF f 224)))) from by simp only [encLDeposit, List.append_assoc, List.nil_append, List.append_nil]]
    exact drop_take_mid _ _ _ 0 224 (by simp [numL_length, byL_length, encDepositData_length]) (by simp [numL_length, byL_length, encDepositData_length])
theorem partDeposit_1 (f : Nat → Int) : ((encLDeposit f).drop 224).take 184 = encLDepositData (shF f 224) := by
    rw [show encLDeposit f = (byL f 0 224) ++ ((encLDepositData (shF f 224)) ++ ([])) from by simp only [encLDeposit, List.append_assoc, List.nil_append, List.append_nil]]
    exact drop_take_mid _ _ _ 224 184 (by simp [numL_length, byL_length, encDepositData_length]) (by simp [numL_length, byL_length, encDepositData_length])
theorem rdenc_Deposit (f : Nat → Int) (hf : ∀ j, j < 401 → (kdDeposit j).ok (f j)) (k : Nat) (hk : k < 401) : rdDeposit (encLDeposit f) k = f k := by
  unfold rdDeposit
  by_cases c0 : k < 224
  · rw [if_pos c0]
    rw [← drop_take_get _ 0 224 (k - 0) (by omega), partDeposit_0, byL_get _ _ _ _ (by omega), show 0 + (k - 0) = k by omega]
  · rw [if_neg c0]
    rw [partDeposit_1, rdenc_DepositData _ (sub_ok hf (by intro j hj; simp only [kdDeposit, kdDepositData]; (repeat' split) <;> first | rfl | (exfalso; omega)) (by decide)) (k - 224) (by omega)]
    show f (224 + (k - 224)) = f k
    rw [show 224 + (k - 224) = k by omega]
theorem rdok_Deposit {l : List Int} (hl : l.length = 408) (hok : ∀ x ∈ l, CK.ok .u8 x) (k : Nat) (hk : k < 401) : (kdDeposit k).ok (rdDeposit l k) := by
  by_cases c0 : k < 224
  · have hkd : kdDeposit k = .u8 := by have h := ((by intro j hj; simp only [kdDeposit]; (repeat' split) <;> first | rfl | (exfalso; omega)) : ∀ j, j < 224 → kdDeposit (0 + j) = .u8) (k - 0) (by omega); rwa [show 0 + (k - 0) = k by omega] at h
    rw [hkd]
    unfold rdDeposit; rw [if_pos c0]
    exact list_isB hok _
  have hkd : kdDeposit k = kdDepositData (k - 224) := by have h := ((by intro j hj; simp only [kdDeposit, kdDepositData]; (repeat' split) <;> first | rfl | (exfalso; omega)) : ∀ j, j < 177 → kdDeposit (224 + j) = kdDepositData j) (k - 224) (by omega); rwa [show 224 + (k - 224) = k by omega] at h
  rw [hkd]
  unfold rdDeposit; rw [if_neg c0]
  exact rdok_DepositData (part_len l 224 184 408 hl (by decide)) (take_ok hok _ _) (k - 224) (by omega)
theorem encrd_Deposit (l : List Int) (hl : l.length = 408) (hok : ∀ x ∈ l, CK.ok .u8 x) : encLDeposit (rdDeposit l) = l := by
  have h0 : byL (rdDeposit l) 0 224 = (l.drop 0).take 224 := byL_rd _ l 0 0 224 (fun j hj => by unfold rdDeposit; (repeat' split) <;> first | (exfalso; omega) | (congr 1 <;> omega)) (by omega)
  have h1 : encLDepositData (shF (rdDeposit l) 224) = (l.drop 224).take 184 := by
    rw [encDepositData_congr (g := rdDepositData ((l.drop 224).take 184)) fun j hj => by
      show rdDeposit l (224 + j) = _
      simp only [rdDeposit]; (repeat' split) <;> first | (exfalso; omega) | (congr 1 <;> omega)]
    exact encrd_DepositData _ (part_len l 224 184 408 hl (by decide)) (take_ok hok _ _)
  unfold encLDeposit
  rw [h0, h1]
  try simp only [List.append_assoc]
  rw [cat_end l 224 184 (by omega), cat_next l 0 224 224 (by decide)]
  rfl
end Go.Proofs.YtihelknkcomjpaaDoor
namespace Go.Proofs.YtihelknkcomjpaaDoor
open Go.RowKit BigFrame
set_option maxRecDepth 100000
section
variable {n N : Nat} {kd : Nat → CK} {t : TypeId} {m : Nat} {r : Nat → Int} {gp cp : Nat} {ps : List (List Int)} {w W W' : World}
theorem RqS.partD (h : RqS n N kd t m r gp cp ps w W) (i k : Nat) (q : List Int) (hi : i < ps.length) (hq : ps.getD i [] = q) (hk : q.length = k) : ∃ va ci, W.cell? ⟨gp, i, none⟩ = some (.slice va k ci) ∧ SlB va ci q W ∧ n + 2 ≤ gp ∧ gp < W.heap.size ∧ ∀ b o, va = some ⟨b, o, none⟩ → n + 2 ≤ b := by
  obtain ⟨g, c, e, hg, hgs, h2⟩ := h.hP
  injection e with e1 e2 e3
  cases e1
  obtain ⟨va, ci, h3, h4, h5, h6, h7⟩ := h2 i hi
  rw [hq] at h3 h4 h6
  rw [hk] at h3
  exact ⟨va, ci, h3, ⟨h4, h5, h6, fun b o e => (h7 b o e).2⟩, hg, hgs, fun b o e => (h7 b o e).1⟩
/-- One cell is stored, told of worlds. -/
theorem wp_rq1D {o : Oper} {a : Act} {K : Act → World → Prop} {Q : Exit → Act → World → Prop} (ty : TypeId) (x y : Operand) (ho : o.op = .store ty x y) (off : Nat) (hx : a.eval x = .pointer (some ⟨n + 1, off, none⟩)) (u : Value) (hy : a.eval y = u) (v : Int) (hu : u = (kd off).mk v) (hz : (Tryd.prog.info? ty).map (·.size) = some 1)
    (h : RqS n N kd t m r gp cp ps w W) (hm : m = off) (hN : off < N) (hr : v = r off) (hk : ∀ W', RqS n N kd t (off + 1) r gp cp ps w W' → Apart (n + 1) W W' → K (a.put o.dst undef) W') : o.wp Tryd.prog a W K Q := by
  obtain ⟨g, h1, h2⟩ := h.hX
  subst hu
  subst hm
  refine wp_store1 ty x y ho (n + 1) m hx _ hy (by cases kd m <;> rfl) hz _ t h1 (by simp [fcells]; exact hN) (fun W' hC hA => hk W' ?_ hA)
  refine h.box hA (fun k => if k = m then v else g k) ?_ (fun k hk => ?_)
  · rw [hC]
    congr 2
    refine fcells_ext (by simp [fcells]) fun j hj => ?_
    rw [Array.getElem?_setIfInBounds]
    by_cases e : m = j
    · subst e
      simp [fcells, hN]
    · rw [if_neg e, if_neg (fun e2 => e e2.symm), List.getElem?_toArray, fcells_get _ _ _ _ hj]
  · by_cases e2 : k = m
    · rw [if_pos e2, e2]; exact hr
    · rw [if_neg e2]; exact h2 k (by omega)
end
set_option maxHeartbeats 16000000 in
theorem rreadDeposit_ok (l : List Int) (va : Option Addr) (c : Nat) (w : World) (hs0 : SlB va c l w) (hkl0 : l.length = 408) :
    Calls Tryd.prog 14 #[.slice va 408 c] w fun e w' => e = .returned (.tuple #[.agg (fcells 401 kdDeposit (rdDeposit l)).toArray, .int .i64 0]) ∧ Below w.heap.size w w' := by
  have hsl := Lib.hid hs0
  have hkl := Lib.hid hkl0
  clear hkl0
  clear hs0
  go_enter Tryd.func14, Tryd.ntmps14
  go_wp2_with (first
    | ((with_reducible refine at_alloc 33 ?_); refine wpList_plain rfl fun K hK => wp_alloc_row 33 rfl 2 rfl _ 401 infoDeposit (hK _ _ ?_); clear hK K)
    | ((with_reducible refine at_alloc 33 ?_); refine wpList_plain rfl fun K hK => wp_alloc_row 33 rfl 4 rfl _ 401 infoDeposit (hK _ _ ?_); clear hK K
       refine gen_l (fun W => RqB w.heap.size 401 kdDeposit 33 0 (rdDeposit l) w W) (RqB.begin rfl rfl) ?_
       intro W hS1
       have hl := Lib.hid (hsl.out.later hS1.hB)
       have hS := Lib.hid hS1
       clear hS1)
    | ((with_reducible refine (RqB.cut hS.out (K := 2) (k := 408) [224, 184] ?hV hl.out hkl.out rfl (by decide) (by decide) (by decide) rfl).mono ?hM)
       case hV => rfl
       rintro e W ⟨gp, cp, rfl, hS1⟩
       clear hl
       clear hS
       have hS := Lib.hid hS1
       clear hS1))
  go_loopw [7] (fun i wr => ∃ k : Nat, k ≤ 7 ∧ i = .int .i64 (k : Int) ∧ RqS w.heap.size 401 kdDeposit 33 (32 * k) (rdDeposit l) gp cp (cutL [224, 184] l) w wr) (fun i _ => 7 - (intOf i).toNat)
  case atStart => exact ⟨0, by omega, rfl, hS.out⟩
  case round =>
    obtain ⟨k, hk, rfl, hS1⟩ := hrel
    clear hS
    have hS := Lib.hid hS1
    clear hS1
    by_cases hlt : k < 7
    · have lk : (k : Int) < 7 := by omega
      go_wp2
      rename_i wr0
      go_loopw [8] (fun i wr => ∃ j : Nat, j ≤ 32 ∧ i = .int .i64 (j : Int) ∧ RqS w.heap.size 401 kdDeposit 33 (32 * k + j) (rdDeposit l) gp cp (cutL [224, 184] l) w wr) (fun i _ => 32 - (intOf i).toNat)
      case atStart => exact ⟨0, by omega, rfl, hS.out⟩
      case round =>
        obtain ⟨j, hj, rfl, hS1⟩ := hrel
        clear hS
        have hS := Lib.hid hS1
        clear hS1
        by_cases hlj : j < 32
        · have lj : (j : Int) < 32 := by omega
          obtain ⟨q, hqe⟩ : ∃ q, q = (l.drop 0).take 224 := ⟨_, rfl⟩
          have hql : q.length = 224 := by rw [hqe]; exact part_len l 0 224 408 hkl.out (by decide)
          obtain ⟨vq, cq, hcq, hq1, hgp, hgs, hbb⟩ := hS.out.partD 0 224 q (by rw [cutL_length]; decide) (by rw [hqe]; exact part_at [224, 184] l 0 0 224 (by decide) (by decide) rfl rfl) hql
          obtain ⟨bq, oq, e0, hcell⟩ := hq1.row.cell (32 * k + j) (by rw [hql]; omega)
          subst e0
          have hbq := hbb bq oq rfl
          have hbs := hq1.low bq oq rfl
          obtain ⟨y, hye1⟩ : ∃ y, y = q.getD (32 * k + j) 0 := ⟨_, rfl⟩
          rw [← hye1] at hcell
          rw [hqe, drop_take_get _ _ _ _ (by omega), Nat.zero_add] at hye1
          have hye := Lib.hid hye1
          have hcq' := Lib.hid hcq
          have hcell' := Lib.hid hcell
          clear hye1 hqe hql hq1 hbb hcq hcell
          have hw6 : IntKind.i64.wrap (32 * (k : Int)) = ((32 * k : Nat) : Int) := by rw [IntKind.wrap_i64]; omega
          have hw8 : IntKind.i64.wrap (((32 * k : Nat) : Int) + (j : Int)) = ((32 * k + j : Nat) : Int) := by rw [IntKind.wrap_i64]; omega
          have hw9 : IntKind.i64.wrap (32 * (k : Int) + (j : Int)) = 32 * (k : Int) + (j : Int) := by rw [IntKind.wrap_i64]; omega
          go_wp2
          rename_i K hK
          refine wp_region_held (S := fun w' => w'.cell? ⟨gp, 0, none⟩ = some (.slice (some ⟨bq, oq, none⟩) 224 cq) ∧ w'.cell? ⟨bq, oq + (32 * k + j), none⟩ = some (.int .u8 y)) (by kernel_rfl) ?_
          have hTT : ({ wr with drawn := wr.drawn + 1 } : World).cell? ⟨gp, 0, none⟩ = some (.slice (some ⟨bq, oq, none⟩) 224 cq) ∧ ({ wr with drawn := wr.drawn + 1 } : World).cell? ⟨bq, oq + (32 * k + j), none⟩ = some (.int .u8 y) := ⟨hcq'.out, hcell'.out⟩
          have hS2 := hS.out.later (W' := { wr with drawn := wr.drawn + 1 }) ⟨rfl, rfl, rfl, Nat.le_refl _, fun _ _ => rfl⟩
          refine takeL (i := 0) (v := (.int .i64 (k : Int))) rfl (by kernel_rfl) (by kernel_rfl) (by kernel_rfl) (fun _ _ _ h => h) rfl (by assumption) (fun w' hS' => by go_simp) ?_
          simp only [Act.put, List.setIfInBounds_toArray, List.set_cons_zero, List.set_cons_succ]
          refine takeL (i := 1) (v := (.int .i64 (j : Int))) rfl (by kernel_rfl) (by kernel_rfl) (by kernel_rfl) (fun _ _ _ h => h) rfl (by assumption) (fun w' hS' => by go_simp) ?_
          simp only [Act.put, List.setIfInBounds_toArray, List.set_cons_zero, List.set_cons_succ]
          refine takeL (i := 2) (v := (.slice (some ⟨gp, 0, none⟩) 2 cp)) rfl (by kernel_rfl) (by kernel_rfl) (by kernel_rfl) (fun _ _ _ h => h) rfl (by assumption) (fun w' hS' => by go_simp) ?_
          simp only [Act.put, List.setIfInBounds_toArray, List.set_cons_zero, List.set_cons_succ]
          refine takeL (i := 3) (v := (.pointer (some ⟨gp, 0, none⟩))) rfl (by kernel_rfl) (by kernel_rfl) (by kernel_rfl) (fun _ _ _ h => h) rfl (by assumption) (fun w' _ => run_index_slice w' 96 34 _ _ (by rfl) Tryd.underlying96 1 sz_bs gp 0 2 cp (by rfl) .i64 0 (by rfl) (by decide) 0 (by decide)) ?_
          simp only [Act.put, List.setIfInBounds_toArray, List.set_cons_zero, List.set_cons_succ]
          refine takeL (i := 4) (v := (.slice (some ⟨bq, oq, none⟩) 224 cq)) rfl (by kernel_rfl) (by kernel_rfl) (by kernel_rfl) (fun _ _ _ h => h) rfl (by assumption) (fun w' hS' => run_load_cell w' 34 _ (by rfl) ⟨gp, 0, none⟩ (by rfl) _ hS'.1 _ Tryd.underlying34 rfl) ?_
          simp only [Act.put, List.setIfInBounds_toArray, List.set_cons_zero, List.set_cons_succ]
          refine takeL (i := 5) (v := (.int .i64 (k : Int))) rfl (by kernel_rfl) (by kernel_rfl) (by kernel_rfl) (fun _ _ _ h => h) rfl (by assumption) (fun w' hS' => by go_simp) ?_
          simp only [Act.put, List.setIfInBounds_toArray, List.set_cons_zero, List.set_cons_succ]
          refine takeL (i := 6) (v := (.int .i64 ((32 * k : Nat) : Int))) rfl (by kernel_rfl) (by kernel_rfl) (by kernel_rfl) (fun _ _ _ h => h) rfl (by assumption) (fun w' hS' => by go_simp) ?_
          simp only [Act.put, List.setIfInBounds_toArray, List.set_cons_zero, List.set_cons_succ]
          refine takeL (i := 7) (v := (.int .i64 (j : Int))) rfl (by kernel_rfl) (by kernel_rfl) (by kernel_rfl) (fun _ _ _ h => h) rfl (by assumption) (fun w' hS' => by go_simp) ?_
          simp only [Act.put, List.setIfInBounds_toArray, List.set_cons_zero, List.set_cons_succ]
          refine takeL (i := 8) (v := (.int .i64 ((32 * k + j : Nat) : Int))) rfl (by kernel_rfl) (by kernel_rfl) (by kernel_rfl) (fun _ _ _ h => h) rfl (by assumption) (fun w' hS' => by go_simp) ?_
          simp only [Act.put, List.setIfInBounds_toArray, List.set_cons_zero, List.set_cons_succ]
          refine takeL (i := 9) (v := (.pointer (some ⟨bq, oq + (32 * k + j), none⟩))) rfl (by kernel_rfl) (by kernel_rfl) (by kernel_rfl) (fun _ _ _ h => h) rfl (by assumption) (fun w' _ => run_index_slice w' 34 5 _ _ (by rfl) Tryd.underlying34 1 sz_u8 bq oq 224 cq (by rfl) .i64 (32 * k + j) (by rfl) (by omega) _ (by omega)) ?_
          simp only [Act.put, List.setIfInBounds_toArray, List.set_cons_zero, List.set_cons_succ]
          refine takeL (i := 10) (v := (.int .u8 y)) rfl (by kernel_rfl) (by kernel_rfl) (by kernel_rfl) (fun _ _ _ h => h) rfl (by assumption) (fun w' hS' => run_load_cell w' 5 _ (by rfl) ⟨bq, oq + (32 * k + j), none⟩ (by rfl) _ hS'.2 _ Tryd.underlying5 rfl) ?_
          simp only [Act.put, List.setIfInBounds_toArray, List.set_cons_zero, List.set_cons_succ]
          refine takeL (i := 11) (v := (.pointer (some ⟨w.heap.size + 1, 0, none⟩))) rfl (by kernel_rfl) (by kernel_rfl) (by kernel_rfl) (fun _ _ _ h => h) rfl (by assumption) (fun w' hS' => by go_simp) ?_
          simp only [Act.put, List.setIfInBounds_toArray, List.set_cons_zero, List.set_cons_succ]
          refine takeL (i := 12) (v := (.pointer (some ⟨w.heap.size + 1, k * 32, none⟩))) rfl (by kernel_rfl) (by kernel_rfl) (by kernel_rfl) (fun _ _ _ h => h) rfl (by assumption) (fun w' hS' => by go_simp) ?_
          simp only [Act.put, List.setIfInBounds_toArray, List.set_cons_zero, List.set_cons_succ]
          refine takeL (i := 13) (v := (.pointer (some ⟨w.heap.size + 1, k * 32 + j, none⟩))) rfl (by kernel_rfl) (by kernel_rfl) (by kernel_rfl) (fun _ _ _ h => h) rfl (by assumption) (fun w' hS' => by go_simp) ?_
          simp only [Act.put, List.setIfInBounds_toArray, List.set_cons_zero, List.set_cons_succ]
          refine oneL (i := 14) rfl (by kernel_rfl) rfl (wp_rq1D 5 _ _ rfl (32 * k + j) (by rw [Nat.mul_comm 32 k]; rfl) (.int .u8 y) rfl y (by rw [show kdDeposit (32 * k + j) = .u8 from kdD (32 * k + j) 1 (by omega) 0 (by decide)]; rfl) sz_u8 hS2 rfl (by omega) (by rw [hye.out]; unfold rdDeposit; rw [if_pos (by omega)]; congr 1; omega) (fun W1 hS3 hA => ?_))
          refine ⟨⟨(World.cell?_of_block (w := { wr with drawn := wr.drawn + 1 }) (hA.block gp hgs (by omega))).trans hTT.1, (World.cell?_of_block (w := { wr with drawn := wr.drawn + 1 }) (hA.block bq hbs (by omega))).trans hTT.2⟩, ?_⟩
          simp only [Act.put, List.setIfInBounds_toArray, List.set_cons_zero, List.set_cons_succ]
          refine wpAnyH_done (by kernel_rfl) ?_ _
          refine hK _ _ ?_
          clear hK K hS hTT hA hS2 hye hcq' hcell'
          have hS := Lib.hid hS3
          clear hS3
          go_wp2
          first
            | exact ⟨⟨j + 1, by omega, by go_num, hS.out⟩, by simp [intOf]; omega⟩
            | (refine ⟨?_, by simp [intOf]; omega⟩
               (repeat apply Exists.intro)
               exact ⟨⟨j + 1, by omega, by go_num, hS.out⟩, rfl⟩)
        · have e : j = 32 := by omega
          subst e
          clear hlj hj
          have hS3 : RqS w.heap.size 401 kdDeposit 33 (32 * (k + 1)) (rdDeposit l) gp cp (cutL [224, 184] l) w wr := hS.out
          clear hS
          have hS := Lib.hid hS3
          clear hS3
          go_wp2
          first
            | exact ⟨⟨k + 1, by omega, by go_num, hS.out⟩, by simp [intOf]; omega⟩
            | (refine ⟨?_, by simp [intOf]; omega⟩
               (repeat apply Exists.intro)
               exact ⟨⟨k + 1, by omega, by go_num, hS.out⟩, rfl⟩)
    · have e : k = 7 := by omega
      subst e
      clear hlt hk
      have hS3 : RqS w.heap.size 401 kdDeposit 33 224 (rdDeposit l) gp cp (cutL [224, 184] l) w wr := hS.out
      clear hS
      have hS := Lib.hid hS3
      clear hS3
      go_wp2_with (first
        | ((with_reducible refine at_iaddr 96 ?_); refine wpList_value (by rfl) _ (run_index_slice _ 96 34 _ _ rfl Tryd.underlying96 1 sz_bs gp 0 2 cp rfl .i64 1 rfl (by decide) 1 (by decide)) ?_)
        | ((with_reducible refine at_load 34 ?_); refine at_ldaddr 34 gp 1 rfl ?_
           obtain ⟨q, hqe1⟩ : ∃ q, q = (l.drop 224).take 184 := ⟨_, rfl⟩
           have hql1 : q.length = 184 := by rw [hqe1]; exact part_len l 224 184 408 hkl.out (by decide)
           obtain ⟨vq, cq, hcq, hq1⟩ := hS.out.part 1 184 q (by rw [cutL_length]; decide) (by rw [hqe1]; exact part_at [224, 184] l 1 224 184 (by decide) (by decide) rfl rfl) hql1
           have hqe := Lib.hid hqe1
           have hql := Lib.hid hql1
           clear hqe1 hql1
           refine wpList_value (by rfl) _ (run_load_cell _ 34 _ (by rfl) ⟨gp, 1, none⟩ rfl (.slice vq 184 cq) hcq _ Tryd.underlying34 rfl) ?_
           have hq := Lib.hid hq1
           clear hq1 hcq)
        | ((with_reducible refine (rreadDepositData_ok q vq cq _ hq.out hql.out).mono ?_)
           rintro e W ⟨rfl, hb1⟩
           have hS1 := hS.out.later hb1
           clear hq hb1
           clear hS
           have hS := Lib.hid hS1
           clear hS1)
        | ((with_reducible refine at_store 31 ?_); refine at_staddr 31 (w.heap.size + 1) 224 rfl ?_; refine wpList_rqrows rfl 31 _ _ rfl 224 177 rfl kdDepositData (rdDepositData q) rfl (row_size rowDepositData) hS.out rfl (by intro j hj; simp only [kdDeposit, kdDepositData]; (repeat' split) <;> first | rfl | (exfalso; omega)) (by decide) (fun j hj => by rw [hqe.out]; simp only [rdDeposit]; (repeat' split) <;> first | (exfalso; omega) | (congr 1 <;> omega)) (fun W1 hS1 => ?_)
           obtain ⟨W, hWW⟩ : ∃ W, W = W1 := ⟨_, rfl⟩
           subst hWW
           clear hqe hql
           clear hS
           have hS := Lib.hid hS1
           clear hS1)
        | ((with_reducible refine at_load 33 ?_); go_loud (refine wpList_value (by rfl) _ (run_load_box _ 33 _ (by rfl) (w.heap.size + 1) (by rfl) _ _ (0, 0) _ hS.out.res Tryd.underlying33 rfl (by rw [row_size rowDeposit]; simp [fcells])) ?_))
        | ((with_reducible refine at_store 33 ?_); refine at_staddr 33 w.heap.size 0 rfl ?_; go_loud (refine wpList_store_row_gen (w0 := w) (n0 := w.heap.size) 33 _ _ rfl rfl w.heap.size rfl _ rfl (fcells_one _ _ _) (by rw [row_size rowDeposit]; simp [fcells]) _ 33 hS.out.hR (by simp [fcells]) (by omega) hS.out.hB (fun W9 hW9 hBW _ => ?_))))
      exact ret_mid_tmp rfl w.heap.size 0 (fcells 401 kdDeposit (rdDeposit l)) _ rfl hW9 Tryd.underlying33 rfl (by rw [row_size rowDeposit, fcells_length]) rfl ⟨rfl, hBW⟩
set_option maxHeartbeats 16000000 in
theorem rreadDeposit_bad (l : List Int) (va : Option Addr) (c : Nat) (w : World) (hs0 : SlB va c l w) (hne0 : l.length ≠ 408) :
    Calls Tryd.prog 14 #[.slice va l.length c] w fun e w' => e = .returned (.tuple #[.agg (fcells 401 kdDeposit (fun _ => 0)).toArray, .int .i64 4]) ∧ Below w.heap.size w w' := by
  have hsl := Lib.hid hs0
  have hne := Lib.hid (show l.length ≠ headN [224, 184] from hne0)
  clear hne0
  clear hs0
  go_enter Tryd.func14, Tryd.ntmps14
  go_wp2_with (first
    | ((with_reducible refine at_alloc 33 ?_); refine wpList_plain rfl fun K hK => wp_alloc_row 33 rfl 2 rfl _ 401 infoDeposit (hK _ _ ?_); clear hK K)
    | ((with_reducible refine at_alloc 33 ?_); refine wpList_plain rfl fun K hK => wp_alloc_row 33 rfl 4 rfl _ 401 infoDeposit (hK _ _ ?_); clear hK K
       refine gen_l (fun W => RqB w.heap.size 401 kdDeposit 33 401 (fun _ => 0) w W) (RqB.begin0 rfl rfl) ?_
       intro W hS1
       have hl := Lib.hid (hsl.out.later hS1.hB)
       have hS := Lib.hid hS1
       clear hS1)
    | ((with_reducible refine (RqB.cutBad hS.out (K := 2) [224, 184] ?hV rfl (by decide) (by decide) (by decide) hne.out).mono ?hM)
       case hV => rfl
       rintro e W ⟨rfl, hS1⟩
       clear hl
       clear hS
       have hS := Lib.hid hS1
       clear hS1)
    | ((with_reducible refine at_load 33 ?_); go_loud (refine wpList_value (by rfl) _ (run_load_box _ 33 _ (by rfl) (w.heap.size + 1) (by rfl) _ _ (0, 0) _ hS.out.res Tryd.underlying33 rfl (by rw [row_size rowDeposit]; simp [fcells])) ?_))
    | ((with_reducible refine at_store 33 ?_); refine at_staddr 33 w.heap.size 0 rfl ?_; go_loud (refine wpList_store_row_gen (w0 := w) (n0 := w.heap.size) 33 _ _ rfl rfl w.heap.size rfl _ rfl (fcells_one _ _ _) (by rw [row_size rowDeposit]; simp [fcells]) _ 33 hS.out.hR (by simp [fcells]) (by omega) hS.out.hB (fun W9 hW9 hBW _ => ?_))))
  exact ret_mid_tmp rfl w.heap.size 0 (fcells 401 kdDeposit (fun _ => 0)) _ rfl hW9 Tryd.underlying33 rfl (by rw [row_size rowDeposit, fcells_length]) rfl ⟨rfl, hBW⟩
end Go.Proofs.YtihelknkcomjpaaDoor
