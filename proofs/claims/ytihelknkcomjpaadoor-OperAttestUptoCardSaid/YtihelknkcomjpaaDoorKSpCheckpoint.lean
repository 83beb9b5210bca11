/- The small container Checkpoint: reading, the program's. -/
import Derived.Test.YtihelknkcomjpaaDoorJRqS
import Derived.Test.YtihelknkcomjpaaDoorKSmCheckpoint
set_option linter.unusedVariables false
set_option linter.unusedSimpArgs false
set_option linter.unnecessarySimpa false
namespace Go.Proofs.YtihelknkcomjpaaDoor
open Go.RowKit BigFrame
set_option maxRecDepth 100000
/-- What the bytes are read as. -/
def rdCheckpoint (l : List Int) (k : Nat) : Int := if k < 1 then inN l 0 0 else l.getD (8 + (k - 1)) 0
theorem infoCheckpoint : (Tryd.prog.info? 57).map (fun i => (i.zero, i.size)) = some (some (.agg (fcells 33 kdCheckpoint fun _ => 0).toArray), 33) := by kernel_rfl
set_option maxHeartbeats 16000000 in
theorem readCheckpoint_ok (l : List Int) (va : Option Addr) (c : Nat) (w : World) (hrow0 : Row w va .u8 l) (hcap : l.length ≤ c) (hnil0 : va = none → c = 0) (hlow0 : ∀ ad, va = some ad → ad.block < w.heap.size) (hkl0 : l.length = 40) :
    Calls Tryd.prog 116 #[.slice va 40 c] w fun e w' => e = .returned (.tuple #[.agg (fcells 33 kdCheckpoint (rdCheckpoint l)).toArray, .int .i64 0]) ∧ Below w.heap.size w w' := by
  have hrow := Lib.hid hrow0
  have hnil := Lib.hid hnil0
  have hlow := Lib.hid hlow0
  have hkl := Lib.hid hkl0
  have hfew : l.length ≤ 70368744177664 := by rw [hkl0]; decide
  clear hkl0
  clear hrow0 hnil0 hlow0
  go_enter Tryd.func116, Tryd.ntmps116
  go_wp2_with (first
    | ((with_reducible refine at_alloc 57 ?_); refine wpList_plain rfl fun K hK => wp_alloc_row 57 rfl 2 rfl _ 33 infoCheckpoint (hK _ _ ?_); clear hK K)
    | ((with_reducible refine at_alloc 57 ?_); refine wpList_plain rfl fun K hK => wp_alloc_row 57 rfl 4 rfl _ 33 infoCheckpoint (hK _ _ ?_); clear hK K)
    | ((with_reducible refine (RdS.open (N := 33) (kd := kdCheckpoint) (r := rdCheckpoint l) rfl 40 40 (40 : Int) rfl hkl.out (err := 0) rfl (by decide) hrow.out hcap hnil.out hlow.out hfew).mono ?_)
       rintro e W ⟨rfl, hS1⟩
       have hS := Lib.hid hS1
       clear hS1)
    | ((with_reducible refine (RdS.u64 hS.out (fun _ => by rw [hkl.out]; decide)).mono ?_)
       rintro e W ⟨v1, rfl, hv1, hS1⟩
       have hv := Lib.hid hv1
       clear hv1
       clear hS
       have hS := Lib.hid hS1
       clear hS1)
    | ((with_reducible refine at_store 27 ?_); refine at_staddr 27 (w.heap.size + 1) 0 rfl ?_; refine wpList_rd1 rfl 27 _ _ rfl 0 rfl (.int .u64 v1) rfl v1 rfl sz_u64 hS.out rfl (by decide) (fun _ => (hv.out (by trivial)).trans rfl) (fun W1 hS1 => ?_)
       obtain ⟨W, hWW⟩ : ∃ W, W = W1 := ⟨_, rfl⟩
       subst hWW
       clear hv
       clear hS
       have hS := Lib.hid hS1
       clear hS1))
  rename_i K hK
  refine wp_region_held (S := fun _ => True) (by kernel_rfl) ?_
  have hTT : True := trivial
  refine takeL (i := 0) (v := (.pointer (some ⟨w.heap.size + 1, 1, none⟩))) rfl (by kernel_rfl) (by kernel_rfl) (by kernel_rfl) (fun _ _ _ h => h) rfl (by assumption) (fun w' hS' => by go_simp) ?_
  simp only [Act.put, List.setIfInBounds_toArray, List.set_cons_zero, List.set_cons_succ]
  refine takeL (i := 1) (v := (.slice (some ⟨w.heap.size + 1, 1, none⟩) 32 32)) rfl (by kernel_rfl) (by kernel_rfl) (by kernel_rfl) (fun _ _ _ h => h) rfl (by assumption) (fun w' hS' => by go_simp) ?_
  simp only [Act.put, List.setIfInBounds_toArray, List.set_cons_zero, List.set_cons_succ]
  refine takeL (i := 2) (v := (.pointer (some ⟨w.heap.size + 1 + 1, 0, none⟩))) rfl (by kernel_rfl) (by kernel_rfl) (by kernel_rfl) (fun _ _ _ h => h) rfl (by assumption) (fun w' hS' => by go_simp) ?_
  simp only [Act.put, List.setIfInBounds_toArray, List.set_cons_zero, List.set_cons_succ]
  refine oneL (i := 3) rfl (by kernel_rfl) rfl (wp_callE 50 #[.pointer (some ⟨w.heap.size + 1 + 1, 0, none⟩), .int .i64 32] (by go_simp) _ ((hS.out.drew _).bytesE 32 (32 : Int) rfl (by decide) (by decide) (fun _ => by rw [hkl.out]; decide)) ?_)
  rintro v W ⟨b, o', c', q, rfl, hcc, hbl, hrw, hql, hq, hS1⟩
  refine ⟨trivial, ?_⟩
  simp only [Act.put, List.setIfInBounds_toArray, List.set_cons_zero, List.set_cons_succ]
  refine oneL (i := 4) rfl (by kernel_rfl) rfl (wp_copy_rd _ _ rfl 1 32 b o' c' 32 rfl rfl hS1 q hrw hql rfl (by intro j hj; simp only [kdCheckpoint]; (repeat' split) <;> first | rfl | (exfalso; omega)) (by decide) (fun e j hj => by rw [hq (by trivial), drop_take_get _ _ _ _ hj]; unfold rdCheckpoint; (repeat' split) <;> first | (exfalso; omega) | (congr 1 <;> omega)) (fun W hS2 => ⟨trivial, ?_⟩))
  refine wpAnyH_done (by kernel_rfl) ?_ _
  refine hK _ _ ?_
  clear hK K hS hTT hrw hcc hbl hq hql hS1
  have hS := Lib.hid hS2
  clear hS2
  generalize goInt 32 = gi
  simp only [Act.put, List.setIfInBounds_toArray, List.set_cons_zero, List.set_cons_succ]
  go_wp2_with (first
    | ((with_reducible refine at_load 36 ?_); go_loud (refine wpList_value (by rfl) _ (run_load_cell _ 36 _ (by rfl) ⟨w.heap.size + 1 + 1, 4, none⟩ rfl (.int .i64 0) hS.out.errno _ Tryd.underlying36 rfl) ?_))
    | ((with_reducible refine at_load 57 ?_); go_loud (refine wpList_value (by rfl) _ (run_load_box _ 57 _ (by rfl) (w.heap.size + 1) (by rfl) _ _ (0, 0) _ hS.out.res Tryd.underlying57 rfl (by rw [row_size rowCheckpoint]; simp [fcells])) ?_))
    | ((with_reducible refine at_store 57 ?_); refine at_staddr 57 w.heap.size 0 rfl ?_; go_loud (refine wpList_store_row_gen (w0 := w) (n0 := w.heap.size) 57 _ _ rfl rfl w.heap.size rfl _ rfl (fcells_one _ _ _) (by rw [row_size rowCheckpoint]; simp [fcells]) _ 57 hS.out.hR (by simp [fcells]) (by omega) hS.out.hB (fun W9 hW9 hBW _ => ?_))))
  exact ret_mid_tmp rfl w.heap.size 0 (fcells 33 kdCheckpoint (rdCheckpoint l)) _ rfl hW9 Tryd.underlying57 rfl (by rw [row_size rowCheckpoint, fcells_length]) rfl ⟨rfl, hBW⟩
end Go.Proofs.YtihelknkcomjpaaDoor
