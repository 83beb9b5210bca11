import Derived.Test.YtmoofccblbaepaaDoorJRqS
import Derived.Test.YtmoofccblbaepaaDoorJSlExit
set_option linter.unusedVariables false
set_option linter.unusedSimpArgs false
set_option linter.unnecessarySimpa false
/- The small container Exit: reading, the reference's. -/
namespace Go.Proofs.YtmoofccblbaepaaDoor
open Go.RowKit BigFrame
set_option maxRecDepth 100000
set_option maxHeartbeats 16000000 in
theorem rreadExit_ok (l : List Int) (va : Option Addr) (c : Nat) (w : World) (hs0 : SlB va c l w) (hkl0 : l.length = 16) :
    Calls Tryd.prog 21 #[.slice va 16 c] w fun e w' => e = .returned (.tuple #[.agg (fcells 2 kdExit (rdExit l)).toArray, .int .i64 0]) ∧ Below w.heap.size w w' := by
  have hsl := Lib.hid hs0
  have hkl := Lib.hid hkl0
  clear hkl0
  clear hs0
  go_enter Tryd.func21, Tryd.ntmps21
  go_wp2_with (first
    | ((with_reducible refine at_alloc 24 ?_); refine wpList_plain rfl fun K hK => wp_alloc_row 24 rfl 2 rfl _ 2 infoExit (hK _ _ ?_); clear hK K)
    | ((with_reducible refine at_alloc 24 ?_); refine wpList_plain rfl fun K hK => wp_alloc_row 24 rfl 4 rfl _ 2 infoExit (hK _ _ ?_); clear hK K
       refine gen_l (fun W => RqB w.heap.size 2 kdExit 24 0 (rdExit l) w W) (RqB.begin rfl rfl) ?_
       intro W hS1
       have hl := Lib.hid (hsl.out.later hS1.hB)
       have hS := Lib.hid hS1
       clear hS1)
    | ((with_reducible refine (RqB.cut hS.out (K := 2) (k := 16) [8, 8] ?hV hl.out hkl.out rfl (by decide) (by decide) (by decide) rfl).mono ?hM)
       case hV => rfl
       rintro e W ⟨gp, cp, rfl, hS1⟩
       clear hl
       clear hS
       have hS := Lib.hid hS1
       clear hS1)
    | ((with_reducible refine at_iaddr 157 ?_); refine wpList_value (by rfl) _ (run_index_slice _ 157 25 _ _ rfl Tryd.underlying157 1 sz_bs gp 0 2 cp rfl .i64 0 rfl (by decide) 0 (by decide)) ?_)
    | ((with_reducible refine at_load 25 ?_); refine at_ldaddr 25 gp 0 rfl ?_
       obtain ⟨q, hqe1⟩ : ∃ q, q = (l.drop 0).take 8 := ⟨_, rfl⟩
       have hql1 : q.length = 8 := by rw [hqe1]; exact part_len l 0 8 16 hkl.out (by decide)
       obtain ⟨vq, cq, hcq, hq1⟩ := hS.out.part 0 8 q (by rw [cutL_length]; decide) (by rw [hqe1]; exact part_at [8, 8] l 0 0 8 (by decide) (by decide) rfl rfl) hql1
       have hqe := Lib.hid hqe1
       have hql := Lib.hid hql1
       clear hqe1 hql1
       refine wpList_value (by rfl) _ (run_load_cell _ 25 _ (by rfl) ⟨gp, 0, none⟩ rfl (.slice vq 8 cq) hcq _ Tryd.underlying25 rfl) ?_
       have hq := Lib.hid hq1
       clear hq1 hcq)
    | ((with_reducible refine (rread_8 q vq cq _ hq.out hql.out).mono ?_)
       rintro e W2 ⟨rfl, rfl⟩
       clear hq)
    | ((with_reducible refine at_store 22 ?_); refine at_staddr 22 (w.heap.size + 1) 0 rfl ?_; refine wpList_rq1 rfl 22 _ _ rfl 0 rfl (.int .u64 (rdQ q)) rfl (rdQ q) rfl sz_u64 hS.out rfl (by decide) (by rw [hqe.out]; exact (inN_at l 0).symm) (fun W1 hS1 => ?_)
       obtain ⟨W, hWW⟩ : ∃ W, W = W1 := ⟨_, rfl⟩
       subst hWW
       clear hqe hql
       clear hS
       have hS := Lib.hid hS1
       clear hS1)
    | ((with_reducible refine at_iaddr 157 ?_); refine wpList_value (by rfl) _ (run_index_slice _ 157 25 _ _ rfl Tryd.underlying157 1 sz_bs gp 0 2 cp rfl .i64 1 rfl (by decide) 1 (by decide)) ?_)
    | ((with_reducible refine at_load 25 ?_); refine at_ldaddr 25 gp 1 rfl ?_
       obtain ⟨q, hqe1⟩ : ∃ q, q = (l.drop 8).take 8 := ⟨_, rfl⟩
       have hql1 : q.length = 8 := by rw [hqe1]; exact part_len l 8 8 16 hkl.out (by decide)
       obtain ⟨vq, cq, hcq, hq1⟩ := hS.out.part 1 8 q (by rw [cutL_length]; decide) (by rw [hqe1]; exact part_at [8, 8] l 1 8 8 (by decide) (by decide) rfl rfl) hql1
       have hqe := Lib.hid hqe1
       have hql := Lib.hid hql1
       clear hqe1 hql1
       refine wpList_value (by rfl) _ (run_load_cell _ 25 _ (by rfl) ⟨gp, 1, none⟩ rfl (.slice vq 8 cq) hcq _ Tryd.underlying25 rfl) ?_
       have hq := Lib.hid hq1
       clear hq1 hcq)
    | ((with_reducible refine (rread_8 q vq cq _ hq.out hql.out).mono ?_)
       rintro e W2 ⟨rfl, rfl⟩
       clear hq)
    | ((with_reducible refine at_store 22 ?_); refine at_staddr 22 (w.heap.size + 1) 1 rfl ?_; refine wpList_rq1 rfl 22 _ _ rfl 1 rfl (.int .u64 (rdQ q)) rfl (rdQ q) rfl sz_u64 hS.out rfl (by decide) (by rw [hqe.out]; exact (inN_at l 8).symm) (fun W1 hS1 => ?_)
       obtain ⟨W, hWW⟩ : ∃ W, W = W1 := ⟨_, rfl⟩
       subst hWW
       clear hqe hql
       clear hS
       have hS := Lib.hid hS1
       clear hS1)
    | ((with_reducible refine at_load 24 ?_); go_loud (refine wpList_value (by rfl) _ (run_load_box _ 24 _ (by rfl) (w.heap.size + 1) (by rfl) _ _ (0, 0) _ hS.out.res Tryd.underlying24 rfl (by rw [row_size rowExit]; simp [fcells])) ?_))
    | ((with_reducible refine at_store 24 ?_); refine at_staddr 24 w.heap.size 0 rfl ?_; go_loud (refine wpList_store_row_gen (w0 := w) (n0 := w.heap.size) 24 _ _ rfl rfl w.heap.size rfl _ rfl (fcells_one _ _ _) (by rw [row_size rowExit]; simp [fcells]) _ 24 hS.out.hR (by simp [fcells]) (by omega) hS.out.hB (fun W9 hW9 hBW _ => ?_))))
  exact ret_mid_tmp rfl w.heap.size 0 (fcells 2 kdExit (rdExit l)) _ rfl hW9 Tryd.underlying24 rfl (by rw [row_size rowExit, fcells_length]) rfl ⟨rfl, hBW⟩
set_option maxHeartbeats 16000000 in
theorem rreadExit_bad (l : List Int) (va : Option Addr) (c : Nat) (w : World) (hs0 : SlB va c l w) (hne0 : l.length ≠ 16) :
    Calls Tryd.prog 21 #[.slice va l.length c] w fun e w' => e = .returned (.tuple #[.agg (fcells 2 kdExit (fun _ => 0)).toArray, .int .i64 4]) ∧ Below w.heap.size w w' := by
  have hsl := Lib.hid hs0
  have hne := Lib.hid (show l.length ≠ headN [8, 8] from hne0)
  clear hne0
  clear hs0
  go_enter Tryd.func21, Tryd.ntmps21
  go_wp2_with (first
    | ((with_reducible refine at_alloc 24 ?_); refine wpList_plain rfl fun K hK => wp_alloc_row 24 rfl 2 rfl _ 2 infoExit (hK _ _ ?_); clear hK K)
    | ((with_reducible refine at_alloc 24 ?_); refine wpList_plain rfl fun K hK => wp_alloc_row 24 rfl 4 rfl _ 2 infoExit (hK _ _ ?_); clear hK K
       refine gen_l (fun W => RqB w.heap.size 2 kdExit 24 2 (fun _ => 0) w W) (RqB.begin0 rfl rfl) ?_
       intro W hS1
       have hl := Lib.hid (hsl.out.later hS1.hB)
       have hS := Lib.hid hS1
       clear hS1)
    | ((with_reducible refine (RqB.cutBad hS.out (K := 2) [8, 8] ?hV rfl (by decide) (by decide) (by decide) hne.out).mono ?hM)
       case hV => rfl
       rintro e W ⟨rfl, hS1⟩
       clear hl
       clear hS
       have hS := Lib.hid hS1
       clear hS1)
    | ((with_reducible refine at_load 24 ?_); go_loud (refine wpList_value (by rfl) _ (run_load_box _ 24 _ (by rfl) (w.heap.size + 1) (by rfl) _ _ (0, 0) _ hS.out.res Tryd.underlying24 rfl (by rw [row_size rowExit]; simp [fcells])) ?_))
    | ((with_reducible refine at_store 24 ?_); refine at_staddr 24 w.heap.size 0 rfl ?_; go_loud (refine wpList_store_row_gen (w0 := w) (n0 := w.heap.size) 24 _ _ rfl rfl w.heap.size rfl _ rfl (fcells_one _ _ _) (by rw [row_size rowExit]; simp [fcells]) _ 24 hS.out.hR (by simp [fcells]) (by omega) hS.out.hB (fun W9 hW9 hBW _ => ?_))))
  exact ret_mid_tmp rfl w.heap.size 0 (fcells 2 kdExit (fun _ => 0)) _ rfl hW9 Tryd.underlying24 rfl (by rw [row_size rowExit, fcells_length]) rfl ⟨rfl, hBW⟩
end Go.Proofs.YtmoofccblbaepaaDoor
