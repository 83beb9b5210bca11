/- The small container Checkpoint: reading, the reference's. -/
import Derived.Test.YtihelknkcomjpaaDoorJRqS
import Derived.Test.YtihelknkcomjpaaDoorKSpCheckpoint
set_option linter.unusedVariables false
set_option linter.unusedSimpArgs false
set_option linter.unnecessarySimpa false
namespace Go.Proofs.YtihelknkcomjpaaDoor
open Go.RowKit BigFrame
set_option maxRecDepth 100000
set_option maxHeartbeats 16000000 in
theorem rreadCheckpoint_ok (l : List Int) (va : Option Addr) (c : Nat) (w : World) (hs0 : SlB va c l w) (hkl0 : l.length = 40) :
    Calls Tryd.prog 117 #[.slice va 40 c] w fun e w' => e = .returned (.tuple #[.agg (fcells 33 kdCheckpoint (rdCheckpoint l)).toArray, .int .i64 0]) ∧ Below w.heap.size w w' := by
  have hsl := Lib.hid hs0
  have hkl := Lib.hid hkl0
  clear hkl0
  clear hs0
  go_enter Tryd.func117, Tryd.ntmps117
  go_wp2_with (first
    | ((with_reducible refine at_alloc 57 ?_); refine wpList_plain rfl fun K hK => wp_alloc_row 57 rfl 2 rfl _ 33 infoCheckpoint (hK _ _ ?_); clear hK K)
    | ((with_reducible refine at_alloc 57 ?_); refine wpList_plain rfl fun K hK => wp_alloc_row 57 rfl 4 rfl _ 33 infoCheckpoint (hK _ _ ?_); clear hK K
       refine gen_l (fun W => RqB w.heap.size 33 kdCheckpoint 57 0 (rdCheckpoint l) w W) (RqB.begin rfl rfl) ?_
       intro W hS1
       have hl := Lib.hid (hsl.out.later hS1.hB)
       have hS := Lib.hid hS1
       clear hS1)
    | ((with_reducible refine (RqB.cut hS.out (K := 2) (k := 40) [8, 32] ?hV hl.out hkl.out rfl (by decide) (by decide) (by decide) rfl).mono ?hM)
       case hV => rfl
       rintro e W ⟨gp, cp, rfl, hS1⟩
       clear hl
       clear hS
       have hS := Lib.hid hS1
       clear hS1)
    | ((with_reducible refine at_iaddr 96 ?_); refine wpList_value (by rfl) _ (run_index_slice _ 96 34 _ _ rfl Tryd.underlying96 1 sz_bs gp 0 2 cp rfl .i64 0 rfl (by decide) 0 (by decide)) ?_)
    | ((with_reducible refine at_load 34 ?_); refine at_ldaddr 34 gp 0 rfl ?_
       obtain ⟨q, hqe1⟩ : ∃ q, q = (l.drop 0).take 8 := ⟨_, rfl⟩
       have hql1 : q.length = 8 := by rw [hqe1]; exact part_len l 0 8 40 hkl.out (by decide)
       obtain ⟨vq, cq, hcq, hq1⟩ := hS.out.part 0 8 q (by rw [cutL_length]; decide) (by rw [hqe1]; exact part_at [8, 32] l 0 0 8 (by decide) (by decide) rfl rfl) hql1
       have hqe := Lib.hid hqe1
       have hql := Lib.hid hql1
       clear hqe1 hql1
       refine wpList_value (by rfl) _ (run_load_cell _ 34 _ (by rfl) ⟨gp, 0, none⟩ rfl (.slice vq 8 cq) hcq _ Tryd.underlying34 rfl) ?_
       have hq := Lib.hid hq1
       clear hq1 hcq)
    | ((with_reducible refine (rread_8 q vq cq _ hq.out hql.out).mono ?_)
       rintro e W2 ⟨rfl, rfl⟩
       clear hq)
    | ((with_reducible refine at_store 27 ?_); refine at_staddr 27 (w.heap.size + 1) 0 rfl ?_; refine wpList_rq1 rfl 27 _ _ rfl 0 rfl (.int .u64 (rdQ q)) rfl (rdQ q) rfl sz_u64 hS.out rfl (by decide) (by rw [hqe.out]; exact (inN_at l 0).symm) (fun W1 hS1 => ?_)
       obtain ⟨W, hWW⟩ : ∃ W, W = W1 := ⟨_, rfl⟩
       subst hWW
       clear hqe hql
       clear hS
       have hS := Lib.hid hS1
       clear hS1))
  go_loopw [7] (fun i wr => ∃ j : Nat, j ≤ 32 ∧ i = .int .i64 (j : Int) ∧ RqS w.heap.size 33 kdCheckpoint 57 (1 + j) (rdCheckpoint l) gp cp (cutL [8, 32] l) w wr) (fun i _ => 32 - (intOf i).toNat)
  case atStart => exact ⟨0, by omega, rfl, hS.out⟩
  case round =>
    obtain ⟨j, hj, rfl, hS1⟩ := hrel
    clear hS
    have hS := Lib.hid hS1
    clear hS1
    by_cases hlt : j < 32
    · have lj : (j : Int) < 32 := by omega
      go_wp2_with (first
        | ((with_reducible refine at_iaddr 96 ?_); refine wpList_value (by rfl) _ (run_index_slice _ 96 34 _ _ rfl Tryd.underlying96 1 sz_bs gp 0 2 cp rfl .i64 1 rfl (by decide) 1 (by decide)) ?_)
        | ((with_reducible refine at_load 34 ?_); refine at_ldaddr 34 gp 1 rfl ?_
           obtain ⟨q, hqe1⟩ : ∃ q, q = (l.drop 8).take 32 := ⟨_, rfl⟩
           have hql1 : q.length = 32 := by rw [hqe1]; exact part_len l 8 32 40 hkl.out (by decide)
           obtain ⟨vq, cq, hcq, hq1⟩ := hS.out.part 1 32 q (by rw [cutL_length]; decide) (by rw [hqe1]; exact part_at [8, 32] l 1 8 32 (by decide) (by decide) rfl rfl) hql1
           have hqe := Lib.hid hqe1
           have hql := Lib.hid hql1
           clear hqe1 hql1
           obtain ⟨bq, oq, e0, hcell1⟩ := hq1.row.cell j (by rw [hql.out]; exact hlt)
           subst e0
           obtain ⟨y, hye1⟩ : ∃ y, y = q.getD j 0 := ⟨_, rfl⟩
           rw [← hye1] at hcell1
           have hcell := Lib.hid hcell1
           have hye := Lib.hid hye1
           clear hcell1 hye1
           refine wpList_value (by rfl) _ (run_load_cell _ 34 _ (by rfl) ⟨gp, 1, none⟩ rfl (.slice (some ⟨bq, oq, none⟩) 32 cq) hcq _ Tryd.underlying34 rfl) ?_
           have hq := Lib.hid hq1
           clear hq1 hcq)
        | ((with_reducible refine at_iaddr 34 ?_); go_loud (refine wpList_value (by rfl) _ (run_index_slice _ 34 5 _ _ rfl Tryd.underlying34 1 sz_u8 bq oq 32 cq rfl .i64 j rfl hlt (oq + j) (by omega)) ?_))
        | ((with_reducible refine at_load 5 ?_); go_loud (refine wpList_value (by rfl) _ (run_load_cell _ 5 _ (by rfl) ⟨bq, oq + j, none⟩ rfl (.int .u8 y) hcell.out _ Tryd.underlying5 rfl) ?_))
        | ((with_reducible refine at_store 5 ?_); go_loud (refine wpList_rq1 rfl 5 _ _ rfl (1 + j) rfl (.int .u8 y) rfl y (by rw [show kdCheckpoint (1 + j) = .u8 from ((by intro j hj; simp only [kdCheckpoint]; (repeat' split) <;> first | rfl | (exfalso; omega)) : ∀ j, j < 32 → kdCheckpoint (1 + j) = .u8) j hlt]; rfl) sz_u8 hS.out rfl (by omega) (by rw [hye.out, hqe.out, drop_take_get _ _ _ _ hlt]; unfold rdCheckpoint; (repeat' split) <;> first | (exfalso; omega) | (congr 1 <;> omega)) (fun W1 hS1 => ?_))
           obtain ⟨W, hWW⟩ : ∃ W, W = W1 := ⟨_, rfl⟩
           subst hWW
           clear hqe hql hye hcell hq
           clear hS
           have hS := Lib.hid hS1
           clear hS1))
      first
        | exact ⟨⟨j + 1, by omega, by go_num, hS.out⟩, by simp [intOf]; omega⟩
        | (refine ⟨?_, by simp [intOf]; omega⟩
           (repeat apply Exists.intro)
           exact ⟨⟨j + 1, by omega, by go_num, hS.out⟩, rfl⟩)
    · have e : j = 32 := by omega
      subst e
      clear hlt hj
      go_wp2_with (first
        | ((with_reducible refine at_load 57 ?_); go_loud (refine wpList_value (by rfl) _ (run_load_box _ 57 _ (by rfl) (w.heap.size + 1) (by rfl) _ _ (0, 0) _ hS.out.res Tryd.underlying57 rfl (by rw [row_size rowCheckpoint]; simp [fcells])) ?_))
        | ((with_reducible refine at_store 57 ?_); refine at_staddr 57 w.heap.size 0 rfl ?_; go_loud (refine wpList_store_row_gen (w0 := w) (n0 := w.heap.size) 57 _ _ rfl rfl w.heap.size rfl _ rfl (fcells_one _ _ _) (by rw [row_size rowCheckpoint]; simp [fcells]) _ 57 hS.out.hR (by simp [fcells]) (by omega) hS.out.hB (fun W9 hW9 hBW _ => ?_))))
      exact ret_mid_tmp rfl w.heap.size 0 (fcells 33 kdCheckpoint (rdCheckpoint l)) _ rfl hW9 Tryd.underlying57 rfl (by rw [row_size rowCheckpoint, fcells_length]) rfl ⟨rfl, hBW⟩
end Go.Proofs.YtihelknkcomjpaaDoor
