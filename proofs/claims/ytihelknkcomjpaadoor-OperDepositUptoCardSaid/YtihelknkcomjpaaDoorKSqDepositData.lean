/- The small container DepositData: reading, the reference's. -/
import Derived.Test.YtihelknkcomjpaaDoorJRqS
import Derived.Test.YtihelknkcomjpaaDoorKSpDepositData
set_option linter.unusedVariables false
set_option linter.unusedSimpArgs false
set_option linter.unnecessarySimpa false
namespace Go.Proofs.YtihelknkcomjpaaDoor
open Go.RowKit BigFrame
set_option maxRecDepth 100000
set_option maxHeartbeats 16000000 in
theorem rreadDepositData_ok (l : List Int) (va : Option Addr) (c : Nat) (w : World) (hs0 : SlB va c l w) (hkl0 : l.length = 184) :
    Calls Tryd.prog 54 #[.slice va 184 c] w fun e w' => e = .returned (.tuple #[.agg (fcells 177 kdDepositData (rdDepositData l)).toArray, .int .i64 0]) ∧ Below w.heap.size w w' := by
  have hsl := Lib.hid hs0
  have hkl := Lib.hid hkl0
  clear hkl0
  clear hs0
  go_enter Tryd.func54, Tryd.ntmps54
  go_wp2_with (first
    | ((with_reducible refine at_alloc 31 ?_); refine wpList_plain rfl fun K hK => wp_alloc_row 31 rfl 2 rfl _ 177 infoDepositData (hK _ _ ?_); clear hK K)
    | ((with_reducible refine at_alloc 31 ?_); refine wpList_plain rfl fun K hK => wp_alloc_row 31 rfl 4 rfl _ 177 infoDepositData (hK _ _ ?_); clear hK K
       refine gen_l (fun W => RqB w.heap.size 177 kdDepositData 31 0 (rdDepositData l) w W) (RqB.begin rfl rfl) ?_
       intro W hS1
       have hl := Lib.hid (hsl.out.later hS1.hB)
       have hS := Lib.hid hS1
       clear hS1)
    | ((with_reducible refine (RqB.cut hS.out (K := 4) (k := 184) [48, 32, 8, 96] ?hV hl.out hkl.out rfl (by decide) (by decide) (by decide) rfl).mono ?hM)
       case hV => rfl
       rintro e W ⟨gp, cp, rfl, hS1⟩
       clear hl
       clear hS
       have hS := Lib.hid hS1
       clear hS1))
  go_loopw [7] (fun i wr => ∃ j : Nat, j ≤ 48 ∧ i = .int .i64 (j : Int) ∧ RqS w.heap.size 177 kdDepositData 31 j (rdDepositData l) gp cp (cutL [48, 32, 8, 96] l) w wr) (fun i _ => 48 - (intOf i).toNat)
  case atStart => exact ⟨0, by omega, rfl, hS.out⟩
  case round =>
    obtain ⟨j, hj, rfl, hS1⟩ := hrel
    clear hS
    have hS := Lib.hid hS1
    clear hS1
    by_cases hlt : j < 48
    · have lj : (j : Int) < 48 := by omega
      go_wp2_with (first
        | ((with_reducible refine at_iaddr 96 ?_); refine wpList_value (by rfl) _ (run_index_slice _ 96 34 _ _ rfl Tryd.underlying96 1 sz_bs gp 0 4 cp rfl .i64 0 rfl (by decide) 0 (by decide)) ?_)
        | ((with_reducible refine at_load 34 ?_); refine at_ldaddr 34 gp 0 rfl ?_
           obtain ⟨q, hqe1⟩ : ∃ q, q = (l.drop 0).take 48 := ⟨_, rfl⟩
           have hql1 : q.length = 48 := by rw [hqe1]; exact part_len l 0 48 184 hkl.out (by decide)
           obtain ⟨vq, cq, hcq, hq1⟩ := hS.out.part 0 48 q (by rw [cutL_length]; decide) (by rw [hqe1]; exact part_at [48, 32, 8, 96] l 0 0 48 (by decide) (by decide) rfl rfl) hql1
           have hqe := Lib.hid hqe1
           have hql := Lib.hid hql1
           clear hqe1 hql1
           obtain ⟨bq, oq, e0, hcell1⟩ := hq1.row.cell j (by rw [hql.out]; exact hlt)
           subst e0
           obtain ⟨y, hye1⟩ : ∃ y, y = q.getD j 0 := ⟨_, rfl⟩
           rw [← hye1] at hcell1
           have hcell := Lib.hid hcell1
           have hye := Lib.hid hye1
           clear hcell1 hye1
           refine wpList_value (by rfl) _ (run_load_cell _ 34 _ (by rfl) ⟨gp, 0, none⟩ rfl (.slice (some ⟨bq, oq, none⟩) 48 cq) hcq _ Tryd.underlying34 rfl) ?_
           have hq := Lib.hid hq1
           clear hq1 hcq)
        | ((with_reducible refine at_iaddr 34 ?_); go_loud (refine wpList_value (by rfl) _ (run_index_slice _ 34 5 _ _ rfl Tryd.underlying34 1 sz_u8 bq oq 48 cq rfl .i64 j rfl hlt (oq + j) (by omega)) ?_))
        | ((with_reducible refine at_load 5 ?_); go_loud (refine wpList_value (by rfl) _ (run_load_cell _ 5 _ (by rfl) ⟨bq, oq + j, none⟩ rfl (.int .u8 y) hcell.out _ Tryd.underlying5 rfl) ?_))
        | ((with_reducible refine at_store 5 ?_); go_loud (refine wpList_rq1 rfl 5 _ _ rfl j rfl (.int .u8 y) rfl y (by rw [show kdDepositData j = .u8 from ((by intro j hj; simp only [kdDepositData]; (repeat' split) <;> first | rfl | (exfalso; omega)) : ∀ j, j < 48 → kdDepositData j = .u8) j hlt]; rfl) sz_u8 hS.out rfl (by omega) (by rw [hye.out, hqe.out, drop_take_get _ _ _ _ hlt]; unfold rdDepositData; (repeat' split) <;> first | (exfalso; omega) | (congr 1 <;> omega)) (fun W1 hS1 => ?_))
           obtain ⟨W, hWW⟩ : ∃ W, W = W1 := ⟨_, rfl⟩
           subst hWW
           clear hqe hql hye hcell hq
           clear hS
           have hS := Lib.hid hS1
           clear hS1))
      first
        | exact ⟨⟨j + 1, by omega, by go_num, hS.out⟩, by simp [intOf]; omega⟩
        | (refine ⟨?_, by simp [intOf]; omega⟩
           (repeat apply Exists.intro)
           exact ⟨⟨j + 1, by omega, by go_num, hS.out⟩, rfl⟩)
    · have e : j = 48 := by omega
      subst e
      clear hlt hj
      go_wp2
      go_loopw [8] (fun i wr => ∃ j : Nat, j ≤ 32 ∧ i = .int .i64 (j : Int) ∧ RqS w.heap.size 177 kdDepositData 31 (48 + j) (rdDepositData l) gp cp (cutL [48, 32, 8, 96] l) w wr) (fun i _ => 32 - (intOf i).toNat)
      case atStart => exact ⟨0, by omega, rfl, hS.out⟩
      case round =>
        obtain ⟨j, hj, rfl, hS1⟩ := hrel
        clear hS
        have hS := Lib.hid hS1
        clear hS1
        by_cases hlt : j < 32
        · have lj : (j : Int) < 32 := by omega
          go_wp2_with (first
            | ((with_reducible refine at_iaddr 96 ?_); refine wpList_value (by rfl) _ (run_index_slice _ 96 34 _ _ rfl Tryd.underlying96 1 sz_bs gp 0 4 cp rfl .i64 1 rfl (by decide) 1 (by decide)) ?_)
            | ((with_reducible refine at_load 34 ?_); refine at_ldaddr 34 gp 1 rfl ?_
               obtain ⟨q, hqe1⟩ : ∃ q, q = (l.drop 48).take 32 := ⟨_, rfl⟩
               have hql1 : q.length = 32 := by rw [hqe1]; exact part_len l 48 32 184 hkl.out (by decide)
               obtain ⟨vq, cq, hcq, hq1⟩ := hS.out.part 1 32 q (by rw [cutL_length]; decide) (by rw [hqe1]; exact part_at [48, 32, 8, 96] l 1 48 32 (by decide) (by decide) rfl rfl) hql1
               have hqe := Lib.hid hqe1
               have hql := Lib.hid hql1
               clear hqe1 hql1
               obtain ⟨bq, oq, e0, hcell1⟩ := hq1.row.cell j (by rw [hql.out]; exact hlt)
               subst e0
               obtain ⟨y, hye1⟩ : ∃ y, y = q.getD j 0 := ⟨_, rfl⟩
               rw [← hye1] at hcell1
               have hcell := Lib.hid hcell1
               have hye := Lib.hid hye1
               clear hcell1 hye1
               refine wpList_value (by rfl) _ (run_load_cell _ 34 _ (by rfl) ⟨gp, 1, none⟩ rfl (.slice (some ⟨bq, oq, none⟩) 32 cq) hcq _ Tryd.underlying34 rfl) ?_
               have hq := Lib.hid hq1
               clear hq1 hcq)
            | ((with_reducible refine at_iaddr 34 ?_); go_loud (refine wpList_value (by rfl) _ (run_index_slice _ 34 5 _ _ rfl Tryd.underlying34 1 sz_u8 bq oq 32 cq rfl .i64 j rfl hlt (oq + j) (by omega)) ?_))
            | ((with_reducible refine at_load 5 ?_); go_loud (refine wpList_value (by rfl) _ (run_load_cell _ 5 _ (by rfl) ⟨bq, oq + j, none⟩ rfl (.int .u8 y) hcell.out _ Tryd.underlying5 rfl) ?_))
            | ((with_reducible refine at_store 5 ?_); go_loud (refine wpList_rq1 rfl 5 _ _ rfl (48 + j) rfl (.int .u8 y) rfl y (by rw [show kdDepositData (48 + j) = .u8 from ((by intro j hj; simp only [kdDepositData]; (repeat' split) <;> first | rfl | (exfalso; omega)) : ∀ j, j < 32 → kdDepositData (48 + j) = .u8) j hlt]; rfl) sz_u8 hS.out rfl (by omega) (by rw [hye.out, hqe.out, drop_take_get _ _ _ _ hlt]; unfold rdDepositData; (repeat' split) <;> first | (exfalso; omega) | (congr 1 <;> omega)) (fun W1 hS1 => ?_))
               obtain ⟨W, hWW⟩ : ∃ W, W = W1 := ⟨_, rfl⟩
               subst hWW
               clear hqe hql hye hcell hq
               clear hS
               have hS := Lib.hid hS1
               clear hS1))
          first
            | exact ⟨⟨j + 1, by omega, by go_num, hS.out⟩, by simp [intOf]; omega⟩
            | (refine ⟨?_, by simp [intOf]; omega⟩
               (repeat apply Exists.intro)
               exact ⟨⟨j + 1, by omega, by go_num, hS.out⟩, rfl⟩)
        · have e : j = 32 := by omega
          subst e
          clear hlt hj
          go_wp2_with (first
            | ((with_reducible refine at_iaddr 96 ?_); refine wpList_value (by rfl) _ (run_index_slice _ 96 34 _ _ rfl Tryd.underlying96 1 sz_bs gp 0 4 cp rfl .i64 2 rfl (by decide) 2 (by decide)) ?_)
            | ((with_reducible refine at_load 34 ?_); refine at_ldaddr 34 gp 2 rfl ?_
               obtain ⟨q, hqe1⟩ : ∃ q, q = (l.drop 80).take 8 := ⟨_, rfl⟩
               have hql1 : q.length = 8 := by rw [hqe1]; exact part_len l 80 8 184 hkl.out (by decide)
               obtain ⟨vq, cq, hcq, hq1⟩ := hS.out.part 2 8 q (by rw [cutL_length]; decide) (by rw [hqe1]; exact part_at [48, 32, 8, 96] l 2 80 8 (by decide) (by decide) rfl rfl) hql1
               have hqe := Lib.hid hqe1
               have hql := Lib.hid hql1
               clear hqe1 hql1
               refine wpList_value (by rfl) _ (run_load_cell _ 34 _ (by rfl) ⟨gp, 2, none⟩ rfl (.slice vq 8 cq) hcq _ Tryd.underlying34 rfl) ?_
               have hq := Lib.hid hq1
               clear hq1 hcq)
            | ((with_reducible refine (rread_8 q vq cq _ hq.out hql.out).mono ?_)
               rintro e W2 ⟨rfl, rfl⟩
               clear hq)
            | ((with_reducible refine at_store 27 ?_); refine at_staddr 27 (w.heap.size + 1) 80 rfl ?_; refine wpList_rq1 rfl 27 _ _ rfl 80 rfl (.int .u64 (rdQ q)) rfl (rdQ q) rfl sz_u64 hS.out rfl (by decide) (by rw [hqe.out]; exact (inN_at l 80).symm) (fun W1 hS1 => ?_)
               obtain ⟨W, hWW⟩ : ∃ W, W = W1 := ⟨_, rfl⟩
               subst hWW
               clear hqe hql
               clear hS
               have hS := Lib.hid hS1
               clear hS1))
          go_loopw [9] (fun i wr => ∃ j : Nat, j ≤ 96 ∧ i = .int .i64 (j : Int) ∧ RqS w.heap.size 177 kdDepositData 31 (81 + j) (rdDepositData l) gp cp (cutL [48, 32, 8, 96] l) w wr) (fun i _ => 96 - (intOf i).toNat)
          case atStart => exact ⟨0, by omega, rfl, hS.out⟩
          case round =>
            obtain ⟨j, hj, rfl, hS1⟩ := hrel
            clear hS
            have hS := Lib.hid hS1
            clear hS1
            by_cases hlt : j < 96
            · have lj : (j : Int) < 96 := by omega
              go_wp2_with (first
                | ((with_reducible refine at_iaddr 96 ?_); refine wpList_value (by rfl) _ (run_index_slice _ 96 34 _ _ rfl Tryd.underlying96 1 sz_bs gp 0 4 cp rfl .i64 3 rfl (by decide) 3 (by decide)) ?_)
                | ((with_reducible refine at_load 34 ?_); refine at_ldaddr 34 gp 3 rfl ?_
                   obtain ⟨q, hqe1⟩ : ∃ q, q = (l.drop 88).take 96 := ⟨_, rfl⟩
                   have hql1 : q.length = 96 := by rw [hqe1]; exact part_len l 88 96 184 hkl.out (by decide)
                   obtain ⟨vq, cq, hcq, hq1⟩ := hS.out.part 3 96 q (by rw [cutL_length]; decide) (by rw [hqe1]; exact part_at [48, 32, 8, 96] l 3 88 96 (by decide) (by decide) rfl rfl) hql1
                   have hqe := Lib.hid hqe1
                   have hql := Lib.hid hql1
                   clear hqe1 hql1
                   obtain ⟨bq, oq, e0, hcell1⟩ := hq1.row.cell j (by rw [hql.out]; exact hlt)
                   subst e0
                   obtain ⟨y, hye1⟩ : ∃ y, y = q.getD j 0 := ⟨_, rfl⟩
                   rw [← hye1] at hcell1
                   have hcell := Lib.hid hcell1
                   have hye := Lib.hid hye1
                   clear hcell1 hye1
                   refine wpList_value (by rfl) _ (run_load_cell _ 34 _ (by rfl) ⟨gp, 3, none⟩ rfl (.slice (some ⟨bq, oq, none⟩) 96 cq) hcq _ Tryd.underlying34 rfl) ?_
                   have hq := Lib.hid hq1
                   clear hq1 hcq)
                | ((with_reducible refine at_iaddr 34 ?_); go_loud (refine wpList_value (by rfl) _ (run_index_slice _ 34 5 _ _ rfl Tryd.underlying34 1 sz_u8 bq oq 96 cq rfl .i64 j rfl hlt (oq + j) (by omega)) ?_))
                | ((with_reducible refine at_load 5 ?_); go_loud (refine wpList_value (by rfl) _ (run_load_cell _ 5 _ (by rfl) ⟨bq, oq + j, none⟩ rfl (.int .u8 y) hcell.out _ Tryd.underlying5 rfl) ?_))
                | ((with_reducible refine at_store 5 ?_); go_loud (refine wpList_rq1 rfl 5 _ _ rfl (81 + j) rfl (.int .u8 y) rfl y (by rw [show kdDepositData (81 + j) = .u8 from ((by intro j hj; simp only [kdDepositData]; (repeat' split) <;> first | rfl | (exfalso; omega)) : ∀ j, j < 96 → kdDepositData (81 + j) = .u8) j hlt]; rfl) sz_u8 hS.out rfl (by omega) (by rw [hye.out, hqe.out, drop_take_get _ _ _ _ hlt]; unfold rdDepositData; (repeat' split) <;> first | (exfalso; omega) | (congr 1 <;> omega)) (fun W1 hS1 => ?_))
                   obtain ⟨W, hWW⟩ : ∃ W, W = W1 := ⟨_, rfl⟩
                   subst hWW
                   clear hqe hql hye hcell hq
                   clear hS
                   have hS := Lib.hid hS1
                   clear hS1))
              first
                | exact ⟨⟨j + 1, by omega, by go_num, hS.out⟩, by simp [intOf]; omega⟩
                | (refine ⟨?_, by simp [intOf]; omega⟩
                   (repeat apply Exists.intro)
                   exact ⟨⟨j + 1, by omega, by go_num, hS.out⟩, rfl⟩)
            · have e : j = 96 := by omega
              subst e
              clear hlt hj
              go_wp2_with (first
                | ((with_reducible refine at_load 31 ?_); go_loud (refine wpList_value (by rfl) _ (run_load_box _ 31 _ (by rfl) (w.heap.size + 1) (by rfl) _ _ (0, 0) _ hS.out.res Tryd.underlying31 rfl (by rw [row_size rowDepositData]; simp [fcells])) ?_))
                | ((with_reducible refine at_store 31 ?_); refine at_staddr 31 w.heap.size 0 rfl ?_; go_loud (refine wpList_store_row_gen (w0 := w) (n0 := w.heap.size) 31 _ _ rfl rfl w.heap.size rfl _ rfl (fcells_one _ _ _) (by rw [row_size rowDepositData]; simp [fcells]) _ 31 hS.out.hR (by simp [fcells]) (by omega) hS.out.hB (fun W9 hW9 hBW _ => ?_))))
              exact ret_mid_tmp rfl w.heap.size 0 (fcells 177 kdDepositData (rdDepositData l)) _ rfl hW9 Tryd.underlying31 rfl (by rw [row_size rowDepositData, fcells_length]) rfl ⟨rfl, hBW⟩
set_option maxHeartbeats 16000000 in
theorem rreadDepositData_bad (l : List Int) (va : Option Addr) (c : Nat) (w : World) (hs0 : SlB va c l w) (hne0 : l.length ≠ 184) :
    Calls Tryd.prog 54 #[.slice va l.length c] w fun e w' => e = .returned (.tuple #[.agg (fcells 177 kdDepositData (fun _ => 0)).toArray, .int .i64 4]) ∧ Below w.heap.size w w' := by
  have hsl := Lib.hid hs0
  have hne := Lib.hid (show l.length ≠ headN [48, 32, 8, 96] from hne0)
  clear hne0
  clear hs0
  go_enter Tryd.func54, Tryd.ntmps54
  go_wp2_with (first
    | ((with_reducible refine at_alloc 31 ?_); refine wpList_plain rfl fun K hK => wp_alloc_row 31 rfl 2 rfl _ 177 infoDepositData (hK _ _ ?_); clear hK K)
    | ((with_reducible refine at_alloc 31 ?_); refine wpList_plain rfl fun K hK => wp_alloc_row 31 rfl 4 rfl _ 177 infoDepositData (hK _ _ ?_); clear hK K
       refine gen_l (fun W => RqB w.heap.size 177 kdDepositData 31 177 (fun _ => 0) w W) (RqB.begin0 rfl rfl) ?_
       intro W hS1
       have hl := Lib.hid (hsl.out.later hS1.hB)
       have hS := Lib.hid hS1
       clear hS1)
    | ((with_reducible refine (RqB.cutBad hS.out (K := 4) [48, 32, 8, 96] ?hV rfl (by decide) (by decide) (by decide) hne.out).mono ?hM)
       case hV => rfl
       rintro e W ⟨rfl, hS1⟩
       clear hl
       clear hS
       have hS := Lib.hid hS1
       clear hS1)
    | ((with_reducible refine at_load 31 ?_); go_loud (refine wpList_value (by rfl) _ (run_load_box _ 31 _ (by rfl) (w.heap.size + 1) (by rfl) _ _ (0, 0) _ hS.out.res Tryd.underlying31 rfl (by rw [row_size rowDepositData]; simp [fcells])) ?_))
    | ((with_reducible refine at_store 31 ?_); refine at_staddr 31 w.heap.size 0 rfl ?_; go_loud (refine wpList_store_row_gen (w0 := w) (n0 := w.heap.size) 31 _ _ rfl rfl w.heap.size rfl _ rfl (fcells_one _ _ _) (by rw [row_size rowDepositData]; simp [fcells]) _ 31 hS.out.hR (by simp [fcells]) (by omega) hS.out.hB (fun W9 hW9 hBW _ => ?_))))
  exact ret_mid_tmp rfl w.heap.size 0 (fcells 177 kdDepositData (fun _ => 0)) _ rfl hW9 Tryd.underlying31 rfl (by rw [row_size rowDepositData, fcells_length]) rfl ⟨rfl, hBW⟩
end Go.Proofs.YtihelknkcomjpaaDoor
