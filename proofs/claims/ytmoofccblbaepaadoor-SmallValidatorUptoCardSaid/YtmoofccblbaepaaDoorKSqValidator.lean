import Derived.Test.YtmoofccblbaepaaDoorJRqS
import Derived.Test.YtmoofccblbaepaaDoorJSpValidator
set_option linter.unusedVariables false
set_option linter.unusedSimpArgs false
set_option linter.unnecessarySimpa false
/- The small container Validator: reading, the reference's. -/
namespace Go.Proofs.YtmoofccblbaepaaDoor
open Go.RowKit BigFrame
set_option maxRecDepth 100000
set_option maxHeartbeats 16000000 in
theorem rreadValidator_ok (l : List Int) (va : Option Addr) (c : Nat) (w : World) (hs0 : SlB va c l w) (hkl0 : l.length = 121) (hy0 : (l.getD 88 0 = 0 ∨ l.getD 88 0 = 1)) :
    Calls Tryd.prog 69 #[.slice va 121 c] w fun e w' => e = .returned (.tuple #[.agg (fcells 86 kdValidator (rdValidator l)).toArray, .int .i64 0]) ∧ Below w.heap.size w w' := by
  have hsl := Lib.hid hs0
  have hkl := Lib.hid hkl0
  clear hkl0
  have hy := Lib.hid hy0
  clear hy0
  clear hs0
  go_enter Tryd.func69, Tryd.ntmps69
  go_wp2_with (first
    | ((with_reducible refine at_alloc 110 ?_); refine wpList_plain rfl fun K hK => wp_alloc_row 110 rfl 2 rfl _ 86 infoValidator (hK _ _ ?_); clear hK K)
    | ((with_reducible refine at_alloc 110 ?_); refine wpList_plain rfl fun K hK => wp_alloc_row 110 rfl 4 rfl _ 86 infoValidator (hK _ _ ?_); clear hK K
       refine gen_l (fun W => RqB w.heap.size 86 kdValidator 110 0 (rdValidator l) w W) (RqB.begin rfl rfl) ?_
       intro W hS1
       have hl := Lib.hid (hsl.out.later hS1.hB)
       have hS := Lib.hid hS1
       clear hS1)
    | ((with_reducible refine (RqB.cut hS.out (K := 8) (k := 121) [48, 32, 8, 1, 8, 8, 8, 8] ?hV hl.out hkl.out rfl (by decide) (by decide) (by decide) rfl).mono ?hM)
       case hV => rfl
       rintro e W ⟨gp, cp, rfl, hS1⟩
       clear hl
       clear hS
       have hS := Lib.hid hS1
       clear hS1))
  go_loopw [7] (fun i wr => ∃ j : Nat, j ≤ 48 ∧ i = .int .i64 (j : Int) ∧ RqS w.heap.size 86 kdValidator 110 j (rdValidator l) gp cp (cutL [48, 32, 8, 1, 8, 8, 8, 8] l) w wr) (fun i _ => 48 - (intOf i).toNat)
  case atStart => exact ⟨0, by omega, rfl, hS.out⟩
  case round =>
    obtain ⟨j, hj, rfl, hS1⟩ := hrel
    clear hS
    have hS := Lib.hid hS1
    clear hS1
    by_cases hlt : j < 48
    · have lj : (j : Int) < 48 := by omega
      go_wp2_with (first
        | ((with_reducible refine at_iaddr 157 ?_); refine wpList_value (by rfl) _ (run_index_slice _ 157 25 _ _ rfl Tryd.underlying157 1 sz_bs gp 0 8 cp rfl .i64 0 rfl (by decide) 0 (by decide)) ?_)
        | ((with_reducible refine at_load 25 ?_); refine at_ldaddr 25 gp 0 rfl ?_
           obtain ⟨q, hqe1⟩ : ∃ q, q = (l.drop 0).take 48 := ⟨_, rfl⟩
           have hql1 : q.length = 48 := by rw [hqe1]; exact part_len l 0 48 121 hkl.out (by decide)
           obtain ⟨vq, cq, hcq, hq1⟩ := hS.out.part 0 48 q (by rw [cutL_length]; decide) (by rw [hqe1]; exact part_at [48, 32, 8, 1, 8, 8, 8, 8] l 0 0 48 (by decide) (by decide) rfl rfl) hql1
           have hqe := Lib.hid hqe1
           have hql := Lib.hid hql1
           clear hqe1 hql1
           obtain ⟨bq, oq, e0, hcell1⟩ := hq1.row.cell j (by rw [hql.out]; exact hlt)
           subst e0
           obtain ⟨y, hye1⟩ : ∃ y, y = q.getD j 0 := ⟨_, rfl⟩
           rw [← hye1] at hcell1
           have hcell := Lib.hid hcell1
           have hye := Lib.hid hye1
           clear hcell1 hye1
           refine wpList_value (by rfl) _ (run_load_cell _ 25 _ (by rfl) ⟨gp, 0, none⟩ rfl (.slice (some ⟨bq, oq, none⟩) 48 cq) hcq _ Tryd.underlying25 rfl) ?_
           have hq := Lib.hid hq1
           clear hq1 hcq)
        | ((with_reducible refine at_iaddr 25 ?_); go_loud (refine wpList_value (by rfl) _ (run_index_slice _ 25 5 _ _ rfl Tryd.underlying25 1 sz_u8 bq oq 48 cq rfl .i64 j rfl hlt (oq + j) (by omega)) ?_))
        | ((with_reducible refine at_load 5 ?_); go_loud (refine wpList_value (by rfl) _ (run_load_cell _ 5 _ (by rfl) ⟨bq, oq + j, none⟩ rfl (.int .u8 y) hcell.out _ Tryd.underlying5 rfl) ?_))
        | ((with_reducible refine at_store 5 ?_); go_loud (refine wpList_rq1 rfl 5 _ _ rfl j rfl (.int .u8 y) rfl y (by rw [show kdValidator j = .u8 from ((by intro j hj; simp only [kdValidator]; (repeat' split) <;> first | rfl | (exfalso; omega)) : ∀ j, j < 48 → kdValidator j = .u8) j hlt]; rfl) sz_u8 hS.out rfl (by omega) (by rw [hye.out, hqe.out, drop_take_get _ _ _ _ hlt]; unfold rdValidator; (repeat' split) <;> first | (exfalso; omega) | (congr 1 <;> omega)) (fun W1 hS1 => ?_))
           obtain ⟨W, hWW⟩ : ∃ W, W = W1 := ⟨_, rfl⟩
           subst hWW
           clear hqe hql hye hcell hq
           clear hS
           have hS := Lib.hid hS1
           clear hS1))
      first
        | exact ⟨⟨j + 1, by omega, by go_num, hS.out⟩, by simp [intOf]; omega⟩
        | (refine ⟨?_, by simp [intOf]; omega⟩
           (repeat apply Exists.intro)
           exact ⟨⟨j + 1, by omega, by go_num, hS.out⟩, rfl⟩)
    · have e : j = 48 := by omega
      subst e
      clear hlt hj
      go_wp2
      go_loopw [8] (fun i wr => ∃ j : Nat, j ≤ 32 ∧ i = .int .i64 (j : Int) ∧ RqS w.heap.size 86 kdValidator 110 (48 + j) (rdValidator l) gp cp (cutL [48, 32, 8, 1, 8, 8, 8, 8] l) w wr) (fun i _ => 32 - (intOf i).toNat)
      case atStart => exact ⟨0, by omega, rfl, hS.out⟩
      case round =>
        obtain ⟨j, hj, rfl, hS1⟩ := hrel
        clear hS
        have hS := Lib.hid hS1
        clear hS1
        by_cases hlt : j < 32
        · have lj : (j : Int) < 32 := by omega
          go_wp2_with (first
            | ((with_reducible refine at_iaddr 157 ?_); refine wpList_value (by rfl) _ (run_index_slice _ 157 25 _ _ rfl Tryd.underlying157 1 sz_bs gp 0 8 cp rfl .i64 1 rfl (by decide) 1 (by decide)) ?_)
            | ((with_reducible refine at_load 25 ?_); refine at_ldaddr 25 gp 1 rfl ?_
               obtain ⟨q, hqe1⟩ : ∃ q, q = (l.drop 48).take 32 := ⟨_, rfl⟩
               have hql1 : q.length = 32 := by rw [hqe1]; exact part_len l 48 32 121 hkl.out (by decide)
               obtain ⟨vq, cq, hcq, hq1⟩ := hS.out.part 1 32 q (by rw [cutL_length]; decide) (by rw [hqe1]; exact part_at [48, 32, 8, 1, 8, 8, 8, 8] l 1 48 32 (by decide) (by decide) rfl rfl) hql1
               have hqe := Lib.hid hqe1
               have hql := Lib.hid hql1
               clear hqe1 hql1
               obtain ⟨bq, oq, e0, hcell1⟩ := hq1.row.cell j (by rw [hql.out]; exact hlt)
               subst e0
               obtain ⟨y, hye1⟩ : ∃ y, y = q.getD j 0 := ⟨_, rfl⟩
               rw [← hye1] at hcell1
               have hcell := Lib.hid hcell1
               have hye := Lib.hid hye1
               clear hcell1 hye1
               refine wpList_value (by rfl) _ (run_load_cell _ 25 _ (by rfl) ⟨gp, 1, none⟩ rfl (.slice (some ⟨bq, oq, none⟩) 32 cq) hcq _ Tryd.underlying25 rfl) ?_
               have hq := Lib.hid hq1
               clear hq1 hcq)
            | ((with_reducible refine at_iaddr 25 ?_); go_loud (refine wpList_value (by rfl) _ (run_index_slice _ 25 5 _ _ rfl Tryd.underlying25 1 sz_u8 bq oq 32 cq rfl .i64 j rfl hlt (oq + j) (by omega)) ?_))
            | ((with_reducible refine at_load 5 ?_); go_loud (refine wpList_value (by rfl) _ (run_load_cell _ 5 _ (by rfl) ⟨bq, oq + j, none⟩ rfl (.int .u8 y) hcell.out _ Tryd.underlying5 rfl) ?_))
            | ((with_reducible refine at_store 5 ?_); go_loud (refine wpList_rq1 rfl 5 _ _ rfl (48 + j) rfl (.int .u8 y) rfl y (by rw [show kdValidator (48 + j) = .u8 from ((by intro j hj; simp only [kdValidator]; (repeat' split) <;> first | rfl | (exfalso; omega)) : ∀ j, j < 32 → kdValidator (48 + j) = .u8) j hlt]; rfl) sz_u8 hS.out rfl (by omega) (by rw [hye.out, hqe.out, drop_take_get _ _ _ _ hlt]; unfold rdValidator; (repeat' split) <;> first | (exfalso; omega) | (congr 1 <;> omega)) (fun W1 hS1 => ?_))
               obtain ⟨W, hWW⟩ : ∃ W, W = W1 := ⟨_, rfl⟩
               subst hWW
               clear hqe hql hye hcell hq
               clear hS
               have hS := Lib.hid hS1
               clear hS1))
          first
            | exact ⟨⟨j + 1, by omega, by go_num, hS.out⟩, by simp [intOf]; omega⟩
            | (refine ⟨?_, by simp [intOf]; omega⟩
               (repeat apply Exists.intro)
               exact ⟨⟨j + 1, by omega, by go_num, hS.out⟩, rfl⟩)
        · have e : j = 32 := by omega
          subst e
          clear hlt hj
          go_wp2_with (first
            | ((with_reducible refine at_iaddr 157 ?_); refine wpList_value (by rfl) _ (run_index_slice _ 157 25 _ _ rfl Tryd.underlying157 1 sz_bs gp 0 8 cp rfl .i64 2 rfl (by decide) 2 (by decide)) ?_)
            | ((with_reducible refine at_load 25 ?_); refine at_ldaddr 25 gp 2 rfl ?_
               obtain ⟨q, hqe1⟩ : ∃ q, q = (l.drop 80).take 8 := ⟨_, rfl⟩
               have hql1 : q.length = 8 := by rw [hqe1]; exact part_len l 80 8 121 hkl.out (by decide)
               obtain ⟨vq, cq, hcq, hq1⟩ := hS.out.part 2 8 q (by rw [cutL_length]; decide) (by rw [hqe1]; exact part_at [48, 32, 8, 1, 8, 8, 8, 8] l 2 80 8 (by decide) (by decide) rfl rfl) hql1
               have hqe := Lib.hid hqe1
               have hql := Lib.hid hql1
               clear hqe1 hql1
               refine wpList_value (by rfl) _ (run_load_cell _ 25 _ (by rfl) ⟨gp, 2, none⟩ rfl (.slice vq 8 cq) hcq _ Tryd.underlying25 rfl) ?_
               have hq := Lib.hid hq1
               clear hq1 hcq)
            | ((with_reducible refine (rread_8 q vq cq _ hq.out hql.out).mono ?_)
               rintro e W2 ⟨rfl, rfl⟩
               clear hq)
            | ((with_reducible refine at_store 22 ?_); refine at_staddr 22 (w.heap.size + 1) 80 rfl ?_; refine wpList_rq1 rfl 22 _ _ rfl 80 rfl (.int .u64 (rdQ q)) rfl (rdQ q) rfl sz_u64 hS.out rfl (by decide) (by rw [hqe.out]; exact (inN_at l 80).symm) (fun W1 hS1 => ?_)
               obtain ⟨W, hWW⟩ : ∃ W, W = W1 := ⟨_, rfl⟩
               subst hWW
               clear hqe hql
               clear hS
               have hS := Lib.hid hS1
               clear hS1)
            | ((with_reducible refine at_iaddr 157 ?_); refine wpList_value (by rfl) _ (run_index_slice _ 157 25 _ _ rfl Tryd.underlying157 1 sz_bs gp 0 8 cp rfl .i64 3 rfl (by decide) 3 (by decide)) ?_)
            | ((with_reducible refine at_load 25 ?_); refine at_ldaddr 25 gp 3 rfl ?_
               obtain ⟨q, hqe1⟩ : ∃ q, q = (l.drop 88).take 1 := ⟨_, rfl⟩
               have hql1 : q.length = 1 := by rw [hqe1]; exact part_len l 88 1 121 hkl.out (by decide)
               obtain ⟨vq, cq, hcq, hq1⟩ := hS.out.part 3 1 q (by rw [cutL_length]; decide) (by rw [hqe1]; exact part_at [48, 32, 8, 1, 8, 8, 8, 8] l 3 88 1 (by decide) (by decide) rfl rfl) hql1
               have hqe := Lib.hid hqe1
               have hql := Lib.hid hql1
               clear hqe1 hql1
               refine wpList_value (by rfl) _ (run_load_cell _ 25 _ (by rfl) ⟨gp, 3, none⟩ rfl (.slice vq 1 cq) hcq _ Tryd.underlying25 rfl) ?_
               have hq := Lib.hid hq1
               clear hq1 hcq)
            | ((with_reducible refine (rbool_ok q (l.getD 88 0) vq cq _ hq.out hql.out (by rw [hqe.out]; exact drop_take_get l 88 1 0 (by decide)) hy.out).mono ?_)
               rintro e W2 ⟨⟨b1, rfl, hv1⟩, rfl⟩
               have hv := Lib.hid hv1
               clear hq hv1)
            | ((with_reducible refine at_store 4 ?_); refine at_staddr 4 (w.heap.size + 1) 81 rfl ?_; refine wpList_rq1 rfl 4 _ _ rfl 81 rfl (.bool b1) rfl (if b1 then 1 else 0) (by cases b1 <;> rfl) sz_bool hS.out rfl (by decide) ((flag_val hv.out hy.out).trans rfl) (fun W1 hS1 => ?_)
               obtain ⟨W, hWW⟩ : ∃ W, W = W1 := ⟨_, rfl⟩
               subst hWW
               clear hv hqe hql
               clear hS
               have hS := Lib.hid hS1
               clear hS1)
            | ((with_reducible refine at_iaddr 157 ?_); refine wpList_value (by rfl) _ (run_index_slice _ 157 25 _ _ rfl Tryd.underlying157 1 sz_bs gp 0 8 cp rfl .i64 4 rfl (by decide) 4 (by decide)) ?_)
            | ((with_reducible refine at_load 25 ?_); refine at_ldaddr 25 gp 4 rfl ?_
               obtain ⟨q, hqe1⟩ : ∃ q, q = (l.drop 89).take 8 := ⟨_, rfl⟩
               have hql1 : q.length = 8 := by rw [hqe1]; exact part_len l 89 8 121 hkl.out (by decide)
               obtain ⟨vq, cq, hcq, hq1⟩ := hS.out.part 4 8 q (by rw [cutL_length]; decide) (by rw [hqe1]; exact part_at [48, 32, 8, 1, 8, 8, 8, 8] l 4 89 8 (by decide) (by decide) rfl rfl) hql1
               have hqe := Lib.hid hqe1
               have hql := Lib.hid hql1
               clear hqe1 hql1
               refine wpList_value (by rfl) _ (run_load_cell _ 25 _ (by rfl) ⟨gp, 4, none⟩ rfl (.slice vq 8 cq) hcq _ Tryd.underlying25 rfl) ?_
               have hq := Lib.hid hq1
               clear hq1 hcq)
            | ((with_reducible refine (rread_8 q vq cq _ hq.out hql.out).mono ?_)
               rintro e W2 ⟨rfl, rfl⟩
               clear hq)
            | ((with_reducible refine at_store 22 ?_); refine at_staddr 22 (w.heap.size + 1) 82 rfl ?_; refine wpList_rq1 rfl 22 _ _ rfl 82 rfl (.int .u64 (rdQ q)) rfl (rdQ q) rfl sz_u64 hS.out rfl (by decide) (by rw [hqe.out]; exact (inN_at l 89).symm) (fun W1 hS1 => ?_)
               obtain ⟨W, hWW⟩ : ∃ W, W = W1 := ⟨_, rfl⟩
               subst hWW
               clear hqe hql
               clear hS
               have hS := Lib.hid hS1
               clear hS1)
            | ((with_reducible refine at_iaddr 157 ?_); refine wpList_value (by rfl) _ (run_index_slice _ 157 25 _ _ rfl Tryd.underlying157 1 sz_bs gp 0 8 cp rfl .i64 5 rfl (by decide) 5 (by decide)) ?_)
            | ((with_reducible refine at_load 25 ?_); refine at_ldaddr 25 gp 5 rfl ?_
               obtain ⟨q, hqe1⟩ : ∃ q, q = (l.drop 97).take 8 := ⟨_, rfl⟩
               have hql1 : q.length = 8 := by rw [hqe1]; exact part_len l 97 8 121 hkl.out (by decide)
               obtain ⟨vq, cq, hcq, hq1⟩ := hS.out.part 5 8 q (by rw [cutL_length]; decide) (by rw [hqe1]; exact part_at [48, 32, 8, 1, 8, 8, 8, 8] l 5 97 8 (by decide) (by decide) rfl rfl) hql1
               have hqe := Lib.hid hqe1
               have hql := Lib.hid hql1
               clear hqe1 hql1
               refine wpList_value (by rfl) _ (run_load_cell _ 25 _ (by rfl) ⟨gp, 5, none⟩ rfl (.slice vq 8 cq) hcq _ Tryd.underlying25 rfl) ?_
               have hq := Lib.hid hq1
               clear hq1 hcq)
            | ((with_reducible refine (rread_8 q vq cq _ hq.out hql.out).mono ?_)
               rintro e W2 ⟨rfl, rfl⟩
               clear hq)
            | ((with_reducible refine at_store 22 ?_); refine at_staddr 22 (w.heap.size + 1) 83 rfl ?_; refine wpList_rq1 rfl 22 _ _ rfl 83 rfl (.int .u64 (rdQ q)) rfl (rdQ q) rfl sz_u64 hS.out rfl (by decide) (by rw [hqe.out]; exact (inN_at l 97).symm) (fun W1 hS1 => ?_)
               obtain ⟨W, hWW⟩ : ∃ W, W = W1 := ⟨_, rfl⟩
               subst hWW
               clear hqe hql
               clear hS
               have hS := Lib.hid hS1
               clear hS1)
            | ((with_reducible refine at_iaddr 157 ?_); refine wpList_value (by rfl) _ (run_index_slice _ 157 25 _ _ rfl Tryd.underlying157 1 sz_bs gp 0 8 cp rfl .i64 6 rfl (by decide) 6 (by decide)) ?_)
            | ((with_reducible refine at_load 25 ?_); refine at_ldaddr 25 gp 6 rfl ?_
               obtain ⟨q, hqe1⟩ : ∃ q, q = (l.drop 105).take 8 := ⟨_, rfl⟩
               have hql1 : q.length = 8 := by rw [hqe1]; exact part_len l 105 8 121 hkl.out (by decide)
               obtain ⟨vq, cq, hcq, hq1⟩ := hS.out.part 6 8 q (by rw [cutL_length]; decide) (by rw [hqe1]; exact part_at [48, 32, 8, 1, 8, 8, 8, 8] l 6 105 8 (by decide) (by decide) rfl rfl) hql1
               have hqe := Lib.hid hqe1
               have hql := Lib.hid hql1
               clear hqe1 hql1
               refine wpList_value (by rfl) _ (run_load_cell _ 25 _ (by rfl) ⟨gp, 6, none⟩ rfl (.slice vq 8 cq) hcq _ Tryd.underlying25 rfl) ?_
               have hq := Lib.hid hq1
               clear hq1 hcq)
            | ((with_reducible refine (rread_8 q vq cq _ hq.out hql.out).mono ?_)
               rintro e W2 ⟨rfl, rfl⟩
               clear hq)
            | ((with_reducible refine at_store 22 ?_); refine at_staddr 22 (w.heap.size + 1) 84 rfl ?_; refine wpList_rq1 rfl 22 _ _ rfl 84 rfl (.int .u64 (rdQ q)) rfl (rdQ q) rfl sz_u64 hS.out rfl (by decide) (by rw [hqe.out]; exact (inN_at l 105).symm) (fun W1 hS1 => ?_)
               obtain ⟨W, hWW⟩ : ∃ W, W = W1 := ⟨_, rfl⟩
               subst hWW
               clear hqe hql
               clear hS
               have hS := Lib.hid hS1
               clear hS1)
            | ((with_reducible refine at_iaddr 157 ?_); refine wpList_value (by rfl) _ (run_index_slice _ 157 25 _ _ rfl Tryd.underlying157 1 sz_bs gp 0 8 cp rfl .i64 7 rfl (by decide) 7 (by decide)) ?_)
            | ((with_reducible refine at_load 25 ?_); refine at_ldaddr 25 gp 7 rfl ?_
               obtain ⟨q, hqe1⟩ : ∃ q, q = (l.drop 113).take 8 := ⟨_, rfl⟩
               have hql1 : q.length = 8 := by rw [hqe1]; exact part_len l 113 8 121 hkl.out (by decide)
               obtain ⟨vq, cq, hcq, hq1⟩ := hS.out.part 7 8 q (by rw [cutL_length]; decide) (by rw [hqe1]; exact part_at [48, 32, 8, 1, 8, 8, 8, 8] l 7 113 8 (by decide) (by decide) rfl rfl) hql1
               have hqe := Lib.hid hqe1
               have hql := Lib.hid hql1
               clear hqe1 hql1
               refine wpList_value (by rfl) _ (run_load_cell _ 25 _ (by rfl) ⟨gp, 7, none⟩ rfl (.slice vq 8 cq) hcq _ Tryd.underlying25 rfl) ?_
               have hq := Lib.hid hq1
               clear hq1 hcq)
            | ((with_reducible refine (rread_8 q vq cq _ hq.out hql.out).mono ?_)
               rintro e W2 ⟨rfl, rfl⟩
               clear hq)
            | ((with_reducible refine at_store 22 ?_); refine at_staddr 22 (w.heap.size + 1) 85 rfl ?_; refine wpList_rq1 rfl 22 _ _ rfl 85 rfl (.int .u64 (rdQ q)) rfl (rdQ q) rfl sz_u64 hS.out rfl (by decide) (by rw [hqe.out]; exact (inN_at l 113).symm) (fun W1 hS1 => ?_)
               obtain ⟨W, hWW⟩ : ∃ W, W = W1 := ⟨_, rfl⟩
               subst hWW
               clear hqe hql
               clear hS
               have hS := Lib.hid hS1
               clear hS1)
            | ((with_reducible refine at_load 110 ?_); go_loud (refine wpList_value (by rfl) _ (run_load_box _ 110 _ (by rfl) (w.heap.size + 1) (by rfl) _ _ (0, 0) _ hS.out.res Tryd.underlying110 rfl (by rw [row_size rowValidator]; simp [fcells])) ?_))
            | ((with_reducible refine at_store 110 ?_); refine at_staddr 110 w.heap.size 0 rfl ?_; go_loud (refine wpList_store_row_gen (w0 := w) (n0 := w.heap.size) 110 _ _ rfl rfl w.heap.size rfl _ rfl (fcells_one _ _ _) (by rw [row_size rowValidator]; simp [fcells]) _ 110 hS.out.hR (by simp [fcells]) (by omega) hS.out.hB (fun W9 hW9 hBW _ => ?_))))
          exact ret_mid_tmp rfl w.heap.size 0 (fcells 86 kdValidator (rdValidator l)) _ rfl hW9 Tryd.underlying110 rfl (by rw [row_size rowValidator, fcells_length]) rfl ⟨rfl, hBW⟩
set_option maxHeartbeats 16000000 in
theorem rreadValidator_bad (l : List Int) (va : Option Addr) (c : Nat) (w : World) (hs0 : SlB va c l w) (hne0 : l.length ≠ 121) :
    Calls Tryd.prog 69 #[.slice va l.length c] w fun e w' => e = .returned (.tuple #[.agg (fcells 86 kdValidator (fun _ => 0)).toArray, .int .i64 4]) ∧ Below w.heap.size w w' := by
  have hsl := Lib.hid hs0
  have hne := Lib.hid (show l.length ≠ headN [48, 32, 8, 1, 8, 8, 8, 8] from hne0)
  clear hne0
  clear hs0
  go_enter Tryd.func69, Tryd.ntmps69
  go_wp2_with (first
    | ((with_reducible refine at_alloc 110 ?_); refine wpList_plain rfl fun K hK => wp_alloc_row 110 rfl 2 rfl _ 86 infoValidator (hK _ _ ?_); clear hK K)
    | ((with_reducible refine at_alloc 110 ?_); refine wpList_plain rfl fun K hK => wp_alloc_row 110 rfl 4 rfl _ 86 infoValidator (hK _ _ ?_); clear hK K
       refine gen_l (fun W => RqB w.heap.size 86 kdValidator 110 86 (fun _ => 0) w W) (RqB.begin0 rfl rfl) ?_
       intro W hS1
       have hl := Lib.hid (hsl.out.later hS1.hB)
       have hS := Lib.hid hS1
       clear hS1)
    | ((with_reducible refine (RqB.cutBad hS.out (K := 8) [48, 32, 8, 1, 8, 8, 8, 8] ?hV rfl (by decide) (by decide) (by decide) hne.out).mono ?hM)
       case hV => rfl
       rintro e W ⟨rfl, hS1⟩
       clear hl
       clear hS
       have hS := Lib.hid hS1
       clear hS1)
    | ((with_reducible refine at_load 110 ?_); go_loud (refine wpList_value (by rfl) _ (run_load_box _ 110 _ (by rfl) (w.heap.size + 1) (by rfl) _ _ (0, 0) _ hS.out.res Tryd.underlying110 rfl (by rw [row_size rowValidator]; simp [fcells])) ?_))
    | ((with_reducible refine at_store 110 ?_); refine at_staddr 110 w.heap.size 0 rfl ?_; go_loud (refine wpList_store_row_gen (w0 := w) (n0 := w.heap.size) 110 _ _ rfl rfl w.heap.size rfl _ rfl (fcells_one _ _ _) (by rw [row_size rowValidator]; simp [fcells]) _ 110 hS.out.hR (by simp [fcells]) (by omega) hS.out.hB (fun W9 hW9 hBW _ => ?_))))
  exact ret_mid_tmp rfl w.heap.size 0 (fcells 86 kdValidator (fun _ => 0)) _ rfl hW9 Tryd.underlying110 rfl (by rw [row_size rowValidator, fcells_length]) rfl ⟨rfl, hBW⟩
set_option maxHeartbeats 16000000 in
theorem rreadValidator_fbad (l : List Int) (va : Option Addr) (c : Nat) (w : World) (hs0 : SlB va c l w) (hkl0 : l.length = 121) (hy0 : ¬ (l.getD 88 0 = 0 ∨ l.getD 88 0 = 1)) :
    Calls Tryd.prog 69 #[.slice va 121 c] w fun e w' => e = .returned (.tuple #[.agg (fcells 86 kdValidator (fun _ => 0)).toArray, .int .i64 5]) ∧ Below w.heap.size w w' := by
  have hsl := Lib.hid hs0
  have hkl := Lib.hid hkl0
  clear hkl0
  have hy := Lib.hid hy0
  clear hy0
  clear hs0
  go_enter Tryd.func69, Tryd.ntmps69
  go_wp2_with (first
    | ((with_reducible refine at_alloc 110 ?_); refine wpList_plain rfl fun K hK => wp_alloc_row 110 rfl 2 rfl _ 86 infoValidator (hK _ _ ?_); clear hK K)
    | ((with_reducible refine at_alloc 110 ?_); refine wpList_plain rfl fun K hK => wp_alloc_row 110 rfl 4 rfl _ 86 infoValidator (hK _ _ ?_); clear hK K
       refine gen_l (fun W => RqB w.heap.size 86 kdValidator 110 0 (rdValidator l) w W) (RqB.begin rfl rfl) ?_
       intro W hS1
       have hl := Lib.hid (hsl.out.later hS1.hB)
       have hS := Lib.hid hS1
       clear hS1)
    | ((with_reducible refine (RqB.cut hS.out (K := 8) (k := 121) [48, 32, 8, 1, 8, 8, 8, 8] ?hV hl.out hkl.out rfl (by decide) (by decide) (by decide) rfl).mono ?hM)
       case hV => rfl
       rintro e W ⟨gp, cp, rfl, hS1⟩
       clear hl
       clear hS
       have hS := Lib.hid hS1
       clear hS1))
  go_loopw [7] (fun i wr => ∃ j : Nat, j ≤ 48 ∧ i = .int .i64 (j : Int) ∧ RqS w.heap.size 86 kdValidator 110 j (rdValidator l) gp cp (cutL [48, 32, 8, 1, 8, 8, 8, 8] l) w wr) (fun i _ => 48 - (intOf i).toNat)
  case atStart => exact ⟨0, by omega, rfl, hS.out⟩
  case round =>
    obtain ⟨j, hj, rfl, hS1⟩ := hrel
    clear hS
    have hS := Lib.hid hS1
    clear hS1
    by_cases hlt : j < 48
    · have lj : (j : Int) < 48 := by omega
      go_wp2_with (first
        | ((with_reducible refine at_iaddr 157 ?_); refine wpList_value (by rfl) _ (run_index_slice _ 157 25 _ _ rfl Tryd.underlying157 1 sz_bs gp 0 8 cp rfl .i64 0 rfl (by decide) 0 (by decide)) ?_)
        | ((with_reducible refine at_load 25 ?_); refine at_ldaddr 25 gp 0 rfl ?_
           obtain ⟨q, hqe1⟩ : ∃ q, q = (l.drop 0).take 48 := ⟨_, rfl⟩
           have hql1 : q.length = 48 := by rw [hqe1]; exact part_len l 0 48 121 hkl.out (by decide)
           obtain ⟨vq, cq, hcq, hq1⟩ := hS.out.part 0 48 q (by rw [cutL_length]; decide) (by rw [hqe1]; exact part_at [48, 32, 8, 1, 8, 8, 8, 8] l 0 0 48 (by decide) (by decide) rfl rfl) hql1
           have hqe := Lib.hid hqe1
           have hql := Lib.hid hql1
           clear hqe1 hql1
           obtain ⟨bq, oq, e0, hcell1⟩ := hq1.row.cell j (by rw [hql.out]; exact hlt)
           subst e0
           obtain ⟨y, hye1⟩ : ∃ y, y = q.getD j 0 := ⟨_, rfl⟩
           rw [← hye1] at hcell1
           have hcell := Lib.hid hcell1
           have hye := Lib.hid hye1
           clear hcell1 hye1
           refine wpList_value (by rfl) _ (run_load_cell _ 25 _ (by rfl) ⟨gp, 0, none⟩ rfl (.slice (some ⟨bq, oq, none⟩) 48 cq) hcq _ Tryd.underlying25 rfl) ?_
           have hq := Lib.hid hq1
           clear hq1 hcq)
        | ((with_reducible refine at_iaddr 25 ?_); go_loud (refine wpList_value (by rfl) _ (run_index_slice _ 25 5 _ _ rfl Tryd.underlying25 1 sz_u8 bq oq 48 cq rfl .i64 j rfl hlt (oq + j) (by omega)) ?_))
        | ((with_reducible refine at_load 5 ?_); go_loud (refine wpList_value (by rfl) _ (run_load_cell _ 5 _ (by rfl) ⟨bq, oq + j, none⟩ rfl (.int .u8 y) hcell.out _ Tryd.underlying5 rfl) ?_))
        | ((with_reducible refine at_store 5 ?_); go_loud (refine wpList_rq1 rfl 5 _ _ rfl j rfl (.int .u8 y) rfl y (by rw [show kdValidator j = .u8 from ((by intro j hj; simp only [kdValidator]; (repeat' split) <;> first | rfl | (exfalso; omega)) : ∀ j, j < 48 → kdValidator j = .u8) j hlt]; rfl) sz_u8 hS.out rfl (by omega) (by rw [hye.out, hqe.out, drop_take_get _ _ _ _ hlt]; unfold rdValidator; (repeat' split) <;> first | (exfalso; omega) | (congr 1 <;> omega)) (fun W1 hS1 => ?_))
           obtain ⟨W, hWW⟩ : ∃ W, W = W1 := ⟨_, rfl⟩
           subst hWW
           clear hqe hql hye hcell hq
           clear hS
           have hS := Lib.hid hS1
           clear hS1))
      first
        | exact ⟨⟨j + 1, by omega, by go_num, hS.out⟩, by simp [intOf]; omega⟩
        | (refine ⟨?_, by simp [intOf]; omega⟩
           (repeat apply Exists.intro)
           exact ⟨⟨j + 1, by omega, by go_num, hS.out⟩, rfl⟩)
    · have e : j = 48 := by omega
      subst e
      clear hlt hj
      go_wp2
      go_loopw [8] (fun i wr => ∃ j : Nat, j ≤ 32 ∧ i = .int .i64 (j : Int) ∧ RqS w.heap.size 86 kdValidator 110 (48 + j) (rdValidator l) gp cp (cutL [48, 32, 8, 1, 8, 8, 8, 8] l) w wr) (fun i _ => 32 - (intOf i).toNat)
      case atStart => exact ⟨0, by omega, rfl, hS.out⟩
      case round =>
        obtain ⟨j, hj, rfl, hS1⟩ := hrel
        clear hS
        have hS := Lib.hid hS1
        clear hS1
        by_cases hlt : j < 32
        · have lj : (j : Int) < 32 := by omega
          go_wp2_with (first
            | ((with_reducible refine at_iaddr 157 ?_); refine wpList_value (by rfl) _ (run_index_slice _ 157 25 _ _ rfl Tryd.underlying157 1 sz_bs gp 0 8 cp rfl .i64 1 rfl (by decide) 1 (by decide)) ?_)
            | ((with_reducible refine at_load 25 ?_); refine at_ldaddr 25 gp 1 rfl ?_
               obtain ⟨q, hqe1⟩ : ∃ q, q = (l.drop 48).take 32 := ⟨_, rfl⟩
               have hql1 : q.length = 32 := by rw [hqe1]; exact part_len l 48 32 121 hkl.out (by decide)
               obtain ⟨vq, cq, hcq, hq1⟩ := hS.out.part 1 32 q (by rw [cutL_length]; decide) (by rw [hqe1]; exact part_at [48, 32, 8, 1, 8, 8, 8, 8] l 1 48 32 (by decide) (by decide) rfl rfl) hql1
               have hqe := Lib.hid hqe1
               have hql := Lib.hid hql1
               clear hqe1 hql1
               obtain ⟨bq, oq, e0, hcell1⟩ := hq1.row.cell j (by rw [hql.out]; exact hlt)
               subst e0
               obtain ⟨y, hye1⟩ : ∃ y, y = q.getD j 0 := ⟨_, rfl⟩
               rw [← hye1] at hcell1
               have hcell := Lib.hid hcell1
               have hye := Lib.hid hye1
               clear hcell1 hye1
               refine wpList_value (by rfl) _ (run_load_cell _ 25 _ (by rfl) ⟨gp, 1, none⟩ rfl (.slice (some ⟨bq, oq, none⟩) 32 cq) hcq _ Tryd.underlying25 rfl) ?_
               have hq := Lib.hid hq1
               clear hq1 hcq)
            | ((with_reducible refine at_iaddr 25 ?_); go_loud (refine wpList_value (by rfl) _ (run_index_slice _ 25 5 _ _ rfl Tryd.underlying25 1 sz_u8 bq oq 32 cq rfl .i64 j rfl hlt (oq + j) (by omega)) ?_))
            | ((with_reducible refine at_load 5 ?_); go_loud (refine wpList_value (by rfl) _ (run_load_cell _ 5 _ (by rfl) ⟨bq, oq + j, none⟩ rfl (.int .u8 y) hcell.out _ Tryd.underlying5 rfl) ?_))
            | ((with_reducible refine at_store 5 ?_); go_loud (refine wpList_rq1 rfl 5 _ _ rfl (48 + j) rfl (.int .u8 y) rfl y (by rw [show kdValidator (48 + j) = .u8 from ((by intro j hj; simp only [kdValidator]; (repeat' split) <;> first | rfl | (exfalso; omega)) : ∀ j, j < 32 → kdValidator (48 + j) = .u8) j hlt]; rfl) sz_u8 hS.out rfl (by omega) (by rw [hye.out, hqe.out, drop_take_get _ _ _ _ hlt]; unfold rdValidator; (repeat' split) <;> first | (exfalso; omega) | (congr 1 <;> omega)) (fun W1 hS1 => ?_))
               obtain ⟨W, hWW⟩ : ∃ W, W = W1 := ⟨_, rfl⟩
               subst hWW
               clear hqe hql hye hcell hq
               clear hS
               have hS := Lib.hid hS1
               clear hS1))
          first
            | exact ⟨⟨j + 1, by omega, by go_num, hS.out⟩, by simp [intOf]; omega⟩
            | (refine ⟨?_, by simp [intOf]; omega⟩
               (repeat apply Exists.intro)
               exact ⟨⟨j + 1, by omega, by go_num, hS.out⟩, rfl⟩)
        · have e : j = 32 := by omega
          subst e
          clear hlt hj
          go_wp2_with (first
            | ((with_reducible refine at_iaddr 157 ?_); refine wpList_value (by rfl) _ (run_index_slice _ 157 25 _ _ rfl Tryd.underlying157 1 sz_bs gp 0 8 cp rfl .i64 2 rfl (by decide) 2 (by decide)) ?_)
            | ((with_reducible refine at_load 25 ?_); refine at_ldaddr 25 gp 2 rfl ?_
               obtain ⟨q, hqe1⟩ : ∃ q, q = (l.drop 80).take 8 := ⟨_, rfl⟩
               have hql1 : q.length = 8 := by rw [hqe1]; exact part_len l 80 8 121 hkl.out (by decide)
               obtain ⟨vq, cq, hcq, hq1⟩ := hS.out.part 2 8 q (by rw [cutL_length]; decide) (by rw [hqe1]; exact part_at [48, 32, 8, 1, 8, 8, 8, 8] l 2 80 8 (by decide) (by decide) rfl rfl) hql1
               have hqe := Lib.hid hqe1
               have hql := Lib.hid hql1
               clear hqe1 hql1
               refine wpList_value (by rfl) _ (run_load_cell _ 25 _ (by rfl) ⟨gp, 2, none⟩ rfl (.slice vq 8 cq) hcq _ Tryd.underlying25 rfl) ?_
               have hq := Lib.hid hq1
               clear hq1 hcq)
            | ((with_reducible refine (rread_8 q vq cq _ hq.out hql.out).mono ?_)
               rintro e W2 ⟨rfl, rfl⟩
               clear hq)
            | ((with_reducible refine at_store 22 ?_); refine at_staddr 22 (w.heap.size + 1) 80 rfl ?_; refine wpList_rq1 rfl 22 _ _ rfl 80 rfl (.int .u64 (rdQ q)) rfl (rdQ q) rfl sz_u64 hS.out rfl (by decide) (by rw [hqe.out]; exact (inN_at l 80).symm) (fun W1 hS1 => ?_)
               obtain ⟨W, hWW⟩ : ∃ W, W = W1 := ⟨_, rfl⟩
               subst hWW
               clear hqe hql
               clear hS
               have hS := Lib.hid hS1
               clear hS1)
            | ((with_reducible refine at_iaddr 157 ?_); refine wpList_value (by rfl) _ (run_index_slice _ 157 25 _ _ rfl Tryd.underlying157 1 sz_bs gp 0 8 cp rfl .i64 3 rfl (by decide) 3 (by decide)) ?_)
            | ((with_reducible refine at_load 25 ?_); refine at_ldaddr 25 gp 3 rfl ?_
               obtain ⟨q, hqe1⟩ : ∃ q, q = (l.drop 88).take 1 := ⟨_, rfl⟩
               have hql1 : q.length = 1 := by rw [hqe1]; exact part_len l 88 1 121 hkl.out (by decide)
               obtain ⟨vq, cq, hcq, hq1⟩ := hS.out.part 3 1 q (by rw [cutL_length]; decide) (by rw [hqe1]; exact part_at [48, 32, 8, 1, 8, 8, 8, 8] l 3 88 1 (by decide) (by decide) rfl rfl) hql1
               have hqe := Lib.hid hqe1
               have hql := Lib.hid hql1
               clear hqe1 hql1
               refine wpList_value (by rfl) _ (run_load_cell _ 25 _ (by rfl) ⟨gp, 3, none⟩ rfl (.slice vq 1 cq) hcq _ Tryd.underlying25 rfl) ?_
               have hq := Lib.hid hq1
               clear hq1 hcq)
            | ((with_reducible refine (rbool_bad q (l.getD 88 0) vq cq _ hq.out hql.out (by rw [hqe.out]; exact drop_take_get l 88 1 0 (by decide)) hy.out).mono ?_)
               rintro e W2 ⟨⟨b1, rfl⟩, rfl⟩
               clear hq)
            | ((with_reducible refine at_store 4 ?_); refine at_staddr 4 (w.heap.size + 1) 81 rfl ?_; refine wpList_rqAny rfl 4 _ _ rfl 81 rfl (.bool b1) rfl (if b1 then 1 else 0) (by cases b1 <;> rfl) sz_bool hS.out (by decide) (fun W1 hS1 => ?_)
               obtain ⟨W, hWW⟩ : ∃ W, W = W1 := ⟨_, rfl⟩
               subst hWW
               clear hqe hql
               clear hS
               have hS := Lib.hid hS1
               clear hS1)
            | ((with_reducible refine at_build 110 ?_); go_loud (refine wpList_value (by rfl) _ (run_build _ _ rfl _ (builtValidator _)) ?_))
            | ((with_reducible refine at_store 110 ?_); refine at_staddr 110 w.heap.size 0 rfl ?_; go_loud (refine wpList_store_row_gen (w0 := w) (n0 := w.heap.size) 110 _ _ rfl rfl w.heap.size rfl _ rfl (fcells_one _ _ _) (by rw [row_size rowValidator]; simp [fcells]) _ 110 hS.out.hR (by simp [fcells]) (by omega) hS.out.hB (fun W9 hW9 hBW _ => ?_))))
          exact ret_mid_tmp rfl w.heap.size 0 (fcells 86 kdValidator (fun _ => 0)) _ rfl hW9 Tryd.underlying110 rfl (by rw [row_size rowValidator, fcells_length]) rfl ⟨rfl, hBW⟩
end Go.Proofs.YtmoofccblbaepaaDoor
