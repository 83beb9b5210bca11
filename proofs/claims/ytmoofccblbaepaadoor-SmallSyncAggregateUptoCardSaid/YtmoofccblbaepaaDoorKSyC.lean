import Derived.Test.YtmoofccblbaepaaDoorKScF
import Derived.Test.YtmoofccblbaepaaDoorKSyB
set_option linter.unusedVariables false
set_option linter.unusedSimpArgs false
set_option linter.unnecessarySimpa false
/- The sync aggregate: reading, the reference's. -/
namespace Go.Proofs.YtmoofccblbaepaaDoor
open Go.RowKit BigFrame
set_option maxRecDepth 100000
set_option maxHeartbeats 16000000 in
theorem rreadSyncAggregate_ok (l : List Int) (va : Option Addr) (c : Nat) (w : World) (hs0 : SlB va c l w) (hkl0 : l.length = 97) :
    Calls Tryd.prog 75 #[.slice va 97 c] w fun e w' => e = .returned (.tuple #[.agg (fcells 104 kdSyncAggregate (rdSyncAggregate l)).toArray, .int .i64 0]) ∧ Below w.heap.size w w' := by
  have hsl := Lib.hid hs0
  have hkl := Lib.hid hkl0
  clear hkl0
  clear hs0
  go_enter Tryd.func75, Tryd.ntmps75
  go_wp2_with (first
    | ((with_reducible refine at_alloc 120 ?_); refine wpList_plain rfl fun K hK => wp_alloc_row 120 rfl 2 rfl _ 104 infoSyncAggregate (hK _ _ ?_); clear hK K)
    | ((with_reducible refine at_alloc 120 ?_); refine wpList_plain rfl fun K hK => wp_alloc_row 120 rfl 4 rfl _ 104 infoSyncAggregate (hK _ _ ?_); clear hK K
       refine gen_l (fun W => RqB w.heap.size 104 kdSyncAggregate 120 0 (rdSyncAggregate l) w W) (RqB.begin rfl rfl) ?_
       intro W hS1
       have hl := Lib.hid (hsl.out.later hS1.hB)
       have hS := Lib.hid hS1
       clear hS1)
    | ((with_reducible refine (RqB.cut hS.out (K := 2) (k := 97) [1, 96] ?hV hl.out hkl.out rfl (by decide) (by decide) (by decide) rfl).mono ?hM)
       case hV => rfl
       rintro e W ⟨gp, cp, rfl, hS1⟩
       clear hl
       clear hS
       have hS := Lib.hid hS1
       clear hS1)
    | ((with_reducible refine at_iaddr 157 ?_); refine wpList_value (by rfl) _ (run_index_slice _ 157 25 _ _ rfl Tryd.underlying157 1 sz_bs gp 0 2 cp rfl .i64 0 rfl (by decide) 0 (by decide)) ?_)
    | ((with_reducible refine at_load 25 ?_); refine at_ldaddr 25 gp 0 rfl ?_
       obtain ⟨q, hqe1⟩ : ∃ q, q = (l.drop 0).take 1 := ⟨_, rfl⟩
       have hql1 : q.length = 1 := by rw [hqe1]; exact part_len l 0 1 97 hkl.out (by decide)
       obtain ⟨vq, cq, hcq, hq1⟩ := hS.out.part 0 1 q (by rw [cutL_length]; decide) (by rw [hqe1]; exact part_at [1, 96] l 0 0 1 (by decide) (by decide) rfl rfl) hql1
       obtain ⟨bq, oq, e0, hcell1⟩ := hq1.row.cell 0 (by omega)
       subst e0
       obtain ⟨y, hye1⟩ : ∃ y, y = q.getD 0 0 := ⟨_, rfl⟩
       have hyo : CK.ok .u8 y := by rw [hye1]; exact ok_get hq1.row.ok (by omega)
       rw [← hye1] at hcell1
       rw [hqe1, drop_take_get _ _ _ _ (by decide)] at hye1
       have hcell := Lib.hid hcell1
       have hye := Lib.hid hye1
       have hy0 := Lib.hid hyo.1
       have hy1 := Lib.hid hyo.2
       clear hcell1 hye1 hqe1 hql1 hq1 hyo
       refine wpList_value (by rfl) _ (run_load_cell _ 25 _ (by rfl) ⟨gp, 0, none⟩ rfl (.slice (some ⟨bq, oq, none⟩) 1 cq) hcq _ Tryd.underlying25 rfl) ?_
       clear hcq)
    | ((with_reducible refine (rreadVector_any y bq oq cq _ hy0.out hy1.out hcell.out).mono ?_)
       rintro e W1 ⟨⟨g, c1, rfl, hg, hgs, h8, hRr⟩, hb⟩
       have hV := Lib.hid hRr
       have hsz := hS.out.size
       have hgn : w.heap.size + 1 < g := by omega
       have hS1 := hS.out.later hb
       clear hRr hb hcell hy0 hy1
       obtain ⟨W, hWW⟩ : ∃ W, W = W1 := ⟨_, rfl⟩
       subst hWW
       clear hS hg hsz
       have hS := Lib.hid hS1
       clear hS1))
  go_loopw [9] (fun i wr => ∃ j : Nat, j ≤ 8 ∧ i = .int .i64 (j : Int) ∧ Row wr (some ⟨g, 0, none⟩) .bool (bitL y) ∧ g < wr.heap.size ∧ RqS w.heap.size 104 kdSyncAggregate 120 j (rdSyncAggregate l) gp cp (cutL [1, 96] l) w wr) (fun i _ => 8 - (intOf i).toNat)
  case atStart => exact ⟨0, by omega, rfl, hV.out, hgs, hS.out⟩
  case round =>
    obtain ⟨j, hj, rfl, hV1, hgs1, hS1⟩ := hrel
    clear hS hV hgs
    have hS := Lib.hid hS1
    have hV := Lib.hid hV1
    clear hS1 hV1
    by_cases hlt : j < 8
    · have lj : (j : Int) < 8 := by omega
      obtain ⟨bb, ob, e0, hcb1⟩ := hV.out.cell j (by rw [bitL_length]; exact hlt)
      cases e0
      rw [bitL_get y j hlt, Nat.zero_add] at hcb1
      have hcb := Lib.hid hcb1
      clear hcb1
      have hkj : kdSyncAggregate j = .bool := by unfold kdSyncAggregate; rw [if_pos hlt]
      have hk2 := Lib.hid hkj
      clear hkj
      go_wp2_with (first
        | ((with_reducible refine at_iaddr 184 ?_); go_loud (refine wpList_value (by rfl) _ (run_index_slice _ 184 4 _ _ rfl Tryd.underlying184 1 sz_bool g 0 8 c1 rfl .i64 j rfl hlt j (by omega)) ?_))
        | ((with_reducible refine at_load 4 ?_); go_loud (refine wpList_value (by rfl) _ (run_load_cell _ 4 _ (by rfl) ⟨g, j, none⟩ rfl (CK.mk .bool (bitV y j)) hcb.out _ Tryd.underlying4 rfl) ?_))
        | ((with_reducible refine at_store 4 ?_); go_loud (refine wpList_plain rfl fun K hK => wp_rq1 4 _ _ rfl j rfl (CK.mk .bool (bitV y j)) rfl (bitV y j) (by rw [hk2.out]) sz_bool hS.out rfl (by omega) (by unfold rdSyncAggregate; rw [if_pos hlt, hye.out]) (fun W1 hS1 hA => hK _ _ ?_)); clear hK K
           have hV2 := Lib.hid (show Row W1 (some ⟨g, 0, none⟩) .bool (bitL y) from ⟨fun i hi => by
             obtain ⟨b3, o3, e3, hc3⟩ := hV.out.cell i hi
             cases e3
             exact ⟨g, 0, rfl, (World.cell?_of_block (w := wr) (hA.block g hgs1 (by omega))).trans hc3⟩, hV.out.ok⟩)
           have hgs2 : g < W1.heap.size := Nat.lt_of_lt_of_le hgs1 hA.size
           clear hA
           clear hS hcb hV
           have hV := hV2
           clear hV2
           have hS := Lib.hid hS1
           clear hS1))
      first
        | exact ⟨⟨j + 1, by omega, by go_num, hV.out, hgs2, hS.out⟩, by simp [intOf]; omega⟩
        | (refine ⟨?_, by simp [intOf]; omega⟩
           (repeat apply Exists.intro)
           exact ⟨⟨j + 1, by omega, by go_num, hV.out, hgs2, hS.out⟩, rfl⟩)
    · have e : j = 8 := by omega
      subst e
      clear hlt hj hV
      go_wp2
      rename_i wr0
      go_loopw [10] (fun i wr => ∃ j : Nat, j ≤ 96 ∧ i = .int .i64 (j : Int) ∧ RqS w.heap.size 104 kdSyncAggregate 120 (8 + j) (rdSyncAggregate l) gp cp (cutL [1, 96] l) w wr) (fun i _ => 96 - (intOf i).toNat)
      case atStart => exact ⟨0, by omega, rfl, hS.out⟩
      case round =>
        obtain ⟨j, hj, rfl, hS1⟩ := hrel
        clear hS
        have hS := Lib.hid hS1
        clear hS1
        by_cases hlt : j < 96
        · have lj : (j : Int) < 96 := by omega
          go_wp2_with (first
            | ((with_reducible refine at_iaddr 157 ?_); refine wpList_value (by rfl) _ (run_index_slice _ 157 25 _ _ rfl Tryd.underlying157 1 sz_bs gp 0 2 cp rfl .i64 1 rfl (by decide) 1 (by decide)) ?_)
            | ((with_reducible refine at_load 25 ?_); refine at_ldaddr 25 gp 1 rfl ?_
               obtain ⟨q, hqe1⟩ : ∃ q, q = (l.drop 1).take 96 := ⟨_, rfl⟩
               have hql1 : q.length = 96 := by rw [hqe1]; exact part_len l 1 96 97 hkl.out (by decide)
               obtain ⟨vq, cq, hcq, hq1⟩ := hS.out.part 1 96 q (by rw [cutL_length]; decide) (by rw [hqe1]; exact part_at [1, 96] l 1 1 96 (by decide) (by decide) rfl rfl) hql1
               have hqe := Lib.hid hqe1
               have hql := Lib.hid hql1
               clear hqe1 hql1
               obtain ⟨bq, oq, e0, hcell1⟩ := hq1.row.cell j (by rw [hql.out]; exact hlt)
               subst e0
               obtain ⟨y, hye1⟩ : ∃ y, y = q.getD j 0 := ⟨_, rfl⟩
               rw [← hye1] at hcell1
               have hcell := Lib.hid hcell1
               have hye := Lib.hid hye1
               clear hcell1 hye1
               refine wpList_value (by rfl) _ (run_load_cell _ 25 _ (by rfl) ⟨gp, 1, none⟩ rfl (.slice (some ⟨bq, oq, none⟩) 96 cq) hcq _ Tryd.underlying25 rfl) ?_
               have hq := Lib.hid hq1
               clear hq1 hcq)
            | ((with_reducible refine at_iaddr 25 ?_); go_loud (refine wpList_value (by rfl) _ (run_index_slice _ 25 5 _ _ rfl Tryd.underlying25 1 sz_u8 bq oq 96 cq rfl .i64 j rfl hlt (oq + j) (by omega)) ?_))
            | ((with_reducible refine at_load 5 ?_); go_loud (refine wpList_value (by rfl) _ (run_load_cell _ 5 _ (by rfl) ⟨bq, oq + j, none⟩ rfl (.int .u8 y) hcell.out _ Tryd.underlying5 rfl) ?_))
            | ((with_reducible refine at_store 5 ?_); go_loud (refine wpList_rq1 rfl 5 _ _ rfl (8 + j) rfl (.int .u8 y) rfl y (by rw [kdY 96 j hlt]; rfl) sz_u8 hS.out rfl (by omega) (by rw [hye.out, hqe.out, drop_take_get _ _ _ _ hlt]; unfold rdSyncAggregate; rw [if_neg (by omega)]; congr 1 <;> omega) (fun W1 hS1 => ?_))
               obtain ⟨W, hWW⟩ : ∃ W, W = W1 := ⟨_, rfl⟩
               subst hWW
               clear hqe hql hye hcell hq
               clear hS
               have hS := Lib.hid hS1
               clear hS1))
          first
            | exact ⟨⟨j + 1, by omega, by go_num, hS.out⟩, by simp [intOf]; omega⟩
            | (refine ⟨?_, by simp [intOf]; omega⟩
               (repeat apply Exists.intro)
               exact ⟨⟨j + 1, by omega, by go_num, hS.out⟩, rfl⟩)
        · have e : j = 96 := by omega
          subst e
          clear hlt hj
          go_wp2_with (first
            | ((with_reducible refine at_load 120 ?_); go_loud (refine wpList_value (by rfl) _ (run_load_box _ 120 _ (by rfl) (w.heap.size + 1) (by rfl) _ _ (0, 0) _ hS.out.res Tryd.underlying120 rfl (by rw [row_size rowSyncAggregate]; simp [fcells])) ?_))
            | ((with_reducible refine at_store 120 ?_); refine at_staddr 120 w.heap.size 0 rfl ?_; go_loud (refine wpList_store_row_gen (w0 := w) (n0 := w.heap.size) 120 _ _ rfl rfl w.heap.size rfl _ rfl (fcells_one _ _ _) (by rw [row_size rowSyncAggregate]; simp [fcells]) _ 120 hS.out.hR (by simp [fcells]) (by omega) hS.out.hB (fun W9 hW9 hBW _ => ?_))))
          exact ret_mid_tmp rfl w.heap.size 0 (fcells 104 kdSyncAggregate (rdSyncAggregate l)) _ rfl hW9 Tryd.underlying120 rfl (by rw [row_size rowSyncAggregate, fcells_length]) rfl ⟨rfl, hBW⟩
set_option maxHeartbeats 16000000 in
theorem rreadSyncAggregate_bad (l : List Int) (va : Option Addr) (c : Nat) (w : World) (hs0 : SlB va c l w) (hne0 : l.length ≠ 97) :
    Calls Tryd.prog 75 #[.slice va l.length c] w fun e w' => e = .returned (.tuple #[.agg (fcells 104 kdSyncAggregate (fun _ => 0)).toArray, .int .i64 4]) ∧ Below w.heap.size w w' := by
  have hsl := Lib.hid hs0
  have hne := Lib.hid (show l.length ≠ headN [1, 96] from hne0)
  clear hne0
  clear hs0
  go_enter Tryd.func75, Tryd.ntmps75
  go_wp2_with (first
    | ((with_reducible refine at_alloc 120 ?_); refine wpList_plain rfl fun K hK => wp_alloc_row 120 rfl 2 rfl _ 104 infoSyncAggregate (hK _ _ ?_); clear hK K)
    | ((with_reducible refine at_alloc 120 ?_); refine wpList_plain rfl fun K hK => wp_alloc_row 120 rfl 4 rfl _ 104 infoSyncAggregate (hK _ _ ?_); clear hK K
       refine gen_l (fun W => RqB w.heap.size 104 kdSyncAggregate 120 104 (fun _ => 0) w W) (RqB.begin0 rfl rfl) ?_
       intro W hS1
       have hl := Lib.hid (hsl.out.later hS1.hB)
       have hS := Lib.hid hS1
       clear hS1)
    | ((with_reducible refine (RqB.cutBad hS.out (K := 2) [1, 96] ?hV rfl (by decide) (by decide) (by decide) hne.out).mono ?hM)
       case hV => rfl
       rintro e W ⟨rfl, hS1⟩
       clear hl
       clear hS
       have hS := Lib.hid hS1
       clear hS1)
    | ((with_reducible refine at_load 120 ?_); go_loud (refine wpList_value (by rfl) _ (run_load_box _ 120 _ (by rfl) (w.heap.size + 1) (by rfl) _ _ (0, 0) _ hS.out.res Tryd.underlying120 rfl (by rw [row_size rowSyncAggregate]; simp [fcells])) ?_))
    | ((with_reducible refine at_store 120 ?_); refine at_staddr 120 w.heap.size 0 rfl ?_; go_loud (refine wpList_store_row_gen (w0 := w) (n0 := w.heap.size) 120 _ _ rfl rfl w.heap.size rfl _ rfl (fcells_one _ _ _) (by rw [row_size rowSyncAggregate]; simp [fcells]) _ 120 hS.out.hR (by simp [fcells]) (by omega) hS.out.hB (fun W9 hW9 hBW _ => ?_))))
  exact ret_mid_tmp rfl w.heap.size 0 (fcells 104 kdSyncAggregate (fun _ => 0)) _ rfl hW9 Tryd.underlying120 rfl (by rw [row_size rowSyncAggregate, fcells_length]) rfl ⟨rfl, hBW⟩
end Go.Proofs.YtmoofccblbaepaaDoor
