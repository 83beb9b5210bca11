/- Oper's container ProposerSlashing: reading, the reference's. -/
import Derived.Test.YtihelknkcomjpaaDoorJRqS
import Derived.Test.YtihelknkcomjpaaDoorKSpProposerSlashing
import Derived.Test.YtihelknkcomjpaaDoorKSqSignedHeader
set_option linter.unusedVariables false
set_option linter.unusedSimpArgs false
set_option linter.unnecessarySimpa false
namespace Go.Proofs.YtihelknkcomjpaaDoor
open Go.RowKit BigFrame
set_option maxRecDepth 100000
set_option maxHeartbeats 16000000 in
theorem rreadProposerSlashing_ok (l : List Int) (va : Option Addr) (c : Nat) (w : World) (hs0 : SlB va c l w) (hkl0 : l.length = 416) :
    Calls Tryd.prog 20 #[.slice va 416 c] w fun e w' => e = .returned (.tuple #[.agg (fcells 388 kdProposerSlashing (rdProposerSlashing l)).toArray, .int .i64 0]) ∧ Below w.heap.size w w' := by
  have hsl := Lib.hid hs0
  have hkl := Lib.hid hkl0
  clear hkl0
  clear hs0
  go_enter Tryd.func20, Tryd.ntmps20
  go_wp2_with (first
    | ((with_reducible refine at_alloc 49 ?_); refine wpList_plain rfl fun K hK => wp_alloc_row 49 rfl 2 rfl _ 388 infoProposerSlashing (hK _ _ ?_); clear hK K)
    | ((with_reducible refine at_alloc 49 ?_); refine wpList_plain rfl fun K hK => wp_alloc_row 49 rfl 4 rfl _ 388 infoProposerSlashing (hK _ _ ?_); clear hK K
       refine gen_l (fun W => RqB w.heap.size 388 kdProposerSlashing 49 0 (rdProposerSlashing l) w W) (RqB.begin rfl rfl) ?_
       intro W hS1
       have hl := Lib.hid (hsl.out.later hS1.hB)
       have hS := Lib.hid hS1
       clear hS1)
    | ((with_reducible refine (RqB.cut hS.out (K := 2) (k := 416) [208, 208] ?hV hl.out hkl.out rfl (by decide) (by decide) (by decide) rfl).mono ?hM)
       case hV => rfl
       rintro e W ⟨gp, cp, rfl, hS1⟩
       clear hl
       clear hS
       have hS := Lib.hid hS1
       clear hS1)
    | ((with_reducible refine at_iaddr 96 ?_); refine wpList_value (by rfl) _ (run_index_slice _ 96 34 _ _ rfl Tryd.underlying96 1 sz_bs gp 0 2 cp rfl .i64 0 rfl (by decide) 0 (by decide)) ?_)
    | ((with_reducible refine at_load 34 ?_); refine at_ldaddr 34 gp 0 rfl ?_
       obtain ⟨q, hqe1⟩ : ∃ q, q = (l.drop 0).take 208 := ⟨_, rfl⟩
       have hql1 : q.length = 208 := by rw [hqe1]; exact part_len l 0 208 416 hkl.out (by decide)
       obtain ⟨vq, cq, hcq, hq1⟩ := hS.out.part 0 208 q (by rw [cutL_length]; decide) (by rw [hqe1]; exact part_at [208, 208] l 0 0 208 (by decide) (by decide) rfl rfl) hql1
       have hqe := Lib.hid hqe1
       have hql := Lib.hid hql1
       clear hqe1 hql1
       refine wpList_value (by rfl) _ (run_load_cell _ 34 _ (by rfl) ⟨gp, 0, none⟩ rfl (.slice vq 208 cq) hcq _ Tryd.underlying34 rfl) ?_
       have hq := Lib.hid hq1
       clear hq1 hcq)
    | ((with_reducible refine (rreadSignedHeader_ok q vq cq _ hq.out hql.out).mono ?_)
       rintro e W ⟨rfl, hb1⟩
       have hS1 := hS.out.later hb1
       clear hq hb1
       clear hS
       have hS := Lib.hid hS1
       clear hS1)
    | ((with_reducible refine at_store 47 ?_); refine at_staddr 47 (w.heap.size + 1) 0 rfl ?_; refine wpList_rqrows rfl 47 _ _ rfl 0 194 rfl kdSignedHeader (rdSignedHeader q) rfl (row_size rowSignedHeader) hS.out rfl (by intro j hj; simp only [kdProposerSlashing, kdSignedHeader]; (repeat' split) <;> first | rfl | (exfalso; omega)) (by decide) (fun j hj => by rw [hqe.out]; simp only [rdProposerSlashing]; (repeat' split) <;> first | (exfalso; omega) | (congr 1 <;> omega)) (fun W1 hS1 => ?_)
       obtain ⟨W, hWW⟩ : ∃ W, W = W1 := ⟨_, rfl⟩
       subst hWW
       clear hqe hql
       clear hS
       have hS := Lib.hid hS1
       clear hS1)
    | ((with_reducible refine at_iaddr 96 ?_); refine wpList_value (by rfl) _ (run_index_slice _ 96 34 _ _ rfl Tryd.underlying96 1 sz_bs gp 0 2 cp rfl .i64 1 rfl (by decide) 1 (by decide)) ?_)
    | ((with_reducible refine at_load 34 ?_); refine at_ldaddr 34 gp 1 rfl ?_
       obtain ⟨q, hqe1⟩ : ∃ q, q = (l.drop 208).take 208 := ⟨_, rfl⟩
       have hql1 : q.length = 208 := by rw [hqe1]; exact part_len l 208 208 416 hkl.out (by decide)
       obtain ⟨vq, cq, hcq, hq1⟩ := hS.out.part 1 208 q (by rw [cutL_length]; decide) (by rw [hqe1]; exact part_at [208, 208] l 1 208 208 (by decide) (by decide) rfl rfl) hql1
       have hqe := Lib.hid hqe1
       have hql := Lib.hid hql1
       clear hqe1 hql1
       refine wpList_value (by rfl) _ (run_load_cell _ 34 _ (by rfl) ⟨gp, 1, none⟩ rfl (.slice vq 208 cq) hcq _ Tryd.underlying34 rfl) ?_
       have hq := Lib.hid hq1
       clear hq1 hcq)
    | ((with_reducible refine (rreadSignedHeader_ok q vq cq _ hq.out hql.out).mono ?_)
       rintro e W ⟨rfl, hb1⟩
       have hS1 := hS.out.later hb1
       clear hq hb1
       clear hS
       have hS := Lib.hid hS1
       clear hS1)
    | ((with_reducible refine at_store 47 ?_); refine at_staddr 47 (w.heap.size + 1) 194 rfl ?_; refine wpList_rqrows rfl 47 _ _ rfl 194 194 rfl kdSignedHeader (rdSignedHeader q) rfl (row_size rowSignedHeader) hS.out rfl (by intro j hj; simp only [kdProposerSlashing, kdSignedHeader]; (repeat' split) <;> first | rfl | (exfalso; omega)) (by decide) (fun j hj => by rw [hqe.out]; simp only [rdProposerSlashing]; (repeat' split) <;> first | (exfalso; omega) | (congr 1 <;> omega)) (fun W1 hS1 => ?_)
       obtain ⟨W, hWW⟩ : ∃ W, W = W1 := ⟨_, rfl⟩
       subst hWW
       clear hqe hql
       clear hS
       have hS := Lib.hid hS1
       clear hS1)
    | ((with_reducible refine at_load 49 ?_); go_loud (refine wpList_value (by rfl) _ (run_load_box _ 49 _ (by rfl) (w.heap.size + 1) (by rfl) _ _ (0, 0) _ hS.out.res Tryd.underlying49 rfl (by rw [row_size rowProposerSlashing]; simp [fcells])) ?_))
    | ((with_reducible refine at_store 49 ?_); refine at_staddr 49 w.heap.size 0 rfl ?_; go_loud (refine wpList_store_row_gen (w0 := w) (n0 := w.heap.size) 49 _ _ rfl rfl w.heap.size rfl _ rfl (fcells_one _ _ _) (by rw [row_size rowProposerSlashing]; simp [fcells]) _ 49 hS.out.hR (by simp [fcells]) (by omega) hS.out.hB (fun W9 hW9 hBW _ => ?_))))
  exact ret_mid_tmp rfl w.heap.size 0 (fcells 388 kdProposerSlashing (rdProposerSlashing l)) _ rfl hW9 Tryd.underlying49 rfl (by rw [row_size rowProposerSlashing, fcells_length]) rfl ⟨rfl, hBW⟩
set_option maxHeartbeats 16000000 in
theorem rreadProposerSlashing_bad (l : List Int) (va : Option Addr) (c : Nat) (w : World) (hs0 : SlB va c l w) (hne0 : l.length ≠ 416) :
    Calls Tryd.prog 20 #[.slice va l.length c] w fun e w' => e = .returned (.tuple #[.agg (fcells 388 kdProposerSlashing (fun _ => 0)).toArray, .int .i64 4]) ∧ Below w.heap.size w w' := by
  have hsl := Lib.hid hs0
  have hne := Lib.hid (show l.length ≠ headN [208, 208] from hne0)
  clear hne0
  clear hs0
  go_enter Tryd.func20, Tryd.ntmps20
  go_wp2_with (first
    | ((with_reducible refine at_alloc 49 ?_); refine wpList_plain rfl fun K hK => wp_alloc_row 49 rfl 2 rfl _ 388 infoProposerSlashing (hK _ _ ?_); clear hK K)
    | ((with_reducible refine at_alloc 49 ?_); refine wpList_plain rfl fun K hK => wp_alloc_row 49 rfl 4 rfl _ 388 infoProposerSlashing (hK _ _ ?_); clear hK K
       refine gen_l (fun W => RqB w.heap.size 388 kdProposerSlashing 49 388 (fun _ => 0) w W) (RqB.begin0 rfl rfl) ?_
       intro W hS1
       have hl := Lib.hid (hsl.out.later hS1.hB)
       have hS := Lib.hid hS1
       clear hS1)
    | ((with_reducible refine (RqB.cutBad hS.out (K := 2) [208, 208] ?hV rfl (by decide) (by decide) (by decide) hne.out).mono ?hM)
       case hV => rfl
       rintro e W ⟨rfl, hS1⟩
       clear hl
       clear hS
       have hS := Lib.hid hS1
       clear hS1)
    | ((with_reducible refine at_load 49 ?_); go_loud (refine wpList_value (by rfl) _ (run_load_box _ 49 _ (by rfl) (w.heap.size + 1) (by rfl) _ _ (0, 0) _ hS.out.res Tryd.underlying49 rfl (by rw [row_size rowProposerSlashing]; simp [fcells])) ?_))
    | ((with_reducible refine at_store 49 ?_); refine at_staddr 49 w.heap.size 0 rfl ?_; go_loud (refine wpList_store_row_gen (w0 := w) (n0 := w.heap.size) 49 _ _ rfl rfl w.heap.size rfl _ rfl (fcells_one _ _ _) (by rw [row_size rowProposerSlashing]; simp [fcells]) _ 49 hS.out.hR (by simp [fcells]) (by omega) hS.out.hB (fun W9 hW9 hBW _ => ?_))))
  exact ret_mid_tmp rfl w.heap.size 0 (fcells 388 kdProposerSlashing (fun _ => 0)) _ rfl hW9 Tryd.underlying49 rfl (by rw [row_size rowProposerSlashing, fcells_length]) rfl ⟨rfl, hBW⟩
end Go.Proofs.YtihelknkcomjpaaDoor
