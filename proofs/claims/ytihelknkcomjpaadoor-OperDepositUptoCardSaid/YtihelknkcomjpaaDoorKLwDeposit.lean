/- Oper's container Deposit: the law's walk. -/
import Derived.Test.YtihelknkcomjpaaDoorJLwB
import Derived.Test.YtihelknkcomjpaaDoorJAw8
import Derived.Test.YtihelknkcomjpaaDoorJDpG
import Derived.Test.YtihelknkcomjpaaDoorJDpD
set_option linter.unusedVariables false
set_option linter.unusedSimpArgs false
set_option linter.unnecessarySimpa false
namespace Go.Proofs.YtihelknkcomjpaaDoor
open Go.RowKit BigFrame
set_option maxRecDepth 100000
set_option maxHeartbeats 16000000 in
theorem lw_Deposit (f : Nat → Int) (hf0 : ∀ j, j < 401 → (kdDeposit j).ok (f j)) (lb : List Int) (vb : Option Addr) (cb : Nat) (w : World) (hT : Tabs w) (hb0 : SlB vb cb lb w) (hfew : lb.length ≤ 70368744170000) (Y : Nat → Int) (eI : Nat) (U : List Int) (hY0 : ∀ j, j < 401 → (kdDeposit j).ok (Y j)) (hU0 : encLDeposit Y = U) (heq : eI = 0 → U = lb)
    (hRM0 : ∀ g c W, SlB (some ⟨g, 0, none⟩) c lb W → Calls Tryd.prog 13 #[.slice (some ⟨g, 0, none⟩) lb.length c] W fun e w' => e = .returned (.tuple #[.agg (fcells 401 kdDeposit Y).toArray, .int .i64 (eI : Int)]) ∧ Below W.heap.size W w')
    (hRB0 : ∀ va c W, SlB va c lb W → Calls Tryd.prog 14 #[.slice va lb.length c] W fun e w' => e = .returned (.tuple #[.agg (fcells 401 kdDeposit Y).toArray, .int .i64 (eI : Int)]) ∧ Below W.heap.size W w') :
    Calls Tryd.prog 3 #[.agg (fcells 401 kdDeposit f).toArray, .slice vb lb.length cb] w fun e w' => e = .returned (.bool true) ∧ Below w.heap.size w w' := by
  have hS := Lib.hid ((Law.start hT).addS hb0 rfl)
  have hRA := Lib.hid (fun (va : Option Addr) (c : Nat) (W : World) (h : SlB va c (encLDeposit f) W) => by
    have h1 := readDeposit_ok (encLDeposit f) va c W h.row h.cap h.nil (h.lowA (by rw [encDeposit_length]; decide)) (encDeposit_length f)
    rw [fcells_congr (kd := kdDeposit) (rdenc_Deposit f hf0)] at h1
    exact h1)
  have hf := Lib.hid hf0
  have hY := Lib.hid hY0
  have hUok := Lib.hid (hU0 ▸ encDeposit_ok hY0)
  have hUlen := Lib.hid (hU0 ▸ encDeposit_length Y)
  have hU := Lib.hid hU0
  have hRM := Lib.hid hRM0
  have hRB := Lib.hid hRB0
  clear hf0 hY0 hU0 hRM0 hRB0 hb0 hT
  have hw1 : IntKind.i64.wrap ((lb.length : Int) + 1) = ((lb.length + 1 : Nat) : Int) := by rw [IntKind.wrap_i64]; omega
  go_enter Tryd.func3, Tryd.ntmps3
  by_cases h0 : eI = 0
  · subst h0
    have e := (heq rfl).symm
    subst e
    clear heq
    go_wp2_with (first
      | ((with_reducible refine at_box 33 ?_); go_loud (refine wpList_box rfl 33 _ rfl _ rfl ?_)
         have hS1 := hS.out.addB (fcells 401 kdDeposit f).toArray 33
         refine gen_l _ hS1 ?_
         clear hS hS1
         intro W hS1
         have hS := Lib.hid hS1
         clear hS1)
      | ((with_reducible refine (awake8_any _).mono ?_)
         rintro e W ⟨rfl, hb1⟩
         have hS1 := hS.out.later hb1
         clear hb1
         clear hS
         have hS := Lib.hid hS1
         clear hS1)
      | ((with_reducible refine at_load 33 ?_); refine wpList_value (by rfl) _ (run_load_box _ 33 _ (by rfl) _ rfl _ _ (0, 0) _ (hS.out.bx 0 rfl) Tryd.underlying33 rfl (by rw [row_size rowDeposit]; simp [fcells])) ?_)
      | ((with_reducible refine at_load 33 ?_); refine wpList_value (by rfl) _ (run_load_box _ 33 _ (by rfl) _ rfl _ _ (0, 0) _ (hS.out.bx 3 rfl) Tryd.underlying33 rfl (by rw [row_size rowDeposit]; simp [fcells])) ?_)
      | ((with_reducible refine at_load 33 ?_); refine wpList_value (by rfl) _ (run_load_box _ 33 _ (by rfl) _ rfl _ _ (0, 0) _ (hS.out.bx 4 rfl) Tryd.underlying33 rfl (by rw [row_size rowDeposit]; simp [fcells])) ?_)
      | ((with_reducible refine at_load 33 ?_); refine wpList_value (by rfl) _ (run_load_box _ 33 _ (by rfl) _ rfl _ _ (0, 0) _ (hS.out.bx 5 rfl) Tryd.underlying33 rfl (by rw [row_size rowDeposit]; simp [fcells])) ?_)
      | ((with_reducible refine at_load 23 ?_); refine wpList_value (by rfl) _ (run_load_box _ 23 _ (by rfl) _ rfl _ _ (0, 0) _ (hS.out.bx 1 rfl) Tryd.underlying23 rfl (by rw [row_size row_root]; simp [fcells])) ?_)
      | ((with_reducible refine at_load 23 ?_); refine wpList_value (by rfl) _ (run_load_box _ 23 _ (by rfl) _ rfl _ _ (0, 0) _ (hS.out.bx 2 rfl) Tryd.underlying23 rfl (by rw [row_size row_root]; simp [fcells])) ?_)
      | ((with_reducible refine (enc_Deposit f hf.out _).mono ?_)
         rintro e W ⟨⟨va1, c1, rfl, hn1, ho1⟩, hb1⟩
         have hS1 := (hS.out.later hb1).addS (SlB.of_own ho1 (encDeposit_ok hf.out) hn1) (encDeposit_length _)
         clear hn1 ho1 hb1
         clear hS
         have hS := Lib.hid hS1
         clear hS1)
      | ((with_reducible refine (renc_Deposit f hf.out _).mono ?_)
         rintro e W ⟨⟨va1, c1, rfl, hn1, ho1⟩, hb1⟩
         have hS1 := (hS.out.later hb1).addS (SlB.of_own ho1 (encDeposit_ok hf.out) hn1) (encDeposit_length _)
         clear hn1 ho1 hb1
         clear hS
         have hS := Lib.hid hS1
         clear hS1)
      | ((with_reducible refine (renc_Deposit Y hY.out _).mono ?_)
         rintro e W ⟨⟨va1, c1, rfl, hn1, ho1⟩, hb1⟩
         rw [hU.out] at ho1
         have hS1 := (hS.out.later hb1).addS (SlB.of_own ho1 hUok.out hn1) hUlen.out
         clear hn1 ho1 hb1
         clear hS
         have hS := Lib.hid hS1
         clear hS1)
      | ((with_reducible refine (root_Deposit f hf.out _ hS.out.hT).mono ?_)
         rintro e W ⟨rfl, hb1⟩
         have hS1 := hS.out.later hb1
         clear hb1
         clear hS
         have hS := Lib.hid hS1
         clear hS1)
      | ((with_reducible refine (rroot_Deposit f hf.out _ hS.out.hT).mono ?_)
         rintro e W ⟨rfl, hb1⟩
         have hS1 := hS.out.later hb1
         clear hb1
         clear hS
         have hS := Lib.hid hS1
         clear hS1)
      | ((with_reducible refine at_alloc 23 ?_); refine wpList_alloc_store rfl rfl 23 _ _ rfl rfl rfl (rootV (rootDeposit f)) rfl rfl (zeroOf Tryd.prog 23) (row_zero row_root).1 (row_zero row_root).2 (fcells_one _ _ _) ?_
         have hS1 := hS.out.addB (rootV (rootDeposit f)) 23
         refine gen_l _ hS1 ?_
         clear hS hS1
         intro W hS1
         have hS := Lib.hid hS1
         clear hS1)
      | ((with_reducible refine at_alloc 33 ?_); refine wpList_alloc_store rfl rfl 33 _ _ rfl rfl rfl (fcells 401 kdDeposit f).toArray rfl rfl (zeroOf Tryd.prog 33) (row_zero rowDeposit).1 (row_zero rowDeposit).2 (fcells_one _ _ _) ?_
         have hS1 := hS.out.addB (fcells 401 kdDeposit f).toArray 33
         refine gen_l _ hS1 ?_
         clear hS hS1
         intro W hS1
         have hS := Lib.hid hS1
         clear hS1)
      | ((with_reducible refine at_alloc 33 ?_); refine wpList_alloc_store rfl rfl 33 _ _ rfl rfl rfl (fcells 401 kdDeposit Y).toArray rfl rfl (zeroOf Tryd.prog 33) (row_zero rowDeposit).1 (row_zero rowDeposit).2 (fcells_one _ _ _) ?_
         have hS1 := hS.out.addB (fcells 401 kdDeposit Y).toArray 33
         refine gen_l _ hS1 ?_
         clear hS hS1
         intro W hS1
         have hS := Lib.hid hS1
         clear hS1)
      | ((with_reducible refine (hRA.out _ _ _ (hS.out.sl 1 rfl)).mono ?_)
         rintro e W ⟨rfl, hb1⟩
         have hS1 := hS.out.later hb1
         clear hb1
         clear hS
         have hS := Lib.hid hS1
         clear hS1)
      | ((with_reducible refine (hRM.out _ _ _ (hS.out.sl 4 rfl)).mono ?_)
         rintro e W ⟨rfl, hb1⟩
         have hS1 := hS.out.later hb1
         clear hb1
         clear hS
         have hS := Lib.hid hS1
         clear hS1)
      | ((with_reducible refine (hRB.out _ _ _ (hS.out.sl 0 rfl)).mono ?_)
         rintro e W ⟨rfl, hb1⟩
         have hS1 := hS.out.later hb1
         clear hb1
         clear hS
         have hS := Lib.hid hS1
         clear hS1)
      | ((with_reducible refine at_conv 34 9 ?_); refine wpList_value (by rfl) _ (run_conv _ rfl hS.out 1 rfl rfl) ?_)
      | ((with_reducible refine at_conv 34 9 ?_); refine wpList_value (by rfl) _ (run_conv _ rfl hS.out 2 rfl rfl) ?_)
      | ((with_reducible refine at_conv 34 9 ?_); refine wpList_value (by rfl) _ (run_conv _ rfl hS.out 3 rfl rfl) ?_)
      | ((with_reducible refine at_conv 34 9 ?_); refine wpList_value (by rfl) _ (run_conv _ rfl hS.out 6 rfl rfl) ?_)
      | ((with_reducible refine at_conv 34 9 ?_); refine wpList_value (by rfl) _ (run_conv _ rfl hS.out 7 rfl rfl) ?_)
      | ((with_reducible refine at_conv 34 9 ?_); refine wpList_value (by rfl) _ (run_conv _ rfl hS.out 4 rfl rfl) ?_)
      | ((with_reducible refine at_conv 34 9 ?_); refine wpList_value (by rfl) _ (run_conv _ rfl hS.out 0 rfl rfl) ?_)
      | ((with_reducible refine at_bin .neq 23 ?_); go_loud (refine wpList_value (by rfl) _ (run_neq_root _ _ _ rfl (rootDeposit f) (rootDeposit f) false rfl rfl (eqCells_root _)) ?_))
      | ((with_reducible refine at_bslice 34 ?_); refine wpList_plain rfl fun K hK => wp_build0 rfl (hK _ _ ?_); clear hK K)
      | ((with_reducible refine at_app 34 ?_); refine wpList_app (w0 := W) rfl _ _ rfl W.heap.size [] lb _ rfl (OwnB.new (Nat.le_refl _) [] (by decide) (heap_new _ _ _ _ rfl)) vb cb rfl ((hS.out.sl 0 rfl).row.later ((Below.refl _ _).alloc (Nat.le_refl _) _)) (by simp; omega) (by simp) (hS.out.sl 0 rfl).nil ((Below.refl _ _).alloc (Nat.le_refl _) _) (fun v1 W1 h1 b1 z1 => ?_)
         rw [List.nil_append] at h1
         obtain ⟨va1, c1, e1, _⟩ := own_form h1
         subst e1
         have hO1 := Lib.hid h1
         have hb1 := Lib.hid b1
         clear h1 b1)
      | ((with_reducible refine at_app 34 ?_); refine wpList_app (w0 := W) rfl _ _ rfl W.heap.size lb [7] _ rfl (hO1.out.later ((Below.refl _ _).alloc (Nat.le_refl _) _)) (some ⟨W1.heap.size, 0, none⟩) 1 rfl (row_one _ _ 7 _ (heap_new _ _ _ _ rfl) rfl ⟨by decide, by decide⟩) (by simp; omega) (by rw [World.size_alloc]; omega) (fun h => by cases h) (hb1.out.alloc z1 _) (fun v2 W2 h2 b2 z2 => ?_)
         obtain ⟨g, c2, e2, hgc, hsl7⟩ := SlB.own1 h2 (hS.out.sl 0 rfl).row.ok ⟨by decide, by decide⟩
         subst e2
         have hS1 := ((hS.out.later b2).addS hsl7.pre rfl).addS (k := lb.length + 1) hsl7 (by simp)
         clear h2 b2 z2 hsl7 hO1 hb1 z1
         obtain ⟨W, hWW⟩ : ∃ W, W = W2 := ⟨_, rfl⟩
         subst hWW
         clear hS
         have hS := Lib.hid hS1
         clear hS1)
      | ((with_reducible refine at_slice 34 ?_); refine wpList_value (by rfl) _ (run_slice_to _ 34 5 _ _ rfl Tryd.underlying34 1 sz_u8 g 0 (lb.length + 1) c2 lb.length rfl rfl (by omega)) ?_)
      | ((with_reducible refine at_slice 34 ?_); refine wpList_value (by rfl) _ (run_slice_to _ 34 5 _ _ rfl Tryd.underlying34 1 sz_u8 g 0 lb.length c2 (lb.length + 1) rfl rfl (by omega)) ?_)
      | ((with_reducible refine at_iaddr 34 ?_); go_loud (refine wpList_value (by rfl) _ (run_index_slice _ 34 5 _ _ rfl Tryd.underlying34 1 sz_u8 g 0 (lb.length + 1) c2 rfl .i64 lb.length rfl (by omega) lb.length (by omega)) ?_))
      | ((with_reducible refine at_load 5 ?_); go_loud (refine wpList_value (by rfl) _ (run_load_cell _ 5 _ (by rfl) ⟨g, lb.length, none⟩ rfl (.int .u8 7) (hS.out.sl 5 rfl).last _ Tryd.underlying5 rfl) ?_)))
    exact ret_t1 rfl _ rfl rfl ⟨rfl, hS.out.hB⟩
  · have hne : ((eI : Int) != 0) = true := by simp [h0]
    clear heq
    go_wp2_with (first
      | ((with_reducible refine at_box 33 ?_); go_loud (refine wpList_box rfl 33 _ rfl _ rfl ?_)
         have hS1 := hS.out.addB (fcells 401 kdDeposit f).toArray 33
         refine gen_l _ hS1 ?_
         clear hS hS1
         intro W hS1
         have hS := Lib.hid hS1
         clear hS1)
      | ((with_reducible refine (awake8_any _).mono ?_)
         rintro e W ⟨rfl, hb1⟩
         have hS1 := hS.out.later hb1
         clear hb1
         clear hS
         have hS := Lib.hid hS1
         clear hS1)
      | ((with_reducible refine at_load 33 ?_); refine wpList_value (by rfl) _ (run_load_box _ 33 _ (by rfl) _ rfl _ _ (0, 0) _ (hS.out.bx 0 rfl) Tryd.underlying33 rfl (by rw [row_size rowDeposit]; simp [fcells])) ?_)
      | ((with_reducible refine at_load 33 ?_); refine wpList_value (by rfl) _ (run_load_box _ 33 _ (by rfl) _ rfl _ _ (0, 0) _ (hS.out.bx 3 rfl) Tryd.underlying33 rfl (by rw [row_size rowDeposit]; simp [fcells])) ?_)
      | ((with_reducible refine at_load 33 ?_); refine wpList_value (by rfl) _ (run_load_box _ 33 _ (by rfl) _ rfl _ _ (0, 0) _ (hS.out.bx 4 rfl) Tryd.underlying33 rfl (by rw [row_size rowDeposit]; simp [fcells])) ?_)
      | ((with_reducible refine at_load 33 ?_); refine wpList_value (by rfl) _ (run_load_box _ 33 _ (by rfl) _ rfl _ _ (0, 0) _ (hS.out.bx 5 rfl) Tryd.underlying33 rfl (by rw [row_size rowDeposit]; simp [fcells])) ?_)
      | ((with_reducible refine at_load 23 ?_); refine wpList_value (by rfl) _ (run_load_box _ 23 _ (by rfl) _ rfl _ _ (0, 0) _ (hS.out.bx 1 rfl) Tryd.underlying23 rfl (by rw [row_size row_root]; simp [fcells])) ?_)
      | ((with_reducible refine at_load 23 ?_); refine wpList_value (by rfl) _ (run_load_box _ 23 _ (by rfl) _ rfl _ _ (0, 0) _ (hS.out.bx 2 rfl) Tryd.underlying23 rfl (by rw [row_size row_root]; simp [fcells])) ?_)
      | ((with_reducible refine (enc_Deposit f hf.out _).mono ?_)
         rintro e W ⟨⟨va1, c1, rfl, hn1, ho1⟩, hb1⟩
         have hS1 := (hS.out.later hb1).addS (SlB.of_own ho1 (encDeposit_ok hf.out) hn1) (encDeposit_length _)
         clear hn1 ho1 hb1
         clear hS
         have hS := Lib.hid hS1
         clear hS1)
      | ((with_reducible refine (renc_Deposit f hf.out _).mono ?_)
         rintro e W ⟨⟨va1, c1, rfl, hn1, ho1⟩, hb1⟩
         have hS1 := (hS.out.later hb1).addS (SlB.of_own ho1 (encDeposit_ok hf.out) hn1) (encDeposit_length _)
         clear hn1 ho1 hb1
         clear hS
         have hS := Lib.hid hS1
         clear hS1)
      | ((with_reducible refine (renc_Deposit Y hY.out _).mono ?_)
         rintro e W ⟨⟨va1, c1, rfl, hn1, ho1⟩, hb1⟩
         rw [hU.out] at ho1
         have hS1 := (hS.out.later hb1).addS (SlB.of_own ho1 hUok.out hn1) hUlen.out
         clear hn1 ho1 hb1
         clear hS
         have hS := Lib.hid hS1
         clear hS1)
      | ((with_reducible refine (root_Deposit f hf.out _ hS.out.hT).mono ?_)
         rintro e W ⟨rfl, hb1⟩
         have hS1 := hS.out.later hb1
         clear hb1
         clear hS
         have hS := Lib.hid hS1
         clear hS1)
      | ((with_reducible refine (rroot_Deposit f hf.out _ hS.out.hT).mono ?_)
         rintro e W ⟨rfl, hb1⟩
         have hS1 := hS.out.later hb1
         clear hb1
         clear hS
         have hS := Lib.hid hS1
         clear hS1)
      | ((with_reducible refine at_alloc 23 ?_); refine wpList_alloc_store rfl rfl 23 _ _ rfl rfl rfl (rootV (rootDeposit f)) rfl rfl (zeroOf Tryd.prog 23) (row_zero row_root).1 (row_zero row_root).2 (fcells_one _ _ _) ?_
         have hS1 := hS.out.addB (rootV (rootDeposit f)) 23
         refine gen_l _ hS1 ?_
         clear hS hS1
         intro W hS1
         have hS := Lib.hid hS1
         clear hS1)
      | ((with_reducible refine at_alloc 33 ?_); refine wpList_alloc_store rfl rfl 33 _ _ rfl rfl rfl (fcells 401 kdDeposit f).toArray rfl rfl (zeroOf Tryd.prog 33) (row_zero rowDeposit).1 (row_zero rowDeposit).2 (fcells_one _ _ _) ?_
         have hS1 := hS.out.addB (fcells 401 kdDeposit f).toArray 33
         refine gen_l _ hS1 ?_
         clear hS hS1
         intro W hS1
         have hS := Lib.hid hS1
         clear hS1)
      | ((with_reducible refine at_alloc 33 ?_); refine wpList_alloc_store rfl rfl 33 _ _ rfl rfl rfl (fcells 401 kdDeposit Y).toArray rfl rfl (zeroOf Tryd.prog 33) (row_zero rowDeposit).1 (row_zero rowDeposit).2 (fcells_one _ _ _) ?_
         have hS1 := hS.out.addB (fcells 401 kdDeposit Y).toArray 33
         refine gen_l _ hS1 ?_
         clear hS hS1
         intro W hS1
         have hS := Lib.hid hS1
         clear hS1)
      | ((with_reducible refine (hRA.out _ _ _ (hS.out.sl 1 rfl)).mono ?_)
         rintro e W ⟨rfl, hb1⟩
         have hS1 := hS.out.later hb1
         clear hb1
         clear hS
         have hS := Lib.hid hS1
         clear hS1)
      | ((with_reducible refine (hRM.out _ _ _ (hS.out.sl 4 rfl)).mono ?_)
         rintro e W ⟨rfl, hb1⟩
         have hS1 := hS.out.later hb1
         clear hb1
         clear hS
         have hS := Lib.hid hS1
         clear hS1)
      | ((with_reducible refine (hRB.out _ _ _ (hS.out.sl 0 rfl)).mono ?_)
         rintro e W ⟨rfl, hb1⟩
         have hS1 := hS.out.later hb1
         clear hb1
         clear hS
         have hS := Lib.hid hS1
         clear hS1)
      | ((with_reducible refine at_conv 34 9 ?_); refine wpList_value (by rfl) _ (run_conv _ rfl hS.out 1 rfl rfl) ?_)
      | ((with_reducible refine at_conv 34 9 ?_); refine wpList_value (by rfl) _ (run_conv _ rfl hS.out 2 rfl rfl) ?_)
      | ((with_reducible refine at_conv 34 9 ?_); refine wpList_value (by rfl) _ (run_conv _ rfl hS.out 3 rfl rfl) ?_)
      | ((with_reducible refine at_conv 34 9 ?_); refine wpList_value (by rfl) _ (run_conv _ rfl hS.out 6 rfl rfl) ?_)
      | ((with_reducible refine at_conv 34 9 ?_); refine wpList_value (by rfl) _ (run_conv _ rfl hS.out 7 rfl rfl) ?_)
      | ((with_reducible refine at_conv 34 9 ?_); refine wpList_value (by rfl) _ (run_conv _ rfl hS.out 4 rfl rfl) ?_)
      | ((with_reducible refine at_conv 34 9 ?_); refine wpList_value (by rfl) _ (run_conv _ rfl hS.out 0 rfl rfl) ?_)
      | ((with_reducible refine at_bin .neq 23 ?_); go_loud (refine wpList_value (by rfl) _ (run_neq_root _ _ _ rfl (rootDeposit f) (rootDeposit f) false rfl rfl (eqCells_root _)) ?_))
      | ((with_reducible refine at_bslice 34 ?_); refine wpList_plain rfl fun K hK => wp_build0 rfl (hK _ _ ?_); clear hK K)
      | ((with_reducible refine at_app 34 ?_); refine wpList_app (w0 := W) rfl _ _ rfl W.heap.size [] lb _ rfl (OwnB.new (Nat.le_refl _) [] (by decide) (heap_new _ _ _ _ rfl)) vb cb rfl ((hS.out.sl 0 rfl).row.later ((Below.refl _ _).alloc (Nat.le_refl _) _)) (by simp; omega) (by simp) (hS.out.sl 0 rfl).nil ((Below.refl _ _).alloc (Nat.le_refl _) _) (fun v1 W1 h1 b1 z1 => ?_)
         rw [List.nil_append] at h1
         obtain ⟨va1, c1, e1, _⟩ := own_form h1
         subst e1
         have hO1 := Lib.hid h1
         have hb1 := Lib.hid b1
         clear h1 b1)
      | ((with_reducible refine at_app 34 ?_); refine wpList_app (w0 := W) rfl _ _ rfl W.heap.size lb [7] _ rfl (hO1.out.later ((Below.refl _ _).alloc (Nat.le_refl _) _)) (some ⟨W1.heap.size, 0, none⟩) 1 rfl (row_one _ _ 7 _ (heap_new _ _ _ _ rfl) rfl ⟨by decide, by decide⟩) (by simp; omega) (by rw [World.size_alloc]; omega) (fun h => by cases h) (hb1.out.alloc z1 _) (fun v2 W2 h2 b2 z2 => ?_)
         obtain ⟨g, c2, e2, hgc, hsl7⟩ := SlB.own1 h2 (hS.out.sl 0 rfl).row.ok ⟨by decide, by decide⟩
         subst e2
         have hS1 := ((hS.out.later b2).addS hsl7.pre rfl).addS (k := lb.length + 1) hsl7 (by simp)
         clear h2 b2 z2 hsl7 hO1 hb1 z1
         obtain ⟨W, hWW⟩ : ∃ W, W = W2 := ⟨_, rfl⟩
         subst hWW
         clear hS
         have hS := Lib.hid hS1
         clear hS1)
      | ((with_reducible refine at_slice 34 ?_); refine wpList_value (by rfl) _ (run_slice_to _ 34 5 _ _ rfl Tryd.underlying34 1 sz_u8 g 0 (lb.length + 1) c2 lb.length rfl rfl (by omega)) ?_)
      | ((with_reducible refine at_slice 34 ?_); refine wpList_value (by rfl) _ (run_slice_to _ 34 5 _ _ rfl Tryd.underlying34 1 sz_u8 g 0 lb.length c2 (lb.length + 1) rfl rfl (by omega)) ?_)
      | ((with_reducible refine at_iaddr 34 ?_); go_loud (refine wpList_value (by rfl) _ (run_index_slice _ 34 5 _ _ rfl Tryd.underlying34 1 sz_u8 g 0 (lb.length + 1) c2 rfl .i64 lb.length rfl (by omega) lb.length (by omega)) ?_))
      | ((with_reducible refine at_load 5 ?_); go_loud (refine wpList_value (by rfl) _ (run_load_cell _ 5 _ (by rfl) ⟨g, lb.length, none⟩ rfl (.int .u8 7) (hS.out.sl 5 rfl).last _ Tryd.underlying5 rfl) ?_)))
    exact ret_t1 rfl _ rfl rfl ⟨rfl, hS.out.hB⟩
end Go.Proofs.YtihelknkcomjpaaDoor
