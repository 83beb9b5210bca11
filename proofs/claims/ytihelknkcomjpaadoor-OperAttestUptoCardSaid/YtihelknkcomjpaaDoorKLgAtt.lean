/- The walk of pharoslaw08.OperAttest: under what the encoders, the hashers and the readers answer. -/
import Derived.Test.YtihelknkcomjpaaDoorKLawH
import Derived.Test.YtihelknkcomjpaaDoorJAw8
set_option linter.unusedVariables false
set_option linter.unusedSimpArgs false
set_option linter.unnecessarySimpa false
namespace Go.Proofs.YtihelknkcomjpaaDoor
open Go.RowKit BigFrame
set_option maxRecDepth 100000
set_option maxHeartbeats 16000000 in
theorem lawg_Att (hRow0 : rowB Tryd.prog 76 197 = true)
    (X : Array Value) (hXs0 : X.size = 197) (HX : World → Prop) (hHX : ∀ W1 W2, HX W1 → Below W1.heap.size W1 W2 → HX W2)
    (LX : List Int) (hLok0 : ∀ m ∈ LX, CK.ok .u8 m) (eX : Int) (rX : Nat → Int)
    (hEnc0 : ∀ W, HX W → Calls Tryd.prog 33 #[.agg X] W fun e w' => (∃ va c, e = .returned (.tuple #[.slice va LX.length c, .int .i64 eX]) ∧ (va = none → c = 0) ∧ OwnB W.heap.size (.slice va LX.length c) LX w') ∧ Below W.heap.size W w')
    (hREnc0 : ∀ W, HX W → Calls Tryd.prog 35 #[.agg X] W fun e w' => (∃ va c, e = .returned (.tuple #[.slice va LX.length c, .int .i64 eX]) ∧ (va = none → c = 0) ∧ OwnB W.heap.size (.slice va LX.length c) LX w') ∧ Below W.heap.size W w')
    (hRoot0 : ∀ W, HX W → Tabs W → Calls Tryd.prog 34 #[.agg X] W fun e w' => e = .returned (.tuple #[.agg (rootV rX), .int .i64 eX]) ∧ Below W.heap.size W w')
    (hRRoot0 : ∀ W, HX W → Tabs W → Calls Tryd.prog 36 #[.agg X] W fun e w' => e = .returned (.tuple #[.agg (rootV rX), .int .i64 eX]) ∧ Below W.heap.size W w')
    (HA : Array Value → World → Prop) (hHA0 : ∀ Y W1 W2, HA Y W1 → Below W1.heap.size W1 W2 → HA Y W2)
    (hRdA0 : eX = 0 → ∀ va c W, SlB va c LX W → Calls Tryd.prog 37 #[.slice va LX.length c] W fun e w' => (∃ Y : Array Value, e = .returned (.tuple #[.agg Y, .int .i64 0]) ∧ Y.size = 197 ∧ Y.all (·.oneCell') = true ∧ HA Y w') ∧ Below W.heap.size W w')
    (hEncA0 : eX = 0 → ∀ Y W, HA Y W → Calls Tryd.prog 35 #[.agg Y] W fun e w' => (∃ va c, e = .returned (.tuple #[.slice va LX.length c, .int .i64 0]) ∧ (va = none → c = 0) ∧ OwnB W.heap.size (.slice va LX.length c) LX w') ∧ Below W.heap.size W w')
    (lb : List Int) (vb : Option Addr) (cb : Nat) (w : World) (hT : Tabs w) (hX0 : HX w) (hb0 : SlB vb cb lb w) (hfew : lb.length ≤ 70368744170000)
    (eI : Int) (U : List Int) (hUok0 : ∀ m ∈ U, CK.ok .u8 m) (heq : eI = 0 → U = lb)
    (HY : Array Value → World → Prop) (hHY0 : ∀ Y W1 W2, HY Y W1 → Below W1.heap.size W1 W2 → HY Y W2)
    (hRM0 : ∀ g c W, SlB (some ⟨g, 0, none⟩) c lb W → Calls Tryd.prog 37 #[.slice (some ⟨g, 0, none⟩) lb.length c] W fun e w' => (∃ Y : Array Value, e = .returned (.tuple #[.agg Y, .int .i64 eI]) ∧ Y.size = 197 ∧ Y.all (·.oneCell') = true ∧ HY Y w') ∧ Below W.heap.size W w')
    (hRB0 : ∀ va c W, SlB va c lb W → Calls Tryd.prog 38 #[.slice va lb.length c] W fun e w' => (∃ Y : Array Value, e = .returned (.tuple #[.agg Y, .int .i64 eI]) ∧ Y.size = 197 ∧ Y.all (·.oneCell') = true ∧ HY Y w') ∧ Below W.heap.size W w')
    (hEncU0 : ∀ Y W, HY Y W → Calls Tryd.prog 35 #[.agg Y] W fun e w' => (∃ va c, e = .returned (.tuple #[.slice va U.length c, .int .i64 0]) ∧ (va = none → c = 0) ∧ OwnB W.heap.size (.slice va U.length c) U w') ∧ Below W.heap.size W w') :
    Calls Tryd.prog 7 #[.agg X, .slice vb lb.length cb] w fun e w' => e = .returned (.bool true) ∧ Below w.heap.size w w' := by
  have hS := Lib.hid ((LawH.start hT).addS hb0 rfl |>.addH hX0 hHX)
  have hRow := Lib.hid hRow0
  have hXs := Lib.hid hXs0
  have hLok := Lib.hid hLok0
  have hEnc := Lib.hid hEnc0
  have hREnc := Lib.hid hREnc0
  have hRoot := Lib.hid hRoot0
  have hRRoot := Lib.hid hRRoot0
  have hUok := Lib.hid hUok0
  have hRM := Lib.hid hRM0
  have hRB := Lib.hid hRB0
  have hEncU := Lib.hid hEncU0
  have hHA := Lib.hid hHA0
  have hHY := Lib.hid hHY0
  have hN := Lib.hid (row_size hRow0)
  clear hRow0 hXs0 hLok0 hEnc0 hREnc0 hRoot0 hRRoot0 hUok0 hRM0 hRB0 hEncU0 hX0 hb0 hT hHX hHA0 hHY0
  have hw1 : IntKind.i64.wrap ((lb.length : Int) + 1) = ((lb.length + 1 : Nat) : Int) := by rw [IntKind.wrap_i64]; omega
  go_enter Tryd.func7, Tryd.ntmps7
  by_cases hx : eX = 0
  · by_cases hi : eI = 0
    · subst hx
      have hRdA := Lib.hid (hRdA0 rfl)
      have hEncA := Lib.hid (hEncA0 rfl)
      clear hRdA0 hEncA0
      subst hi
      have e := (heq rfl).symm
      subst e
      clear heq
      go_wp2_with (first
        | ((with_reducible refine at_box 76 ?_); go_loud (refine wpList_box rfl 76 _ rfl _ rfl ?_)
           have hS1 := hS.out.addB X 76
           refine gen_l _ hS1 ?_
           clear hS hS1
           intro W hS1
           have hS := Lib.hid hS1
           clear hS1)
        | ((with_reducible refine (awake8_any _).mono ?_)
           rintro e W ⟨rfl, hb1⟩
           have hS1 := hS.out.later hb1
           clear hb1
           clear hS
           have hS := Lib.hid hS1
           clear hS1)
        | ((with_reducible refine at_load 76 ?_); refine wpList_value (by rfl) _ (run_load_box _ 76 _ (by rfl) _ rfl _ _ (0, 0) _ (hS.out.bx 0 rfl) Tryd.underlying76 rfl (by rw [hN.out, hXs.out])) ?_)
        | ((with_reducible refine at_load 76 ?_); refine wpList_value (by rfl) _ (run_load_box _ 76 _ (by rfl) _ rfl _ _ (0, 0) _ (hS.out.bx 3 rfl) Tryd.underlying76 rfl (by rw [hN.out, hYAs.out])) ?_)
        | ((with_reducible refine at_load 76 ?_); refine wpList_value (by rfl) _ (run_load_box _ 76 _ (by rfl) _ rfl _ _ (0, 0) _ (hS.out.bx 4 rfl) Tryd.underlying76 rfl (by rw [hN.out, hYBs.out])) ?_)
        | ((with_reducible refine at_load 76 ?_); refine wpList_value (by rfl) _ (run_load_box _ 76 _ (by rfl) _ rfl _ _ (0, 0) _ (hS.out.bx 5 rfl) Tryd.underlying76 rfl (by rw [hN.out, hYCs.out])) ?_)
        | ((with_reducible refine at_load 23 ?_); refine wpList_value (by rfl) _ (run_load_box _ 23 _ (by rfl) _ rfl _ _ (0, 0) _ (hS.out.bx 1 rfl) Tryd.underlying23 rfl (by rw [row_size row_root]; simp [fcells])) ?_)
        | ((with_reducible refine at_load 23 ?_); refine wpList_value (by rfl) _ (run_load_box _ 23 _ (by rfl) _ rfl _ _ (0, 0) _ (hS.out.bx 2 rfl) Tryd.underlying23 rfl (by rw [row_size row_root]; simp [fcells])) ?_)
        | ((with_reducible refine (hEnc.out _ (hS.out.get 0 rfl)).mono ?_)
           rintro e W ⟨⟨va1, c1, rfl, hn1, ho1⟩, hb1⟩
           have hS1 := (hS.out.later hb1).addS (SlB.of_own ho1 hLok.out hn1) rfl
           clear hn1 ho1 hb1
           clear hS
           have hS := Lib.hid hS1
           clear hS1)
        | ((with_reducible refine (hREnc.out _ (hS.out.get 0 rfl)).mono ?_)
           rintro e W ⟨⟨va1, c1, rfl, hn1, ho1⟩, hb1⟩
           have hS1 := (hS.out.later hb1).addS (SlB.of_own ho1 hLok.out hn1) rfl
           clear hn1 ho1 hb1
           clear hS
           have hS := Lib.hid hS1
           clear hS1)
        | ((with_reducible refine (hEncA.out YA _ (hS.out.get 1 rfl)).mono ?_)
           rintro e W ⟨⟨va1, c1, rfl, hn1, ho1⟩, hb1⟩
           have hS1 := (hS.out.later hb1).addS (SlB.of_own ho1 hLok.out hn1) rfl
           clear hn1 ho1 hb1
           clear hS
           have hS := Lib.hid hS1
           clear hS1)
        | ((with_reducible refine (hEncU.out YB _ (hS.out.get 2 rfl)).mono ?_)
           rintro e W ⟨⟨va1, c1, rfl, hn1, ho1⟩, hb1⟩
           have hS1 := (hS.out.later hb1).addS (SlB.of_own ho1 hUok.out hn1) rfl
           clear hn1 ho1 hb1
           clear hS
           have hS := Lib.hid hS1
           clear hS1)
        | ((with_reducible refine (hEncU.out YC _ (hS.out.get 3 rfl)).mono ?_)
           rintro e W ⟨⟨va1, c1, rfl, hn1, ho1⟩, hb1⟩
           have hS1 := (hS.out.later hb1).addS (SlB.of_own ho1 hUok.out hn1) rfl
           clear hn1 ho1 hb1
           clear hS
           have hS := Lib.hid hS1
           clear hS1)
        | ((with_reducible refine (hRoot.out _ (hS.out.get 0 rfl) hS.out.hT).mono ?_)
           rintro e W ⟨rfl, hb1⟩
           have hS1 := hS.out.later hb1
           clear hb1
           clear hS
           have hS := Lib.hid hS1
           clear hS1)
        | ((with_reducible refine (hRRoot.out _ (hS.out.get 0 rfl) hS.out.hT).mono ?_)
           rintro e W ⟨rfl, hb1⟩
           have hS1 := hS.out.later hb1
           clear hb1
           clear hS
           have hS := Lib.hid hS1
           clear hS1)
        | ((with_reducible refine at_alloc 23 ?_); refine wpList_alloc_store rfl rfl 23 _ _ rfl rfl rfl (rootV rX) rfl rfl (zeroOf Tryd.prog 23) (row_zero row_root).1 (row_zero row_root).2 (fcells_one _ _ _) ?_
           have hS1 := hS.out.addB (rootV rX) 23
           refine gen_l _ hS1 ?_
           clear hS hS1
           intro W hS1
           have hS := Lib.hid hS1
           clear hS1)
        | ((with_reducible refine at_alloc 76 ?_); refine wpList_alloc_store rfl rfl 76 _ _ rfl rfl rfl YA rfl rfl (zeroOf Tryd.prog 76) (by rw [hYAs.out]; exact (row_zero hRow.out).1) (by rw [hYAs.out]; exact (row_zero hRow.out).2) hYAo.out ?_
           have hS1 := hS.out.addB YA 76
           refine gen_l _ hS1 ?_
           clear hS hS1
           intro W hS1
           have hS := Lib.hid hS1
           clear hS1)
        | ((with_reducible refine at_alloc 76 ?_); refine wpList_alloc_store rfl rfl 76 _ _ rfl rfl rfl YB rfl rfl (zeroOf Tryd.prog 76) (by rw [hYBs.out]; exact (row_zero hRow.out).1) (by rw [hYBs.out]; exact (row_zero hRow.out).2) hYBo.out ?_
           have hS1 := hS.out.addB YB 76
           refine gen_l _ hS1 ?_
           clear hS hS1
           intro W hS1
           have hS := Lib.hid hS1
           clear hS1)
        | ((with_reducible refine at_alloc 76 ?_); refine wpList_alloc_store rfl rfl 76 _ _ rfl rfl rfl YC rfl rfl (zeroOf Tryd.prog 76) (by rw [hYCs.out]; exact (row_zero hRow.out).1) (by rw [hYCs.out]; exact (row_zero hRow.out).2) hYCo.out ?_
           have hS1 := hS.out.addB YC 76
           refine gen_l _ hS1 ?_
           clear hS hS1
           intro W hS1
           have hS := Lib.hid hS1
           clear hS1)
        | ((with_reducible refine (hRdA.out _ _ _ (hS.out.sl 1 rfl)).mono ?_)
           rintro e W ⟨⟨YA, rfl, hYs1, hYo1, hYh1⟩, hb1⟩
           have hYAs := Lib.hid hYs1
           have hYAo := Lib.hid hYo1
           have hS1 := (hS.out.later hb1).addH hYh1 (hHA.out YA)
           clear hb1 hYs1 hYo1 hYh1
           clear hS
           have hS := Lib.hid hS1
           clear hS1)
        | ((with_reducible refine (hRM.out _ _ _ (hS.out.sl 4 rfl)).mono ?_)
           rintro e W ⟨⟨YB, rfl, hYs1, hYo1, hYh1⟩, hb1⟩
           have hYBs := Lib.hid hYs1
           have hYBo := Lib.hid hYo1
           have hS1 := (hS.out.later hb1).addH hYh1 (hHY.out YB)
           clear hb1 hYs1 hYo1 hYh1
           clear hS
           have hS := Lib.hid hS1
           clear hS1)
        | ((with_reducible refine (hRB.out _ _ _ (hS.out.sl 0 rfl)).mono ?_)
           rintro e W ⟨⟨YC, rfl, hYs1, hYo1, hYh1⟩, hb1⟩
           have hYCs := Lib.hid hYs1
           have hYCo := Lib.hid hYo1
           have hS1 := (hS.out.later hb1).addH hYh1 (hHY.out YC)
           clear hb1 hYs1 hYo1 hYh1
           clear hS
           have hS := Lib.hid hS1
           clear hS1)
        | ((with_reducible refine at_conv 34 9 ?_); refine wpList_value (by rfl) _ (run_conv _ rfl hS.out.toLaw 1 rfl rfl) ?_)
        | ((with_reducible refine at_conv 34 9 ?_); refine wpList_value (by rfl) _ (run_conv _ rfl hS.out.toLaw 2 rfl rfl) ?_)
        | ((with_reducible refine at_conv 34 9 ?_); refine wpList_value (by rfl) _ (run_conv _ rfl hS.out.toLaw 3 rfl rfl) ?_)
        | ((with_reducible refine at_conv 34 9 ?_); refine wpList_value (by rfl) _ (run_conv _ rfl hS.out.toLaw 6 rfl rfl) ?_)
        | ((with_reducible refine at_conv 34 9 ?_); refine wpList_value (by rfl) _ (run_conv _ rfl hS.out.toLaw 7 rfl rfl) ?_)
        | ((with_reducible refine at_conv 34 9 ?_); refine wpList_value (by rfl) _ (run_conv _ rfl hS.out.toLaw 4 rfl rfl) ?_)
        | ((with_reducible refine at_conv 34 9 ?_); refine wpList_value (by rfl) _ (run_conv _ rfl hS.out.toLaw 0 rfl rfl) ?_)
        | ((with_reducible refine at_bin .neq 23 ?_); go_loud (refine wpList_value (by rfl) _ (run_neq_root _ _ _ rfl rX rX false rfl rfl (eqCells_root _)) ?_))
        | ((with_reducible refine at_bslice 34 ?_); refine wpList_plain rfl fun K hK => wp_build0 rfl (hK _ _ ?_); clear hK K)
        | ((with_reducible refine at_app 34 ?_); refine wpList_app (w0 := W) rfl _ _ rfl W.heap.size [] lb _ rfl (OwnB.new (Nat.le_refl _) [] (by decide) (heap_new _ _ _ _ rfl)) vb cb rfl ((hS.out.sl 0 rfl).row.later ((Below.refl _ _).alloc (Nat.le_refl _) _)) (by simp; omega) (by simp) (hS.out.sl 0 rfl).nil ((Below.refl _ _).alloc (Nat.le_refl _) _) (fun v1 W1 h1 b1 z1 => ?_)
           rw [List.nil_append] at h1
           obtain ⟨va1, c1, e1, _⟩ := own_form h1
           subst e1
           have hO1 := Lib.hid h1
           have hb1 := Lib.hid b1
           clear h1 b1)
        | ((with_reducible refine at_app 34 ?_); refine wpList_app (w0 := W) rfl _ _ rfl W.heap.size lb [7] _ rfl (hO1.out.later ((Below.refl _ _).alloc (Nat.le_refl _) _)) (some ⟨W1.heap.size, 0, none⟩) 1 rfl (row_one _ _ 7 _ (heap_new _ _ _ _ rfl) rfl ⟨by decide, by decide⟩) (by simp; omega) (by rw [World.size_alloc]; omega) (fun h => by cases h) (hb1.out.alloc z1 _) (fun v2 W2 h2 b2 z2 => ?_)
           obtain ⟨g, c2, e2, hgc, hsl7⟩ := SlB.own1 h2 (hS.out.sl 0 rfl).row.ok ⟨by decide, by decide⟩
           subst e2
           have hS1 := ((hS.out.later b2).addS hsl7.pre rfl).addS (k := lb.length + 1) hsl7 (by simp)
           clear h2 b2 z2 hsl7 hO1 hb1 z1
           obtain ⟨W, hWW⟩ : ∃ W, W = W2 := ⟨_, rfl⟩
           subst hWW
           clear hS
           have hS := Lib.hid hS1
           clear hS1)
        | ((with_reducible refine at_slice 34 ?_); refine wpList_value (by rfl) _ (run_slice_to _ 34 5 _ _ rfl Tryd.underlying34 1 sz_u8 g 0 (lb.length + 1) c2 lb.length rfl rfl (by omega)) ?_)
        | ((with_reducible refine at_slice 34 ?_); refine wpList_value (by rfl) _ (run_slice_to _ 34 5 _ _ rfl Tryd.underlying34 1 sz_u8 g 0 lb.length c2 (lb.length + 1) rfl rfl (by omega)) ?_)
        | ((with_reducible refine at_iaddr 34 ?_); go_loud (refine wpList_value (by rfl) _ (run_index_slice _ 34 5 _ _ rfl Tryd.underlying34 1 sz_u8 g 0 (lb.length + 1) c2 rfl .i64 lb.length rfl (by omega) lb.length (by omega)) ?_))
        | ((with_reducible refine at_load 5 ?_); go_loud (refine wpList_value (by rfl) _ (run_load_cell _ 5 _ (by rfl) ⟨g, lb.length, none⟩ rfl (.int .u8 7) (hS.out.sl 5 rfl).last _ Tryd.underlying5 rfl) ?_)))
      exact ret_t1 rfl _ rfl rfl ⟨rfl, hS.out.hB⟩
    · subst hx
      have hRdA := Lib.hid (hRdA0 rfl)
      have hEncA := Lib.hid (hEncA0 rfl)
      clear hRdA0 hEncA0
      have hi0 : (eI == 0) = false := by simp [hi]
      have hi1 : (eI != 0) = true := by simp [hi]
      clear heq
      go_wp2_with (first
        | ((with_reducible refine at_box 76 ?_); go_loud (refine wpList_box rfl 76 _ rfl _ rfl ?_)
           have hS1 := hS.out.addB X 76
           refine gen_l _ hS1 ?_
           clear hS hS1
           intro W hS1
           have hS := Lib.hid hS1
           clear hS1)
        | ((with_reducible refine (awake8_any _).mono ?_)
           rintro e W ⟨rfl, hb1⟩
           have hS1 := hS.out.later hb1
           clear hb1
           clear hS
           have hS := Lib.hid hS1
           clear hS1)
        | ((with_reducible refine at_load 76 ?_); refine wpList_value (by rfl) _ (run_load_box _ 76 _ (by rfl) _ rfl _ _ (0, 0) _ (hS.out.bx 0 rfl) Tryd.underlying76 rfl (by rw [hN.out, hXs.out])) ?_)
        | ((with_reducible refine at_load 76 ?_); refine wpList_value (by rfl) _ (run_load_box _ 76 _ (by rfl) _ rfl _ _ (0, 0) _ (hS.out.bx 3 rfl) Tryd.underlying76 rfl (by rw [hN.out, hYAs.out])) ?_)
        | ((with_reducible refine at_load 76 ?_); refine wpList_value (by rfl) _ (run_load_box _ 76 _ (by rfl) _ rfl _ _ (0, 0) _ (hS.out.bx 4 rfl) Tryd.underlying76 rfl (by rw [hN.out, hYBs.out])) ?_)
        | ((with_reducible refine at_load 76 ?_); refine wpList_value (by rfl) _ (run_load_box _ 76 _ (by rfl) _ rfl _ _ (0, 0) _ (hS.out.bx 5 rfl) Tryd.underlying76 rfl (by rw [hN.out, hYCs.out])) ?_)
        | ((with_reducible refine at_load 23 ?_); refine wpList_value (by rfl) _ (run_load_box _ 23 _ (by rfl) _ rfl _ _ (0, 0) _ (hS.out.bx 1 rfl) Tryd.underlying23 rfl (by rw [row_size row_root]; simp [fcells])) ?_)
        | ((with_reducible refine at_load 23 ?_); refine wpList_value (by rfl) _ (run_load_box _ 23 _ (by rfl) _ rfl _ _ (0, 0) _ (hS.out.bx 2 rfl) Tryd.underlying23 rfl (by rw [row_size row_root]; simp [fcells])) ?_)
        | ((with_reducible refine (hEnc.out _ (hS.out.get 0 rfl)).mono ?_)
           rintro e W ⟨⟨va1, c1, rfl, hn1, ho1⟩, hb1⟩
           have hS1 := (hS.out.later hb1).addS (SlB.of_own ho1 hLok.out hn1) rfl
           clear hn1 ho1 hb1
           clear hS
           have hS := Lib.hid hS1
           clear hS1)
        | ((with_reducible refine (hREnc.out _ (hS.out.get 0 rfl)).mono ?_)
           rintro e W ⟨⟨va1, c1, rfl, hn1, ho1⟩, hb1⟩
           have hS1 := (hS.out.later hb1).addS (SlB.of_own ho1 hLok.out hn1) rfl
           clear hn1 ho1 hb1
           clear hS
           have hS := Lib.hid hS1
           clear hS1)
        | ((with_reducible refine (hEncA.out YA _ (hS.out.get 1 rfl)).mono ?_)
           rintro e W ⟨⟨va1, c1, rfl, hn1, ho1⟩, hb1⟩
           have hS1 := (hS.out.later hb1).addS (SlB.of_own ho1 hLok.out hn1) rfl
           clear hn1 ho1 hb1
           clear hS
           have hS := Lib.hid hS1
           clear hS1)
        | ((with_reducible refine (hEncU.out YB _ (hS.out.get 2 rfl)).mono ?_)
           rintro e W ⟨⟨va1, c1, rfl, hn1, ho1⟩, hb1⟩
           have hS1 := (hS.out.later hb1).addS (SlB.of_own ho1 hUok.out hn1) rfl
           clear hn1 ho1 hb1
           clear hS
           have hS := Lib.hid hS1
           clear hS1)
        | ((with_reducible refine (hEncU.out YC _ (hS.out.get 3 rfl)).mono ?_)
           rintro e W ⟨⟨va1, c1, rfl, hn1, ho1⟩, hb1⟩
           have hS1 := (hS.out.later hb1).addS (SlB.of_own ho1 hUok.out hn1) rfl
           clear hn1 ho1 hb1
           clear hS
           have hS := Lib.hid hS1
           clear hS1)
        | ((with_reducible refine (hRoot.out _ (hS.out.get 0 rfl) hS.out.hT).mono ?_)
           rintro e W ⟨rfl, hb1⟩
           have hS1 := hS.out.later hb1
           clear hb1
           clear hS
           have hS := Lib.hid hS1
           clear hS1)
        | ((with_reducible refine (hRRoot.out _ (hS.out.get 0 rfl) hS.out.hT).mono ?_)
           rintro e W ⟨rfl, hb1⟩
           have hS1 := hS.out.later hb1
           clear hb1
           clear hS
           have hS := Lib.hid hS1
           clear hS1)
        | ((with_reducible refine at_alloc 23 ?_); refine wpList_alloc_store rfl rfl 23 _ _ rfl rfl rfl (rootV rX) rfl rfl (zeroOf Tryd.prog 23) (row_zero row_root).1 (row_zero row_root).2 (fcells_one _ _ _) ?_
           have hS1 := hS.out.addB (rootV rX) 23
           refine gen_l _ hS1 ?_
           clear hS hS1
           intro W hS1
           have hS := Lib.hid hS1
           clear hS1)
        | ((with_reducible refine at_alloc 76 ?_); refine wpList_alloc_store rfl rfl 76 _ _ rfl rfl rfl YA rfl rfl (zeroOf Tryd.prog 76) (by rw [hYAs.out]; exact (row_zero hRow.out).1) (by rw [hYAs.out]; exact (row_zero hRow.out).2) hYAo.out ?_
           have hS1 := hS.out.addB YA 76
           refine gen_l _ hS1 ?_
           clear hS hS1
           intro W hS1
           have hS := Lib.hid hS1
           clear hS1)
        | ((with_reducible refine at_alloc 76 ?_); refine wpList_alloc_store rfl rfl 76 _ _ rfl rfl rfl YB rfl rfl (zeroOf Tryd.prog 76) (by rw [hYBs.out]; exact (row_zero hRow.out).1) (by rw [hYBs.out]; exact (row_zero hRow.out).2) hYBo.out ?_
           have hS1 := hS.out.addB YB 76
           refine gen_l _ hS1 ?_
           clear hS hS1
           intro W hS1
           have hS := Lib.hid hS1
           clear hS1)
        | ((with_reducible refine at_alloc 76 ?_); refine wpList_alloc_store rfl rfl 76 _ _ rfl rfl rfl YC rfl rfl (zeroOf Tryd.prog 76) (by rw [hYCs.out]; exact (row_zero hRow.out).1) (by rw [hYCs.out]; exact (row_zero hRow.out).2) hYCo.out ?_
           have hS1 := hS.out.addB YC 76
           refine gen_l _ hS1 ?_
           clear hS hS1
           intro W hS1
           have hS := Lib.hid hS1
           clear hS1)
        | ((with_reducible refine (hRdA.out _ _ _ (hS.out.sl 1 rfl)).mono ?_)
           rintro e W ⟨⟨YA, rfl, hYs1, hYo1, hYh1⟩, hb1⟩
           have hYAs := Lib.hid hYs1
           have hYAo := Lib.hid hYo1
           have hS1 := (hS.out.later hb1).addH hYh1 (hHA.out YA)
           clear hb1 hYs1 hYo1 hYh1
           clear hS
           have hS := Lib.hid hS1
           clear hS1)
        | ((with_reducible refine (hRM.out _ _ _ (hS.out.sl 4 rfl)).mono ?_)
           rintro e W ⟨⟨YB, rfl, hYs1, hYo1, hYh1⟩, hb1⟩
           have hYBs := Lib.hid hYs1
           have hYBo := Lib.hid hYo1
           have hS1 := (hS.out.later hb1).addH hYh1 (hHY.out YB)
           clear hb1 hYs1 hYo1 hYh1
           clear hS
           have hS := Lib.hid hS1
           clear hS1)
        | ((with_reducible refine (hRB.out _ _ _ (hS.out.sl 0 rfl)).mono ?_)
           rintro e W ⟨⟨YC, rfl, hYs1, hYo1, hYh1⟩, hb1⟩
           have hYCs := Lib.hid hYs1
           have hYCo := Lib.hid hYo1
           have hS1 := (hS.out.later hb1).addH hYh1 (hHY.out YC)
           clear hb1 hYs1 hYo1 hYh1
           clear hS
           have hS := Lib.hid hS1
           clear hS1)
        | ((with_reducible refine at_conv 34 9 ?_); refine wpList_value (by rfl) _ (run_conv _ rfl hS.out.toLaw 1 rfl rfl) ?_)
        | ((with_reducible refine at_conv 34 9 ?_); refine wpList_value (by rfl) _ (run_conv _ rfl hS.out.toLaw 2 rfl rfl) ?_)
        | ((with_reducible refine at_conv 34 9 ?_); refine wpList_value (by rfl) _ (run_conv _ rfl hS.out.toLaw 3 rfl rfl) ?_)
        | ((with_reducible refine at_conv 34 9 ?_); refine wpList_value (by rfl) _ (run_conv _ rfl hS.out.toLaw 6 rfl rfl) ?_)
        | ((with_reducible refine at_conv 34 9 ?_); refine wpList_value (by rfl) _ (run_conv _ rfl hS.out.toLaw 7 rfl rfl) ?_)
        | ((with_reducible refine at_conv 34 9 ?_); refine wpList_value (by rfl) _ (run_conv _ rfl hS.out.toLaw 4 rfl rfl) ?_)
        | ((with_reducible refine at_conv 34 9 ?_); refine wpList_value (by rfl) _ (run_conv _ rfl hS.out.toLaw 0 rfl rfl) ?_)
        | ((with_reducible refine at_bin .neq 23 ?_); go_loud (refine wpList_value (by rfl) _ (run_neq_root _ _ _ rfl rX rX false rfl rfl (eqCells_root _)) ?_))
        | ((with_reducible refine at_bslice 34 ?_); refine wpList_plain rfl fun K hK => wp_build0 rfl (hK _ _ ?_); clear hK K)
        | ((with_reducible refine at_app 34 ?_); refine wpList_app (w0 := W) rfl _ _ rfl W.heap.size [] lb _ rfl (OwnB.new (Nat.le_refl _) [] (by decide) (heap_new _ _ _ _ rfl)) vb cb rfl ((hS.out.sl 0 rfl).row.later ((Below.refl _ _).alloc (Nat.le_refl _) _)) (by simp; omega) (by simp) (hS.out.sl 0 rfl).nil ((Below.refl _ _).alloc (Nat.le_refl _) _) (fun v1 W1 h1 b1 z1 => ?_)
           rw [List.nil_append] at h1
           obtain ⟨va1, c1, e1, _⟩ := own_form h1
           subst e1
           have hO1 := Lib.hid h1
           have hb1 := Lib.hid b1
           clear h1 b1)
        | ((with_reducible refine at_app 34 ?_); refine wpList_app (w0 := W) rfl _ _ rfl W.heap.size lb [7] _ rfl (hO1.out.later ((Below.refl _ _).alloc (Nat.le_refl _) _)) (some ⟨W1.heap.size, 0, none⟩) 1 rfl (row_one _ _ 7 _ (heap_new _ _ _ _ rfl) rfl ⟨by decide, by decide⟩) (by simp; omega) (by rw [World.size_alloc]; omega) (fun h => by cases h) (hb1.out.alloc z1 _) (fun v2 W2 h2 b2 z2 => ?_)
           obtain ⟨g, c2, e2, hgc, hsl7⟩ := SlB.own1 h2 (hS.out.sl 0 rfl).row.ok ⟨by decide, by decide⟩
           subst e2
           have hS1 := ((hS.out.later b2).addS hsl7.pre rfl).addS (k := lb.length + 1) hsl7 (by simp)
           clear h2 b2 z2 hsl7 hO1 hb1 z1
           obtain ⟨W, hWW⟩ : ∃ W, W = W2 := ⟨_, rfl⟩
           subst hWW
           clear hS
           have hS := Lib.hid hS1
           clear hS1)
        | ((with_reducible refine at_slice 34 ?_); refine wpList_value (by rfl) _ (run_slice_to _ 34 5 _ _ rfl Tryd.underlying34 1 sz_u8 g 0 (lb.length + 1) c2 lb.length rfl rfl (by omega)) ?_)
        | ((with_reducible refine at_slice 34 ?_); refine wpList_value (by rfl) _ (run_slice_to _ 34 5 _ _ rfl Tryd.underlying34 1 sz_u8 g 0 lb.length c2 (lb.length + 1) rfl rfl (by omega)) ?_)
        | ((with_reducible refine at_iaddr 34 ?_); go_loud (refine wpList_value (by rfl) _ (run_index_slice _ 34 5 _ _ rfl Tryd.underlying34 1 sz_u8 g 0 (lb.length + 1) c2 rfl .i64 lb.length rfl (by omega) lb.length (by omega)) ?_))
        | ((with_reducible refine at_load 5 ?_); go_loud (refine wpList_value (by rfl) _ (run_load_cell _ 5 _ (by rfl) ⟨g, lb.length, none⟩ rfl (.int .u8 7) (hS.out.sl 5 rfl).last _ Tryd.underlying5 rfl) ?_)))
      exact ret_t1 rfl _ rfl rfl ⟨rfl, hS.out.hB⟩
  · by_cases hi : eI = 0
    · have hx0 : (eX == 0) = false := by simp [hx]
      have hx1 : (eX != 0) = true := by simp [hx]
      clear hRdA0 hEncA0
      subst hi
      have e := (heq rfl).symm
      subst e
      clear heq
      go_wp2_with (first
        | ((with_reducible refine at_box 76 ?_); go_loud (refine wpList_box rfl 76 _ rfl _ rfl ?_)
           have hS1 := hS.out.addB X 76
           refine gen_l _ hS1 ?_
           clear hS hS1
           intro W hS1
           have hS := Lib.hid hS1
           clear hS1)
        | ((with_reducible refine (awake8_any _).mono ?_)
           rintro e W ⟨rfl, hb1⟩
           have hS1 := hS.out.later hb1
           clear hb1
           clear hS
           have hS := Lib.hid hS1
           clear hS1)
        | ((with_reducible refine at_load 76 ?_); refine wpList_value (by rfl) _ (run_load_box _ 76 _ (by rfl) _ rfl _ _ (0, 0) _ (hS.out.bx 0 rfl) Tryd.underlying76 rfl (by rw [hN.out, hXs.out])) ?_)
        | ((with_reducible refine at_load 76 ?_); refine wpList_value (by rfl) _ (run_load_box _ 76 _ (by rfl) _ rfl _ _ (0, 0) _ (hS.out.bx 3 rfl) Tryd.underlying76 rfl (by rw [hN.out, hYBs.out])) ?_)
        | ((with_reducible refine at_load 76 ?_); refine wpList_value (by rfl) _ (run_load_box _ 76 _ (by rfl) _ rfl _ _ (0, 0) _ (hS.out.bx 4 rfl) Tryd.underlying76 rfl (by rw [hN.out, hYCs.out])) ?_)
        | ((with_reducible refine at_load 23 ?_); refine wpList_value (by rfl) _ (run_load_box _ 23 _ (by rfl) _ rfl _ _ (0, 0) _ (hS.out.bx 1 rfl) Tryd.underlying23 rfl (by rw [row_size row_root]; simp [fcells])) ?_)
        | ((with_reducible refine at_load 23 ?_); refine wpList_value (by rfl) _ (run_load_box _ 23 _ (by rfl) _ rfl _ _ (0, 0) _ (hS.out.bx 2 rfl) Tryd.underlying23 rfl (by rw [row_size row_root]; simp [fcells])) ?_)
        | ((with_reducible refine (hEnc.out _ (hS.out.get 0 rfl)).mono ?_)
           rintro e W ⟨⟨va1, c1, rfl, hn1, ho1⟩, hb1⟩
           have hS1 := (hS.out.later hb1).addS (SlB.of_own ho1 hLok.out hn1) rfl
           clear hn1 ho1 hb1
           clear hS
           have hS := Lib.hid hS1
           clear hS1)
        | ((with_reducible refine (hREnc.out _ (hS.out.get 0 rfl)).mono ?_)
           rintro e W ⟨⟨va1, c1, rfl, hn1, ho1⟩, hb1⟩
           have hS1 := (hS.out.later hb1).addS (SlB.of_own ho1 hLok.out hn1) rfl
           clear hn1 ho1 hb1
           clear hS
           have hS := Lib.hid hS1
           clear hS1)
        | ((with_reducible refine (hEncU.out YB _ (hS.out.get 1 rfl)).mono ?_)
           rintro e W ⟨⟨va1, c1, rfl, hn1, ho1⟩, hb1⟩
           have hS1 := (hS.out.later hb1).addS (SlB.of_own ho1 hUok.out hn1) rfl
           clear hn1 ho1 hb1
           clear hS
           have hS := Lib.hid hS1
           clear hS1)
        | ((with_reducible refine (hEncU.out YC _ (hS.out.get 2 rfl)).mono ?_)
           rintro e W ⟨⟨va1, c1, rfl, hn1, ho1⟩, hb1⟩
           have hS1 := (hS.out.later hb1).addS (SlB.of_own ho1 hUok.out hn1) rfl
           clear hn1 ho1 hb1
           clear hS
           have hS := Lib.hid hS1
           clear hS1)
        | ((with_reducible refine (hRoot.out _ (hS.out.get 0 rfl) hS.out.hT).mono ?_)
           rintro e W ⟨rfl, hb1⟩
           have hS1 := hS.out.later hb1
           clear hb1
           clear hS
           have hS := Lib.hid hS1
           clear hS1)
        | ((with_reducible refine (hRRoot.out _ (hS.out.get 0 rfl) hS.out.hT).mono ?_)
           rintro e W ⟨rfl, hb1⟩
           have hS1 := hS.out.later hb1
           clear hb1
           clear hS
           have hS := Lib.hid hS1
           clear hS1)
        | ((with_reducible refine at_alloc 23 ?_); refine wpList_alloc_store rfl rfl 23 _ _ rfl rfl rfl (rootV rX) rfl rfl (zeroOf Tryd.prog 23) (row_zero row_root).1 (row_zero row_root).2 (fcells_one _ _ _) ?_
           have hS1 := hS.out.addB (rootV rX) 23
           refine gen_l _ hS1 ?_
           clear hS hS1
           intro W hS1
           have hS := Lib.hid hS1
           clear hS1)
        | ((with_reducible refine at_alloc 76 ?_); refine wpList_alloc_store rfl rfl 76 _ _ rfl rfl rfl YB rfl rfl (zeroOf Tryd.prog 76) (by rw [hYBs.out]; exact (row_zero hRow.out).1) (by rw [hYBs.out]; exact (row_zero hRow.out).2) hYBo.out ?_
           have hS1 := hS.out.addB YB 76
           refine gen_l _ hS1 ?_
           clear hS hS1
           intro W hS1
           have hS := Lib.hid hS1
           clear hS1)
        | ((with_reducible refine at_alloc 76 ?_); refine wpList_alloc_store rfl rfl 76 _ _ rfl rfl rfl YC rfl rfl (zeroOf Tryd.prog 76) (by rw [hYCs.out]; exact (row_zero hRow.out).1) (by rw [hYCs.out]; exact (row_zero hRow.out).2) hYCo.out ?_
           have hS1 := hS.out.addB YC 76
           refine gen_l _ hS1 ?_
           clear hS hS1
           intro W hS1
           have hS := Lib.hid hS1
           clear hS1)
        | ((with_reducible refine (hRM.out _ _ _ (hS.out.sl 3 rfl)).mono ?_)
           rintro e W ⟨⟨YB, rfl, hYs1, hYo1, hYh1⟩, hb1⟩
           have hYBs := Lib.hid hYs1
           have hYBo := Lib.hid hYo1
           have hS1 := (hS.out.later hb1).addH hYh1 (hHY.out YB)
           clear hb1 hYs1 hYo1 hYh1
           clear hS
           have hS := Lib.hid hS1
           clear hS1)
        | ((with_reducible refine (hRB.out _ _ _ (hS.out.sl 0 rfl)).mono ?_)
           rintro e W ⟨⟨YC, rfl, hYs1, hYo1, hYh1⟩, hb1⟩
           have hYCs := Lib.hid hYs1
           have hYCo := Lib.hid hYo1
           have hS1 := (hS.out.later hb1).addH hYh1 (hHY.out YC)
           clear hb1 hYs1 hYo1 hYh1
           clear hS
           have hS := Lib.hid hS1
           clear hS1)
        | ((with_reducible refine at_conv 34 9 ?_); refine wpList_value (by rfl) _ (run_conv _ rfl hS.out.toLaw 1 rfl rfl) ?_)
        | ((with_reducible refine at_conv 34 9 ?_); refine wpList_value (by rfl) _ (run_conv _ rfl hS.out.toLaw 2 rfl rfl) ?_)
        | ((with_reducible refine at_conv 34 9 ?_); refine wpList_value (by rfl) _ (run_conv _ rfl hS.out.toLaw 5 rfl rfl) ?_)
        | ((with_reducible refine at_conv 34 9 ?_); refine wpList_value (by rfl) _ (run_conv _ rfl hS.out.toLaw 6 rfl rfl) ?_)
        | ((with_reducible refine at_conv 34 9 ?_); refine wpList_value (by rfl) _ (run_conv _ rfl hS.out.toLaw 3 rfl rfl) ?_)
        | ((with_reducible refine at_conv 34 9 ?_); refine wpList_value (by rfl) _ (run_conv _ rfl hS.out.toLaw 0 rfl rfl) ?_)
        | ((with_reducible refine at_bin .neq 23 ?_); go_loud (refine wpList_value (by rfl) _ (run_neq_root _ _ _ rfl rX rX false rfl rfl (eqCells_root _)) ?_))
        | ((with_reducible refine at_bslice 34 ?_); refine wpList_plain rfl fun K hK => wp_build0 rfl (hK _ _ ?_); clear hK K)
        | ((with_reducible refine at_app 34 ?_); refine wpList_app (w0 := W) rfl _ _ rfl W.heap.size [] lb _ rfl (OwnB.new (Nat.le_refl _) [] (by decide) (heap_new _ _ _ _ rfl)) vb cb rfl ((hS.out.sl 0 rfl).row.later ((Below.refl _ _).alloc (Nat.le_refl _) _)) (by simp; omega) (by simp) (hS.out.sl 0 rfl).nil ((Below.refl _ _).alloc (Nat.le_refl _) _) (fun v1 W1 h1 b1 z1 => ?_)
           rw [List.nil_append] at h1
           obtain ⟨va1, c1, e1, _⟩ := own_form h1
           subst e1
           have hO1 := Lib.hid h1
           have hb1 := Lib.hid b1
           clear h1 b1)
        | ((with_reducible refine at_app 34 ?_); refine wpList_app (w0 := W) rfl _ _ rfl W.heap.size lb [7] _ rfl (hO1.out.later ((Below.refl _ _).alloc (Nat.le_refl _) _)) (some ⟨W1.heap.size, 0, none⟩) 1 rfl (row_one _ _ 7 _ (heap_new _ _ _ _ rfl) rfl ⟨by decide, by decide⟩) (by simp; omega) (by rw [World.size_alloc]; omega) (fun h => by cases h) (hb1.out.alloc z1 _) (fun v2 W2 h2 b2 z2 => ?_)
           obtain ⟨g, c2, e2, hgc, hsl7⟩ := SlB.own1 h2 (hS.out.sl 0 rfl).row.ok ⟨by decide, by decide⟩
           subst e2
           have hS1 := ((hS.out.later b2).addS hsl7.pre rfl).addS (k := lb.length + 1) hsl7 (by simp)
           clear h2 b2 z2 hsl7 hO1 hb1 z1
           obtain ⟨W, hWW⟩ : ∃ W, W = W2 := ⟨_, rfl⟩
           subst hWW
           clear hS
           have hS := Lib.hid hS1
           clear hS1)
        | ((with_reducible refine at_slice 34 ?_); refine wpList_value (by rfl) _ (run_slice_to _ 34 5 _ _ rfl Tryd.underlying34 1 sz_u8 g 0 (lb.length + 1) c2 lb.length rfl rfl (by omega)) ?_)
        | ((with_reducible refine at_slice 34 ?_); refine wpList_value (by rfl) _ (run_slice_to _ 34 5 _ _ rfl Tryd.underlying34 1 sz_u8 g 0 lb.length c2 (lb.length + 1) rfl rfl (by omega)) ?_)
        | ((with_reducible refine at_iaddr 34 ?_); go_loud (refine wpList_value (by rfl) _ (run_index_slice _ 34 5 _ _ rfl Tryd.underlying34 1 sz_u8 g 0 (lb.length + 1) c2 rfl .i64 lb.length rfl (by omega) lb.length (by omega)) ?_))
        | ((with_reducible refine at_load 5 ?_); go_loud (refine wpList_value (by rfl) _ (run_load_cell _ 5 _ (by rfl) ⟨g, lb.length, none⟩ rfl (.int .u8 7) (hS.out.sl 4 rfl).last _ Tryd.underlying5 rfl) ?_)))
      exact ret_t1 rfl _ rfl rfl ⟨rfl, hS.out.hB⟩
    · have hx0 : (eX == 0) = false := by simp [hx]
      have hx1 : (eX != 0) = true := by simp [hx]
      clear hRdA0 hEncA0
      have hi0 : (eI == 0) = false := by simp [hi]
      have hi1 : (eI != 0) = true := by simp [hi]
      clear heq
      go_wp2_with (first
        | ((with_reducible refine at_box 76 ?_); go_loud (refine wpList_box rfl 76 _ rfl _ rfl ?_)
           have hS1 := hS.out.addB X 76
           refine gen_l _ hS1 ?_
           clear hS hS1
           intro W hS1
           have hS := Lib.hid hS1
           clear hS1)
        | ((with_reducible refine (awake8_any _).mono ?_)
           rintro e W ⟨rfl, hb1⟩
           have hS1 := hS.out.later hb1
           clear hb1
           clear hS
           have hS := Lib.hid hS1
           clear hS1)
        | ((with_reducible refine at_load 76 ?_); refine wpList_value (by rfl) _ (run_load_box _ 76 _ (by rfl) _ rfl _ _ (0, 0) _ (hS.out.bx 0 rfl) Tryd.underlying76 rfl (by rw [hN.out, hXs.out])) ?_)
        | ((with_reducible refine at_load 76 ?_); refine wpList_value (by rfl) _ (run_load_box _ 76 _ (by rfl) _ rfl _ _ (0, 0) _ (hS.out.bx 3 rfl) Tryd.underlying76 rfl (by rw [hN.out, hYBs.out])) ?_)
        | ((with_reducible refine at_load 76 ?_); refine wpList_value (by rfl) _ (run_load_box _ 76 _ (by rfl) _ rfl _ _ (0, 0) _ (hS.out.bx 4 rfl) Tryd.underlying76 rfl (by rw [hN.out, hYCs.out])) ?_)
        | ((with_reducible refine at_load 23 ?_); refine wpList_value (by rfl) _ (run_load_box _ 23 _ (by rfl) _ rfl _ _ (0, 0) _ (hS.out.bx 1 rfl) Tryd.underlying23 rfl (by rw [row_size row_root]; simp [fcells])) ?_)
        | ((with_reducible refine at_load 23 ?_); refine wpList_value (by rfl) _ (run_load_box _ 23 _ (by rfl) _ rfl _ _ (0, 0) _ (hS.out.bx 2 rfl) Tryd.underlying23 rfl (by rw [row_size row_root]; simp [fcells])) ?_)
        | ((with_reducible refine (hEnc.out _ (hS.out.get 0 rfl)).mono ?_)
           rintro e W ⟨⟨va1, c1, rfl, hn1, ho1⟩, hb1⟩
           have hS1 := (hS.out.later hb1).addS (SlB.of_own ho1 hLok.out hn1) rfl
           clear hn1 ho1 hb1
           clear hS
           have hS := Lib.hid hS1
           clear hS1)
        | ((with_reducible refine (hREnc.out _ (hS.out.get 0 rfl)).mono ?_)
           rintro e W ⟨⟨va1, c1, rfl, hn1, ho1⟩, hb1⟩
           have hS1 := (hS.out.later hb1).addS (SlB.of_own ho1 hLok.out hn1) rfl
           clear hn1 ho1 hb1
           clear hS
           have hS := Lib.hid hS1
           clear hS1)
        | ((with_reducible refine (hEncU.out YB _ (hS.out.get 1 rfl)).mono ?_)
           rintro e W ⟨⟨va1, c1, rfl, hn1, ho1⟩, hb1⟩
           have hS1 := (hS.out.later hb1).addS (SlB.of_own ho1 hUok.out hn1) rfl
           clear hn1 ho1 hb1
           clear hS
           have hS := Lib.hid hS1
           clear hS1)
        | ((with_reducible refine (hEncU.out YC _ (hS.out.get 2 rfl)).mono ?_)
           rintro e W ⟨⟨va1, c1, rfl, hn1, ho1⟩, hb1⟩
           have hS1 := (hS.out.later hb1).addS (SlB.of_own ho1 hUok.out hn1) rfl
           clear hn1 ho1 hb1
           clear hS
           have hS := Lib.hid hS1
           clear hS1)
        | ((with_reducible refine (hRoot.out _ (hS.out.get 0 rfl) hS.out.hT).mono ?_)
           rintro e W ⟨rfl, hb1⟩
           have hS1 := hS.out.later hb1
           clear hb1
           clear hS
           have hS := Lib.hid hS1
           clear hS1)
        | ((with_reducible refine (hRRoot.out _ (hS.out.get 0 rfl) hS.out.hT).mono ?_)
           rintro e W ⟨rfl, hb1⟩
           have hS1 := hS.out.later hb1
           clear hb1
           clear hS
           have hS := Lib.hid hS1
           clear hS1)
        | ((with_reducible refine at_alloc 23 ?_); refine wpList_alloc_store rfl rfl 23 _ _ rfl rfl rfl (rootV rX) rfl rfl (zeroOf Tryd.prog 23) (row_zero row_root).1 (row_zero row_root).2 (fcells_one _ _ _) ?_
           have hS1 := hS.out.addB (rootV rX) 23
           refine gen_l _ hS1 ?_
           clear hS hS1
           intro W hS1
           have hS := Lib.hid hS1
           clear hS1)
        | ((with_reducible refine at_alloc 76 ?_); refine wpList_alloc_store rfl rfl 76 _ _ rfl rfl rfl YB rfl rfl (zeroOf Tryd.prog 76) (by rw [hYBs.out]; exact (row_zero hRow.out).1) (by rw [hYBs.out]; exact (row_zero hRow.out).2) hYBo.out ?_
           have hS1 := hS.out.addB YB 76
           refine gen_l _ hS1 ?_
           clear hS hS1
           intro W hS1
           have hS := Lib.hid hS1
           clear hS1)
        | ((with_reducible refine at_alloc 76 ?_); refine wpList_alloc_store rfl rfl 76 _ _ rfl rfl rfl YC rfl rfl (zeroOf Tryd.prog 76) (by rw [hYCs.out]; exact (row_zero hRow.out).1) (by rw [hYCs.out]; exact (row_zero hRow.out).2) hYCo.out ?_
           have hS1 := hS.out.addB YC 76
           refine gen_l _ hS1 ?_
           clear hS hS1
           intro W hS1
           have hS := Lib.hid hS1
           clear hS1)
        | ((with_reducible refine (hRM.out _ _ _ (hS.out.sl 3 rfl)).mono ?_)
           rintro e W ⟨⟨YB, rfl, hYs1, hYo1, hYh1⟩, hb1⟩
           have hYBs := Lib.hid hYs1
           have hYBo := Lib.hid hYo1
           have hS1 := (hS.out.later hb1).addH hYh1 (hHY.out YB)
           clear hb1 hYs1 hYo1 hYh1
           clear hS
           have hS := Lib.hid hS1
           clear hS1)
        | ((with_reducible refine (hRB.out _ _ _ (hS.out.sl 0 rfl)).mono ?_)
           rintro e W ⟨⟨YC, rfl, hYs1, hYo1, hYh1⟩, hb1⟩
           have hYCs := Lib.hid hYs1
           have hYCo := Lib.hid hYo1
           have hS1 := (hS.out.later hb1).addH hYh1 (hHY.out YC)
           clear hb1 hYs1 hYo1 hYh1
           clear hS
           have hS := Lib.hid hS1
           clear hS1)
        | ((with_reducible refine at_conv 34 9 ?_); refine wpList_value (by rfl) _ (run_conv _ rfl hS.out.toLaw 1 rfl rfl) ?_)
        | ((with_reducible refine at_conv 34 9 ?_); refine wpList_value (by rfl) _ (run_conv _ rfl hS.out.toLaw 2 rfl rfl) ?_)
        | ((with_reducible refine at_conv 34 9 ?_); refine wpList_value (by rfl) _ (run_conv _ rfl hS.out.toLaw 5 rfl rfl) ?_)
        | ((with_reducible refine at_conv 34 9 ?_); refine wpList_value (by rfl) _ (run_conv _ rfl hS.out.toLaw 6 rfl rfl) ?_)
        | ((with_reducible refine at_conv 34 9 ?_); refine wpList_value (by rfl) _ (run_conv _ rfl hS.out.toLaw 3 rfl rfl) ?_)
        | ((with_reducible refine at_conv 34 9 ?_); refine wpList_value (by rfl) _ (run_conv _ rfl hS.out.toLaw 0 rfl rfl) ?_)
        | ((with_reducible refine at_bin .neq 23 ?_); go_loud (refine wpList_value (by rfl) _ (run_neq_root _ _ _ rfl rX rX false rfl rfl (eqCells_root _)) ?_))
        | ((with_reducible refine at_bslice 34 ?_); refine wpList_plain rfl fun K hK => wp_build0 rfl (hK _ _ ?_); clear hK K)
        | ((with_reducible refine at_app 34 ?_); refine wpList_app (w0 := W) rfl _ _ rfl W.heap.size [] lb _ rfl (OwnB.new (Nat.le_refl _) [] (by decide) (heap_new _ _ _ _ rfl)) vb cb rfl ((hS.out.sl 0 rfl).row.later ((Below.refl _ _).alloc (Nat.le_refl _) _)) (by simp; omega) (by simp) (hS.out.sl 0 rfl).nil ((Below.refl _ _).alloc (Nat.le_refl _) _) (fun v1 W1 h1 b1 z1 => ?_)
           rw [List.nil_append] at h1
           obtain ⟨va1, c1, e1, _⟩ := own_form h1
           subst e1
           have hO1 := Lib.hid h1
           have hb1 := Lib.hid b1
           clear h1 b1)
        | ((with_reducible refine at_app 34 ?_); refine wpList_app (w0 := W) rfl _ _ rfl W.heap.size lb [7] _ rfl (hO1.out.later ((Below.refl _ _).alloc (Nat.le_refl _) _)) (some ⟨W1.heap.size, 0, none⟩) 1 rfl (row_one _ _ 7 _ (heap_new _ _ _ _ rfl) rfl ⟨by decide, by decide⟩) (by simp; omega) (by rw [World.size_alloc]; omega) (fun h => by cases h) (hb1.out.alloc z1 _) (fun v2 W2 h2 b2 z2 => ?_)
           obtain ⟨g, c2, e2, hgc, hsl7⟩ := SlB.own1 h2 (hS.out.sl 0 rfl).row.ok ⟨by decide, by decide⟩
           subst e2
           have hS1 := ((hS.out.later b2).addS hsl7.pre rfl).addS (k := lb.length + 1) hsl7 (by simp)
           clear h2 b2 z2 hsl7 hO1 hb1 z1
           obtain ⟨W, hWW⟩ : ∃ W, W = W2 := ⟨_, rfl⟩
           subst hWW
           clear hS
           have hS := Lib.hid hS1
           clear hS1)
        | ((with_reducible refine at_slice 34 ?_); refine wpList_value (by rfl) _ (run_slice_to _ 34 5 _ _ rfl Tryd.underlying34 1 sz_u8 g 0 (lb.length + 1) c2 lb.length rfl rfl (by omega)) ?_)
        | ((with_reducible refine at_slice 34 ?_); refine wpList_value (by rfl) _ (run_slice_to _ 34 5 _ _ rfl Tryd.underlying34 1 sz_u8 g 0 lb.length c2 (lb.length + 1) rfl rfl (by omega)) ?_)
        | ((with_reducible refine at_iaddr 34 ?_); go_loud (refine wpList_value (by rfl) _ (run_index_slice _ 34 5 _ _ rfl Tryd.underlying34 1 sz_u8 g 0 (lb.length + 1) c2 rfl .i64 lb.length rfl (by omega) lb.length (by omega)) ?_))
        | ((with_reducible refine at_load 5 ?_); go_loud (refine wpList_value (by rfl) _ (run_load_cell _ 5 _ (by rfl) ⟨g, lb.length, none⟩ rfl (.int .u8 7) (hS.out.sl 4 rfl).last _ Tryd.underlying5 rfl) ?_)))
      exact ret_t1 rfl _ rfl rfl ⟨rfl, hS.out.hB⟩
end Go.Proofs.YtihelknkcomjpaaDoor
