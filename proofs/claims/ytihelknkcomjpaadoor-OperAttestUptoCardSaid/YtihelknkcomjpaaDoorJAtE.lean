/- oper.ReadAttest: where the bytes are an attestation's. -/
/- oper.ReadAttest: where the bytes are no attestation's. -/
import Derived.Test.YtihelknkcomjpaaDoorJAtC
import Derived.Test.YtihelknkcomjpaaDoorJIxH
set_option linter.unusedVariables false
set_option linter.unusedSimpArgs false
set_option linter.unnecessarySimpa false
namespace Go.Proofs.YtihelknkcomjpaaDoor
open Go.RowKit BigFrame
set_option maxRecDepth 100000
theorem BoOwn.apart {l : List Int} {s : Value} {base b : Nat} {W W' : World} (h : BoOwn l s base W) (hx : Apart b W W') (hb : b < base) : BoOwn l s base W' := by
  obtain ⟨va, c, h1, h2, h3, h4⟩ := h
  refine ⟨va, c, h1, h2, ⟨fun i hi => ?_, h3.ok⟩, fun b' o e => ⟨(h4 b' o e).1, Nat.lt_of_lt_of_le (h4 b' o e).2 hx.size⟩⟩
  obtain ⟨b', o, e, hc⟩ := h3.cell i hi
  exact ⟨b', o, e, (hx.cell (p := ⟨b', o + i, none⟩) (h4 b' o e).2 (show b' ≠ b by have := (h4 b' o e).1; omega)).trans hc⟩
theorem BoOwn.weak {l : List Int} {s : Value} {base b : Nat} {W : World} (h : BoOwn l s base W) (hb : b ≤ base) : BoOwn l s b W := by
  obtain ⟨va, c, h1, h2, h3, h4⟩ := h
  exact ⟨va, c, h1, h2, h3, fun b' o e => ⟨Nat.le_trans hb (h4 b' o e).1, (h4 b' o e).2⟩⟩
theorem readListB_ok (l : List Int) (m : Nat) (va : Option Addr) (c : Nat) (w : World) (hl0 : Row w va .u8 l) (hlow0 : ∀ b o, va = some ⟨b, o, none⟩ → b < w.heap.size) (hm : l.length = m) (hmn : m < 4294967296) (hE : errR l = 0) :
    Calls Tryd.prog 86 #[.slice va m c, .int .i64 64] w fun e w' => (∃ s, e = .returned (.tuple #[s, .int .i64 0]) ∧ BoOwn (bitsR l) s w.heap.size w') ∧ Below w.heap.size w w' := by
  have h := readListB_any l m va c w hl0 hlow0 hm hmn
  rw [hE] at h
  exact h
theorem infoAtt : (Tryd.prog.info? 76).map (fun i => (i.zero, i.size)) = some (some (.agg (idxC (.slice none 0 0) (fun _ => 0) (fun _ => 0)).toArray), 197) := by kernel_rfl
theorem sz_bs' : (Tryd.prog.info? 74).map (·.size) = some 1 := by kernel_rfl
set_option maxHeartbeats 16000000 in
theorem readAtt_ok (l : List Int) (L k : Nat) (va : Option Addr) (c : Nat) (w : World) (hs0 : SlB va c l w) (hL0 : l.length = L) (hLk0 : L = 228 + k) (hfew : L < 4294967296) (hoff0 : offL l 0 = 228) (hE0 : errR (l.drop 228) = 0) :
    Calls Tryd.prog 37 #[.slice va L c] w fun e w' => (∃ s, e = .returned (.tuple #[.agg (idxC s (rdData ((l.drop 4).take 128)) (fun j => l.getD (132 + j) 0)).toArray, .int .i64 0]) ∧ BoOwn (bitsR (l.drop 228)) s w.heap.size w') ∧ Below w.heap.size w w' := by
  have hs := Lib.hid hs0
  have hL := Lib.hid hL0
  have hLk := Lib.hid hLk0
  have hE := Lib.hid hE0
  clear hE0
  have ho0 := Lib.hid (show ([0].map (offL l) ++ [l.length]).getD 0 0 = 228 from hoff0)
  have ho1 := Lib.hid (show ([0].map (offL l) ++ [l.length]).getD (0 + 1) 0 = L from hL0)
  have ho2 := Lib.hid (show 0 + 1 < ([0].map (offL l) ++ [l.length]).length from Nat.lt_succ_self 1)
  have ho3 := Lib.hid (show ([0].map (offL l) ++ [l.length]).length ≤ 1000 from (by decide : 2 ≤ 1000))
  have hL1 : 228 ≤ L := by omega
  have hL2 : L < 4294967296 := by omega
  have hoff := Lib.hid hoff0
  have hlow : ∀ ad, va = some ad → ad.block < w.heap.size := by
    intro ad e
    obtain ⟨b, o, e2, hc⟩ := hs0.row.cell 0 (by omega)
    rw [e2] at e
    cases e
    exact block_lt_of_cell hc
  have hlowH := Lib.hid hlow
  clear hs0 hL0 hoff0 hlow hLk0
  go_enter Tryd.func37, Tryd.ntmps37
  go_wp2_with (first
    | ((with_reducible refine at_alloc 76 ?_); refine wpList_plain rfl fun K hK => wp_alloc_row 76 rfl 2 rfl _ 197 infoAtt (hK _ _ ?_); clear hK K)
    | ((with_reducible refine at_alloc 76 ?_); refine wpList_plain rfl fun K hK => wp_alloc_row 76 rfl 4 rfl _ 197 infoAtt (hK _ _ ?_); clear hK K)
    | ((with_reducible refine (RdO.open L 228 (228 : Int) rfl hL.out 1 (1 : Int) rfl (by decide) (err := 0) (if_pos (by omega)) (by decide) hs.out.row hs.out.cap hs.out.nil hlowH.out (by rw [hL.out]; omega)).mono ?_)
       rintro e W ⟨rfl, hS1, hW1⟩
       have hS := Lib.hid hS1
       have hW := Lib.hid hW1
       clear hS1 hW1)
    | ((with_reducible refine at_bslice 82 ?_); go_loud (refine wpList_plain rfl fun K hK => wp_ran _ (run_bslice_int _ _ (by rfl) (0 : Int) (by rfl)) (hK _ _ ?_)); clear hK K
       have hS1 := hS.out.after ((Below.refl _ W).alloc (Nat.le_refl _) (.cells #[.int .i64 (0 : Int)] 3))
       have hW1 := hW.out.later (((Below.refl _ W).alloc hW.out.size (.cells #[.int .i64 (0 : Int)] 3)))
       have hz := hS.out.size)
    | ((with_reducible refine (RdO.offsG hS1 hW1 228 W.heap.size 1 1 (228 : Int) rfl [0] (by rw [hL.out]; omega) rfl (by decide) (by rw [hL.out]; omega) (one_ps W) (by rw [World.size_alloc]; omega) (by omega) (one_in (by rw [hL.out]; omega)) (off_one hoff.out (by rw [hL.out]; omega))).mono ?_)
       clear hS1 hW1 hz
       rintro e W2 ⟨rfl, hS2⟩
       clear hS hW
       have hS := Lib.hid hS2
       clear hS2)
    | ((with_reducible refine (RdO.later hS.out ho2.out ho3.out 228 L ho0.out ho1.out (by omega) (by rw [hL.out]; exact Nat.le_refl _) (by rw [hL.out]; omega) (by decide) k (by have := hLk.out; omega)).mono ?_)
       rintro e W ⟨vb, cb, rfl, hb1, hbl1, hS1⟩
       clear hS
       have hS := Lib.hid hS1
       rw [show (l.drop 228).take k = l.drop 228 from List.take_of_length_le (by rw [List.length_drop, hL.out]; have := hLk.out; omega)] at hb1 hbl1
       have hrl := Lib.hid (readListB_ok _ k vb cb W hb1.row hb1.low hbl1 (by have := hLk.out; omega) hE.out)
       clear hS1 hb1 hbl1)
    | ((with_reducible refine at_load 36 ?_); go_loud (refine wpList_value (by rfl) _ (run_load_cell _ 36 _ (by rfl) ⟨w.heap.size + 1 + 1, 4, none⟩ rfl (.int .i64 0) hS.out.errno _ Tryd.underlying36 rfl) ?_))
    | ((with_reducible refine hrl.out.mono ?_)
       rintro e W2 ⟨⟨s, rfl, hM0⟩, hB1⟩
       have hS1 := hS.out.after hB1
       have hM1 := Lib.hid (hM0.weak (show w.heap.size + 3 ≤ W.heap.size from hS.out.size))
       clear hS hB1 hM0 hrl
       have hS := Lib.hid hS1
       clear hS1)
    | ((with_reducible refine at_store 74 ?_); refine at_staddr 74 (w.heap.size + 1) 0 rfl ?_
       obtain ⟨vn, cn, es, _⟩ := hM1.out
       subst es
       go_loud (refine wpList_plain rfl fun K hK => wp_store1 74 _ _ rfl (w.heap.size + 1) 0 rfl _ rfl rfl sz_bs' _ _ hS.out.hX (by simp [idxC]) (fun W3 hC2 hx2 => hK _ _ ?_)); clear hK K
       have hS1 := hS.out.setX hx2 (show W3.heap[w.heap.size + 1]? = some (.cells (idxC (.slice vn (bitsR (l.drop 228)).length cn) (fun _ => 0) (fun _ => 0)).toArray 76 (0, 0)) from hC2)
       have hM := Lib.hid (hM1.out.apart hx2 (by omega))
       clear hS hx2 hC2
       have hS := Lib.hid hS1
       clear hS1)
    | ((with_reducible refine at_load 36 ?_); go_loud (refine wpList_value (by rfl) _ (run_load_cell _ 36 _ (by rfl) ⟨w.heap.size + 1 + 1, 4, none⟩ rfl (.int .i64 0) hS.out.errno _ Tryd.underlying36 rfl) ?_))
    | ((with_reducible refine (RdO.bytesC hS.out 128 (128 : Int) rfl (by decide) (by decide) (fun _ => by rw [hL.out]; omega)).mono ?_)
       rintro e W5 ⟨vv, rfl, b, o', c', q, rfl, hcc, hbl, hrw1, hql1, hq1, hS1, hA5⟩
       rw [if_pos rfl] at hS1
       have hM1 := hM.out.apart hA5 (by omega)
       have hrw := Lib.hid hrw1
       have hql := Lib.hid hql1
       have hq := Lib.hid (hq1 rfl)
       clear hrw1 hql1 hq1 hA5 hS hM
       have hS := Lib.hid hS1
       have hM := Lib.hid hM1
       clear hS1 hM1)
    | ((with_reducible refine (readData_ok q (some ⟨b, o', none⟩) c' _ hrw.out (by rw [hql.out]; exact hcc) (fun e => by cases e) (fun ad e => by cases e; exact hbl) hql.out).mono ?_)
       rintro e W6 ⟨rfl, hb1⟩
       have hS1 := hS.out.after hb1
       have hM1 := hM.out.later hb1
       clear hb1 hcc hbl hrw hS hM
       have hS := Lib.hid hS1
       have hM := Lib.hid hM1
       clear hS1 hM1)
    | ((with_reducible refine at_alloc 59 ?_); go_loud (refine wpList_alloc_store rfl rfl 59 _ _ rfl rfl rfl (fcells 100 kdData (rdData q)).toArray rfl rfl (zeroOf Tryd.prog 59) (row_zero rowData).1 (row_zero rowData).2 (fcells_one _ _ _) ?_))
    | ((with_reducible refine at_load 59 ?_); go_loud (refine wpList_value (by rfl) _ (run_load_box _ 59 _ (by rfl) W6.heap.size (by rfl) _ _ (0, 0) _ (heap_new W6 (fcells 100 kdData (rdData q)).toArray 59 W6.heap.size rfl) Tryd.underlying59 rfl (by rw [row_size rowData]; simp [fcells])) ?_))
    | ((with_reducible refine at_store 59 ?_); refine at_staddr 59 (w.heap.size + 1) 1 rfl ?_; refine wpList_rowsX rfl 59 _ _ rfl 1 rfl (fcells 100 kdData (rdData q)) rfl (by rw [row_size rowData, fcells_length]) fcells_mem (hS.out.after ((Below.refl _ _).alloc (Nat.le_refl _) _)) [.slice vn (bitsR (l.drop 228)).length cn] (fcells 100 kdData fun _ => 0) (fcells 96 (fun _ => .u8) fun _ => 0) rfl rfl (by rw [fcells_length, fcells_length]) (fun W7 hS1 hA7 => ?_)
       have hM1 := (hM.out.later ((Below.refl _ W6).alloc (Nat.le_refl _) (.cells (fcells 100 kdData (rdData q)).toArray 59))).apart hA7 (by omega)
       clear hS hM hA7
       have hS := Lib.hid hS1
       have hM := Lib.hid hM1
       clear hS1 hM1)
    | ((with_reducible refine (RdO.fail hS.out 0 0 (0 : Int) rfl rfl).mono ?_)
       rintro e W8 ⟨rfl, hS1, hA8⟩
       have hM1 := hM.out.apart hA8 (by omega)
       clear hS hM hA8
       have hS := Lib.hid hS1
       have hM := Lib.hid hM1
       clear hS1 hM1))
  rename_i K hK
  refine wp_region_held (S := fun _ => True) (by kernel_rfl) ?_
  have hTT : True := trivial
  refine takeL (i := 0) (v := (.pointer (some ⟨w.heap.size + 1, 101, none⟩))) rfl (by kernel_rfl) (by kernel_rfl) (by kernel_rfl) (fun _ _ _ h => h) rfl (by assumption) (fun w' hS' => by go_simp) ?_
  simp only [Act.put, List.setIfInBounds_toArray, List.set_cons_zero, List.set_cons_succ]
  refine takeL (i := 1) (v := (.slice (some ⟨w.heap.size + 1, 101, none⟩) 96 96)) rfl (by kernel_rfl) (by kernel_rfl) (by kernel_rfl) (fun _ _ _ h => h) rfl (by assumption) (fun w' hS' => by go_simp) ?_
  simp only [Act.put, List.setIfInBounds_toArray, List.set_cons_zero, List.set_cons_succ]
  refine takeL (i := 2) (v := (.pointer (some ⟨w.heap.size + 1 + 1, 0, none⟩))) rfl (by kernel_rfl) (by kernel_rfl) (by kernel_rfl) (fun _ _ _ h => h) rfl (by assumption) (fun w' hS' => by go_simp) ?_
  simp only [Act.put, List.setIfInBounds_toArray, List.set_cons_zero, List.set_cons_succ]
  refine oneL (i := 3) rfl (by kernel_rfl) rfl (wp_callE 50 #[.pointer (some ⟨w.heap.size + 1 + 1, 0, none⟩), .int .i64 96] (by go_simp) _ ((hS.out.drew _).bytesC 96 (96 : Int) rfl (by decide) (by decide) (fun _ => by rw [hL.out]; omega)) ?_)
  rintro v W9 ⟨b2, o2, c2, q2, rfl, hcc2, hbl2, hrw2, hql2, hq2, hS1, hA9⟩
  have hM1 := hM.out.apart ((Apart.begin _ _).trans hA9) (by omega)
  refine ⟨trivial, ?_⟩
  simp only [Act.put, List.setIfInBounds_toArray, List.set_cons_zero, List.set_cons_succ]
  refine oneL (i := 4) rfl (by kernel_rfl) rfl (wp_copy_X _ _ rfl 101 96 b2 o2 c2 96 rfl rfl hS1 (.slice vn (bitsR (l.drop 228)).length cn :: fcells 100 kdData (rdData q)) [] (fun _ => 0) (by simp) (by simp [fcells_length]) q2 hrw2 hql2 (fun W10 hS2 hA10 => ⟨trivial, ?_⟩))
  have hM2 := hM1.apart hA10 (by omega)
  refine wpAnyH_done (by kernel_rfl) ?_ _
  refine hK _ _ ?_
  have e1 := hq.out
  have e2 := hq2 rfl
  have hCe : (.slice vn (bitsR (l.drop 228)).length cn :: fcells 100 kdData (rdData q) ++ (fcells 96 (fun _ => .u8) (fun i => q2.getD i 0) ++ []) : List Value) = idxC (.slice vn (bitsR (l.drop 228)).length cn) (rdData ((l.drop 4).take 128)) (fun i => l.getD (132 + i) 0) := by
    rw [← idxC_sig (f := fun i => q2.getD i 0) (fun i hi => by rw [e2]; exact drop_take_get _ _ _ _ hi), e1]
    simp [idxC]
  rw [hCe, if_pos rfl] at hS2
  clear hK K hS hTT hrw2 hcc2 hbl2 hq2 hql2 hS1 hM hM1 hA9 hA10 e1 e2 hCe hq hql
  have hS := Lib.hid hS2
  have hM := Lib.hid hM2
  clear hS2 hM2
  generalize goInt 96 = gi
  simp only [Act.put, List.setIfInBounds_toArray, List.set_cons_zero, List.set_cons_succ]
  go_wp2_with (first
    | ((with_reducible refine at_load 36 ?_); go_loud (refine wpList_value (by rfl) _ (run_load_cell _ 36 _ (by rfl) ⟨w.heap.size + 1 + 1, 4, none⟩ rfl (.int .i64 0) hS.out.errno _ Tryd.underlying36 rfl) ?_))
    | ((with_reducible refine at_load 76 ?_); go_loud (refine wpList_value (by rfl) _ (run_load_box _ 76 _ (by rfl) (w.heap.size + 1) (by rfl) _ _ (0, 0) _ hS.out.hX Tryd.underlying76 rfl (by rw [size_att, List.size_toArray, idxC_length])) ?_))
    | ((with_reducible refine at_store 76 ?_); refine at_staddr 76 w.heap.size 0 rfl ?_; go_loud (refine wpList_plain rfl fun K hK => wp_store_row 76 _ _ rfl w.heap.size rfl _ rfl (idxC_one _ _ _ _ _) (by rw [size_att, List.size_toArray, idxC_length]) _ 76 hS.out.hR (by rw [List.size_toArray, idxC_length, List.size_toArray, idxC_length]) (fun W11 hC11 hA11 => hK _ _ ?_)); clear hK K))
  have hM3 := (hM.out.apart hA11 (by omega)).weak (show w.heap.size ≤ w.heap.size + 3 by omega)
  exact ret_mid_tmp rfl w.heap.size 0 (idxC (.slice vn (bitsR (l.drop 228)).length cn) (rdData ((l.drop 4).take 128)) (fun i => l.getD (132 + i) 0)) _ rfl (range_whole hC11) Tryd.underlying76 rfl (by rw [size_att, idxC_length]) rfl ⟨⟨_, rfl, hM3⟩, hA11.below hS.out.hB (Nat.le_refl _) (by have := hS.out.size; omega)⟩

end Go.Proofs.YtihelknkcomjpaaDoor
namespace Go.Proofs.YtihelknkcomjpaaDoor
open Go.RowKit BigFrame
set_option maxRecDepth 100000
theorem readListB_bad (l : List Int) (m : Nat) (va : Option Addr) (c : Nat) (w : World) (hl0 : Row w va .u8 l) (hlow0 : ∀ b o, va = some ⟨b, o, none⟩ → b < w.heap.size) (hm : l.length = m) (hmn : m < 4294967296) {er : Nat} (hE : errR l = er) (hne : ¬ (er = 0)) :
    Calls Tryd.prog 86 #[.slice va m c, .int .i64 64] w fun e w' => (∃ vn cn, e = .returned (.tuple #[.slice vn 0 cn, .int .i64 (er : Int)])) ∧ Below w.heap.size w w' := by
  have h := readListB_any l m va c w hl0 hlow0 hm hmn
  rw [hE] at h
  refine h.mono fun e w' ⟨⟨s, h1, h2⟩, h3⟩ => ⟨?_, h3⟩
  have hb : bitsR l = [] := by unfold bitsR; rw [if_neg (by rw [hE]; exact hne)]
  rw [hb] at h2
  obtain ⟨vn, cn, e2, _⟩ := h2
  exact ⟨vn, cn, by rw [h1, e2]; rfl⟩
theorem run_build_att0 {ρ : Operand → Value} {o : Oper} (w : World) (ho : o.op = .build 76 #[]) : (execOp ρ o).run Tryd.prog w = .ok (.value (.agg (idxC (.slice none 0 0) (fun _ => 0) (fun _ => 0)).toArray)) w := by
  have h : (Instr.build 76 #[]).run Tryd.prog w = .ok (.agg (idxC (.slice none 0 0) (fun _ => 0) (fun _ => 0)).toArray) w := by kernel_rfl
  exact run_build 76 #[] ho _ h
set_option maxHeartbeats 16000000 in
theorem readAtt_short (l : List Int) (L : Nat) (va : Option Addr) (c : Nat) (w : World) (hs0 : SlB va c l w) (hL0 : l.length = L) (hlow : ∀ ad, va = some ad → ad.block < w.heap.size) (hb : L < 228) :
    Calls Tryd.prog 37 #[.slice va L c] w fun e w' => e = .returned (.tuple #[.agg (idxC (.slice none 0 0) (fun _ => 0) (fun _ => 0)).toArray, .int .i64 ((4 : Nat) : Int)]) ∧ Below w.heap.size w w' := by
  have hs := Lib.hid hs0
  have hL := Lib.hid hL0
  have hlowH := Lib.hid hlow
  have hfew : l.length ≤ 70368744177664 := by omega
  clear hs0 hL0 hlow
  go_enter Tryd.func37, Tryd.ntmps37
  have he0 : ¬ (4 = 0) := by decide
  have hne : (((4 : Nat) : Int) == 0) = false := rfl
  have hne2 : (((4 : Nat) : Int) != 0) = true := rfl
  go_wp2_with (first
    | ((with_reducible refine at_alloc 76 ?_); refine wpList_plain rfl fun K hK => wp_alloc_row 76 rfl 2 rfl _ 197 infoAtt (hK _ _ ?_); clear hK K)
    | ((with_reducible refine at_alloc 76 ?_); refine wpList_plain rfl fun K hK => wp_alloc_row 76 rfl 4 rfl _ 197 infoAtt (hK _ _ ?_); clear hK K)
    | ((with_reducible refine (RdO.open L 228 (228 : Int) rfl hL.out 1 (1 : Int) rfl (by decide) (err := 4) (if_neg (by omega)) (by decide) hs.out.row hs.out.cap hs.out.nil hlowH.out hfew).mono ?_)
       rintro e W ⟨rfl, hS1, hW1⟩
       have hS := Lib.hid hS1
       clear hS1 hW1)
    | ((with_reducible refine at_bslice 82 ?_); go_loud (refine wpList_plain rfl fun K hK => wp_ran _ (run_bslice_int _ _ (by rfl) (0 : Int) (by rfl)) (hK _ _ ?_)); clear hK K
       have hS1 := hS.out.after ((Below.refl _ W).alloc (Nat.le_refl _) (.cells #[.int .i64 (0 : Int)] 3))
       clear hS
       have hS := Lib.hid hS1
       clear hS1)
    | ((with_reducible refine (RdO.offs0 hS.out (by decide) (228 : Int) _ 1 1).mono ?_)
       rintro e W2 ⟨rfl, hS1⟩
       clear hS
       have hS := Lib.hid hS1
       clear hS1)
    | ((with_reducible refine (RdO.later0 hS.out (by decide)).mono ?_)
       rintro e W3 ⟨rfl, hS1⟩
       clear hS
       have hS := Lib.hid hS1
       clear hS1)
    | ((with_reducible refine at_load 36 ?_); go_loud (refine wpList_value (by rfl) _ (run_load_cell _ 36 _ (by rfl) ⟨w.heap.size + 1 + 1, 4, none⟩ rfl (.int .i64 ((4 : Nat) : Int)) hS.out.errno _ Tryd.underlying36 rfl) ?_)))
  go_wp2_with (
    ((with_reducible refine at_load 36 ?_); go_loud (refine wpList_value (by rfl) _ (run_load_cell _ 36 _ (by rfl) ⟨w.heap.size + 1 + 1, 4, none⟩ rfl (.int .i64 ((4:Nat):Int)) hS.out.errno _ Tryd.underlying36 rfl) ?_)))
  rename_i K hK
  refine wp_region_held (S := fun _ => True) (by kernel_rfl) ?_
  have hTT : True := trivial
  refine takeL (i := 0) (v := (.pointer (some ⟨w.heap.size + 1, 101, none⟩))) rfl (by kernel_rfl) (by kernel_rfl) (by kernel_rfl) (fun _ _ _ h => h) rfl (by assumption) (fun w' hS' => by go_simp) ?_
  simp only [Act.put, List.setIfInBounds_toArray, List.set_cons_zero, List.set_cons_succ]
  refine takeL (i := 1) (v := (.slice (some ⟨w.heap.size + 1, 101, none⟩) 96 96)) rfl (by kernel_rfl) (by kernel_rfl) (by kernel_rfl) (fun _ _ _ h => h) rfl (by assumption) (fun w' hS' => by go_simp) ?_
  simp only [Act.put, List.setIfInBounds_toArray, List.set_cons_zero, List.set_cons_succ]
  refine takeL (i := 2) (v := (.pointer (some ⟨w.heap.size + 1 + 1, 0, none⟩))) rfl (by kernel_rfl) (by kernel_rfl) (by kernel_rfl) (fun _ _ _ h => h) rfl (by assumption) (fun w' hS' => by go_simp) ?_
  simp only [Act.put, List.setIfInBounds_toArray, List.set_cons_zero, List.set_cons_succ]
  refine oneL (i := 3) rfl (by kernel_rfl) rfl (wp_callE 50 #[.pointer (some ⟨w.heap.size + 1 + 1, 0, none⟩), .int .i64 96] (by go_simp) _ ((hS.out.drew _).bytesC 96 (96 : Int) rfl (by decide) (by decide) (fun h => absurd h (by omega))) ?_)
  rintro v W9 ⟨b2, o2, c2, q2, rfl, hcc2, hbl2, hrw2, hql2, hq2, hS1, hA9⟩
  refine ⟨trivial, ?_⟩
  simp only [Act.put, List.setIfInBounds_toArray, List.set_cons_zero, List.set_cons_succ]
  refine oneL (i := 4) rfl (by kernel_rfl) rfl (wp_copy_X _ _ rfl 101 96 b2 o2 c2 96 rfl rfl hS1 (.slice none 0 0 :: fcells 100 kdData (fun _ => 0)) [] (fun _ => 0) (by simp [idxC]) (by simp [fcells_length]) q2 hrw2 hql2 (fun W10 hS2 hA10 => ⟨trivial, ?_⟩))
  refine wpAnyH_done (by kernel_rfl) ?_ _
  refine hK _ _ ?_
  rw [if_neg he0] at hS2
  clear hK K hS hTT hrw2 hcc2 hbl2 hq2 hql2 hS1 hA9 hA10
  have hS := Lib.hid hS2
  clear hS2
  generalize goInt 96 = gi
  simp only [Act.put, List.setIfInBounds_toArray, List.set_cons_zero, List.set_cons_succ]
  go_wp2_with (
    ((with_reducible refine at_load 36 ?_); go_loud (refine wpList_value (by rfl) _ (run_load_cell _ 36 _ (by rfl) ⟨w.heap.size + 1 + 1, 4, none⟩ rfl (.int .i64 ((4:Nat):Int)) hS.out.errno _ Tryd.underlying36 rfl) ?_)))
  rename_i K hK
  have hz10 := hS.out.size
  refine wp_region_held (S := fun w' => w'.cell? ⟨w.heap.size + 1 + 1, 4, none⟩ = some (.int .i64 ((4:Nat):Int))) (by kernel_rfl) ?_
  have hSS : ({ W10 with drawn := W10.drawn + 1 } : World).cell? ⟨w.heap.size + 1 + 1, 4, none⟩ = some (.int .i64 ((4:Nat):Int)) := hS.out.errno
  refine takeL (i := 0) (v := (.agg (idxC (.slice none 0 0) (fun _ => 0) (fun _ => 0)).toArray)) rfl (by kernel_rfl) (by kernel_rfl) (by kernel_rfl) (fun _ _ _ h => h) rfl (by assumption) (fun w' _ => run_build_att0 w' rfl) ?_
  simp only [Act.put, List.setIfInBounds_toArray, List.set_cons_zero, List.set_cons_succ]
  refine takeL (i := 1) (v := (.pointer (some ⟨w.heap.size + 1 + 1, 0, none⟩))) rfl (by kernel_rfl) (by kernel_rfl) (by kernel_rfl) (fun _ _ _ h => h) rfl (by assumption) (fun w' hS' => by go_simp) ?_
  simp only [Act.put, List.setIfInBounds_toArray, List.set_cons_zero, List.set_cons_succ]
  refine takeL (i := 2) (v := (.pointer (some ⟨w.heap.size + 1 + 1, 0, none⟩))) rfl (by kernel_rfl) (by kernel_rfl) (by kernel_rfl) (fun _ _ _ h => h) rfl (by assumption) (fun w' hS' => by go_simp) ?_
  simp only [Act.put, List.setIfInBounds_toArray, List.set_cons_zero, List.set_cons_succ]
  refine takeL (i := 3) (v := (.pointer (some ⟨w.heap.size + 1 + 1, 4, none⟩))) rfl (by kernel_rfl) (by kernel_rfl) (by kernel_rfl) (fun _ _ _ h => h) rfl (by assumption) (fun w' hS' => by go_simp) ?_
  simp only [Act.put, List.setIfInBounds_toArray, List.set_cons_zero, List.set_cons_succ]
  refine takeL (i := 4) (v := (.int .i64 ((4:Nat):Int))) rfl (by kernel_rfl) (by kernel_rfl) (by kernel_rfl) (fun _ _ _ h => h) rfl (by assumption) (fun w' hS' => run_load_cell _ 36 _ (by rfl) ⟨w.heap.size + 1 + 1, 4, none⟩ (by rfl) _ hS' _ Tryd.underlying36 rfl) ?_
  simp only [Act.put, List.setIfInBounds_toArray, List.set_cons_zero, List.set_cons_succ]
  refine oneL (i := 5) rfl (by kernel_rfl) rfl (wp_store_row 76 _ _ rfl w.heap.size rfl _ rfl (idxC_one _ _ _ _ _) (by rw [size_att, List.size_toArray, idxC_length]) _ 76 (hS.out.drew _).hR (by simp [idxC, fcells_length]) (fun W11 hC11 hA11 => ⟨(hA11.cell (p := ⟨w.heap.size + 1 + 1, 4, none⟩) (by show w.heap.size + 1 + 1 < W10.heap.size; omega) (show w.heap.size + 1 + 1 ≠ w.heap.size by omega)).trans hS.out.errno, ?_⟩))
  have hSS2 : W11.cell? ⟨w.heap.size + 1 + 1, 4, none⟩ = some (.int .i64 ((4:Nat):Int)) := (hA11.cell (p := ⟨w.heap.size + 1 + 1, 4, none⟩) (by show w.heap.size + 1 + 1 < W10.heap.size; omega) (show w.heap.size + 1 + 1 ≠ w.heap.size by omega)).trans hS.out.errno
  clear hSS
  have hSS := hSS2
  clear hSS2
  simp only [Act.put, List.setIfInBounds_toArray, List.set_cons_zero, List.set_cons_succ]
  refine takeL (i := 6) (v := (.int .i64 ((4:Nat):Int))) rfl (by kernel_rfl) (by kernel_rfl) (by kernel_rfl) (fun _ _ _ h => h) rfl (by assumption) (fun w' hS' => by go_simp) ?_
  simp only [Act.put, List.setIfInBounds_toArray, List.set_cons_zero, List.set_cons_succ]
  refine wpAnyH_done (by kernel_rfl) ?_ _
  simp only [Exit.then]
  refine hK _ _ ?_
  have hBW : Below w.heap.size w W11 := hA11.below (hS.out.drew _).hB (Nat.le_refl _) (by show w.heap.size ≤ W10.heap.size; omega)
  clear hSS hK K
  go_wp2
  exact ret_mid_tmp rfl w.heap.size 0 (idxC (.slice none 0 0) (fun _ => 0) (fun _ => 0)) _ rfl (range_whole hC11) Tryd.underlying76 rfl (by rw [size_att, idxC_length]) rfl ⟨rfl, hBW⟩
set_option maxHeartbeats 16000000 in
theorem readAtt_form (l : List Int) (L : Nat) (va : Option Addr) (c : Nat) (w : World) (hs0 : SlB va c l w) (hL0 : l.length = L) (hlow : ∀ ad, va = some ad → ad.block < w.heap.size) (hb : 228 ≤ L) (hfew : L ≤ 70368744177664) (hoff0 : offL l 0 ≠ 228) :
    Calls Tryd.prog 37 #[.slice va L c] w fun e w' => e = .returned (.tuple #[.agg (idxC (.slice none 0 0) (fun _ => 0) (fun _ => 0)).toArray, .int .i64 ((5 : Nat) : Int)]) ∧ Below w.heap.size w w' := by
  have hoff := Lib.hid hoff0
  clear hoff0
  have hs := Lib.hid hs0
  have hL := Lib.hid hL0
  have hlowH := Lib.hid hlow
  have hfew : l.length ≤ 70368744177664 := by omega
  clear hs0 hL0 hlow
  go_enter Tryd.func37, Tryd.ntmps37
  have he0 : ¬ (5 = 0) := by decide
  have hne : (((5 : Nat) : Int) == 0) = false := rfl
  have hne2 : (((5 : Nat) : Int) != 0) = true := rfl
  go_wp2_with (first
    | ((with_reducible refine at_alloc 76 ?_); refine wpList_plain rfl fun K hK => wp_alloc_row 76 rfl 2 rfl _ 197 infoAtt (hK _ _ ?_); clear hK K)
    | ((with_reducible refine at_alloc 76 ?_); refine wpList_plain rfl fun K hK => wp_alloc_row 76 rfl 4 rfl _ 197 infoAtt (hK _ _ ?_); clear hK K)
    | ((with_reducible refine (RdO.open L 228 (228 : Int) rfl hL.out 1 (1 : Int) rfl (by decide) (err := 0) (if_pos (by omega)) (by decide) hs.out.row hs.out.cap hs.out.nil hlowH.out (by rw [hL.out]; omega)).mono ?_)
       rintro e W ⟨rfl, hS1, hW1⟩
       have hS := Lib.hid hS1
       have hW := Lib.hid hW1
       clear hS1 hW1)
    | ((with_reducible refine at_bslice 82 ?_); go_loud (refine wpList_plain rfl fun K hK => wp_ran _ (run_bslice_int _ _ (by rfl) (0 : Int) (by rfl)) (hK _ _ ?_)); clear hK K
       have hS1 := hS.out.after ((Below.refl _ W).alloc (Nat.le_refl _) (.cells #[.int .i64 (0 : Int)] 3))
       have hW1 := hW.out.later (((Below.refl _ W).alloc hW.out.size (.cells #[.int .i64 (0 : Int)] 3)))
       have hz := hS.out.size)
    | ((with_reducible refine (RdO.offsB hS1 hW1 228 W.heap.size 1 1 (228 : Int) rfl [0] (by rw [hL.out]; omega) rfl (by decide) (by rw [hL.out]; omega) (one_ps W) (by rw [World.size_alloc]; omega) (by omega) (one_in (by rw [hL.out]; omega)) (off_one_bad hoff.out)).mono ?_)
       clear hS1 hW1 hz
       rintro e W2 ⟨rfl, offs, hS2⟩
       clear hS hW
       have hS := Lib.hid hS2
       clear hS2)
    | ((with_reducible refine (RdO.later0 hS.out (by decide)).mono ?_)
       rintro e W3 ⟨rfl, hS1⟩
       clear hS
       have hS := Lib.hid hS1
       clear hS1)
    | ((with_reducible refine at_load 36 ?_); go_loud (refine wpList_value (by rfl) _ (run_load_cell _ 36 _ (by rfl) ⟨w.heap.size + 1 + 1, 4, none⟩ rfl (.int .i64 ((5 : Nat) : Int)) hS.out.errno _ Tryd.underlying36 rfl) ?_)))
  go_wp2_with (
    ((with_reducible refine at_load 36 ?_); go_loud (refine wpList_value (by rfl) _ (run_load_cell _ 36 _ (by rfl) ⟨w.heap.size + 1 + 1, 4, none⟩ rfl (.int .i64 ((5:Nat):Int)) hS.out.errno _ Tryd.underlying36 rfl) ?_)))
  rename_i K hK
  refine wp_region_held (S := fun _ => True) (by kernel_rfl) ?_
  have hTT : True := trivial
  refine takeL (i := 0) (v := (.pointer (some ⟨w.heap.size + 1, 101, none⟩))) rfl (by kernel_rfl) (by kernel_rfl) (by kernel_rfl) (fun _ _ _ h => h) rfl (by assumption) (fun w' hS' => by go_simp) ?_
  simp only [Act.put, List.setIfInBounds_toArray, List.set_cons_zero, List.set_cons_succ]
  refine takeL (i := 1) (v := (.slice (some ⟨w.heap.size + 1, 101, none⟩) 96 96)) rfl (by kernel_rfl) (by kernel_rfl) (by kernel_rfl) (fun _ _ _ h => h) rfl (by assumption) (fun w' hS' => by go_simp) ?_
  simp only [Act.put, List.setIfInBounds_toArray, List.set_cons_zero, List.set_cons_succ]
  refine takeL (i := 2) (v := (.pointer (some ⟨w.heap.size + 1 + 1, 0, none⟩))) rfl (by kernel_rfl) (by kernel_rfl) (by kernel_rfl) (fun _ _ _ h => h) rfl (by assumption) (fun w' hS' => by go_simp) ?_
  simp only [Act.put, List.setIfInBounds_toArray, List.set_cons_zero, List.set_cons_succ]
  refine oneL (i := 3) rfl (by kernel_rfl) rfl (wp_callE 50 #[.pointer (some ⟨w.heap.size + 1 + 1, 0, none⟩), .int .i64 96] (by go_simp) _ ((hS.out.drew _).bytesC 96 (96 : Int) rfl (by decide) (by decide) (fun h => absurd h (by omega))) ?_)
  rintro v W9 ⟨b2, o2, c2, q2, rfl, hcc2, hbl2, hrw2, hql2, hq2, hS1, hA9⟩
  refine ⟨trivial, ?_⟩
  simp only [Act.put, List.setIfInBounds_toArray, List.set_cons_zero, List.set_cons_succ]
  refine oneL (i := 4) rfl (by kernel_rfl) rfl (wp_copy_X _ _ rfl 101 96 b2 o2 c2 96 rfl rfl hS1 (.slice none 0 0 :: fcells 100 kdData (fun _ => 0)) [] (fun _ => 0) (by simp [idxC]) (by simp [fcells_length]) q2 hrw2 hql2 (fun W10 hS2 hA10 => ⟨trivial, ?_⟩))
  refine wpAnyH_done (by kernel_rfl) ?_ _
  refine hK _ _ ?_
  rw [if_neg he0] at hS2
  clear hK K hS hTT hrw2 hcc2 hbl2 hq2 hql2 hS1 hA9 hA10
  have hS := Lib.hid hS2
  clear hS2
  generalize goInt 96 = gi
  simp only [Act.put, List.setIfInBounds_toArray, List.set_cons_zero, List.set_cons_succ]
  go_wp2_with (
    ((with_reducible refine at_load 36 ?_); go_loud (refine wpList_value (by rfl) _ (run_load_cell _ 36 _ (by rfl) ⟨w.heap.size + 1 + 1, 4, none⟩ rfl (.int .i64 ((5:Nat):Int)) hS.out.errno _ Tryd.underlying36 rfl) ?_)))
  rename_i K hK
  have hz10 := hS.out.size
  refine wp_region_held (S := fun w' => w'.cell? ⟨w.heap.size + 1 + 1, 4, none⟩ = some (.int .i64 ((5:Nat):Int))) (by kernel_rfl) ?_
  have hSS : ({ W10 with drawn := W10.drawn + 1 } : World).cell? ⟨w.heap.size + 1 + 1, 4, none⟩ = some (.int .i64 ((5:Nat):Int)) := hS.out.errno
  refine takeL (i := 0) (v := (.agg (idxC (.slice none 0 0) (fun _ => 0) (fun _ => 0)).toArray)) rfl (by kernel_rfl) (by kernel_rfl) (by kernel_rfl) (fun _ _ _ h => h) rfl (by assumption) (fun w' _ => run_build_att0 w' rfl) ?_
  simp only [Act.put, List.setIfInBounds_toArray, List.set_cons_zero, List.set_cons_succ]
  refine takeL (i := 1) (v := (.pointer (some ⟨w.heap.size + 1 + 1, 0, none⟩))) rfl (by kernel_rfl) (by kernel_rfl) (by kernel_rfl) (fun _ _ _ h => h) rfl (by assumption) (fun w' hS' => by go_simp) ?_
  simp only [Act.put, List.setIfInBounds_toArray, List.set_cons_zero, List.set_cons_succ]
  refine takeL (i := 2) (v := (.pointer (some ⟨w.heap.size + 1 + 1, 0, none⟩))) rfl (by kernel_rfl) (by kernel_rfl) (by kernel_rfl) (fun _ _ _ h => h) rfl (by assumption) (fun w' hS' => by go_simp) ?_
  simp only [Act.put, List.setIfInBounds_toArray, List.set_cons_zero, List.set_cons_succ]
  refine takeL (i := 3) (v := (.pointer (some ⟨w.heap.size + 1 + 1, 4, none⟩))) rfl (by kernel_rfl) (by kernel_rfl) (by kernel_rfl) (fun _ _ _ h => h) rfl (by assumption) (fun w' hS' => by go_simp) ?_
  simp only [Act.put, List.setIfInBounds_toArray, List.set_cons_zero, List.set_cons_succ]
  refine takeL (i := 4) (v := (.int .i64 ((5:Nat):Int))) rfl (by kernel_rfl) (by kernel_rfl) (by kernel_rfl) (fun _ _ _ h => h) rfl (by assumption) (fun w' hS' => run_load_cell _ 36 _ (by rfl) ⟨w.heap.size + 1 + 1, 4, none⟩ (by rfl) _ hS' _ Tryd.underlying36 rfl) ?_
  simp only [Act.put, List.setIfInBounds_toArray, List.set_cons_zero, List.set_cons_succ]
  refine oneL (i := 5) rfl (by kernel_rfl) rfl (wp_store_row 76 _ _ rfl w.heap.size rfl _ rfl (idxC_one _ _ _ _ _) (by rw [size_att, List.size_toArray, idxC_length]) _ 76 (hS.out.drew _).hR (by simp [idxC, fcells_length]) (fun W11 hC11 hA11 => ⟨(hA11.cell (p := ⟨w.heap.size + 1 + 1, 4, none⟩) (by show w.heap.size + 1 + 1 < W10.heap.size; omega) (show w.heap.size + 1 + 1 ≠ w.heap.size by omega)).trans hS.out.errno, ?_⟩))
  have hSS2 : W11.cell? ⟨w.heap.size + 1 + 1, 4, none⟩ = some (.int .i64 ((5:Nat):Int)) := (hA11.cell (p := ⟨w.heap.size + 1 + 1, 4, none⟩) (by show w.heap.size + 1 + 1 < W10.heap.size; omega) (show w.heap.size + 1 + 1 ≠ w.heap.size by omega)).trans hS.out.errno
  clear hSS
  have hSS := hSS2
  clear hSS2
  simp only [Act.put, List.setIfInBounds_toArray, List.set_cons_zero, List.set_cons_succ]
  refine takeL (i := 6) (v := (.int .i64 ((5:Nat):Int))) rfl (by kernel_rfl) (by kernel_rfl) (by kernel_rfl) (fun _ _ _ h => h) rfl (by assumption) (fun w' hS' => by go_simp) ?_
  simp only [Act.put, List.setIfInBounds_toArray, List.set_cons_zero, List.set_cons_succ]
  refine wpAnyH_done (by kernel_rfl) ?_ _
  simp only [Exit.then]
  refine hK _ _ ?_
  have hBW : Below w.heap.size w W11 := hA11.below (hS.out.drew _).hB (Nat.le_refl _) (by show w.heap.size ≤ W10.heap.size; omega)
  clear hSS hK K
  go_wp2
  exact ret_mid_tmp rfl w.heap.size 0 (idxC (.slice none 0 0) (fun _ => 0) (fun _ => 0)) _ rfl (range_whole hC11) Tryd.underlying76 rfl (by rw [size_att, idxC_length]) rfl ⟨rfl, hBW⟩
set_option maxHeartbeats 16000000 in
theorem readAtt_list (l : List Int) (L : Nat) (va : Option Addr) (c : Nat) (w : World) (hs0 : SlB va c l w) (hL0 : l.length = L) (hlow : ∀ ad, va = some ad → ad.block < w.heap.size) (hb : 228 ≤ L) (hfew : L < 4294967296) (hoff0 : offL l 0 = 228) (er : Nat) (hE : errR (l.drop 228) = er) (he0 : ¬ (er = 0)) :
    Calls Tryd.prog 37 #[.slice va L c] w fun e w' => e = .returned (.tuple #[.agg (idxC (.slice none 0 0) (fun _ => 0) (fun _ => 0)).toArray, .int .i64 (er : Int)]) ∧ Below w.heap.size w w' := by
  have ho0 := Lib.hid (show ([0].map (offL l) ++ [l.length]).getD 0 0 = 228 from hoff0)
  have ho1 := Lib.hid (show ([0].map (offL l) ++ [l.length]).getD (0 + 1) 0 = L from hL0)
  have ho2 := Lib.hid (show 0 + 1 < ([0].map (offL l) ++ [l.length]).length from Nat.lt_succ_self 1)
  have ho3 := Lib.hid (show ([0].map (offL l) ++ [l.length]).length ≤ 1000 from (by decide : 2 ≤ 1000))
  have hoff := Lib.hid hoff0
  obtain ⟨k, hk⟩ : ∃ k, k = L - 228 := ⟨_, rfl⟩
  have hk2 : L = 228 + k := by omega
  have hk3 := Lib.hid hk2
  have hE' := Lib.hid (fun va c w h1 h2 h3 => readListB_bad (l.drop 228) k va c w h1 h2 h3 (by omega) hE he0)
  clear hoff0 hk hk2 hE
  have hs := Lib.hid hs0
  have hL := Lib.hid hL0
  have hlowH := Lib.hid hlow
  have hfew : l.length ≤ 70368744177664 := by omega
  clear hs0 hL0 hlow
  go_enter Tryd.func37, Tryd.ntmps37
  have hne : ((er : Int) == 0) = false := by simp; omega
  have hne2 : ((er : Int) != 0) = true := by simp; omega
  go_wp2_with (first
    | ((with_reducible refine at_alloc 76 ?_); refine wpList_plain rfl fun K hK => wp_alloc_row 76 rfl 2 rfl _ 197 infoAtt (hK _ _ ?_); clear hK K)
    | ((with_reducible refine at_alloc 76 ?_); refine wpList_plain rfl fun K hK => wp_alloc_row 76 rfl 4 rfl _ 197 infoAtt (hK _ _ ?_); clear hK K)
    | ((with_reducible refine (RdO.open L 228 (228 : Int) rfl hL.out 1 (1 : Int) rfl (by decide) (err := 0) (if_pos (by omega)) (by decide) hs.out.row hs.out.cap hs.out.nil hlowH.out (by rw [hL.out]; omega)).mono ?_)
       rintro e W ⟨rfl, hS1, hW1⟩
       have hS := Lib.hid hS1
       have hW := Lib.hid hW1
       clear hS1 hW1)
    | ((with_reducible refine at_bslice 82 ?_); go_loud (refine wpList_plain rfl fun K hK => wp_ran _ (run_bslice_int _ _ (by rfl) (0 : Int) (by rfl)) (hK _ _ ?_)); clear hK K
       have hS1 := hS.out.after ((Below.refl _ W).alloc (Nat.le_refl _) (.cells #[.int .i64 (0 : Int)] 3))
       have hW1 := hW.out.later (((Below.refl _ W).alloc hW.out.size (.cells #[.int .i64 (0 : Int)] 3)))
       have hz := hS.out.size)
    | ((with_reducible refine (RdO.offsG hS1 hW1 228 W.heap.size 1 1 (228 : Int) rfl [0] (by rw [hL.out]; omega) rfl (by decide) (by rw [hL.out]; omega) (one_ps W) (by rw [World.size_alloc]; omega) (by omega) (one_in (by rw [hL.out]; omega)) (off_one hoff.out (by rw [hL.out]; omega))).mono ?_)
       clear hS1 hW1 hz
       rintro e W2 ⟨rfl, hS2⟩
       clear hS hW
       have hS := Lib.hid hS2
       clear hS2)
    | ((with_reducible refine (RdO.later hS.out ho2.out ho3.out 228 L ho0.out ho1.out (by omega) (by rw [hL.out]; exact Nat.le_refl _) (by rw [hL.out]; omega) (by decide) k (by have := hk3.out; omega)).mono ?_)
       rintro e W ⟨vb, cb, rfl, hb1, hbl1, hS1⟩
       rw [show (l.drop 228).take k = l.drop 228 from List.take_of_length_le (by rw [List.length_drop, hL.out]; have := hk3.out; omega)] at hb1 hbl1
       have hrl := Lib.hid (hE'.out vb cb W hb1.row hb1.low hbl1)
       clear hb1 hbl1
       clear hS
       have hS := Lib.hid hS1
       clear hS1)
    | ((with_reducible refine at_load 36 ?_); (refine wpList_value (by rfl) _ (run_load_cell _ 36 _ (by rfl) ⟨w.heap.size + 1 + 1, 4, none⟩ rfl (.int .i64 (er : Int)) hS.out.errno _ Tryd.underlying36 rfl) ?_))
    | ((with_reducible refine at_load 36 ?_); go_loud (refine wpList_value (by rfl) _ (run_load_cell _ 36 _ (by rfl) ⟨w.heap.size + 1 + 1, 4, none⟩ rfl (.int .i64 0) hS.out.errno _ Tryd.underlying36 rfl) ?_))
    | ((with_reducible refine hrl.out.mono ?_)
       rintro e W2 ⟨⟨vn, cn, rfl⟩, hB1⟩
       have hS1 := hS.out.after hB1
       clear hS hB1 hrl
       have hS := Lib.hid hS1
       clear hS1)
    | ((with_reducible refine at_store 74 ?_); refine at_staddr 74 (w.heap.size + 1) 0 rfl ?_
       go_loud (refine wpList_plain rfl fun K hK => wp_store1 74 _ _ rfl (w.heap.size + 1) 0 rfl _ rfl rfl sz_bs' _ _ hS.out.hX (by simp [idxC]) (fun W3 hC2 hx2 => hK _ _ ?_)); clear hK K
       have hS1 := hS.out.setX hx2 (show W3.heap[w.heap.size + 1]? = some (.cells (idxC (.slice vn 0 cn) (fun _ => 0) (fun _ => 0)).toArray 76 (0, 0)) from hC2)
       clear hS hx2 hC2
       have hS := Lib.hid hS1
       clear hS1)
    | ((with_reducible refine (RdO.fail hS.out er er (er : Int) rfl (if_pos rfl)).mono ?_)
       rintro e W3 ⟨rfl, hS1, hA3⟩
       clear hA3
       clear hS
       have hS := Lib.hid hS1
       clear hS1))
  go_wp2_with (
    ((with_reducible refine at_load 36 ?_); go_loud (refine wpList_value (by rfl) _ (run_load_cell _ 36 _ (by rfl) ⟨w.heap.size + 1 + 1, 4, none⟩ rfl (.int .i64 (er:Int)) hS.out.errno _ Tryd.underlying36 rfl) ?_)))
  rename_i K hK
  refine wp_region_held (S := fun _ => True) (by kernel_rfl) ?_
  have hTT : True := trivial
  refine takeL (i := 0) (v := (.pointer (some ⟨w.heap.size + 1, 101, none⟩))) rfl (by kernel_rfl) (by kernel_rfl) (by kernel_rfl) (fun _ _ _ h => h) rfl (by assumption) (fun w' hS' => by go_simp) ?_
  simp only [Act.put, List.setIfInBounds_toArray, List.set_cons_zero, List.set_cons_succ]
  refine takeL (i := 1) (v := (.slice (some ⟨w.heap.size + 1, 101, none⟩) 96 96)) rfl (by kernel_rfl) (by kernel_rfl) (by kernel_rfl) (fun _ _ _ h => h) rfl (by assumption) (fun w' hS' => by go_simp) ?_
  simp only [Act.put, List.setIfInBounds_toArray, List.set_cons_zero, List.set_cons_succ]
  refine takeL (i := 2) (v := (.pointer (some ⟨w.heap.size + 1 + 1, 0, none⟩))) rfl (by kernel_rfl) (by kernel_rfl) (by kernel_rfl) (fun _ _ _ h => h) rfl (by assumption) (fun w' hS' => by go_simp) ?_
  simp only [Act.put, List.setIfInBounds_toArray, List.set_cons_zero, List.set_cons_succ]
  refine oneL (i := 3) rfl (by kernel_rfl) rfl (wp_callE 50 #[.pointer (some ⟨w.heap.size + 1 + 1, 0, none⟩), .int .i64 96] (by go_simp) _ ((hS.out.drew _).bytesC 96 (96 : Int) rfl (by decide) (by decide) (fun h => absurd h (by omega))) ?_)
  rintro v W9 ⟨b2, o2, c2, q2, rfl, hcc2, hbl2, hrw2, hql2, hq2, hS1, hA9⟩
  refine ⟨trivial, ?_⟩
  simp only [Act.put, List.setIfInBounds_toArray, List.set_cons_zero, List.set_cons_succ]
  refine oneL (i := 4) rfl (by kernel_rfl) rfl (wp_copy_X _ _ rfl 101 96 b2 o2 c2 96 rfl rfl hS1 (.slice vn 0 cn :: fcells 100 kdData (fun _ => 0)) [] (fun _ => 0) (by simp [idxC]) (by simp [fcells_length]) q2 hrw2 hql2 (fun W10 hS2 hA10 => ⟨trivial, ?_⟩))
  refine wpAnyH_done (by kernel_rfl) ?_ _
  refine hK _ _ ?_
  rw [if_neg he0] at hS2
  clear hK K hS hTT hrw2 hcc2 hbl2 hq2 hql2 hS1 hA9 hA10
  have hS := Lib.hid hS2
  clear hS2
  generalize goInt 96 = gi
  simp only [Act.put, List.setIfInBounds_toArray, List.set_cons_zero, List.set_cons_succ]
  go_wp2_with (
    ((with_reducible refine at_load 36 ?_); go_loud (refine wpList_value (by rfl) _ (run_load_cell _ 36 _ (by rfl) ⟨w.heap.size + 1 + 1, 4, none⟩ rfl (.int .i64 (er:Int)) hS.out.errno _ Tryd.underlying36 rfl) ?_)))
  rename_i K hK
  have hz10 := hS.out.size
  refine wp_region_held (S := fun w' => w'.cell? ⟨w.heap.size + 1 + 1, 4, none⟩ = some (.int .i64 (er:Int))) (by kernel_rfl) ?_
  have hSS : ({ W10 with drawn := W10.drawn + 1 } : World).cell? ⟨w.heap.size + 1 + 1, 4, none⟩ = some (.int .i64 (er:Int)) := hS.out.errno
  refine takeL (i := 0) (v := (.agg (idxC (.slice none 0 0) (fun _ => 0) (fun _ => 0)).toArray)) rfl (by kernel_rfl) (by kernel_rfl) (by kernel_rfl) (fun _ _ _ h => h) rfl (by assumption) (fun w' _ => run_build_att0 w' rfl) ?_
  simp only [Act.put, List.setIfInBounds_toArray, List.set_cons_zero, List.set_cons_succ]
  refine takeL (i := 1) (v := (.pointer (some ⟨w.heap.size + 1 + 1, 0, none⟩))) rfl (by kernel_rfl) (by kernel_rfl) (by kernel_rfl) (fun _ _ _ h => h) rfl (by assumption) (fun w' hS' => by go_simp) ?_
  simp only [Act.put, List.setIfInBounds_toArray, List.set_cons_zero, List.set_cons_succ]
  refine takeL (i := 2) (v := (.pointer (some ⟨w.heap.size + 1 + 1, 0, none⟩))) rfl (by kernel_rfl) (by kernel_rfl) (by kernel_rfl) (fun _ _ _ h => h) rfl (by assumption) (fun w' hS' => by go_simp) ?_
  simp only [Act.put, List.setIfInBounds_toArray, List.set_cons_zero, List.set_cons_succ]
  refine takeL (i := 3) (v := (.pointer (some ⟨w.heap.size + 1 + 1, 4, none⟩))) rfl (by kernel_rfl) (by kernel_rfl) (by kernel_rfl) (fun _ _ _ h => h) rfl (by assumption) (fun w' hS' => by go_simp) ?_
  simp only [Act.put, List.setIfInBounds_toArray, List.set_cons_zero, List.set_cons_succ]
  refine takeL (i := 4) (v := (.int .i64 (er:Int))) rfl (by kernel_rfl) (by kernel_rfl) (by kernel_rfl) (fun _ _ _ h => h) rfl (by assumption) (fun w' hS' => run_load_cell _ 36 _ (by rfl) ⟨w.heap.size + 1 + 1, 4, none⟩ (by rfl) _ hS' _ Tryd.underlying36 rfl) ?_
  simp only [Act.put, List.setIfInBounds_toArray, List.set_cons_zero, List.set_cons_succ]
  refine oneL (i := 5) rfl (by kernel_rfl) rfl (wp_store_row 76 _ _ rfl w.heap.size rfl _ rfl (idxC_one _ _ _ _ _) (by rw [size_att, List.size_toArray, idxC_length]) _ 76 (hS.out.drew _).hR (by simp [idxC, fcells_length]) (fun W11 hC11 hA11 => ⟨(hA11.cell (p := ⟨w.heap.size + 1 + 1, 4, none⟩) (by show w.heap.size + 1 + 1 < W10.heap.size; omega) (show w.heap.size + 1 + 1 ≠ w.heap.size by omega)).trans hS.out.errno, ?_⟩))
  have hSS2 : W11.cell? ⟨w.heap.size + 1 + 1, 4, none⟩ = some (.int .i64 (er:Int)) := (hA11.cell (p := ⟨w.heap.size + 1 + 1, 4, none⟩) (by show w.heap.size + 1 + 1 < W10.heap.size; omega) (show w.heap.size + 1 + 1 ≠ w.heap.size by omega)).trans hS.out.errno
  clear hSS
  have hSS := hSS2
  clear hSS2
  simp only [Act.put, List.setIfInBounds_toArray, List.set_cons_zero, List.set_cons_succ]
  refine takeL (i := 6) (v := (.int .i64 (er:Int))) rfl (by kernel_rfl) (by kernel_rfl) (by kernel_rfl) (fun _ _ _ h => h) rfl (by assumption) (fun w' hS' => by go_simp) ?_
  simp only [Act.put, List.setIfInBounds_toArray, List.set_cons_zero, List.set_cons_succ]
  refine wpAnyH_done (by kernel_rfl) ?_ _
  simp only [Exit.then]
  refine hK _ _ ?_
  have hBW : Below w.heap.size w W11 := hA11.below (hS.out.drew _).hB (Nat.le_refl _) (by show w.heap.size ≤ W10.heap.size; omega)
  clear hSS hK K
  go_wp2
  exact ret_mid_tmp rfl w.heap.size 0 (idxC (.slice none 0 0) (fun _ => 0) (fun _ => 0)) _ rfl (range_whole hC11) Tryd.underlying76 rfl (by rw [size_att, idxC_length]) rfl ⟨rfl, hBW⟩
end Go.Proofs.YtihelknkcomjpaaDoor
