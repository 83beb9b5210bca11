/- pharosref08.ReadAttest, the reference's reader of attestations. -/
/- Lists of bits as bytes: what is written is read, what is read is written. -/
import Derived.Test.YtihelknkcomjpaaDoorJAtE
import Derived.Test.YtihelknkcomjpaaDoorJIxH
set_option linter.unusedVariables false
set_option linter.unusedSimpArgs false
set_option linter.unnecessarySimpa false
namespace Go.Proofs.YtihelknkcomjpaaDoor
open Go.RowKit BigFrame
set_option maxRecDepth 100000
theorem rreadListB_ok (l : List Int) (m : Nat) (va : Option Addr) (c : Nat) (w : World) (hl0 : Row w va .u8 l) (hlow0 : ∀ b o, va = some ⟨b, o, none⟩ → b < w.heap.size) (hm : l.length = m) (hmn : m < 4294967296) (hE : errR l = 0) :
    Calls Tryd.prog 87 #[.slice va m c, .int .i64 64] w fun e w' => (∃ s, e = .returned (.tuple #[s, .int .i64 0]) ∧ BoOwn (bitsR l) s w.heap.size w') ∧ Below w.heap.size w w' := by
  have h := rreadListB_any l m va c w hl0 hlow0 hm hmn
  rw [hE] at h
  exact h
theorem rreadListB_bad (l : List Int) (m : Nat) (va : Option Addr) (c : Nat) (w : World) (hl0 : Row w va .u8 l) (hlow0 : ∀ b o, va = some ⟨b, o, none⟩ → b < w.heap.size) (hm : l.length = m) (hmn : m < 4294967296) {er : Nat} (hE : errR l = er) (hne : ¬ (er = 0)) :
    Calls Tryd.prog 87 #[.slice va m c, .int .i64 64] w fun e w' => (∃ vn cn, e = .returned (.tuple #[.slice vn 0 cn, .int .i64 (er : Int)])) ∧ Below w.heap.size w w' := by
  have h := rreadListB_any l m va c w hl0 hlow0 hm hmn
  rw [hE] at h
  refine h.mono fun e w' ⟨⟨s, h1, h2⟩, h3⟩ => ⟨?_, h3⟩
  have hb : bitsR l = [] := by unfold bitsR; rw [if_neg (by rw [hE]; exact hne)]
  rw [hb] at h2
  obtain ⟨vn, cn, e2, _⟩ := h2
  exact ⟨vn, cn, by rw [h1, e2]; rfl⟩
set_option maxHeartbeats 16000000 in
theorem rreadAtt_short (l : List Int) (L : Nat) (va : Option Addr) (c : Nat) (w : World) (hs0 : SlB va c l w) (hL0 : l.length = L) (hb : L < 228) :
    Calls Tryd.prog 38 #[.slice va L c] w fun e w' => e = .returned (.tuple #[.agg (idxC (.slice none 0 0) (fun _ => 0) (fun _ => 0)).toArray, .int .i64 ((4 : Nat) : Int)]) ∧ Below w.heap.size w w' := by
  have hs := Lib.hid hs0
  have hL := Lib.hid hL0
  clear hs0 hL0
  go_enter Tryd.func38, Tryd.ntmps38
  have hcut := Lib.hid (fun (W : World) (gs : Nat) (hZ : IntsAt gs [0, 128, 96] W) => cut_short l va c gs [0, 128, 96] 3 3 W hZ rfl (by decide) (by decide) (by decide) (by rw [hL.out]; exact hb))
  rw [hL.out] at hcut
  go_wp2_with (first
    | ((with_reducible refine at_alloc 76 ?_); refine wpList_plain rfl fun K hK => wp_alloc_row 76 rfl 2 rfl _ 197 infoAtt (hK _ _ ?_); clear hK K)
    | ((with_reducible refine at_alloc 76 ?_); refine wpList_plain rfl fun K hK => wp_alloc_row 76 rfl 4 rfl _ 197 infoAtt (hK _ _ ?_); clear hK K
       refine gen_l (fun W => RqX w.heap.size (idxC (.slice none 0 0) (fun _ => 0) (fun _ => 0)) (idxC (.slice none 0 0) (fun _ => 0) (fun _ => 0)) 76 w W) (RqX.begin rfl rfl rfl) ?_
       intro W hS1
       have hS := Lib.hid hS1
       clear hS1)
    | ((with_reducible refine (hcut.out _ W.heap.size ?hZ).mono ?hM)
       case hZ => exact zsAt_idx W
       rintro e W2 ⟨rfl, rfl⟩
       have hS1 := hS.out.later ((Below.refl _ W).alloc (Nat.le_refl _) (.cells #[.int .i64 0, .int .i64 128, .int .i64 96] 3)))
    | ((with_reducible refine at_load 76 ?_); go_loud (refine wpList_value (by rfl) _ (run_load_box _ 76 _ (by rfl) (w.heap.size + 1) (by rfl) _ _ (0, 0) _ hS1.hX Tryd.underlying76 rfl (by rw [size_att, List.size_toArray, idxC_length])) ?_))
    | ((with_reducible refine at_store 76 ?_); refine at_staddr 76 w.heap.size 0 rfl ?_; go_loud (refine wpList_plain rfl fun K hK => wp_store_row 76 _ _ rfl w.heap.size rfl _ rfl (idxC_one _ _ _ _ _) (by rw [size_att, List.size_toArray, idxC_length]) _ 76 hS1.hR rfl (fun W11 hC11 hA11 => hK _ _ ?_)); clear hK K))
  exact ret_mid_tmp rfl w.heap.size 0 (idxC (.slice none 0 0) (fun _ => 0) (fun _ => 0)) _ rfl (range_whole hC11) Tryd.underlying76 rfl (by rw [size_att, idxC_length]) rfl ⟨rfl, hA11.below hS1.hB (Nat.le_refl _) (by have := hS1.size; omega)⟩
set_option maxHeartbeats 16000000 in
theorem rreadAtt_form (l : List Int) (L : Nat) (va : Option Addr) (c : Nat) (w : World) (hs0 : SlB va c l w) (hL0 : l.length = L) (hb : 228 ≤ L) (hfew : L ≤ 70368744177664) (hoff0 : offL l 0 ≠ 228) :
    Calls Tryd.prog 38 #[.slice va L c] w fun e w' => e = .returned (.tuple #[.agg (idxC (.slice none 0 0) (fun _ => 0) (fun _ => 0)).toArray, .int .i64 ((5 : Nat) : Int)]) ∧ Below w.heap.size w w' := by
  have hoff := Lib.hid hoff0
  clear hoff0
  have hs := Lib.hid hs0
  have hL := Lib.hid hL0
  clear hs0 hL0
  go_enter Tryd.func38, Tryd.ntmps38
  have hcut := Lib.hid (fun (W : World) (gs : Nat) (hl : SlB va c l W) (hZ : IntsAt gs [0, 128, 96] W) => cutu_form l va c gs [0, 128, 96] 3 3 W hl hZ rfl (by decide) (by decide) (by decide) (by rw [hL.out]; exact hb) (by decide) (by rw [hL.out]; exact hfew) 1 rfl (by decide) (off_one_bad hoff.out))
  rw [hL.out] at hcut
  go_wp2_with (first
    | ((with_reducible refine at_alloc 76 ?_); refine wpList_plain rfl fun K hK => wp_alloc_row 76 rfl 2 rfl _ 197 infoAtt (hK _ _ ?_); clear hK K)
    | ((with_reducible refine at_alloc 76 ?_); refine wpList_plain rfl fun K hK => wp_alloc_row 76 rfl 4 rfl _ 197 infoAtt (hK _ _ ?_); clear hK K
       refine gen_l (fun W => RqX w.heap.size (idxC (.slice none 0 0) (fun _ => 0) (fun _ => 0)) (idxC (.slice none 0 0) (fun _ => 0) (fun _ => 0)) 76 w W) (RqX.begin rfl rfl rfl) ?_
       intro W hS1
       have hS := Lib.hid hS1
       clear hS1)
    | ((with_reducible refine (hcut.out _ W.heap.size ?hI ?hZ).mono ?hM)
       case hI => exact (hs.out.later hS.out.hB).later ((Below.refl _ W).alloc (Nat.le_refl _) _)
       case hZ => exact zsAt_idx W
       rintro e W2 ⟨rfl, hb2⟩
       have hS1 := (hS.out.later ((Below.refl _ W).alloc (Nat.le_refl _) (.cells #[.int .i64 0, .int .i64 128, .int .i64 96] 3))).later hb2)
    | ((with_reducible refine at_load 76 ?_); go_loud (refine wpList_value (by rfl) _ (run_load_box _ 76 _ (by rfl) (w.heap.size + 1) (by rfl) _ _ (0, 0) _ hS1.hX Tryd.underlying76 rfl (by rw [size_att, List.size_toArray, idxC_length])) ?_))
    | ((with_reducible refine at_store 76 ?_); refine at_staddr 76 w.heap.size 0 rfl ?_; go_loud (refine wpList_plain rfl fun K hK => wp_store_row 76 _ _ rfl w.heap.size rfl _ rfl (idxC_one _ _ _ _ _) (by rw [size_att, List.size_toArray, idxC_length]) _ 76 hS1.hR rfl (fun W11 hC11 hA11 => hK _ _ ?_)); clear hK K))
  exact ret_mid_tmp rfl w.heap.size 0 (idxC (.slice none 0 0) (fun _ => 0) (fun _ => 0)) _ rfl (range_whole hC11) Tryd.underlying76 rfl (by rw [size_att, idxC_length]) rfl ⟨rfl, hA11.below hS1.hB (Nat.le_refl _) (by have := hS1.size; omega)⟩
set_option maxHeartbeats 16000000 in
theorem rreadAtt_list (l : List Int) (L k : Nat) (va : Option Addr) (c : Nat) (w : World) (hs0 : SlB va c l w) (hL0 : l.length = L) (hLk0 : L = 228 + k) (hfew : L ≤ 70368744177664) (hoff0 : offL l 0 = 228) (er : Nat) (hfew2 : L < 4294967296) (hE : errR (l.drop 228) = er) (he0 : ¬ (er = 0)) :
    Calls Tryd.prog 38 #[.slice va L c] w fun e w' => e = .returned (.tuple #[.agg (idxC (.slice none 0 0) (fun _ => 0) (fun _ => 0)).toArray, .int .i64 (er : Int)]) ∧ Below w.heap.size w w' := by
  have hE' := Lib.hid (fun va c w h1 h2 h3 => rreadListB_bad (l.drop 228) k va c w h1 h2 h3 (by omega) hE he0)
  clear hE
  have hk3 := Lib.hid hLk0
  have hoff := Lib.hid hoff0
  clear hoff0 hLk0
  have hs := Lib.hid hs0
  have hL := Lib.hid hL0
  clear hs0 hL0
  go_enter Tryd.func38, Tryd.ntmps38
  have hcut := Lib.hid (fun (W : World) (gs : Nat) (hl : SlB va c l W) (hZ : IntsAt gs [0, 128, 96] W) => cutu_ok l va c gs [0, 128, 96] 3 3 W hl hZ rfl (by decide) (by decide) (by decide) (by rw [hL.out, hk3.out]; exact Nat.le_add_right _ _) (by decide) (by rw [hL.out]; exact hfew) 1 rfl (by decide) (off_one hoff.out (by rw [hL.out, hk3.out]; exact Nat.le_add_right _ _)))
  rw [hL.out, cutU_idx hL.out hoff.out hk3.out] at hcut
  have hl0 := Lib.hid (show ((l.drop 228).take k).length = k by rw [List.length_take, List.length_drop, hL.out, hk3.out]; omega)
  have hl1 := Lib.hid (show ((l.drop 4).take 128).length = 128 by rw [List.length_take, List.length_drop, hL.out, hk3.out]; omega)
  have hl2 := Lib.hid (show ((l.drop 132).take 96).length = 96 by rw [List.length_take, List.length_drop, hL.out, hk3.out]; omega)
  have hne : ((er : Int) == 0) = false := by simp; omega
  have hne2 : ((er : Int) != 0) = true := by simp; omega
  go_wp2_with (first
    | ((with_reducible refine at_alloc 76 ?_); refine wpList_plain rfl fun K hK => wp_alloc_row 76 rfl 2 rfl _ 197 infoAtt (hK _ _ ?_); clear hK K)
    | ((with_reducible refine at_alloc 76 ?_); refine wpList_plain rfl fun K hK => wp_alloc_row 76 rfl 4 rfl _ 197 infoAtt (hK _ _ ?_); clear hK K
       refine gen_l (fun W => RqX w.heap.size (idxC (.slice none 0 0) (fun _ => 0) (fun _ => 0)) (idxC (.slice none 0 0) (fun _ => 0) (fun _ => 0)) 76 w W) (RqX.begin rfl rfl rfl) ?_
       intro W hS1
       have hS := Lib.hid hS1
       clear hS1)
    | ((with_reducible refine (hcut.out _ W.heap.size ?hI ?hZ).mono ?hM)
       case hI => exact (hs.out.later hS.out.hB).later ((Below.refl _ W).alloc (Nat.le_refl _) _)
       case hZ => exact zsAt_idx W
       rintro e W2 ⟨⟨v, rfl, hP1⟩, hb2⟩
       obtain ⟨gp, cp, rfl, hS1⟩ := RqP.of (hS.out.later ((Below.refl _ W).alloc (Nat.le_refl _) (.cells #[.int .i64 0, .int .i64 128, .int .i64 96] 3))) (k := 3) rfl hb2 hP1
       clear hS hP1 hb2
       have hS := Lib.hid hS1
       obtain ⟨vq, cq, hcq1, hq1, _⟩ := hS1.part 0 k ((l.drop 228).take k) (by simp) rfl hl0.out
       have hcq := Lib.hid hcq1
       have ed : (l.drop 228).take k = l.drop 228 := List.take_of_length_le (by rw [List.length_drop, hL.out]; have := hk3.out; omega)
       rw [ed] at hq1
       have hrl := Lib.hid (hE'.out vq cq W2 hq1.row hq1.low (by rw [← ed]; exact hl0.out))
       clear hS1 hcq1 hq1 ed)
    | ((with_reducible refine at_iaddr 96 ?_); refine wpList_value (by rfl) _ (run_index_slice _ 96 34 _ _ rfl Tryd.underlying96 1 sz_bs gp 0 3 cp rfl .i64 0 rfl (by decide) 0 (by decide)) ?_)
    | ((with_reducible refine at_load 34 ?_); refine wpList_value (by rfl) _ (run_load_cell _ 34 _ (by rfl) ⟨gp, 0, none⟩ rfl (.slice vq k cq) hcq.out _ Tryd.underlying34 rfl) ?_)
    | ((with_reducible refine hrl.out.mono ?_)
       rintro e W3 ⟨⟨vn, cn, rfl⟩, hb3⟩
       have hS1 := hS.out.later hb3
       clear hS hb3
       have hS := Lib.hid hS1
       clear hS1)
    | ((with_reducible refine at_store 74 ?_); refine at_staddr 74 (w.heap.size + 1) 0 rfl ?_
       go_loud (refine wpList_plain rfl fun K hK => wp_store1 74 _ _ rfl (w.heap.size + 1) 0 rfl _ rfl rfl sz_bs' _ _ hS.out.hX (by simp [idxC]) (fun W4 hC2 hx2 => hK _ _ ?_)); clear hK K
       have hS1 := hS.out.set hx2 (show W4.heap[w.heap.size + 1]? = some (.cells (idxC (.slice vn 0 cn) (fun _ => 0) (fun _ => 0)).toArray 76 (0, 0)) from hC2)
       clear hS hx2 hC2
       have hS := Lib.hid hS1
       clear hS1)
    | ((with_reducible refine at_build 76 ?_); go_loud (refine wpList_value (by rfl) _ (run_build_att0 _ rfl) ?_))
    | ((with_reducible refine at_store 76 ?_); refine at_staddr 76 w.heap.size 0 rfl ?_; go_loud (refine wpList_plain rfl fun K hK => wp_store_row 76 _ _ rfl w.heap.size rfl _ rfl (idxC_one _ _ _ _ _) (by rw [size_att, List.size_toArray, idxC_length]) _ 76 hS.out.hR rfl (fun W11 hC11 hA11 => hK _ _ ?_)); clear hK K))
  exact ret_mid_tmp rfl w.heap.size 0 (idxC (.slice none 0 0) (fun _ => 0) (fun _ => 0)) _ rfl (range_whole hC11) Tryd.underlying76 rfl (by rw [size_att, idxC_length]) rfl ⟨rfl, hA11.below hS.out.hB (Nat.le_refl _) (by have := hS.out.size; omega)⟩
set_option maxHeartbeats 16000000 in
theorem rreadAtt_ok (l : List Int) (L k : Nat) (va : Option Addr) (c : Nat) (w : World) (hs0 : SlB va c l w) (hL0 : l.length = L) (hLk0 : L = 228 + k) (hfew2 : L < 4294967296) (hoff0 : offL l 0 = 228) (hE : errR (l.drop 228) = 0) :
    Calls Tryd.prog 38 #[.slice va L c] w fun e w' => (∃ s, e = .returned (.tuple #[.agg (idxC s (rdData ((l.drop 4).take 128)) (fun j => l.getD (132 + j) 0)).toArray, .int .i64 0]) ∧ BoOwn (bitsR (l.drop 228)) s w.heap.size w') ∧ Below w.heap.size w w' := by
  have hfew : L ≤ 70368744177664 := by omega
  have hE' := Lib.hid (fun va c w h1 h2 h3 => rreadListB_ok (l.drop 228) k va c w h1 h2 h3 (by omega) hE)
  clear hE
  have hk3 := Lib.hid hLk0
  have hoff := Lib.hid hoff0
  clear hoff0 hLk0
  have hs := Lib.hid hs0
  have hL := Lib.hid hL0
  clear hs0 hL0
  go_enter Tryd.func38, Tryd.ntmps38
  have hcut := Lib.hid (fun (W : World) (gs : Nat) (hl : SlB va c l W) (hZ : IntsAt gs [0, 128, 96] W) => cutu_ok l va c gs [0, 128, 96] 3 3 W hl hZ rfl (by decide) (by decide) (by decide) (by rw [hL.out, hk3.out]; exact Nat.le_add_right _ _) (by decide) (by rw [hL.out]; exact hfew) 1 rfl (by decide) (off_one hoff.out (by rw [hL.out, hk3.out]; exact Nat.le_add_right _ _)))
  rw [hL.out, cutU_idx hL.out hoff.out hk3.out] at hcut
  have hl0 := Lib.hid (show ((l.drop 228).take k).length = k by rw [List.length_take, List.length_drop, hL.out, hk3.out]; omega)
  have hl1 := Lib.hid (show ((l.drop 4).take 128).length = 128 by rw [List.length_take, List.length_drop, hL.out, hk3.out]; omega)
  have hl2 := Lib.hid (show ((l.drop 132).take 96).length = 96 by rw [List.length_take, List.length_drop, hL.out, hk3.out]; omega)
  go_wp2_with (first
    | ((with_reducible refine at_alloc 76 ?_); refine wpList_plain rfl fun K hK => wp_alloc_row 76 rfl 2 rfl _ 197 infoAtt (hK _ _ ?_); clear hK K)
    | ((with_reducible refine at_alloc 76 ?_); refine wpList_plain rfl fun K hK => wp_alloc_row 76 rfl 4 rfl _ 197 infoAtt (hK _ _ ?_); clear hK K
       refine gen_l (fun W => RqX w.heap.size (idxC (.slice none 0 0) (fun _ => 0) (fun _ => 0)) (idxC (.slice none 0 0) (fun _ => 0) (fun _ => 0)) 76 w W) (RqX.begin rfl rfl rfl) ?_
       intro W hS1
       have hS := Lib.hid hS1
       clear hS1)
    | ((with_reducible refine (hcut.out _ W.heap.size ?hI ?hZ).mono ?hM)
       case hI => exact (hs.out.later hS.out.hB).later ((Below.refl _ W).alloc (Nat.le_refl _) _)
       case hZ => exact zsAt_idx W
       rintro e W2 ⟨⟨v, rfl, hP1⟩, hb2⟩
       obtain ⟨gp, cp, rfl, hS1⟩ := RqP.of (hS.out.later ((Below.refl _ W).alloc (Nat.le_refl _) (.cells #[.int .i64 0, .int .i64 128, .int .i64 96] 3))) (k := 3) rfl hb2 hP1
       clear hS hP1 hb2
       have hS := Lib.hid hS1
       obtain ⟨vq, cq, hcq1, hq1, _⟩ := hS1.part 0 k ((l.drop 228).take k) (by simp) rfl hl0.out
       have hcq := Lib.hid hcq1
       have ed : (l.drop 228).take k = l.drop 228 := List.take_of_length_le (by rw [List.length_drop, hL.out]; have := hk3.out; omega)
       rw [ed] at hq1
       have hrl := Lib.hid (hE'.out vq cq W2 hq1.row hq1.low (by rw [← ed]; exact hl0.out))
       clear hcq1 hq1 ed
       clear hS1)
    | ((with_reducible refine at_iaddr 96 ?_); refine wpList_value (by rfl) _ (run_index_slice _ 96 34 _ _ rfl Tryd.underlying96 1 sz_bs gp 0 3 cp rfl .i64 0 rfl (by decide) 0 (by decide)) ?_)
    | ((with_reducible refine at_load 34 ?_); refine wpList_value (by rfl) _ (run_load_cell _ 34 _ (by rfl) ⟨gp, 0, none⟩ rfl (.slice vq k cq) hcq.out _ Tryd.underlying34 rfl) ?_)
    | ((with_reducible refine hrl.out.mono ?_)
       rintro e W3 ⟨⟨s, rfl, hM0⟩, hb3⟩
       have hS1 := hS.out.later hb3
       have hM1 := Lib.hid (hM0.weak (show w.heap.size + 2 ≤ W2.heap.size from hS.out.size))
       clear hS hb3 hM0 hrl
       have hS := Lib.hid hS1
       clear hS1)
    | ((with_reducible refine at_store 74 ?_); refine at_staddr 74 (w.heap.size + 1) 0 rfl ?_
       obtain ⟨vn, cn, es, _⟩ := hM1.out
       subst es
       go_loud (refine wpList_plain rfl fun K hK => wp_store1 74 _ _ rfl (w.heap.size + 1) 0 rfl _ rfl rfl sz_bs' _ _ hS.out.hX (by simp [idxC]) (fun W4 hC2 hx2 => hK _ _ ?_)); clear hK K
       have hS1 := hS.out.set hx2 (show W4.heap[w.heap.size + 1]? = some (.cells (idxC (.slice vn (bitsR (l.drop 228)).length cn) (fun _ => 0) (fun _ => 0)).toArray 76 (0, 0)) from hC2)
       have hM := Lib.hid (hM1.out.apart hx2 (by omega))
       obtain ⟨vq1, cq1, hcr1, hr1, _⟩ := hS1.part 1 128 ((l.drop 4).take 128) (by simp) rfl hl1.out
       have hcr3 := Lib.hid hcr1
       have hr3 := Lib.hid hr1
       clear hcr1 hr1
       clear hS hx2 hC2
       have hS := Lib.hid hS1
       clear hS1)
    | ((with_reducible refine at_iaddr 96 ?_); refine wpList_value (by rfl) _ (run_index_slice _ 96 34 _ _ rfl Tryd.underlying96 1 sz_bs gp 0 3 cp rfl .i64 1 rfl (by decide) 1 (by decide)) ?_)
    | ((with_reducible refine at_load 34 ?_); refine wpList_value (by rfl) _ (run_load_cell _ 34 _ (by rfl) ⟨gp, 1, none⟩ rfl (.slice vq1 128 cq1) hcr3.out _ Tryd.underlying34 rfl) ?_)
    | ((with_reducible refine (rreadData_ok _ vq1 cq1 _ hr3.out hl1.out).mono ?_)
       rintro e W6 ⟨rfl, hb1⟩
       have hS1 := hS.out.later hb1
       have hM1 := hM.out.later hb1
       clear hb1 hS hM hr3 hcr3
       have hS := Lib.hid hS1
       have hM := Lib.hid hM1
       clear hS1 hM1)
    | ((with_reducible refine at_store 59 ?_); refine at_staddr 59 (w.heap.size + 1) 1 rfl ?_; refine wpList_rowsP rfl 59 _ _ rfl 1 rfl (fcells 100 kdData (rdData ((l.drop 4).take 128))) rfl (by rw [row_size rowData, fcells_length]) fcells_mem hS.out [.slice vn (bitsR (l.drop 228)).length cn] (fcells 100 kdData fun _ => 0) (fcells 96 (fun _ => .u8) fun _ => 0) rfl rfl (by rw [fcells_length, fcells_length]) (fun W7 hS1 hA7 => ?_)
       have hM1 := hM.out.apart hA7 (by omega)
       clear hS hM hA7
       have hS := Lib.hid hS1
       have hM := Lib.hid hM1
       clear hS1 hM1))
  obtain ⟨WS, hWS⟩ : ∃ WS, WS = W7 := ⟨_, rfl⟩
  subst hWS
  have hS7 := Lib.hid hS.out
  have hz7 := hS.out.size
  obtain ⟨vq, cq, hcq1, hq1, hql1⟩ := hS.out.part 2 96 ((l.drop 132).take 96) (by simp) rfl hl2.out
  obtain ⟨bq, oq, rfl, _⟩ := hq1.row.cell 0 (by rw [hl2.out]; decide)
  have hqb := hql1 bq oq rfl
  have hqs := hq1.low bq oq rfl
  have hpcell := Lib.hid (fun (W : World) (h : Apart (w.heap.size + 1) WS W) => (h.cell (p := ⟨gp, 2, none⟩) (block_lt_of_cell hcq1) (show gp ≠ w.heap.size + 1 by
    obtain ⟨g, c', e, hg, _⟩ := hS.out.hP
    injection e with e1
    cases e1
    omega)).trans hcq1)
  have hqcell := Lib.hid (fun (W : World) (h : Apart (w.heap.size + 1) WS W) (j : Nat) (hj : j < 96) => show W.cell? ⟨bq, oq + j, none⟩ = some (.int .u8 (l.getD (132 + j) 0)) from by
    obtain ⟨b', o', e, hc⟩ := hq1.row.cell j (by rw [hl2.out]; exact hj)
    cases e
    rw [drop_take_get _ _ _ _ hj] at hc
    exact (h.cell (p := ⟨bq, oq + j, none⟩) hqs (show bq ≠ w.heap.size + 1 by omega)).trans hc)
  clear hcq1 hq1 hql1
  go_loopw [7] (fun i wr => ∃ m : Nat, m ≤ 96 ∧ i = .int .i64 (m : Int) ∧ wr.heap[w.heap.size + 1]? = some (.cells (idxC (.slice vn (bitsR (l.drop 228)).length cn) (rdData ((l.drop 4).take 128)) (sigUp l m)).toArray 76 (0, 0)) ∧ Apart (w.heap.size + 1) WS wr) (fun i _ => 96 - (intOf i).toNat)
  case atStart => exact ⟨0, by omega, rfl, by rw [← idxC_sig (f := fun _ => 0) (g := sigUp l 0) (fun i hi => by simp [sigUp])]; exact hS.out.hX, Apart.refl _ _⟩
  case round =>
    obtain ⟨m, hm, rfl, hX1, hA1⟩ := hrel
    clear hS
    have hX := Lib.hid hX1
    have hA := Lib.hid hA1
    clear hX1 hA1
    by_cases hlt : m < 96
    · have lm : (m : Int) < 96 := by omega
      have hc1 := Lib.hid (hpcell.out _ hA.out)
      have hc2 := Lib.hid (hqcell.out _ hA.out m hlt)
      generalize hy : l.getD (132 + m) 0 = y at *
      have hy' := Lib.hid hy
      clear hy
      go_wp2_with (first
        | ((with_reducible refine at_iaddr 96 ?_); refine wpList_value (by rfl) _ (run_index_slice _ 96 34 _ _ rfl Tryd.underlying96 1 sz_bs gp 0 3 cp rfl .i64 2 rfl (by decide) 2 (by decide)) ?_)
        | ((with_reducible refine at_load 34 ?_); refine wpList_value (by rfl) _ (run_load_cell _ 34 _ (by rfl) ⟨gp, 2, none⟩ rfl (.slice (some ⟨bq, oq, none⟩) 96 cq) hc1.out _ Tryd.underlying34 rfl) ?_)
        | ((with_reducible refine at_iaddr 34 ?_); go_loud (refine wpList_value (by rfl) _ (run_index_slice _ 34 5 _ _ rfl Tryd.underlying34 1 sz_u8 bq oq 96 cq rfl .i64 m rfl hlt (oq + m) (by omega)) ?_))
        | ((with_reducible refine at_load 5 ?_); go_loud (refine wpList_value (by rfl) _ (run_load_cell _ 5 _ (by rfl) ⟨bq, oq + m, none⟩ rfl (.int .u8 y) hc2.out _ Tryd.underlying5 rfl) ?_))
        | ((with_reducible refine at_store 5 ?_); go_loud (refine wpList_plain rfl fun K hK => wp_store1 5 _ _ rfl (w.heap.size + 1) (101 + m) rfl (.int .u8 y) rfl rfl sz_u8 _ _ hX.out (by simp [idxC, fcells_length]; omega) (fun W8 hC8 hx8 => hK _ _ ?_)); clear hK K))
      have hC9 : W8.heap[w.heap.size + 1]? = some (.cells (idxC (.slice vn (bitsR (l.drop 228)).length cn) (rdData ((l.drop 4).take 128)) (sigUp l (m + 1))).toArray 76 (0, 0)) := by
        rw [hC8, idxC_set (g := sigUp l (m + 1)) hlt (fun i hi => ?_)]
        rw [← hy'.out]
        unfold sigUp
        by_cases e : i = m
        · subst e; simp
        · rw [if_neg e]
          by_cases e2 : i < m
          · rw [if_pos e2, if_pos (by omega)]
          · rw [if_neg e2, if_neg (by omega)]
      exact ⟨⟨m + 1, by omega, by go_num, hC9, hA.out.trans hx8⟩, by simp [intOf]; omega⟩
    · have e : m = 96 := by omega
      subst e
      clear hlt hm
      have hX2 : wr.heap[w.heap.size + 1]? = some (.cells (idxC (.slice vn (bitsR (l.drop 228)).length cn) (rdData ((l.drop 4).take 128)) (fun i => l.getD (132 + i) 0)).toArray 76 (0, 0)) := by
        rw [← idxC_sig (f := sigUp l 96) (fun i hi => by simp [sigUp, hi])]
        exact hX.out
      have hM2 := hM.out.apart hA.out (by omega)
      have hS2 := hS7.out.toRqX.set hA.out hX2
      clear hX hA hX2 hM hS7 hpcell hqcell
      have hS := Lib.hid hS2
      have hM := Lib.hid hM2
      clear hS2 hM2
      go_wp2_with (first
        | ((with_reducible refine at_load 76 ?_); go_loud (refine wpList_value (by rfl) _ (run_load_box _ 76 _ (by rfl) (w.heap.size + 1) (by rfl) _ _ (0, 0) _ hS.out.hX Tryd.underlying76 rfl (by rw [size_att, List.size_toArray, idxC_length])) ?_))
        | ((with_reducible refine at_store 76 ?_); refine at_staddr 76 w.heap.size 0 rfl ?_; go_loud (refine wpList_plain rfl fun K hK => wp_store_row 76 _ _ rfl w.heap.size rfl _ rfl (idxC_one _ _ _ _ _) (by rw [size_att, List.size_toArray, idxC_length]) _ 76 hS.out.hR (by rw [List.size_toArray, idxC_length, List.size_toArray, idxC_length]) (fun W11 hC11 hA11 => hK _ _ ?_)); clear hK K))
      have hM3 := (hM.out.apart hA11 (by omega)).weak (show w.heap.size ≤ w.heap.size + 2 by omega)
      exact ret_mid_tmp rfl w.heap.size 0 (idxC (.slice vn (bitsR (l.drop 228)).length cn) (rdData ((l.drop 4).take 128)) (fun i => l.getD (132 + i) 0)) _ rfl (range_whole hC11) Tryd.underlying76 rfl (by rw [size_att, idxC_length]) rfl ⟨⟨_, rfl, hM3⟩, hA11.below hS.out.hB (Nat.le_refl _) (by have := hS.out.size; omega)⟩
end Go.Proofs.YtihelknkcomjpaaDoor
namespace Go.Proofs.YtihelknkcomjpaaDoor
open Go.RowKit BigFrame
set_option maxRecDepth 100000
theorem byte_fin {p : Int → Prop} (h : ∀ n : Fin 256, p ((n : Nat) : Int)) {y : Int} (h0 : 0 ≤ y) (h1 : y ≤ 255) : p y := by
  have h2 := h ⟨y.toNat, by omega⟩
  rw [show (((⟨y.toNat, by omega⟩ : Fin 256) : Nat) : Int) = y from by show ((y.toNat : Nat) : Int) = y; omega] at h2
  exact h2
theorem low_step {y : Int} (h0 : 0 ≤ y) (h1 : y ≤ 255) {r : Nat} (hr : r < 8) : y % 2 ^ (r + 1) = y % 2 ^ r + (if bitV y r ≠ 0 then 2 ^ r else 0) := by
  have h : ∀ y : Fin 256, ∀ r : Fin 8, ((y : Nat) : Int) % 2 ^ ((r : Nat) + 1) = ((y : Nat) : Int) % 2 ^ (r : Nat) + (if bitV ((y : Nat) : Int) (r : Nat) ≠ 0 then 2 ^ (r : Nat) else 0) := by unfold bitV; decide +kernel
  exact byte_fin (p := fun y => y % 2 ^ (r + 1) = y % 2 ^ r + (if bitV y r ≠ 0 then 2 ^ r else 0)) (fun n => h n ⟨r, hr⟩) h0 h1
theorem low_all {y : Int} (h0 : 0 ≤ y) (h1 : y ≤ 255) : y % 2 ^ Lib.bitLen y.toNat = y := by
  have h : ∀ n : Fin 256, ((n : Nat) : Int) % 2 ^ Lib.bitLen (n : Nat) = ((n : Nat) : Int) := by decide +kernel
  exact byte_fin (p := fun y => y % 2 ^ Lib.bitLen y.toNat = y) (fun n => h n) h0 h1
theorem len_of {y : Int} (h0 : 0 ≤ y) (h1 : y ≤ 255) {s : Nat} (hs : s < 8) (h2 : 2 ^ s ≤ y) (h3 : y < 2 ^ (s + 1)) : Lib.bitLen y.toNat = s + 1 := by
  have h : ∀ n : Fin 256, ∀ s : Fin 8, (2 : Int) ^ (s : Nat) ≤ ((n : Nat) : Int) → ((n : Nat) : Int) < 2 ^ ((s : Nat) + 1) → Lib.bitLen (n : Nat) = (s : Nat) + 1 := by decide +kernel
  exact byte_fin (p := fun y => 2 ^ s ≤ y → y < 2 ^ (s + 1) → Lib.bitLen y.toNat = s + 1) (fun n => h n ⟨s, hs⟩) h0 h1 h2 h3
theorem bit_plus {y : Int} (h0 : 0 ≤ y) (h1 : y ≤ 255) {s r : Nat} (hs : s < 8) (hr : r < 8) (h2 : y < 2 ^ s) : bitV (y + 2 ^ s) r = if r = s then 1 else bitV y r := by
  have h : ∀ n : Fin 256, ∀ s : Fin 8, ((n : Nat) : Int) < 2 ^ (s : Nat) → ∀ r : Fin 8, bitV (((n : Nat) : Int) + 2 ^ (s : Nat)) (r : Nat) = if (r : Nat) = (s : Nat) then 1 else bitV ((n : Nat) : Int) (r : Nat) := by unfold bitV; decide +kernel
  exact byte_fin (p := fun y => y < 2 ^ s → bitV (y + 2 ^ s) r = if r = s then 1 else bitV y r) (fun n h' => h n ⟨s, hs⟩ h' ⟨r, hr⟩) h0 h1 h2
theorem at_ok {q : List Int} (hok : ∀ x ∈ q, CK.ok .u8 x) (j : Nat) : 0 ≤ q.getD j 0 ∧ q.getD j 0 ≤ 255 := by
  by_cases h : j < q.length
  · have h2 : CK.ok .u8 (q.getD j 0) := hok _ (by
      rw [show q.getD j 0 = q[j] by simp [List.getD, h]]
      exact List.getElem_mem _)
    exact ⟨h2.1, by have := h2.2; omega⟩
  · rw [show q.getD j 0 = 0 by simp [List.getD, h]]
    exact ⟨by decide, by decide⟩
/-- The low bits of a byte, out of the list of bits. -/
theorem bitC_low {q l : List Int} (hok : ∀ x ∈ q, CK.ok .u8 x) : ∀ k, (∀ i, i < k → l.getD i 0 = bitR q i) → ∀ j, bitC l k j = q.getD j 0 % 2 ^ (min 8 (k - 8 * j))
  | 0, _, j => by simp [bitC, Int.emod_one]
  | k + 1, h, j => by
    have ih := bitC_low hok k (fun i hi => h i (by omega)) j
    obtain ⟨y0, y1⟩ := at_ok hok j
    simp only [bitC]
    rw [ih, h k (by omega)]
    by_cases e : j = k / 8
    · have e1 : min 8 (k - 8 * j) = k % 8 := by omega
      have e2 : min 8 (k + 1 - 8 * j) = k % 8 + 1 := by omega
      rw [e1, e2, low_step y0 y1 (by omega : k % 8 < 8)]
      unfold bitR
      rw [← e]
      congr 1
      by_cases b : bitV (q.getD j 0) (k % 8) ≠ 0
      · rw [if_pos b, if_pos ⟨rfl, b⟩]
      · rw [if_neg b, if_neg (fun h => b h.2)]
    · rw [if_neg (fun h => e h.1), Int.add_zero]
      by_cases e3 : j < k / 8
      · rw [show min 8 (k - 8 * j) = 8 by omega, show min 8 (k + 1 - 8 * j) = 8 by omega]
      · rw [show min 8 (k - 8 * j) = 0 by omega, show min 8 (k + 1 - 8 * j) = 0 by omega]
theorem listB_rd {q : List Int} (hok : ∀ x ∈ q, CK.ok .u8 x) (h0 : q.length ≠ 0) (h1 : lastB q ≠ 0) : listB (bitsL q (lenR q)) = q := by
  obtain ⟨t1, t2⟩ := lenR_lt hok h0 h1
  obtain ⟨a, b⟩ := lastB_ok hok h0
  obtain ⟨q1, q2, _⟩ := bitLen_byte (lastB q) a b
  have q3 := (q2 h1).1
  have hlow := bitC_low (l := bitsL q (lenR q) ++ [1]) hok (lenR q + 1) (fun i hi => by
    by_cases e : i = lenR q
    · subst e
      rw [getD_last _ _ _ (bitsL_length _ _), bit_top hok h0 h1]
    · rw [← getD_snoc _ _ _ (by rw [bitsL_length]; omega), bitsL_get _ _ _ (by omega)])
  have hn : lenR q / 8 + 1 = q.length := by omega
  unfold listB
  rw [bitsL_length, hn]
  apply List.ext_getElem?
  intro j
  by_cases hj : j < q.length
  · have e : (byB (bitsL q (lenR q) ++ [1]) q.length (lenR q + 1))[j]? = some (bitC (bitsL q (lenR q) ++ [1]) (lenR q + 1) j) := by simp [byB, hj]
    rw [e, hlow j, List.getElem?_eq_getElem hj]
    have eg : q.getD j 0 = q[j] := by simp [List.getD, hj]
    obtain ⟨y0, y1⟩ := at_ok hok j
    rw [← eg]
    congr 1
    by_cases hl : j = q.length - 1
    · have el : q.getD j 0 = lastB q := by unfold lastB; rw [hl]
      have em : min 8 (lenR q + 1 - 8 * j) = Lib.bitLen (lastB q).toNat := by unfold lenR; omega
      rw [em, el]
      exact low_all a b
    · rw [show min 8 (lenR q + 1 - 8 * j) = 8 by omega]
      have e256 : (2 : Int) ^ 8 = 256 := by decide
      omega
  · rw [List.getElem?_eq_none (by rw [byB_length]; omega), List.getElem?_eq_none (by omega)]
/-- The bits of what was written. -/
theorem bitV_bitC (l : List Int) : ∀ k j r, r < 8 → bitV (bitC l k j) r = if 8 * j + r < k ∧ l.getD (8 * j + r) 0 ≠ 0 then 1 else 0
  | 0, j, r, hr => by simp [bitC, bitV]
  | k + 1, j, r, hr => by
    have ih := bitV_bitC l k j r hr
    obtain ⟨x0, x1⟩ := bitC_byte l k j
    have hlt := (bitC_lt l k j).2
    simp only [bitC]
    by_cases c : j = k / 8 ∧ l.getD k 0 ≠ 0
    · rw [if_pos c]
      obtain ⟨c1, c2⟩ := c
      rw [show min 8 (k - 8 * j) = k % 8 by omega] at hlt
      rw [bit_plus x0 x1 (by omega : k % 8 < 8) hr hlt]
      by_cases e : r = k % 8
      · rw [if_pos e, if_pos ⟨by omega, by rw [show 8 * j + r = k by omega]; exact c2⟩]
      · rw [if_neg e, ih]
        by_cases d : 8 * j + r < k ∧ l.getD (8 * j + r) 0 ≠ 0
        · rw [if_pos d, if_pos ⟨by omega, d.2⟩]
        · rw [if_neg d, if_neg (fun h => d ⟨by have := h.1; omega, h.2⟩)]
    · rw [if_neg c, Int.add_zero, ih]
      by_cases d : 8 * j + r < k ∧ l.getD (8 * j + r) 0 ≠ 0
      · rw [if_pos d, if_pos ⟨by omega, d.2⟩]
      · rw [if_neg d, if_neg (fun h => by
          by_cases e : 8 * j + r = k
          · exact c ⟨by omega, by rw [← e]; exact h.2⟩
          · exact d ⟨by have := h.1; omega, h.2⟩)]
theorem listB_get (l : List Int) (j : Nat) (h : j < l.length / 8 + 1) : (listB l).getD j 0 = bitC (l ++ [1]) (l.length + 1) j := by
  simp [listB, byB, List.getD, h]
theorem last_listB (l : List Int) : lastB (listB l) = bitC (l ++ [1]) (l.length + 1) (l.length / 8) := by
  unfold lastB
  rw [listB_length, Nat.add_sub_cancel, listB_get _ _ (by omega)]
theorem last_bounds (l : List Int) : 2 ^ (l.length % 8) ≤ lastB (listB l) ∧ lastB (listB l) < 2 ^ (l.length % 8 + 1) ∧ lastB (listB l) ≤ 255 := by
  rw [last_listB]
  obtain ⟨x0, x1⟩ := bitC_lt (l ++ [1]) l.length (l.length / 8)
  obtain ⟨_, y1⟩ := bitC_byte (l ++ [1]) (l.length + 1) (l.length / 8)
  rw [show min 8 (l.length - 8 * (l.length / 8)) = l.length % 8 by omega] at x1
  have e : bitC (l ++ [1]) (l.length + 1) (l.length / 8) = bitC (l ++ [1]) l.length (l.length / 8) + 2 ^ (l.length % 8) := by
    simp only [bitC]
    rw [if_pos ⟨trivial, by rw [getD_last l 1 _ rfl]; decide⟩]
  refine ⟨by omega, ?_, y1⟩
  rw [e, Int.pow_succ]
  omega
theorem lenR_listB (l : List Int) : lenR (listB l) = l.length := by
  obtain ⟨a, b, c⟩ := last_bounds l
  have hp := pow2_le (Nat.zero_le (l.length % 8))
  have e1 : (2 : Int) ^ 0 = 1 := by decide
  have h := len_of (y := lastB (listB l)) (by omega) c (by omega : l.length % 8 < 8) a b
  unfold lenR
  rw [h, listB_length]
  omega
theorem lastB_listB_ne (l : List Int) : lastB (listB l) ≠ 0 := by
  obtain ⟨a, _, _⟩ := last_bounds l
  have hp := pow2_le (Nat.zero_le (l.length % 8))
  have e1 : (2 : Int) ^ 0 = 1 := by decide
  omega
theorem errR_listB {l : List Int} (hk : l.length ≤ 64) : errR (listB l) = 0 := by
  unfold errR
  rw [if_neg (by rw [listB_length]; omega), if_neg (lastB_listB_ne l), if_neg (by rw [lenR_listB]; omega)]
theorem bitsR_listB {l : List Int} (hk : l.length ≤ 64) (hok : ∀ x ∈ l, CK.ok .bool x) : bitsR (listB l) = l := by
  unfold bitsR
  rw [if_pos (errR_listB hk), lenR_listB]
  apply List.ext_getElem?
  intro i
  by_cases hi : i < l.length
  · have e : (bitsL (listB l) l.length)[i]? = some (bitR (listB l) i) := by simp [bitsL, hi]
    rw [e, List.getElem?_eq_getElem hi]
    have eg : l.getD i 0 = l[i] := by simp [List.getD, hi]
    rw [← eg]
    congr 1
    unfold bitR
    rw [listB_get _ _ (by omega), bitV_bitC _ _ _ _ (by omega), show 8 * (i / 8) + i % 8 = i by omega, ← getD_snoc l 1 i hi]
    have hb : CK.ok .bool (l.getD i 0) := hok _ (by rw [eg]; exact List.getElem_mem _)
    rcases hb with hb | hb
    · rw [hb, if_neg (fun h => h.2 rfl)]
    · rw [hb, if_pos ⟨by omega, by decide⟩]
  · rw [List.getElem?_eq_none (by rw [bitsL_length]; omega), List.getElem?_eq_none (by omega)]
theorem errR_zero {q : List Int} (h : errR q = 0) : q.length ≠ 0 ∧ lastB q ≠ 0 ∧ lenR q ≤ 64 := by
  unfold errR at h
  by_cases c1 : q.length = 0
  · rw [if_pos c1] at h; cases h
  · rw [if_neg c1] at h
    by_cases c2 : lastB q = 0
    · rw [if_pos c2] at h; cases h
    · rw [if_neg c2] at h
      by_cases c3 : 64 < lenR q
      · rw [if_pos c3] at h; cases h
      · exact ⟨c1, c2, by omega⟩
theorem bitsR_length {q : List Int} (h : errR q = 0) : (bitsR q).length = lenR q := by
  unfold bitsR
  rw [if_pos h, bitsL_length]
end Go.Proofs.YtihelknkcomjpaaDoor
