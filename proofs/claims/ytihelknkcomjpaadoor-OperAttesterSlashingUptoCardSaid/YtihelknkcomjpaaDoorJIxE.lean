/- pharosref08.EncIndexed: the bytes of an indexed attestation. -/
/- The root of an indexed attestation: oper.RootIndexed, pharosref08.RootIndexed. -/
/- pharosref08.RootIndexed: the root of an indexed attestation, the reference's. -/
import Derived.Test.YtihelknkcomjpaaDoorJHshX
import Derived.Test.YtihelknkcomjpaaDoorJIxA
import Derived.Test.YtihelknkcomjpaaDoorKSmData
import Derived.Test.YtihelknkcomjpaaDoorJMkE
import Derived.Test.YtihelknkcomjpaaDoorKSrData
set_option linter.unusedVariables false
set_option linter.unusedSimpArgs false
set_option linter.unnecessarySimpa false
namespace Go.Proofs.YtihelknkcomjpaaDoor
open Go.RowKit BigFrame
set_option maxRecDepth 100000
set_option maxHeartbeats 4000000 in
theorem number8_any (m : Int) (w : World) :
    Calls Tryd.prog 69 #[.int .u64 m] w fun e w' => (∃ va c, e = .returned (.slice va 8 c) ∧ (va = none → c = 0) ∧ OwnB w.heap.size (.slice va 8 c) (numL m) w') ∧ Below w.heap.size w w' := by
  have hm1 := Lib.hid (rbytes_any m w)
  go_enter Tryd.func69, Tryd.ntmps69
  go_wp2_with (first
    | ((with_reducible refine hm1.out.mono ?_)
       rintro e W ⟨rfl, hbW⟩
       have hbW' := Lib.hid hbW
       clear hbW)
    | ((with_reducible refine at_alloc 155 ?_); go_loud (refine wpList_alloc_store rfl rfl 155 3 _ rfl rfl rfl (numV m) rfl rfl (zeroOf Tryd.prog 155) (row_zero row_b8).1 (row_zero row_b8).2 (numV_one _) ?_)
       have hn := Lib.hid (heap_new W (numV m) 155 W.heap.size rfl)
       have hb1 := Lib.hid (hbW'.out.alloc hbW'.out.size (.cells (numV m) 155))
       have hsz := hb1.out.size)
    | ((with_reducible refine at_call_builtin .append ?_); go_loud (refine wpList_app rfl (.tmp 6) (.tmp 7) rfl w.heap.size [] (numL m) _ rfl (OwnB.new (Nat.le_trans hbW'.out.size (by simp)) [] (by decide) (heap_new _ _ _ _ (by simp))) (some ⟨W.heap.size, 0, none⟩) 8 (by rw [numL_length]; rfl) (row_num_at (heap_past _ _ _ _ hn.out)) (by simp [numL_length]) (Nat.le_trans hsz (by simp)) (fun h => by cases h) (hb1.out.alloc hsz _) ?_)
       intro v1 W1 h1 b1 z1
       obtain ⟨va1, c1, e1, hv1⟩ := own_form h1
       subst e1))
  exact ret_t1 rfl _ rfl rfl ⟨⟨va1, c1, by simp [numL_length], hv1, by simpa [numL_length] using h1⟩, b1⟩
theorem layIdx (who : List Int) (fd fs : Nat → Int) : layU [0, 128, 96] [numsL who, encLData fd, byL fs 0 96] = encLIdx who fd fs := by
  simp [layU, layK, headN, encLIdx]
theorem fitIdx (who : List Int) (fd fs : Nat → Int) (i : Nat) (hi : i < 3) (hz : [0, 128, 96].getD i 0 ≠ 0) : ([numsL who, encLData fd, byL fs 0 96].getD i []).length = [0, 128, 96].getD i 0 := by
  match i, hi with
  | 0, _ => exact absurd rfl hz
  | 1, _ => exact encData_length fd
  | 2, _ => exact byL_length _ _ _
set_option maxHeartbeats 8000000 in
theorem rencL_Idx (who : List Int) (vw : Option Addr) (cw : Nat) (fd fs : Nat → Int) (hd0 : ∀ j, j < 100 → (kdData j).ok (fd j)) (hs0 : ∀ j, j < 96 → CK.ok .u8 (fs j)) (w : World) (hw0 : Row w vw .u64 who) (hk : 64 < who.length) (hfew : who.length ≤ 1000000000) :
    Calls Tryd.prog 23 #[.agg (idxC (.slice vw who.length cw) fd fs).toArray] w fun e w' => e = .returned (.tuple #[.slice none 0 0, .int .i64 6]) ∧ Below w.heap.size w w' := by
  have hd := Lib.hid hd0
  have hs := Lib.hid hs0
  have hw := Lib.hid hw0
  clear hd0 hs0 hw0
  have t1 : decide ((64 : Int) < (who.length : Int)) = true := by simp; omega
  go_enter Tryd.func23, Tryd.ntmps23
  go_wp2_with (first
    | ((with_reducible refine at_box 61 ?_); go_loud (refine wpList_box rfl 61 _ rfl _ rfl ?_)
       refine gen_l (fun W => RefX w.heap.size (idxC (.slice vw who.length cw) fd fs) 61 [] w W) (RefX.begin (heap_new _ _ _ _ rfl) rfl) ?_
       intro W hS0
       have hS := Lib.hid hS0
       clear hS0)
    | ((with_reducible refine at_load 55 ?_); refine wpList_value (by rfl) _ (run_load_cell _ 55 _ (by rfl) ⟨w.heap.size, 0, none⟩ (by rfl) (.slice vw who.length cw) (hS.out.toBoxL.cell 0) _ Tryd.underlying55 rfl) ?_))
  exact ret_t2 rfl _ _ rfl rfl rfl ⟨rfl, hS.out.hB⟩
set_option maxHeartbeats 8000000 in
theorem renc_Idx (who : List Int) (vw : Option Addr) (cw : Nat) (fd fs : Nat → Int) (hd0 : ∀ j, j < 100 → (kdData j).ok (fd j)) (hs0 : ∀ j, j < 96 → CK.ok .u8 (fs j)) (w : World) (hw0 : Row w vw .u64 who) (hk : who.length ≤ 64) :
    Calls Tryd.prog 23 #[.agg (idxC (.slice vw who.length cw) fd fs).toArray] w fun e w' => (∃ va c, e = .returned (.tuple #[.slice va (228 + 8 * who.length) c, .int .i64 0]) ∧ (va = none → c = 0) ∧ OwnB w.heap.size (.slice va (228 + 8 * who.length) c) (encLIdx who fd fs) w') ∧ Below w.heap.size w w' := by
  have hd := Lib.hid hd0
  have hs := Lib.hid hs0
  have hw := Lib.hid hw0
  clear hd0 hs0 hw0
  have t1 : decide ((64 : Int) < (who.length : Int)) = false := by simp; omega
  go_enter Tryd.func23, Tryd.ntmps23
  go_wp2_with (first
    | ((with_reducible refine at_box 61 ?_); go_loud (refine wpList_box rfl 61 _ rfl _ rfl ?_)
       refine gen_l (fun W => RefX w.heap.size (idxC (.slice vw who.length cw) fd fs) 61 [] w W) (RefX.begin (heap_new _ _ _ _ rfl) rfl) ?_
       intro W hS0
       have hS := Lib.hid hS0
       clear hS0)
    | ((with_reducible refine at_load 55 ?_); refine wpList_value (by rfl) _ (run_load_cell _ 55 _ (by rfl) ⟨w.heap.size, 0, none⟩ (by rfl) (.slice vw who.length cw) (hS.out.toBoxL.cell 0) _ Tryd.underlying55 rfl) ?_))
  have hf8 := numsL_length
  obtain ⟨N, hN⟩ : ∃ N, N = W.heap.size := ⟨_, rfl⟩
  have hNw : w.heap.size + 1 ≤ N := by rw [hN]; exact block_lt hS.out.hX
  have hNW := Lib.hid (Nat.le_of_eq hN)
  clear hN
  go_loopw [5, 8, 9] (fun p i _ wr => ∃ k : Nat, k ≤ who.length ∧ i = .int .i64 (k : Int) ∧ RefX w.heap.size (idxC (.slice vw who.length cw) fd fs) 61 [] w wr ∧ (∃ va c, p = .slice va (8 * k) c) ∧ OwnB N p (numsL (who.take k)) wr ∧ N ≤ wr.heap.size) (fun _ i _ _ => who.length - (intOf i).toNat)
  case atStart => exact ⟨0, by omega, rfl, hS.out, ⟨none, 0, rfl⟩, OwnB.nil _ _, hNW.out⟩
  case round =>
    obtain ⟨k, hk2, rfl, hS1, ⟨va, c, rfl⟩, hP1, hz1⟩ := hrel
    clear hS hNW
    have hS := Lib.hid hS1
    have hP := Lib.hid hP1
    clear hS1 hP1
    by_cases hlt : k < who.length
    · obtain ⟨bw, ow, rfl, hc0⟩ := (hw.out.later hS.out.hB).cell k hlt
      have hc := Lib.hid hc0
      have hnt := Lib.hid (numsL_take who k hlt)
      have hln := Lib.hid (show (numsL (who.take k)).length = 8 * k by rw [numsL_length, List.length_take]; omega)
      clear hc0
      generalize who.getD k 0 = m at *
      generalize numsL (who.take k) = q at *
      generalize hq2 : numsL (who.take (k + 1)) = q2 at *
      have hq2' := Lib.hid hq2
      clear hq2
      have lk : (k : Int) < (who.length : Int) := by omega
      go_wp2_with (first
        | ((with_reducible refine at_load 55 ?_); refine wpList_value (by rfl) _ (run_load_cell _ 55 _ (by rfl) ⟨w.heap.size, 0, none⟩ (by rfl) (.slice (some ⟨bw, ow, none⟩) who.length cw) (hS.out.toBoxL.cell 0) _ Tryd.underlying55 rfl) ?_)
        | ((with_reducible refine at_iaddr 55 ?_); go_loud (refine wpList_value (by rfl) _ (run_index_slice _ 55 27 _ _ rfl Tryd.underlying55 1 sz_u64 bw ow who.length cw rfl .i64 k rfl hlt (ow + k) (by omega)) ?_))
        | ((with_reducible refine at_load 27 ?_); go_loud (refine wpList_value (by rfl) _ (run_load_cell _ 27 _ (by rfl) ⟨bw, ow + k, none⟩ (by rfl) (.int .u64 m) hc.out _ Tryd.underlying27 rfl) ?_))
        | ((with_reducible refine (number8_any m _).mono ?_)
           rintro e1 W2 ⟨⟨vn, cn, rfl, hn1, hO1⟩, hb1⟩
           have hS2 := Lib.hid (hS.out.later hb1)
           have hP2 := Lib.hid (own_later hP.out hb1)
           have hO2 := Lib.hid (SlB.of_own hO1 (numL_ok m) hn1)
           have hz2 := hb1.size
           clear hb1 hO1 hn1)
        | ((with_reducible refine at_app 34 ?_); go_loud (refine wpList_app (w0 := W2) rfl (.tmp 27) (.tmp 28) rfl N q (numL m) _ rfl (by unfold OwnB; rw [hln.out]; exact (by have h := hP2.out; rw [hln.out] at h; exact h)) vn cn (by rw [numL_length]; rfl) hO2.out.row (by rw [hln.out, numL_length]; omega) (by omega) hO2.out.nil (Below.refl _ _) (fun v1 W3 h1 b1 z1 => ?_))
           obtain ⟨va1, c1, e1, hv1⟩ := own_form h1
           rw [List.length_append, hln.out, numL_length] at e1
           subst e1
           have hS3 := Lib.hid (show RefX w.heap.size (idxC (.slice (some ⟨bw, ow, none⟩) who.length cw) fd fs) 61 [] w W3 from ⟨hS2.out.toBoxL.later (b1.mono hNw), fun p hp => by simp at hp⟩)
           have h1' := Lib.hid h1
           clear h1 hv1))
      first
        | exact ⟨⟨k + 1, by omega, by go_num, hS3.out, ⟨va1, c1, rfl⟩, by rw [hq2'.out, hnt.out]; exact h1'.out, z1⟩, by simp [intOf]; omega⟩
        | (refine ⟨?_, by simp [intOf]; omega⟩
           (repeat apply Exists.intro)
           exact ⟨⟨k + 1, by omega, by go_num, hS3.out, ⟨va1, c1, rfl⟩, by rw [hq2'.out, hnt.out]; exact h1'.out, z1⟩, rfl⟩)
    · have e0 : k = who.length := by omega
      subst e0
      rw [List.take_length] at hP
      have hnv : va = none → c = 0 := by
        obtain ⟨va', c', e', hn'⟩ := own_form hP.out
        injection e' with e5 e6 e7
        subst e5
        subst e7
        exact hn'
      have hnl := numsL_length who
      have hS2 := hS.out.add (SlB.of_own (by have h := hP.out; exact h) (numsL_ok who) hnv) hnl
      clear hS hP hnv
      have hS := Lib.hid hS2
      clear hS2
      go_wp2_with (first
        | ((with_reducible refine at_load 55 ?_); refine wpList_value (by rfl) _ (run_load_cell _ 55 _ (by rfl) ⟨w.heap.size, 0, none⟩ (by rfl) (.slice vw who.length cw) (hS.out.toBoxL.cell 0) _ Tryd.underlying55 rfl) ?_)
        | ((with_reducible refine at_load 59 ?_); refine wpList_value (by rfl) _ (run_load_rows _ 59 _ (by rfl) w.heap.size 1 rfl (fcells 100 kdData fd) _ (range_midL hS.out.hX (pre := [.slice vw who.length cw]) rfl 1 rfl) Tryd.underlying59 rfl (by rw [row_size rowData, fcells_length])) ?_)
        | ((with_reducible refine (renc_Data fd hd.out _).mono ?_)
           rintro e W2 ⟨⟨va1, c1, rfl, hn1, ho1⟩, hb1⟩
           have hS1 := (hS.out.later hb1).add (SlB.of_own ho1 (encData_ok hd.out) hn1) (encData_length _)
           clear hn1 ho1 hb1
           clear hS
           have hS := Lib.hid hS1
           clear hS1)
        | ((with_reducible refine at_bslice 34 ?_); go_loud (refine wpList_plain rfl fun K hK => wp_build0 rfl (hK _ _ ?_)); clear hK K)
        | ((with_reducible refine at_app 34 ?_); refine wpList_app (w0 := W2) rfl _ _ rfl W2.heap.size [] (byL fs 0 96) _ rfl (OwnB.new (Nat.le_refl _) [] (by decide) (heap_new _ _ _ _ rfl)) (some ⟨w.heap.size, 101, none⟩) 96 rfl ((hS.out.toBoxL.sl (pre := .slice vw who.length cw :: fcells 100 kdData fd) (post := []) (by simp [idxC]) (by simp [fcells_length]) hs.out).row.later ((Below.refl _ _).alloc (Nat.le_refl _) _)) (by simp [byL_length]) (by simp) (fun h => by cases h) ((Below.refl _ _).alloc (Nat.le_refl _) _) (fun v1 W3 h1 b1 z1 => ?_)
           obtain ⟨va3, c3, e3, hS1⟩ := hS.out.own h1 b1 (byL_ok fun j hj => by rw [Nat.zero_add]; exact hs.out j hj) (byL_length _ _ _)
           subst e3
           clear h1 b1 z1 hS
           have hS := Lib.hid hS1
           clear hS1)
        | ((with_reducible refine (RefX.layu hS.out (k := 3) (S := 228 + 8 * who.length) (L := encLIdx who fd fs) [0, 128, 96] ?hV ?hZ rfl rfl (by decide) (by decide) (by decide) ?hF ?hL (encIdx_length who fd fs) (by omega)).mono ?hM)
           case hV => rfl
           case hZ => rfl
           case hF => exact fitIdx who fd fs
           case hL => exact layIdx who fd fs
           rintro e W ⟨⟨va, c, rfl, hva, hOw⟩, hBf⟩
           have hOw1 := Lib.hid hOw
           have hva1 := Lib.hid hva
           clear hOw hva))
      exact ret_t2 rfl _ _ rfl rfl rfl ⟨⟨va, c, rfl, hva1.out, hOw1.out⟩, hBf⟩
end Go.Proofs.YtihelknkcomjpaaDoor
namespace Go.Proofs.YtihelknkcomjpaaDoor
open Go.RowKit BigFrame
set_option maxRecDepth 100000
def rootIdx (who : List Int) (fd fs : Nat → Int) : Nat → Int := fullT 2 (leaf [sha2 (whoR who) (numR (who.length : Int)), rootData fd, byR 2 (byL fs 0 96)])
theorem rootIdx_is {who : List Int} {fd fs : Nat → Int} (hd : ∀ j, j < 100 → (kdData j).ok (fd j)) (hs : ∀ j, j < 96 → CK.ok .u8 (fs j)) : IsR (rootIdx who fd fs) :=
  fullT_is 2 (leaf_is (is_cons (sha2_is _ _) (is_cons (rootData_is hd) (is_cons (byR_is (byL_ok fun j hj => by rw [Nat.zero_add]; exact hs j hj)) is_nil))))
set_option maxHeartbeats 8000000 in
theorem root_Idx (who : List Int) (vw : Option Addr) (cw : Nat) (fd fs : Nat → Int) (hd0 : ∀ j, j < 100 → (kdData j).ok (fd j)) (hs0 : ∀ j, j < 96 → CK.ok .u8 (fs j)) (w : World) (hT0 : Tabs w) (hw0 : Row w vw .u64 who) (hk : who.length ≤ 64) :
    Calls Tryd.prog 22 #[.agg (idxC (.slice vw who.length cw) fd fs).toArray] w fun e w' => e = .returned (.tuple #[.agg (rootV (rootIdx who fd fs)), .int .i64 0]) ∧ Below w.heap.size w w' := by
  have hd := Lib.hid hd0
  have hs := Lib.hid hs0
  have hw := Lib.hid hw0
  have hT := Lib.hid hT0
  clear hd0 hs0 hw0 hT0
  have t1 : decide ((64 : Int) < (who.length : Int)) = false := by simp; omega
  have hRd := Lib.hid (rootData_is hd.out)
  have hRs := Lib.hid (sha2_is (whoR who) (numR (who.length : Int)))
  have hRi := Lib.hid (show IsR (whoR who) from whoR_is who)
  go_enter Tryd.func22, Tryd.ntmps22
  go_wp2_with (first
    | ((with_reducible refine at_alloc 23 ?_); refine wpList_plain rfl fun K hK => wp_alloc_row 23 rfl 2 rfl zr 32 info_zr (hK _ _ ?_); clear hK K)
    | ((with_reducible refine at_alloc 90 ?_); go_loud (refine wpList_plain rfl fun K hK => wp_alloc_row 90 rfl 4 rfl _ 2 info_hash (hK _ _ ?_)); clear hK K
       refine gen_l (fun W => HashX w.heap.size (idxC (.slice vw who.length cw) fd fs) 61 0 [] w W) (HashX.begin (heap_new _ _ _ _ rfl) rfl hT.out) ?_
       intro W hS0
       have hS := Lib.hid hS0
       clear hS0)
    | ((with_reducible refine at_load 55 ?_); refine wpList_value (by rfl) _ (run_load_cell _ 55 _ (by rfl) ⟨w.heap.size, 0, none⟩ (by rfl) (.slice vw who.length cw) (by first | exact hS.out.toBoxL.cell 0 | exact hc0.out) _ Tryd.underlying55 rfl) ?_)
    | ((with_reducible refine at_build 23 ?_); go_loud (refine wpList_value (by rfl) _ (run_build_root0 _ rfl) ?_))
    | ((with_reducible refine (HashX.put hS.out zeroR 6 zeroR_is (by decide)).mono ?_)
       rintro e W ⟨rfl, hS1⟩
       rw [if_pos rfl] at hS1
       clear hS
       have hS := Lib.hid hS1
       clear hS1)
    | ((with_reducible refine (nums_any who vw cw _ (hw.out.later hS.out.hB) hS.out.hT hk).mono ?_)
       rintro e W ⟨rfl, hb1⟩
       have hS1 := hS.out.later hb1
       clear hb1
       clear hS
       have hS := Lib.hid hS1
       clear hS1)
    | ((with_reducible refine at_alloc 23 ?_); refine wpList_alloc_store rfl rfl 23 _ _ rfl rfl rfl (rootV (whoR who)) rfl rfl (zeroOf Tryd.prog 23) (row_zero row_root).1 (row_zero row_root).2 (fcells_one _ _ _) ?_
       have hS1 := hS.out.later (W' := W.alloc (.cells (rootV (whoR who)) 23)) ((Below.refl _ W).alloc (Nat.le_refl _) _)
       have hc0 := Lib.hid (hS1.toBoxL.cell 0)
       have hr0 := Lib.hid (heap_new W (rootV (whoR who)) 23 W.heap.size rfl))
    | ((with_reducible refine at_load 23 ?_); refine wpList_value (by rfl) _ (run_load_box _ 23 _ (by rfl) _ rfl _ _ (0, 0) _ hr0.out Tryd.underlying23 rfl (by rw [row_size row_root]; simp [fcells])) ?_
       clear hS hr0 hc0
       refine gen_l _ hS1 ?_
       clear hS1
       intro W hS0
       have hS := Lib.hid hS0
       clear hS0)
    | ((with_reducible refine (mmix_any (whoR who) (who.length : Int) _ hRi.out hS.out.hT).mono ?_)
       rintro e W ⟨rfl, hb1⟩
       have hS1 := hS.out.later hb1
       clear hb1
       clear hS
       have hS := Lib.hid hS1
       clear hS1)
    | ((with_reducible refine (HashX.put hS.out (sha2 (whoR who) (numR (who.length : Int))) 0 hRs.out (by simp)).mono ?_)
       rintro e W ⟨rfl, hS1⟩
       first | rw [if_pos rfl] at hS1 | rw [if_neg (by decide)] at hS1
       clear hS
       have hS := Lib.hid hS1
       clear hS1)
    | ((with_reducible refine at_load 59 ?_); refine wpList_value (by rfl) _ (run_load_rows _ 59 _ (by rfl) w.heap.size 1 rfl (fcells 100 kdData fd) _ (range_midL hS.out.hX (pre := [.slice vw who.length cw]) rfl 1 rfl) Tryd.underlying59 rfl (by rw [row_size rowData, fcells_length])) ?_)
    | ((with_reducible refine (root_Data fd hd.out _ hS.out.hT).mono ?_)
       rintro e W ⟨rfl, hb1⟩
       have hS1 := hS.out.later hb1
       clear hb1
       clear hS
       have hS := Lib.hid hS1
       clear hS1)
    | ((with_reducible refine (HashX.put hS.out (rootData fd) 0 hRd.out (by simp)).mono ?_)
       rintro e W ⟨rfl, hS1⟩
       first | rw [if_pos rfl] at hS1 | rw [if_neg (by decide)] at hS1
       clear hS
       have hS := Lib.hid hS1
       clear hS1)
    | ((with_reducible refine (HashX.bytes hS.out (byL fs 0 96) _ 96 96 2 (hS.out.sl (pre := .slice vw who.length cw :: fcells 100 kdData fd) (post := []) (by simp [idxC]) (by simp [fcells_length]) hs.out) (byL_length _ _ _) (by decide) (by decide) (by unfold Dep; decide) (by decide) (by simp)).mono ?_)
       rintro e W ⟨rfl, hS1⟩
       clear hS
       have hS := Lib.hid hS1
       clear hS1)
    | ((with_reducible refine (HashX.doneE hS.out (by decide)).mono ?_)
       rintro e W ⟨rfl, hBf, hRf⟩
       have hRf1 := Lib.hid hRf
       have hbs := hBf.size
       clear hRf hS)
    | ((with_reducible refine (HashX.done hS.out 2 (by simp [Dep]) (by simp) (by decide)).mono ?_)
       rintro e W ⟨rfl, hBf, hRf⟩
       have hRf1 := Lib.hid hRf
       have hbs := hBf.size
       clear hRf hS)
    | ((with_reducible refine at_store 23 ?_); go_loud (refine wpList_store_row_gen (w0 := w) (n0 := w.heap.size) 23 _ _ rfl rfl (w.heap.size + 1) rfl _ rfl (fcells_one _ _ _) (by rw [row_size row_root]; simp [fcells]) _ 23 hRf1.out (by rw [zr_size]; simp [fcells]) (by omega) hBf (fun W9 hW9 hBW _ => ?_))))
  exact ret_mid_tmp rfl (w.heap.size + 1) 0 (fcells 32 (fun _ => .u8) (rootIdx who fd fs)) _ rfl hW9 Tryd.underlying23 rfl (by rw [row_size row_root, fcells_length]) rfl ⟨rfl, hBW⟩
set_option maxHeartbeats 8000000 in
theorem rootL_Idx (who : List Int) (vw : Option Addr) (cw : Nat) (fd fs : Nat → Int) (hd0 : ∀ j, j < 100 → (kdData j).ok (fd j)) (hs0 : ∀ j, j < 96 → CK.ok .u8 (fs j)) (w : World) (hT0 : Tabs w) (hw0 : Row w vw .u64 who) (hk : 64 < who.length) (hfew : who.length ≤ 1000000000) :
    Calls Tryd.prog 22 #[.agg (idxC (.slice vw who.length cw) fd fs).toArray] w fun e w' => e = .returned (.tuple #[.agg (rootV zeroR), .int .i64 6]) ∧ Below w.heap.size w w' := by
  have hd := Lib.hid hd0
  have hs := Lib.hid hs0
  have hw := Lib.hid hw0
  have hT := Lib.hid hT0
  clear hd0 hs0 hw0 hT0
  have t1 : decide ((64 : Int) < (who.length : Int)) = true := by simp; omega
  have hRd := Lib.hid (rootData_is hd.out)
  have hRs := Lib.hid (sha2_is (zeroR) (numR (who.length : Int)))
  have hRi := Lib.hid (show IsR (zeroR) from zeroR_is)
  go_enter Tryd.func22, Tryd.ntmps22
  go_wp2_with (first
    | ((with_reducible refine at_alloc 23 ?_); refine wpList_plain rfl fun K hK => wp_alloc_row 23 rfl 2 rfl zr 32 info_zr (hK _ _ ?_); clear hK K)
    | ((with_reducible refine at_alloc 90 ?_); go_loud (refine wpList_plain rfl fun K hK => wp_alloc_row 90 rfl 4 rfl _ 2 info_hash (hK _ _ ?_)); clear hK K
       refine gen_l (fun W => HashX w.heap.size (idxC (.slice vw who.length cw) fd fs) 61 0 [] w W) (HashX.begin (heap_new _ _ _ _ rfl) rfl hT.out) ?_
       intro W hS0
       have hS := Lib.hid hS0
       clear hS0)
    | ((with_reducible refine at_load 55 ?_); refine wpList_value (by rfl) _ (run_load_cell _ 55 _ (by rfl) ⟨w.heap.size, 0, none⟩ (by rfl) (.slice vw who.length cw) (by first | exact hS.out.toBoxL.cell 0 | exact hc0.out) _ Tryd.underlying55 rfl) ?_)
    | ((with_reducible refine at_build 23 ?_); go_loud (refine wpList_value (by rfl) _ (run_build_root0 _ rfl) ?_))
    | ((with_reducible refine (HashX.put hS.out zeroR 6 zeroR_is (by decide)).mono ?_)
       rintro e W ⟨rfl, hS1⟩
       rw [if_pos rfl] at hS1
       clear hS
       have hS := Lib.hid hS1
       clear hS1)
    | ((with_reducible refine (nums_long who vw cw _ (hw.out.later hS.out.hB) hS.out.hT hk hfew).mono ?_)
       rintro e W ⟨rfl, hb1⟩
       have hS1 := hS.out.later hb1
       clear hb1
       clear hS
       have hS := Lib.hid hS1
       clear hS1)
    | ((with_reducible refine at_alloc 23 ?_); refine wpList_alloc_store rfl rfl 23 _ _ rfl rfl rfl (rootV (zeroR)) rfl rfl (zeroOf Tryd.prog 23) (row_zero row_root).1 (row_zero row_root).2 (fcells_one _ _ _) ?_
       have hS1 := hS.out.later (W' := W.alloc (.cells (rootV (zeroR)) 23)) ((Below.refl _ W).alloc (Nat.le_refl _) _)
       have hc0 := Lib.hid (hS1.toBoxL.cell 0)
       have hr0 := Lib.hid (heap_new W (rootV (zeroR)) 23 W.heap.size rfl))
    | ((with_reducible refine at_load 23 ?_); refine wpList_value (by rfl) _ (run_load_box _ 23 _ (by rfl) _ rfl _ _ (0, 0) _ hr0.out Tryd.underlying23 rfl (by rw [row_size row_root]; simp [fcells])) ?_
       clear hS hr0 hc0
       refine gen_l _ hS1 ?_
       clear hS1
       intro W hS0
       have hS := Lib.hid hS0
       clear hS0)
    | ((with_reducible refine (mmix_any (zeroR) (who.length : Int) _ hRi.out hS.out.hT).mono ?_)
       rintro e W ⟨rfl, hb1⟩
       have hS1 := hS.out.later hb1
       clear hb1
       clear hS
       have hS := Lib.hid hS1
       clear hS1)
    | ((with_reducible refine (HashX.put hS.out (sha2 (zeroR) (numR (who.length : Int))) 6 hRs.out (by simp)).mono ?_)
       rintro e W ⟨rfl, hS1⟩
       first | rw [if_pos rfl] at hS1 | rw [if_neg (by decide)] at hS1
       clear hS
       have hS := Lib.hid hS1
       clear hS1)
    | ((with_reducible refine at_load 59 ?_); refine wpList_value (by rfl) _ (run_load_rows _ 59 _ (by rfl) w.heap.size 1 rfl (fcells 100 kdData fd) _ (range_midL hS.out.hX (pre := [.slice vw who.length cw]) rfl 1 rfl) Tryd.underlying59 rfl (by rw [row_size rowData, fcells_length])) ?_)
    | ((with_reducible refine (root_Data fd hd.out _ hS.out.hT).mono ?_)
       rintro e W ⟨rfl, hb1⟩
       have hS1 := hS.out.later hb1
       clear hb1
       clear hS
       have hS := Lib.hid hS1
       clear hS1)
    | ((with_reducible refine (HashX.put hS.out (rootData fd) 0 hRd.out (by simp)).mono ?_)
       rintro e W ⟨rfl, hS1⟩
       first | rw [if_pos rfl] at hS1 | rw [if_neg (by decide)] at hS1
       clear hS
       have hS := Lib.hid hS1
       clear hS1)
    | ((with_reducible refine (HashX.bytes hS.out (byL fs 0 96) _ 96 96 2 (hS.out.sl (pre := .slice vw who.length cw :: fcells 100 kdData fd) (post := []) (by simp [idxC]) (by simp [fcells_length]) hs.out) (byL_length _ _ _) (by decide) (by decide) (by unfold Dep; decide) (by decide) (by simp)).mono ?_)
       rintro e W ⟨rfl, hS1⟩
       clear hS
       have hS := Lib.hid hS1
       clear hS1)
    | ((with_reducible refine (HashX.doneE hS.out (by decide)).mono ?_)
       rintro e W ⟨rfl, hBf, hRf⟩
       have hRf1 := Lib.hid hRf
       have hbs := hBf.size
       clear hRf hS)
    | ((with_reducible refine (HashX.done hS.out 2 (by simp [Dep]) (by simp) (by decide)).mono ?_)
       rintro e W ⟨rfl, hBf, hRf⟩
       have hRf1 := Lib.hid hRf
       have hbs := hBf.size
       clear hRf hS)
    | ((with_reducible refine at_store 23 ?_); go_loud (refine wpList_store_row_gen (w0 := w) (n0 := w.heap.size) 23 _ _ rfl rfl (w.heap.size + 1) rfl _ rfl (fcells_one _ _ _) (by rw [row_size row_root]; simp [fcells]) _ 23 hRf1.out (by rw [zr_size]; simp [fcells]) (by omega) hBf (fun W9 hW9 hBW _ => ?_))))
  exact ret_mid_tmp rfl (w.heap.size + 1) 0 (fcells 32 (fun _ => .u8) (zeroR)) _ rfl hW9 Tryd.underlying23 rfl (by rw [row_size row_root, fcells_length]) rfl ⟨rfl, hBW⟩
end Go.Proofs.YtihelknkcomjpaaDoor
namespace Go.Proofs.YtihelknkcomjpaaDoor
open Go.RowKit BigFrame
set_option maxRecDepth 100000
theorem leaf_set (rs : List (Nat → Int)) (r : Nat → Int) (k i : Nat) (hk : k < rs.length) : leaf (rs.set k r) i = if i = k then r else leaf rs i := by
  unfold leaf
  simp only [List.getD, List.getElem?_set]
  by_cases e : k = i
  · subst e; simp [hk]
  · rw [if_neg e, if_neg (fun h => e h.symm)]
section
variable {n : Nat} {C : List Value} {t tc : TypeId} {K : Nat} {rs : List (Nat → Int)} {w W W' : World}
/-- A root is laid anew. -/
theorem wpList_rootVs {ops : Array Oper} {rest : List Oper} {o : Oper} {a : Act} {Q : Exit → Act → World → Prop} (hg : o.guard = none) (x y : Operand) (ho : o.op = .store 23 x y) (i : Nat) (r : Nat → Int) (hx : a.eval x = .pointer (some ⟨n + 1 + 1, 32 * i, none⟩)) (hy : a.eval y = .agg (rootV r)) (h : RefV n C t tc K rs w W) (hi : i < rs.length) (hK : i < K) (hr : IsR r)
    (hk : ∀ W', RefV n C t tc K (rs.set i r) w W' → wpList Tryd.prog ops Q rest (a.put o.dst undef) W') : wpList Tryd.prog ops Q (o :: rest) a W := by
  obtain ⟨Z, h1, h2, h3⟩ := h.hC
  have hs := h.size
  have ht : W.there (n + 1 + 1) (32 * i) (rootV r).size := fun j hj => by
    have hj : j < 32 := by simpa [fcells] using hj
    refine ⟨?_, Joins.unfrozen_of_block h1 _⟩
    rw [cell_of_row W (n + 1 + 1) _ Z _ _ h1, h3 i hK j hj]
    rfl
  refine wpList_plain hg fun Kc hKc => wp_store_mid 23 x y ho (n + 1 + 1) (32 * i) (rootV r) hx hy ht (by rw [row_size row_root]; simp [fcells]) (fcells_one _ _ _) (hKc _ _ (hk _ ?_))
  have hA : Apart (n + 1 + 1) W (W.setCells (n + 1 + 1) (32 * i) (rootV r).toList) := (Apart.refl _ _).setCells _ _ _ (Or.inl rfl)
  obtain ⟨Z', h5, h6⟩ := splice_setCells (n + 1 + 1) (rootV r).toList (32 * i) W Z _ h1
  have hsame := World.rangeAt_setCells_same W (n + 1 + 1) (32 * i) (rootV r).toList (by simpa using ht)
  have hB2 : Below n w (W.setCells (n + 1 + 1) (32 * i) (rootV r).toList) := hA.below h.hB (by omega) (by omega)
  refine ⟨⟨(hA.block n (by omega) (by omega)).trans h.hX, hB2⟩, (hA.block _ (by omega) (by omega)).trans h.hR, ⟨Z', h5, h6.trans h2, fun i' hi' j hj => ?_⟩, fun q hq => ?_, ?_, h.h3⟩
  · rw [← cell_of_row _ (n + 1 + 1) (32 * i' + j) Z' _ _ h5, leaf_set _ _ _ _ hi]
    by_cases e : i' = i
    · subst e
      rw [if_pos rfl]
      exact hsame j _ (fcells_get 32 (fun _ => .u8) r j hj)
    · rw [if_neg e, World.cell?_setCells_out (n + 1 + 1) _ _ W ⟨n + 1 + 1, 32 * i' + j, none⟩ (fun _ _ => by simp [fcells]; omega), cell_of_row W (n + 1 + 1) _ Z _ _ h1]
      exact h3 i' hi' j hj
  · rcases List.mem_or_eq_of_mem_set hq with hq | hq
    · exact h.is q hq
    · rw [hq]; exact hr
  · exact h.hT.below (by have := h.h3; omega) (hA.below (Below.refl (n + 1 + 1) W) (Nat.le_refl _) (by omega))
theorem RefV.rootAt (h : RefV n C t tc K rs w W) (i : Nat) (hi : i < K) (r : Nat → Int) (hr : leaf rs i = r) : W.rangeAt (n + 1 + 1) (32 * i) (fcells 32 (fun _ => .u8) r) := by
  subst hr
  obtain ⟨Z, h1, h2, h3⟩ := h.hC
  intro j v hv
  have hj : j < 32 := by have := (List.getElem?_eq_some_iff.1 hv).1; rwa [fcells_length] at this
  rw [fcells_get _ _ _ _ hj] at hv
  rw [cell_of_row W (n + 1 + 1) _ _ _ _ h1, h3 i hi j hj]
  exact hv
theorem RefV.pack0 (h : RefV n C t tc K rs w W) (l : List Int) (va : Option Addr) (c k q : Nat) (hl : SlB va c l W) (hk : l.length = k) (hq : (k + 31) / 32 = q) (h2 : k ≤ 1000000000) :
    Calls Tryd.prog 71 #[.slice va k c] W fun e w' => ∃ va' c', e = .returned (.slice va' q c') ∧ RowR w' va' (chunks l) ∧ (∀ b o, va' = some ⟨b, o, none⟩ → b < w'.heap.size) ∧ q ≤ c' ∧ RefV n C t tc K rs w w' := by
  subst hk
  refine (rpack_any l va c W hl.row hl.low (by omega)).mono fun _ _ ⟨⟨va', c', h3, h4⟩, h5⟩ => ?_
  have hq' : (chunks l).length = q := by rw [chunks_length, hq]
  rw [hq'] at h3 h4
  obtain ⟨k1, k2, k3⟩ := h4.rowR hq' (chunks_is hl.row.ok)
  exact ⟨va', c', h3, k1, k2, k3, h.later h5⟩
theorem RefV.mustM (h : RefV n C t tc K rs w W) (l : List (Nat → Int)) (va : Option Addr) (c q d m : Nat) (x : Int) (hx : x = (m : Int)) (hl : RowR W va l) (hlow : ∀ b o, va = some ⟨b, o, none⟩ → b < W.heap.size) (hc : q ≤ c) (hq : l.length = q) (hm : q ≤ m) (hd : Dep m d) (hd40 : d ≤ 40) :
    Calls Tryd.prog 47 #[.slice va q c, .int .i64 x] W fun e w' => e = .returned (.agg (rootV (fullT d (leaf l)))) ∧ RefV n C t tc K rs w w' := by
  subst hx
  exact (must_any l q m d va c W hq hm hd hd40 hl hlow hc h.hT).mono fun _ _ ⟨h3, h4⟩ => ⟨h3, h.later h4⟩
end
set_option maxHeartbeats 8000000 in
theorem rrootL_Idx (who : List Int) (vw : Option Addr) (cw : Nat) (fd fs : Nat → Int) (hd0 : ∀ j, j < 100 → (kdData j).ok (fd j)) (hs0 : ∀ j, j < 96 → CK.ok .u8 (fs j)) (w : World) (hT0 : Tabs w) (hw0 : Row w vw .u64 who) (hk : 64 < who.length) (hfew : who.length ≤ 1000000000) :
    Calls Tryd.prog 24 #[.agg (idxC (.slice vw who.length cw) fd fs).toArray] w fun e w' => e = .returned (.tuple #[.agg (rootV zeroR), .int .i64 6]) ∧ Below w.heap.size w w' := by
  have hd := Lib.hid hd0
  have hs := Lib.hid hs0
  have hw := Lib.hid hw0
  have hT := Lib.hid hT0
  clear hd0 hs0 hw0 hT0
  have t1 : decide ((64 : Int) < (who.length : Int)) = true := by simp; omega
  go_enter Tryd.func24, Tryd.ntmps24
  go_wp2_with (first
    | ((with_reducible refine at_alloc 23 ?_); refine wpList_plain rfl fun K hK => wp_alloc_row 23 rfl 2 rfl zr 32 info_zr (hK _ _ ?_); clear hK K)
    | ((with_reducible refine at_alloc 124 ?_); go_loud (refine wpList_plain rfl fun K hK => wp_alloc_row 124 rfl 5 rfl (rep 96) 96 (by kernel_rfl) (hK _ _ ?_)); clear hK K
       refine gen_l (fun W => RefV w.heap.size (idxC (.slice vw who.length cw) fd fs) 61 124 3 [] w W) (RefV.begin (heap_new _ _ _ _ rfl) rfl hT.out (by simp) (rep_get _)) ?_
       intro W hS0
       have hS := Lib.hid hS0
       clear hS0)
    | ((with_reducible refine at_load 55 ?_); refine wpList_value (by rfl) _ (run_load_cell _ 55 _ (by rfl) ⟨w.heap.size, 0, none⟩ (by rfl) (.slice vw who.length cw) (hS.out.toBoxL.cell 0) _ Tryd.underlying55 rfl) ?_)
    | ((with_reducible refine at_build 23 ?_); go_loud (refine wpList_value (by rfl) _ (run_build_root0 _ rfl) ?_))
    | ((with_reducible refine at_store 23 ?_); refine at_staddr 23 (w.heap.size + 1) 0 rfl ?_; go_loud (refine wpList_store_row_gen (w0 := w) (n0 := w.heap.size) 23 _ _ rfl rfl (w.heap.size + 1) rfl _ rfl (fcells_one _ _ _) (by rw [row_size row_root]; simp [fcells]) _ 23 hS.out.hR (by rw [zr_size]; simp [fcells]) (by omega) hS.out.hB (fun W9 hW9 hBW _ => ?_))))
  exact ret_mid_tmp rfl (w.heap.size + 1) 0 (fcells 32 (fun _ => .u8) zeroR) _ rfl hW9 Tryd.underlying23 rfl (by rw [row_size row_root, fcells_length]) rfl ⟨rfl, hBW⟩
set_option maxHeartbeats 8000000 in
theorem rroot_Idx (who : List Int) (vw : Option Addr) (cw : Nat) (fd fs : Nat → Int) (hd0 : ∀ j, j < 100 → (kdData j).ok (fd j)) (hs0 : ∀ j, j < 96 → CK.ok .u8 (fs j)) (w : World) (hT0 : Tabs w) (hw0 : Row w vw .u64 who) (hk : who.length ≤ 64) :
    Calls Tryd.prog 24 #[.agg (idxC (.slice vw who.length cw) fd fs).toArray] w fun e w' => e = .returned (.tuple #[.agg (rootV (rootIdx who fd fs)), .int .i64 0]) ∧ Below w.heap.size w w' := by
  have hd := Lib.hid hd0
  have hs := Lib.hid hs0
  have hw := Lib.hid hw0
  have hT := Lib.hid hT0
  clear hd0 hs0 hw0 hT0
  have t1 : decide ((64 : Int) < (who.length : Int)) = false := by simp; omega
  go_enter Tryd.func24, Tryd.ntmps24
  go_wp2_with (first
    | ((with_reducible refine at_alloc 23 ?_); refine wpList_plain rfl fun K hK => wp_alloc_row 23 rfl 2 rfl zr 32 info_zr (hK _ _ ?_); clear hK K)
    | ((with_reducible refine at_alloc 124 ?_); go_loud (refine wpList_plain rfl fun K hK => wp_alloc_row 124 rfl 5 rfl (rep 96) 96 (by kernel_rfl) (hK _ _ ?_)); clear hK K
       refine gen_l (fun W => RefV w.heap.size (idxC (.slice vw who.length cw) fd fs) 61 124 3 [] w W) (RefV.begin (heap_new _ _ _ _ rfl) rfl hT.out (by simp) (rep_get _)) ?_
       intro W hS0
       have hS := Lib.hid hS0
       clear hS0)
    | ((with_reducible refine at_load 55 ?_); refine wpList_value (by rfl) _ (run_load_cell _ 55 _ (by rfl) ⟨w.heap.size, 0, none⟩ (by rfl) (.slice vw who.length cw) (hS.out.toBoxL.cell 0) _ Tryd.underlying55 rfl) ?_)
    | ((with_reducible refine at_build 23 ?_); go_loud (refine wpList_value (by rfl) _ (run_build_root0 _ rfl) ?_))
    | ((with_reducible refine at_store 23 ?_); refine at_staddr 23 (w.heap.size + 1) 0 rfl ?_; go_loud (refine wpList_store_row_gen (w0 := w) (n0 := w.heap.size) 23 _ _ rfl rfl (w.heap.size + 1) rfl _ rfl (fcells_one _ _ _) (by rw [row_size row_root]; simp [fcells]) _ 23 hS.out.hR (by rw [zr_size]; simp [fcells]) (by omega) hS.out.hB (fun W9 hW9 hBW _ => ?_))))
  have hf8 := numsL_length
  obtain ⟨N, hN⟩ : ∃ N, N = W.heap.size := ⟨_, rfl⟩
  have hNw : w.heap.size + 3 ≤ N := by rw [hN]; exact hS.out.size
  have hNW := Lib.hid (Nat.le_of_eq hN)
  clear hN
  go_loopw [6, 7] (fun p i wr => ∃ k : Nat, k ≤ who.length ∧ i = .int .i64 (k : Int) ∧ RefV w.heap.size (idxC (.slice vw who.length cw) fd fs) 61 124 3 [] w wr ∧ (∃ va c, p = .slice va (8 * k) c) ∧ OwnB N p (numsL (who.take k)) wr ∧ N ≤ wr.heap.size) (fun _ i _ => who.length - (intOf i).toNat)
  case atStart => exact ⟨0, by omega, rfl, hS.out, ⟨none, 0, rfl⟩, OwnB.nil _ _, hNW.out⟩
  case round =>
    obtain ⟨k, hk2, rfl, hS1, ⟨va, c, rfl⟩, hP1, hz1⟩ := hrel
    clear hS hNW
    have hS := Lib.hid hS1
    have hP := Lib.hid hP1
    clear hS1 hP1
    by_cases hlt : k < who.length
    · obtain ⟨bw, ow, rfl, hc0⟩ := (hw.out.later hS.out.hB).cell k hlt
      have hc := Lib.hid hc0
      have hnt := Lib.hid (numsL_take who k hlt)
      have hln := Lib.hid (show (numsL (who.take k)).length = 8 * k by rw [numsL_length, List.length_take]; omega)
      clear hc0
      generalize who.getD k 0 = m at *
      generalize numsL (who.take k) = q at *
      generalize hq2 : numsL (who.take (k + 1)) = q2 at *
      have hq2' := Lib.hid hq2
      clear hq2
      have lk : (k : Int) < (who.length : Int) := by omega
      go_wp2_with (first
        | ((with_reducible refine at_load 55 ?_); refine wpList_value (by rfl) _ (run_load_cell _ 55 _ (by rfl) ⟨w.heap.size, 0, none⟩ (by rfl) (.slice (some ⟨bw, ow, none⟩) who.length cw) (hS.out.toBoxL.cell 0) _ Tryd.underlying55 rfl) ?_)
        | ((with_reducible refine at_iaddr 55 ?_); go_loud (refine wpList_value (by rfl) _ (run_index_slice _ 55 27 _ _ rfl Tryd.underlying55 1 sz_u64 bw ow who.length cw rfl .i64 k rfl hlt (ow + k) (by omega)) ?_))
        | ((with_reducible refine at_load 27 ?_); go_loud (refine wpList_value (by rfl) _ (run_load_cell _ 27 _ (by rfl) ⟨bw, ow + k, none⟩ (by rfl) (.int .u64 m) hc.out _ Tryd.underlying27 rfl) ?_))
        | ((with_reducible refine (number8_any m _).mono ?_)
           rintro e1 W2 ⟨⟨vn, cn, rfl, hn1, hO1⟩, hb1⟩
           have hS2 := Lib.hid (hS.out.later hb1)
           have hP2 := Lib.hid (own_later hP.out hb1)
           have hO2 := Lib.hid (SlB.of_own hO1 (numL_ok m) hn1)
           have hz2 := hb1.size
           clear hb1 hO1 hn1)
        | ((with_reducible refine at_app 34 ?_); go_loud (refine wpList_app (w0 := W2) rfl (.tmp 20) (.tmp 26) rfl N q (numL m) _ rfl (by unfold OwnB; rw [hln.out]; exact (by have h := hP2.out; rw [hln.out] at h; exact h)) vn cn (by rw [numL_length]; rfl) hO2.out.row (by rw [hln.out, numL_length]; omega) (by omega) hO2.out.nil (Below.refl _ _) (fun v1 W3 h1 b1 z1 => ?_))
           obtain ⟨va1, c1, e1, hv1⟩ := own_form h1
           rw [List.length_append, hln.out, numL_length] at e1
           subst e1
           have hS3 := Lib.hid (show RefV w.heap.size (idxC (.slice (some ⟨bw, ow, none⟩) who.length cw) fd fs) 61 124 3 [] w W3 from ⟨hS2.out.toBoxL.later (b1.mono (by omega)), (b1.block _ (by omega)).trans hS2.out.hR, hS2.out.hC.block (b1.block _ (by omega)), hS2.out.is, hS2.out.hT.below (by have := hS2.out.h3; omega) b1, hS2.out.h3⟩)
           have h1' := Lib.hid h1
           clear h1 hv1))
      exact ⟨⟨k + 1, by omega, by go_num, hS3.out, ⟨va1, c1, rfl⟩, by rw [hq2'.out, hnt.out]; exact h1'.out, z1⟩, by simp [intOf]; omega⟩
    · have e0 : k = who.length := by omega
      subst e0
      rw [List.take_length] at hP
      have hnv : va = none → c = 0 := by
        obtain ⟨va', c', e', hn'⟩ := own_form hP.out
        injection e' with e5 e6 e7
        subst e5
        subst e7
        exact hn'
      have hnl := numsL_length who
      have hsl := Lib.hid (SlB.of_own (by have h := hP.out; exact h) (numsL_ok who) hnv)
      obtain ⟨q, hq⟩ : ∃ q, q = (8 * who.length + 31) / 32 := ⟨_, rfl⟩
      have hq16 : q ≤ 16 := by omega
      have hcl := Lib.hid (show (chunks (numsL who)).length = q by rw [chunks_length, hnl, hq])
      have hq' := Lib.hid hq.symm
      have hwR := Lib.hid (whoR_is who)
      have hwe := Lib.hid (show fullT 4 (leaf (chunks (numsL who))) = whoR who from rfl)
      have hRd := Lib.hid (rootData_is hd.out)
      have hRs := Lib.hid (sha2_is (whoR who) (numR (who.length : Int)))
      have hRb := Lib.hid (show IsR (byR 2 (byL fs 0 96)) from byR_is (byL_ok fun j hj => by rw [Nat.zero_add]; exact hs.out j hj))
      clear hP hnv hq
      go_wp2_with (first
        | ((with_reducible refine (RefV.pack0 hS.out (numsL who) va c (8 * who.length) q hsl.out hnl hq'.out (by omega)).mono ?_)
           rintro e W ⟨va1, c1, rfl, hp1, hlow1, hc1, hS1⟩
           have hp := Lib.hid hp1
           have hlw := Lib.hid hlow1
           clear hp1 hlow1 hsl
           clear hS
           have hS := Lib.hid hS1
           clear hS1)
        | ((with_reducible refine (RefV.mustM hS.out (chunks (numsL who)) va1 c1 q 4 16 (16 : Int) rfl hp.out hlw.out hc1 hcl.out hq16 (by unfold Dep; decide) (by decide)).mono ?_)
           rintro e W ⟨rfl, hS1⟩
           rw [hwe.out]
           clear hp hlw hc1
           clear hS
           have hS := Lib.hid hS1
           clear hS1)
        | ((with_reducible refine at_store 23 ?_); refine at_staddr 23 (w.heap.size + 1 + 1) (32 * 0) rfl ?_; refine wpList_rootV rfl (.tmp 31) (.tmp 30) rfl 0 (whoR who) rfl rfl hS.out rfl (by decide) hwR.out (fun W1 hS1 => ?_)
           obtain ⟨W, hWW⟩ : ∃ W, W = W1 := ⟨_, rfl⟩
           subst hWW
           clear hS
           have hS := Lib.hid hS1
           clear hS1)
        | ((with_reducible refine at_load 23 ?_); refine wpList_value (by rfl) _ (run_load_rows _ 23 _ (by rfl) (w.heap.size + 1 + 1) (32 * 0) rfl (fcells 32 (fun _ => .u8) (whoR who)) _ (hS.out.rootAt 0 (by decide) _ rfl) Tryd.underlying23 rfl (by rw [row_size row_root, fcells_length])) ?_)
        | ((with_reducible refine at_load 55 ?_); refine wpList_value (by rfl) _ (run_load_cell _ 55 _ (by rfl) ⟨w.heap.size, 0, none⟩ (by rfl) (.slice vw who.length cw) (hS.out.toBoxL.cell 0) _ Tryd.underlying55 rfl) ?_)
        | ((with_reducible refine (rmmix_any (whoR who) (who.length : Int) _ hwR.out hS.out.hT).mono ?_)
           rintro e W ⟨rfl, hb1⟩
           have hS1 := hS.out.later hb1
           clear hb1
           clear hS
           have hS := Lib.hid hS1
           clear hS1)
        | ((with_reducible refine at_store 23 ?_); refine at_staddr 23 (w.heap.size + 1 + 1) (32 * 0) rfl ?_; refine wpList_rootVs rfl (.tmp 39) (.tmp 38) rfl 0 (sha2 (whoR who) (numR (who.length : Int))) rfl rfl hS.out (by simp) (by decide) hRs.out (fun W1 hS1 => ?_)
           obtain ⟨W, hWW⟩ : ∃ W, W = W1 := ⟨_, rfl⟩
           subst hWW
           clear hS
           have hS := Lib.hid hS1
           clear hS1)
        | ((with_reducible refine at_load 59 ?_); refine wpList_value (by rfl) _ (run_load_rows _ 59 _ (by rfl) w.heap.size 1 rfl (fcells 100 kdData fd) _ (range_midL hS.out.hX (pre := [.slice vw who.length cw]) rfl 1 rfl) Tryd.underlying59 rfl (by rw [row_size rowData, fcells_length])) ?_)
        | ((with_reducible refine (rroot_Data fd hd.out _ hS.out.hT).mono ?_)
           rintro e W ⟨rfl, hb1⟩
           have hS1 := hS.out.later hb1
           clear hb1
           clear hS
           have hS := Lib.hid hS1
           clear hS1)
        | ((with_reducible refine at_store 23 ?_); refine at_staddr 23 (w.heap.size + 1 + 1) (32 * 1) rfl ?_; refine wpList_rootV rfl _ _ rfl 1 (rootData fd) rfl rfl hS.out rfl (by decide) hRd.out (fun W1 hS1 => ?_)
           obtain ⟨W, hWW⟩ : ∃ W, W = W1 := ⟨_, rfl⟩
           subst hWW
           clear hS
           have hS := Lib.hid hS1
           clear hS1)
        | ((with_reducible refine (RefV.pack hS.out (byL fs 0 96) _ 96 96 3 (hS.out.toBoxL.sl (pre := .slice vw who.length cw :: fcells 100 kdData fd) (post := []) (by simp [idxC]) (by simp [fcells_length]) hs.out) (byL_length _ _ _) (by decide) (by decide) (by decide)).mono ?_)
           rintro e W ⟨va1, c1, rfl, hp1, hlow1, hc1, hS1⟩
           have hp := Lib.hid hp1
           have hlw := Lib.hid hlow1
           clear hp1 hlow1
           clear hS
           have hS := Lib.hid hS1
           clear hS1)
        | ((with_reducible refine (RefV.must hS.out (byL fs 0 96) va1 c1 3 2 (3 : Int) hp.out hlw.out hc1 (by rw [byL_length]) rfl (by unfold Dep; decide) (by decide)).mono ?_)
           rintro e W ⟨rfl, hS1⟩
           clear hp hlw hc1
           clear hS
           have hS := Lib.hid hS1
           clear hS1)
        | ((with_reducible refine at_store 23 ?_); refine at_staddr 23 (w.heap.size + 1 + 1) (32 * 2) rfl ?_; refine wpList_rootV rfl _ _ rfl 2 (byR 2 (byL fs 0 96)) rfl rfl hS.out rfl (by decide) hRb.out (fun W1 hS1 => ?_)
           obtain ⟨W, hWW⟩ : ∃ W, W = W1 := ⟨_, rfl⟩
           subst hWW
           clear hS
           have hS := Lib.hid hS1
           clear hS1)
        | ((with_reducible refine (RefV.last hS.out 2 (3 : Int) rfl rfl (by unfold Dep; decide) (by decide)).mono ?_)
           rintro e W ⟨rfl, hBf, hRf⟩
           have hRf1 := Lib.hid hRf
           clear hRf hS)
        | ((with_reducible refine at_store 23 ?_); go_loud (refine wpList_store_row_gen (w0 := w) (n0 := w.heap.size) 23 _ _ rfl rfl (w.heap.size + 1) rfl _ rfl (fcells_one _ _ _) (by rw [row_size row_root]; simp [fcells]) _ 23 hRf1.out (by rw [zr_size]; simp [fcells]) (by omega) hBf (fun W9 hW9 hBW _ => ?_))))
      exact ret_mid_tmp rfl (w.heap.size + 1) 0 (fcells 32 (fun _ => .u8) (rootIdx who fd fs)) _ rfl hW9 Tryd.underlying23 rfl (by rw [row_size row_root, fcells_length]) rfl ⟨rfl, hBW⟩
end Go.Proofs.YtihelknkcomjpaaDoor
