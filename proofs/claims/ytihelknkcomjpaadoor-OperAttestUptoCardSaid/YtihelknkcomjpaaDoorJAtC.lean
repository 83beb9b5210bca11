/- oper.EncAttest, pharosref08.EncAttest: the bytes of an attestation. -/
/- The root of an attestation: oper.RootAttest, pharosref08.RootAttest. -/
/- pharosref08.RootAttest: the root of an attestation, the reference's. -/
import Derived.Test.YtihelknkcomjpaaDoorJBwA
import Derived.Test.YtihelknkcomjpaaDoorJIxE
set_option linter.unusedVariables false
set_option linter.unusedSimpArgs false
set_option linter.unnecessarySimpa false
namespace Go.Proofs.YtihelknkcomjpaaDoor
open Go.RowKit BigFrame
set_option maxRecDepth 100000
def encLAtt (who : List Int) (fd fs : Nat → Int) : List Int := le4 228 ++ encLData fd ++ byL fs 0 96 ++ listB who
theorem encAtt_length (who : List Int) (fd fs : Nat → Int) : (encLAtt who fd fs).length = 228 + (who.length / 8 + 1) := by
  simp only [encLAtt, List.length_append, le4_length, encData_length, byL_length, listB_length]
theorem encAtt_ok {who : List Int} {fd fs : Nat → Int} (hd : ∀ j, j < 100 → (kdData j).ok (fd j)) (hs : ∀ j, j < 96 → CK.ok .u8 (fs j)) : ∀ m ∈ encLAtt who fd fs, CK.ok .u8 m :=
  ok_append (ok_append (ok_append (le4_ok _) (encData_ok hd)) (byL_ok fun j hj => by rw [Nat.zero_add]; exact hs j hj)) (listB_ok who)
theorem doneAtt (who : List Int) (fd fs : Nat → Int) : doneL (([] ++ [0, 0, 0, 0]) ++ encLData fd ++ byL fs 0 96) ([] ++ listB who) ([] ++ [0]) ([] ++ [0]) = encLAtt who fd fs := by
  have hl : (([] ++ [0, 0, 0, 0]) ++ encLData fd ++ byL fs 0 96 : List Int).length = 228 := by simp [encData_length, byL_length]
  show patchK _ [0] [0] 1 ++ _ = _
  simp only [patchK, putK, hl]
  rfl
theorem size_att : (Tryd.prog.info? 76).map (·.size) = some 197 := by kernel_rfl
set_option maxHeartbeats 8000000 in
theorem enc_Att (who : List Int) (m : Nat) (vw : Option Addr) (cw : Nat) (fd fs : Nat → Int) (hd0 : ∀ j, j < 100 → (kdData j).ok (fd j)) (hs0 : ∀ j, j < 96 → CK.ok .u8 (fs j)) (w : World) (hw0 : Row w vw .bool who) (hm : who.length = m) (hk : m ≤ 64) :
    Calls Tryd.prog 33 #[.agg (idxC (.slice vw m cw) fd fs).toArray] w fun e w' => (∃ va c, e = .returned (.tuple #[.slice va (228 + (m / 8 + 1)) c, .int .i64 0]) ∧ (va = none → c = 0) ∧ OwnB w.heap.size (.slice va (228 + (m / 8 + 1)) c) (encLAtt who fd fs) w') ∧ Below w.heap.size w w' := by
  have hd := Lib.hid hd0
  have hs := Lib.hid hs0
  have hw := Lib.hid hw0
  clear hd0 hs0 hw0
  have t1 : decide ((64 : Int) < (m : Int)) = false := by simp; omega
  have hll := Lib.hid (show (listB who).length = m / 8 + 1 by rw [listB_length, hm])
  have hall := Lib.hid (show (encLAtt who fd fs).length = 228 + (m / 8 + 1) by rw [encAtt_length, hm])
  obtain ⟨z, hz⟩ : ∃ z, z = m / 8 + 1 := ⟨_, rfl⟩
  rw [← hz] at hll hall
  have hlb := Lib.hid (fun W (hW : Row W vw .bool who) => listB_any who m vw cw W hW hm (by omega))
  rw [← hz] at hlb
  have hown := Lib.hid (fun (W : World) (g base : Nat) (hg : base ≤ g) => listB_own (W := W) (g := g) (base := base) hm hg (by omega))
  rw [← hz] at hown
  try rw [← hz]
  have hzb : z ≤ 1000000000 := by omega
  clear hz
  go_enter Tryd.func33, Tryd.ntmps33
  go_wp2_with (first
    | ((with_reducible refine at_box 76 ?_); go_loud (refine wpList_box rfl 76 _ rfl _ rfl ?_))
    | ((with_reducible refine at_alloc 84 ?_); refine wpList_plain rfl fun K hK => wp_alloc_row 84 rfl 4 rfl _ 5 zero_outV (hK _ _ ?_); clear hK K
       refine gen_l (fun W => EncI w.heap.size (idxC (.slice vw m cw) fd fs) 76 W.heap.size [] [] [] [] 0 w W) (EncI.begin rfl rfl) ?_
       intro W hS0
       have hS := Lib.hid hS0
       clear hS0)
    | ((with_reducible refine at_load 74 ?_); refine wpList_value (by rfl) _ (run_load_cell _ 74 _ (by rfl) ⟨w.heap.size, 0, none⟩ (by rfl) (.slice vw m cw) (hS.out.cell 0) _ Tryd.underlying74 rfl) ?_)
    | ((with_reducible refine (EncI.fail hS.out 6).mono ?_)
       rintro e1 W ⟨rfl, hS1⟩
       rw [if_pos rfl] at hS1
       clear hS
       have hS := Lib.hid hS1
       clear hS1)
    | ((with_reducible refine (hlb.out _ (hw.out.later hS.out.hB)).mono ?_)
       rintro e1 W2 ⟨rfl, hC1, hb1⟩
       have hS1 := hS.out.later hb1
       have ho := Lib.hid (hown.out _ _ _ hS.out.hW hC1)
       clear hS
       have hS := Lib.hid hS1
       clear hS1 hC1 hb1)
    | ((with_reducible refine (EncI.put hS.out (listB who) z _ z 0 ho.out hll.out (by decide) (by simp; omega) (by decide) (by decide)).mono ?_)
       rintro e1 W ⟨rfl, hS1⟩
       rw [show (if (0 : Int) = 0 then (0 : Int) else 0) = 0 from by decide] at hS1
       clear hS ho
       have hS := Lib.hid hS1
       clear hS1)
    | ((with_reducible refine at_load 59 ?_); refine wpList_value (by rfl) _ (run_load_rows _ 59 _ (by rfl) w.heap.size 1 rfl (fcells 100 kdData fd) _ (range_mid hS.out.hX (pre := [.slice vw m cw]) rfl 1 rfl) Tryd.underlying59 rfl (by rw [row_size rowData, fcells_length])) ?_)
    | ((with_reducible refine (enc_Data fd hd.out _).mono ?_)
       rintro e W2 ⟨⟨va1, c1, rfl, hn1, ho1⟩, hb1⟩
       have hS1 := hS.out.later hb1
       have hl := Lib.hid (SlB.of_own ho1 (encData_ok hd.out) hn1)
       clear hS
       have hS := Lib.hid hS1
       clear hS1 hn1 ho1 hb1)
    | ((with_reducible refine (EncI.app hS.out _ 128 va1 c1 hl.out (encData_length _) (by simp)).mono ?_)
       rintro e W ⟨rfl, hS1⟩
       clear hl
       clear hS
       have hS := Lib.hid hS1
       clear hS1)
    | ((with_reducible refine (EncI.app hS.out _ 96 _ 96 (hS.out.sl (pre := .slice vw m cw :: fcells 100 kdData fd) (post := []) (by simp [idxC]) (by simp [fcells_length]) hs.out) (byL_length _ _ _) (by simp [encData_length])).mono ?_)
       rintro e W ⟨rfl, hS1⟩
       clear hS
       have hS := Lib.hid hS1
       clear hS1)
    | ((with_reducible refine (EncI.doneE hS.out (by decide)).mono ?_)
       rintro e W ⟨rfl, hBf⟩)
    | ((with_reducible refine (EncI.done1 hS.out (228 + z) (by have := hll.out; simp [encData_length, byL_length]; omega) (by simp) (by simp) (by omega) (doneAtt who fd fs)).mono ?_)
       rintro e W ⟨⟨va, c, rfl, hva, hOw⟩, hBf⟩
       have hOw1 := Lib.hid hOw
       have hva1 := Lib.hid hva
       clear hOw hva))
  exact ret_t2 rfl _ _ rfl rfl rfl ⟨⟨va, c, rfl, hva1.out, hOw1.out⟩, hBf⟩
set_option maxHeartbeats 8000000 in
theorem encL_Att (who : List Int) (m : Nat) (vw : Option Addr) (cw : Nat) (fd fs : Nat → Int) (hd0 : ∀ j, j < 100 → (kdData j).ok (fd j)) (hs0 : ∀ j, j < 96 → CK.ok .u8 (fs j)) (w : World) (hw0 : Row w vw .bool who) (hm : who.length = m) (hk : 64 < m) (hfew : m ≤ 1000000000) :
    Calls Tryd.prog 33 #[.agg (idxC (.slice vw m cw) fd fs).toArray] w fun e w' => e = .returned (.tuple #[.slice none 0 0, .int .i64 6]) ∧ Below w.heap.size w w' := by
  have hd := Lib.hid hd0
  have hs := Lib.hid hs0
  have hw := Lib.hid hw0
  clear hd0 hs0 hw0
  have t1 : decide ((64 : Int) < (m : Int)) = true := by simp; omega
  have hll := Lib.hid (show (listB who).length = m / 8 + 1 by rw [listB_length, hm])
  have hall := Lib.hid (show (encLAtt who fd fs).length = 228 + (m / 8 + 1) by rw [encAtt_length, hm])
  obtain ⟨z, hz⟩ : ∃ z, z = m / 8 + 1 := ⟨_, rfl⟩
  rw [← hz] at hll hall
  have hlb := Lib.hid (fun W (hW : Row W vw .bool who) => listB_any who m vw cw W hW hm (by omega))
  rw [← hz] at hlb
  have hown := Lib.hid (fun (W : World) (g base : Nat) (hg : base ≤ g) => listB_own (W := W) (g := g) (base := base) hm hg (by omega))
  rw [← hz] at hown
  try rw [← hz]
  have hzb : z ≤ 1000000000 := by omega
  clear hz
  go_enter Tryd.func33, Tryd.ntmps33
  go_wp2_with (first
    | ((with_reducible refine at_box 76 ?_); go_loud (refine wpList_box rfl 76 _ rfl _ rfl ?_))
    | ((with_reducible refine at_alloc 84 ?_); refine wpList_plain rfl fun K hK => wp_alloc_row 84 rfl 4 rfl _ 5 zero_outV (hK _ _ ?_); clear hK K
       refine gen_l (fun W => EncI w.heap.size (idxC (.slice vw m cw) fd fs) 76 W.heap.size [] [] [] [] 0 w W) (EncI.begin rfl rfl) ?_
       intro W hS0
       have hS := Lib.hid hS0
       clear hS0)
    | ((with_reducible refine at_load 74 ?_); refine wpList_value (by rfl) _ (run_load_cell _ 74 _ (by rfl) ⟨w.heap.size, 0, none⟩ (by rfl) (.slice vw m cw) (hS.out.cell 0) _ Tryd.underlying74 rfl) ?_)
    | ((with_reducible refine (EncI.fail hS.out 6).mono ?_)
       rintro e1 W ⟨rfl, hS1⟩
       rw [if_pos rfl] at hS1
       clear hS
       have hS := Lib.hid hS1
       clear hS1)
    | ((with_reducible refine (hlb.out _ (hw.out.later hS.out.hB)).mono ?_)
       rintro e1 W2 ⟨rfl, hC1, hb1⟩
       have hS1 := hS.out.later hb1
       have ho := Lib.hid (hown.out _ _ _ hS.out.hW hC1)
       clear hS
       have hS := Lib.hid hS1
       clear hS1 hC1 hb1)
    | ((with_reducible refine (EncI.put hS.out (listB who) z _ z 0 ho.out hll.out (by decide) (by simp; omega) (by decide) (by decide)).mono ?_)
       rintro e1 W ⟨rfl, hS1⟩
       rw [show (if (6 : Int) = 0 then (0 : Int) else 6) = 6 from by decide] at hS1
       clear hS ho
       have hS := Lib.hid hS1
       clear hS1)
    | ((with_reducible refine at_load 59 ?_); refine wpList_value (by rfl) _ (run_load_rows _ 59 _ (by rfl) w.heap.size 1 rfl (fcells 100 kdData fd) _ (range_mid hS.out.hX (pre := [.slice vw m cw]) rfl 1 rfl) Tryd.underlying59 rfl (by rw [row_size rowData, fcells_length])) ?_)
    | ((with_reducible refine (enc_Data fd hd.out _).mono ?_)
       rintro e W2 ⟨⟨va1, c1, rfl, hn1, ho1⟩, hb1⟩
       have hS1 := hS.out.later hb1
       have hl := Lib.hid (SlB.of_own ho1 (encData_ok hd.out) hn1)
       clear hS
       have hS := Lib.hid hS1
       clear hS1 hn1 ho1 hb1)
    | ((with_reducible refine (EncI.app hS.out _ 128 va1 c1 hl.out (encData_length _) (by simp)).mono ?_)
       rintro e W ⟨rfl, hS1⟩
       clear hl
       clear hS
       have hS := Lib.hid hS1
       clear hS1)
    | ((with_reducible refine (EncI.app hS.out _ 96 _ 96 (hS.out.sl (pre := .slice vw m cw :: fcells 100 kdData fd) (post := []) (by simp [idxC]) (by simp [fcells_length]) hs.out) (byL_length _ _ _) (by simp [encData_length])).mono ?_)
       rintro e W ⟨rfl, hS1⟩
       clear hS
       have hS := Lib.hid hS1
       clear hS1)
    | ((with_reducible refine (EncI.doneE hS.out (by decide)).mono ?_)
       rintro e W ⟨rfl, hBf⟩)
    | ((with_reducible refine (EncI.done1 hS.out (228 + z) (by have := hll.out; simp [encData_length, byL_length]; omega) (by simp) (by simp) (by omega) (doneAtt who fd fs)).mono ?_)
       rintro e W ⟨⟨va, c, rfl, hva, hOw⟩, hBf⟩
       have hOw1 := Lib.hid hOw
       have hva1 := Lib.hid hva
       clear hOw hva))
  exact ret_t2 rfl _ _ rfl rfl rfl ⟨rfl, hBf⟩
set_option maxHeartbeats 8000000 in
theorem rencL_Att (who : List Int) (m : Nat) (vw : Option Addr) (cw : Nat) (fd fs : Nat → Int) (hd0 : ∀ j, j < 100 → (kdData j).ok (fd j)) (hs0 : ∀ j, j < 96 → CK.ok .u8 (fs j)) (w : World) (hw0 : Row w vw .bool who) (hm : who.length = m) (hk : 64 < m) (hfew : m ≤ 1000000000) :
    Calls Tryd.prog 35 #[.agg (idxC (.slice vw m cw) fd fs).toArray] w fun e w' => e = .returned (.tuple #[.slice none 0 0, .int .i64 6]) ∧ Below w.heap.size w w' := by
  have hd := Lib.hid hd0
  have hs := Lib.hid hs0
  have hw := Lib.hid hw0
  clear hd0 hs0 hw0
  have t1 : decide ((64 : Int) < (m : Int)) = true := by simp; omega
  go_enter Tryd.func35, Tryd.ntmps35
  go_wp2_with (first
    | ((with_reducible refine at_box 76 ?_); go_loud (refine wpList_box rfl 76 _ rfl _ rfl ?_)
       refine gen_l (fun W => RefX w.heap.size (idxC (.slice vw m cw) fd fs) 76 [] w W) (RefX.begin (heap_new _ _ _ _ rfl) rfl) ?_
       intro W hS0
       have hS := Lib.hid hS0
       clear hS0)
    | ((with_reducible refine at_load 74 ?_); refine wpList_value (by rfl) _ (run_load_cell _ 74 _ (by rfl) ⟨w.heap.size, 0, none⟩ (by rfl) (.slice vw m cw) (hS.out.toBoxL.cell 0) _ Tryd.underlying74 rfl) ?_)
  )
  exact ret_t2 rfl _ _ rfl rfl rfl ⟨rfl, hS.out.hB⟩
theorem layAtt (who : List Int) (fd fs : Nat → Int) : layU [0, 128, 96] [listB who, encLData fd, byL fs 0 96] = encLAtt who fd fs := by
  simp [layU, layK, headN, encLAtt]
theorem fitAtt (who : List Int) (fd fs : Nat → Int) (i : Nat) (hi : i < 3) (hz : [0, 128, 96].getD i 0 ≠ 0) : ([listB who, encLData fd, byL fs 0 96].getD i []).length = [0, 128, 96].getD i 0 := by
  match i, hi with
  | 0, _ => exact absurd rfl hz
  | 1, _ => exact encData_length fd
  | 2, _ => exact byL_length _ _ _
set_option maxHeartbeats 8000000 in
theorem renc_Att (who : List Int) (m : Nat) (vw : Option Addr) (cw : Nat) (fd fs : Nat → Int) (hd0 : ∀ j, j < 100 → (kdData j).ok (fd j)) (hs0 : ∀ j, j < 96 → CK.ok .u8 (fs j)) (w : World) (hw0 : Row w vw .bool who) (hcw : vw = none → cw = 0) (hm : who.length = m) (hk : m ≤ 64) :
    Calls Tryd.prog 35 #[.agg (idxC (.slice vw m cw) fd fs).toArray] w fun e w' => (∃ va c, e = .returned (.tuple #[.slice va (228 + (m / 8 + 1)) c, .int .i64 0]) ∧ (va = none → c = 0) ∧ OwnB w.heap.size (.slice va (228 + (m / 8 + 1)) c) (encLAtt who fd fs) w') ∧ Below w.heap.size w w' := by
  have hll := Lib.hid (show (listB who).length = m / 8 + 1 by rw [listB_length, hm])
  have hall := Lib.hid (show (encLAtt who fd fs).length = 228 + (m / 8 + 1) by rw [encAtt_length, hm])
  obtain ⟨z, hz⟩ : ∃ z, z = m / 8 + 1 := ⟨_, rfl⟩
  rw [← hz] at hll hall
  have hlb := Lib.hid (fun W (hW : Row W vw .bool who) => rlistB_any who m vw cw W hW hcw hm (by omega))
  rw [← hz] at hlb
  have hown := Lib.hid (fun (W : World) (g base : Nat) (hg : base ≤ g) => listB_own (W := W) (g := g) (base := base) hm hg (by omega))
  rw [← hz] at hown ⊢
  have hzb : z ≤ 1000000000 := by omega
  clear hz
  have hd := Lib.hid hd0
  have hs := Lib.hid hs0
  have hw := Lib.hid hw0
  clear hd0 hs0 hw0
  have t1 : decide ((64 : Int) < (m : Int)) = false := by simp; omega
  go_enter Tryd.func35, Tryd.ntmps35
  go_wp2_with (first
    | ((with_reducible refine at_box 76 ?_); go_loud (refine wpList_box rfl 76 _ rfl _ rfl ?_)
       refine gen_l (fun W => RefX w.heap.size (idxC (.slice vw m cw) fd fs) 76 [] w W) (RefX.begin (heap_new _ _ _ _ rfl) rfl) ?_
       intro W hS0
       have hS := Lib.hid hS0
       clear hS0)
    | ((with_reducible refine at_load 74 ?_); refine wpList_value (by rfl) _ (run_load_cell _ 74 _ (by rfl) ⟨w.heap.size, 0, none⟩ (by rfl) (.slice vw m cw) (hS.out.toBoxL.cell 0) _ Tryd.underlying74 rfl) ?_)
    | ((with_reducible refine (hlb.out _ (hw.out.later hS.out.hB)).mono ?_)
       rintro e1 W2 ⟨⟨g, rfl, hg, hC1⟩, hb1⟩
       have hS1 := (hS.out.later hb1).add (SlB.of_own (hown.out _ _ _ hg hC1) (listB_ok who) (fun e => by cases e)) hll.out
       clear hC1 hb1
       clear hS
       have hS := Lib.hid hS1
       clear hS1)
    | ((with_reducible refine at_load 59 ?_); refine wpList_value (by rfl) _ (run_load_rows _ 59 _ (by rfl) w.heap.size 1 rfl (fcells 100 kdData fd) _ (range_midL hS.out.hX (pre := [.slice vw m cw]) rfl 1 rfl) Tryd.underlying59 rfl (by rw [row_size rowData, fcells_length])) ?_)
    | ((with_reducible refine (renc_Data fd hd.out _).mono ?_)
       rintro e W2 ⟨⟨va1, c1, rfl, hn1, ho1⟩, hb1⟩
       have hS1 := (hS.out.later hb1).add (SlB.of_own ho1 (encData_ok hd.out) hn1) (encData_length _)
       clear hn1 ho1 hb1
       clear hS
       have hS := Lib.hid hS1
       clear hS1)
    | ((with_reducible refine at_bslice 34 ?_); go_loud (refine wpList_plain rfl fun K hK => wp_build0 rfl (hK _ _ ?_)); clear hK K)
    | ((with_reducible refine at_app 34 ?_); refine wpList_app (w0 := W2) rfl _ _ rfl W2.heap.size [] (byL fs 0 96) _ rfl (OwnB.new (Nat.le_refl _) [] (by decide) (heap_new _ _ _ _ rfl)) (some ⟨w.heap.size, 101, none⟩) 96 rfl ((hS.out.toBoxL.sl (pre := .slice vw m cw :: fcells 100 kdData fd) (post := []) (by simp [idxC]) (by simp [fcells_length]) hs.out).row.later ((Below.refl _ _).alloc (Nat.le_refl _) _)) (by simp [byL_length]) (by simp) (fun h => by cases h) ((Below.refl _ _).alloc (Nat.le_refl _) _) (fun v1 W3 h1 b1 z1 => ?_)
       obtain ⟨va3, c3, e3, hS1⟩ := hS.out.own h1 b1 (byL_ok fun j hj => by rw [Nat.zero_add]; exact hs.out j hj) (byL_length _ _ _)
       subst e3
       clear h1 b1 z1 hS
       have hS := Lib.hid hS1
       clear hS1)
    | ((with_reducible refine (RefX.layu hS.out (k := 3) (S := 228 + z) (L := encLAtt who fd fs) [0, 128, 96] ?hV ?hZ rfl rfl (by decide) (by decide) (by decide) ?hF ?hL hall.out (by omega)).mono ?hM)
       case hV => rfl
       case hZ => rfl
       case hF => exact fitAtt who fd fs
       case hL => exact layAtt who fd fs
       rintro e W ⟨⟨va, c, rfl, hva, hOw⟩, hBf⟩
       have hOw1 := Lib.hid hOw
       have hva1 := Lib.hid hva
       clear hOw hva))
  exact ret_t2 rfl _ _ rfl rfl rfl ⟨⟨va, c, rfl, hva1.out, hOw1.out⟩, hBf⟩
end Go.Proofs.YtihelknkcomjpaaDoor
namespace Go.Proofs.YtihelknkcomjpaaDoor
open Go.RowKit BigFrame
set_option maxRecDepth 100000
def rootAtt (who : List Int) (fd fs : Nat → Int) : Nat → Int := fullT 2 (leaf [bitsW who, rootData fd, byR 2 (byL fs 0 96)])
set_option maxHeartbeats 8000000 in
theorem root_Att (who : List Int) (m : Nat) (vw : Option Addr) (cw : Nat) (fd fs : Nat → Int) (hd0 : ∀ j, j < 100 → (kdData j).ok (fd j)) (hs0 : ∀ j, j < 96 → CK.ok .u8 (fs j)) (w : World) (hT0 : Tabs w) (hw0 : Row w vw .bool who) (hm : who.length = m) (hk : m ≤ 64) :
    Calls Tryd.prog 34 #[.agg (idxC (.slice vw m cw) fd fs).toArray] w fun e w' => e = .returned (.tuple #[.agg (rootV (rootAtt who fd fs)), .int .i64 0]) ∧ Below w.heap.size w w' := by
  have hd := Lib.hid hd0
  have hs := Lib.hid hs0
  have hw := Lib.hid hw0
  have hT := Lib.hid hT0
  clear hd0 hs0 hw0 hT0
  have hRd := Lib.hid (rootData_is hd.out)
  have hRi := Lib.hid (show IsR (bitsW who) from bitsW_is who)
  go_enter Tryd.func34, Tryd.ntmps34
  go_wp2_with (first
    | ((with_reducible refine at_alloc 23 ?_); refine wpList_plain rfl fun K hK => wp_alloc_row 23 rfl 2 rfl zr 32 info_zr (hK _ _ ?_); clear hK K)
    | ((with_reducible refine at_alloc 90 ?_); go_loud (refine wpList_plain rfl fun K hK => wp_alloc_row 90 rfl 4 rfl _ 2 info_hash (hK _ _ ?_)); clear hK K
       refine gen_l (fun W => HashX w.heap.size (idxC (.slice vw m cw) fd fs) 76 0 [] w W) (HashX.begin (heap_new _ _ _ _ rfl) rfl hT.out) ?_
       intro W hS0
       have hS := Lib.hid hS0
       clear hS0)
    | ((with_reducible refine at_load 74 ?_); refine wpList_value (by rfl) _ (run_load_cell _ 74 _ (by rfl) ⟨w.heap.size, 0, none⟩ (by rfl) (.slice vw m cw) (hS.out.toBoxL.cell 0) _ Tryd.underlying74 rfl) ?_)
    | ((with_reducible refine (wbits_any who m vw cw _ (hw.out.later hS.out.hB) hS.out.hT hm hk).mono ?_)
       rintro e W ⟨rfl, hb1⟩
       have hS1 := hS.out.later hb1
       clear hb1
       clear hS
       have hS := Lib.hid hS1
       clear hS1)
    | ((with_reducible refine (HashX.put hS.out (bitsW who) 0 hRi.out (by decide)).mono ?_)
       rintro e W ⟨rfl, hS1⟩
       rw [if_pos rfl] at hS1
       clear hS
       have hS := Lib.hid hS1
       clear hS1)
    | ((with_reducible refine at_load 59 ?_); refine wpList_value (by rfl) _ (run_load_rows _ 59 _ (by rfl) w.heap.size 1 rfl (fcells 100 kdData fd) _ (range_midL hS.out.hX (pre := [.slice vw m cw]) rfl 1 rfl) Tryd.underlying59 rfl (by rw [row_size rowData, fcells_length])) ?_)
    | ((with_reducible refine (root_Data fd hd.out _ hS.out.hT).mono ?_)
       rintro e W ⟨rfl, hb1⟩
       have hS1 := hS.out.later hb1
       clear hb1
       clear hS
       have hS := Lib.hid hS1
       clear hS1)
    | ((with_reducible refine (HashX.put hS.out (rootData fd) 0 hRd.out (by simp)).mono ?_)
       rintro e W ⟨rfl, hS1⟩
       first | rw [if_pos rfl] at hS1 | rw [if_neg (by decide)] at hS1
       clear hS
       have hS := Lib.hid hS1
       clear hS1)
    | ((with_reducible refine (HashX.bytes hS.out (byL fs 0 96) _ 96 96 2 (hS.out.sl (pre := .slice vw m cw :: fcells 100 kdData fd) (post := []) (by simp [idxC]) (by simp [fcells_length]) hs.out) (byL_length _ _ _) (by decide) (by decide) (by unfold Dep; decide) (by decide) (by simp)).mono ?_)
       rintro e W ⟨rfl, hS1⟩
       clear hS
       have hS := Lib.hid hS1
       clear hS1)
    | ((with_reducible refine (HashX.doneE hS.out (by decide)).mono ?_)
       rintro e W ⟨rfl, hBf, hRf⟩
       have hRf1 := Lib.hid hRf
       have hbs := hBf.size
       clear hRf hS)
    | ((with_reducible refine (HashX.done hS.out 2 (by simp [Dep]) (by simp) (by decide)).mono ?_)
       rintro e W ⟨rfl, hBf, hRf⟩
       have hRf1 := Lib.hid hRf
       have hbs := hBf.size
       clear hRf hS)
    | ((with_reducible refine at_store 23 ?_); go_loud (refine wpList_store_row_gen (w0 := w) (n0 := w.heap.size) 23 _ _ rfl rfl (w.heap.size + 1) rfl _ rfl (fcells_one _ _ _) (by rw [row_size row_root]; simp [fcells]) _ 23 hRf1.out (by rw [zr_size]; simp [fcells]) (by omega) hBf (fun W9 hW9 hBW _ => ?_))))
  exact ret_mid_tmp rfl (w.heap.size + 1) 0 (fcells 32 (fun _ => .u8) (rootAtt who fd fs)) _ rfl hW9 Tryd.underlying23 rfl (by rw [row_size row_root, fcells_length]) rfl ⟨rfl, hBW⟩
set_option maxHeartbeats 8000000 in
theorem rootL_Att (who : List Int) (m : Nat) (vw : Option Addr) (cw : Nat) (fd fs : Nat → Int) (hd0 : ∀ j, j < 100 → (kdData j).ok (fd j)) (hs0 : ∀ j, j < 96 → CK.ok .u8 (fs j)) (w : World) (hT0 : Tabs w) (hw0 : Row w vw .bool who) (hm : who.length = m) (hk : 64 < m) :
    Calls Tryd.prog 34 #[.agg (idxC (.slice vw m cw) fd fs).toArray] w fun e w' => e = .returned (.tuple #[.agg (rootV zeroR), .int .i64 6]) ∧ Below w.heap.size w w' := by
  have hd := Lib.hid hd0
  have hs := Lib.hid hs0
  have hw := Lib.hid hw0
  have hT := Lib.hid hT0
  clear hd0 hs0 hw0 hT0
  have hRd := Lib.hid (rootData_is hd.out)
  have hRi := Lib.hid (show IsR (zeroR) from zeroR_is)
  go_enter Tryd.func34, Tryd.ntmps34
  go_wp2_with (first
    | ((with_reducible refine at_alloc 23 ?_); refine wpList_plain rfl fun K hK => wp_alloc_row 23 rfl 2 rfl zr 32 info_zr (hK _ _ ?_); clear hK K)
    | ((with_reducible refine at_alloc 90 ?_); go_loud (refine wpList_plain rfl fun K hK => wp_alloc_row 90 rfl 4 rfl _ 2 info_hash (hK _ _ ?_)); clear hK K
       refine gen_l (fun W => HashX w.heap.size (idxC (.slice vw m cw) fd fs) 76 0 [] w W) (HashX.begin (heap_new _ _ _ _ rfl) rfl hT.out) ?_
       intro W hS0
       have hS := Lib.hid hS0
       clear hS0)
    | ((with_reducible refine at_load 74 ?_); refine wpList_value (by rfl) _ (run_load_cell _ 74 _ (by rfl) ⟨w.heap.size, 0, none⟩ (by rfl) (.slice vw m cw) (hS.out.toBoxL.cell 0) _ Tryd.underlying74 rfl) ?_)
    | ((with_reducible refine (wbits_long m vw cw _ hk).mono ?_)
       rintro e W ⟨rfl, hb1⟩
       have hS1 := hS.out.later hb1
       clear hb1
       clear hS
       have hS := Lib.hid hS1
       clear hS1)
    | ((with_reducible refine (HashX.put hS.out (zeroR) 6 hRi.out (by decide)).mono ?_)
       rintro e W ⟨rfl, hS1⟩
       rw [if_pos rfl] at hS1
       clear hS
       have hS := Lib.hid hS1
       clear hS1)
    | ((with_reducible refine at_load 59 ?_); refine wpList_value (by rfl) _ (run_load_rows _ 59 _ (by rfl) w.heap.size 1 rfl (fcells 100 kdData fd) _ (range_midL hS.out.hX (pre := [.slice vw m cw]) rfl 1 rfl) Tryd.underlying59 rfl (by rw [row_size rowData, fcells_length])) ?_)
    | ((with_reducible refine (root_Data fd hd.out _ hS.out.hT).mono ?_)
       rintro e W ⟨rfl, hb1⟩
       have hS1 := hS.out.later hb1
       clear hb1
       clear hS
       have hS := Lib.hid hS1
       clear hS1)
    | ((with_reducible refine (HashX.put hS.out (rootData fd) 0 hRd.out (by simp)).mono ?_)
       rintro e W ⟨rfl, hS1⟩
       first | rw [if_pos rfl] at hS1 | rw [if_neg (by decide)] at hS1
       clear hS
       have hS := Lib.hid hS1
       clear hS1)
    | ((with_reducible refine (HashX.bytes hS.out (byL fs 0 96) _ 96 96 2 (hS.out.sl (pre := .slice vw m cw :: fcells 100 kdData fd) (post := []) (by simp [idxC]) (by simp [fcells_length]) hs.out) (byL_length _ _ _) (by decide) (by decide) (by unfold Dep; decide) (by decide) (by simp)).mono ?_)
       rintro e W ⟨rfl, hS1⟩
       clear hS
       have hS := Lib.hid hS1
       clear hS1)
    | ((with_reducible refine (HashX.doneE hS.out (by decide)).mono ?_)
       rintro e W ⟨rfl, hBf, hRf⟩
       have hRf1 := Lib.hid hRf
       have hbs := hBf.size
       clear hRf hS)
    | ((with_reducible refine (HashX.done hS.out 2 (by simp [Dep]) (by simp) (by decide)).mono ?_)
       rintro e W ⟨rfl, hBf, hRf⟩
       have hRf1 := Lib.hid hRf
       have hbs := hBf.size
       clear hRf hS)
    | ((with_reducible refine at_store 23 ?_); go_loud (refine wpList_store_row_gen (w0 := w) (n0 := w.heap.size) 23 _ _ rfl rfl (w.heap.size + 1) rfl _ rfl (fcells_one _ _ _) (by rw [row_size row_root]; simp [fcells]) _ 23 hRf1.out (by rw [zr_size]; simp [fcells]) (by omega) hBf (fun W9 hW9 hBW _ => ?_))))
  exact ret_mid_tmp rfl (w.heap.size + 1) 0 (fcells 32 (fun _ => .u8) (zeroR)) _ rfl hW9 Tryd.underlying23 rfl (by rw [row_size row_root, fcells_length]) rfl ⟨rfl, hBW⟩
set_option maxHeartbeats 8000000 in
theorem rrootL_Att (who : List Int) (m : Nat) (vw : Option Addr) (cw : Nat) (fd fs : Nat → Int) (hd0 : ∀ j, j < 100 → (kdData j).ok (fd j)) (hs0 : ∀ j, j < 96 → CK.ok .u8 (fs j)) (w : World) (hT0 : Tabs w) (hw0 : Row w vw .bool who) (hm : who.length = m) (hk : 64 < m) :
    Calls Tryd.prog 36 #[.agg (idxC (.slice vw m cw) fd fs).toArray] w fun e w' => e = .returned (.tuple #[.agg (rootV zeroR), .int .i64 6]) ∧ Below w.heap.size w w' := by
  have hd := Lib.hid hd0
  have hs := Lib.hid hs0
  have hw := Lib.hid hw0
  have hT := Lib.hid hT0
  clear hd0 hs0 hw0 hT0
  have t1 : decide ((64 : Int) < (m : Int)) = true := by simp; omega
  go_enter Tryd.func36, Tryd.ntmps36
  go_wp2_with (first
    | ((with_reducible refine at_alloc 23 ?_); refine wpList_plain rfl fun K hK => wp_alloc_row 23 rfl 2 rfl zr 32 info_zr (hK _ _ ?_); clear hK K)
    | ((with_reducible refine at_alloc 124 ?_); go_loud (refine wpList_plain rfl fun K hK => wp_alloc_row 124 rfl 5 rfl (rep 96) 96 (by kernel_rfl) (hK _ _ ?_)); clear hK K
       refine gen_l (fun W => RefV w.heap.size (idxC (.slice vw m cw) fd fs) 76 124 3 [] w W) (RefV.begin (heap_new _ _ _ _ rfl) rfl hT.out (by simp) (rep_get _)) ?_
       intro W hS0
       have hS := Lib.hid hS0
       clear hS0)
    | ((with_reducible refine at_load 74 ?_); refine wpList_value (by rfl) _ (run_load_cell _ 74 _ (by rfl) ⟨w.heap.size, 0, none⟩ (by rfl) (.slice vw m cw) (hS.out.toBoxL.cell 0) _ Tryd.underlying74 rfl) ?_)
    | ((with_reducible refine at_build 23 ?_); go_loud (refine wpList_value (by rfl) _ (run_build_root0 _ rfl) ?_))
    | ((with_reducible refine at_store 23 ?_); refine at_staddr 23 (w.heap.size + 1) 0 rfl ?_; go_loud (refine wpList_store_row_gen (w0 := w) (n0 := w.heap.size) 23 _ _ rfl rfl (w.heap.size + 1) rfl _ rfl (fcells_one _ _ _) (by rw [row_size row_root]; simp [fcells]) _ 23 hS.out.hR (by rw [zr_size]; simp [fcells]) (by omega) hS.out.hB (fun W9 hW9 hBW _ => ?_))))
  exact ret_mid_tmp rfl (w.heap.size + 1) 0 (fcells 32 (fun _ => .u8) zeroR) _ rfl hW9 Tryd.underlying23 rfl (by rw [row_size row_root, fcells_length]) rfl ⟨rfl, hBW⟩
end Go.Proofs.YtihelknkcomjpaaDoor
namespace Go.Proofs.YtihelknkcomjpaaDoor
open Go.RowKit BigFrame
set_option maxRecDepth 100000
section
variable {n : Nat} {C : List Value} {t tc : TypeId} {K : Nat} {rs : List (Nat → Int)} {w W W' : World}
theorem wp_rootV {o : Oper} {a : Act} {Kc : Act → World → Prop} {Q : Exit → Act → World → Prop} (x y : Operand) (ho : o.op = .store 23 x y) (i : Nat) (r : Nat → Int) (hx : a.eval x = .pointer (some ⟨n + 1 + 1, 32 * i, none⟩)) (hy : a.eval y = .agg (rootV r)) (h : RefV n C t tc K rs w W) (hi : rs.length = i) (hK : i < K) (hr : IsR r)
    (hk : ∀ W', RefV n C t tc K (rs ++ [r]) w W' → Kc (a.put o.dst undef) W') : o.wp Tryd.prog a W Kc Q := by
  obtain ⟨C, h1, h2, h3⟩ := h.hC
  have hs := h.size
  have ht : W.there (n + 1 + 1) (32 * i) (rootV r).size := fun j hj => by
    have hj : j < 32 := by simpa [fcells] using hj
    refine ⟨?_, Joins.unfrozen_of_block h1 _⟩
    rw [cell_of_row W (n + 1 + 1) _ C _ _ h1, h3 i hK j hj]
    rfl
  refine wp_store_mid 23 x y ho (n + 1 + 1) (32 * i) (rootV r) hx hy ht (by rw [row_size row_root]; simp [fcells]) (fcells_one _ _ _) (hk _ ?_)
  have hA : Apart (n + 1 + 1) W (W.setCells (n + 1 + 1) (32 * i) (rootV r).toList) := (Apart.refl _ _).setCells _ _ _ (Or.inl rfl)
  obtain ⟨C', h5, h6⟩ := splice_setCells (n + 1 + 1) (rootV r).toList (32 * i) W C _ h1
  have hsame := World.rangeAt_setCells_same W (n + 1 + 1) (32 * i) (rootV r).toList (by simpa using ht)
  have hB2 : Below n w (W.setCells (n + 1 + 1) (32 * i) (rootV r).toList) := hA.below h.hB (by omega) (by omega)
  refine ⟨⟨(hA.block n (by omega) (by omega)).trans h.hX, hB2⟩, (hA.block _ (by omega) (by omega)).trans h.hR, ⟨C', h5, h6.trans h2, fun i' hi' j hj => ?_⟩, fun q hq => ?_, ?_, h.h3⟩
  · rw [← cell_of_row _ (n + 1 + 1) (32 * i' + j) C' _ _ h5, leaf_app, hi]
    by_cases e : i' = i
    · subst e
      rw [if_pos rfl]
      exact hsame j _ (fcells_get 32 (fun _ => .u8) r j hj)
    · rw [if_neg e, World.cell?_setCells_out (n + 1 + 1) _ _ W ⟨n + 1 + 1, 32 * i' + j, none⟩ (fun _ _ => by simp [fcells]; omega), cell_of_row W (n + 1 + 1) _ C _ _ h1]
      exact h3 i' hi' j hj
  · rcases List.mem_append.1 hq with hq | hq
    · exact h.is q hq
    · rw [List.mem_singleton.1 hq]; exact hr
  · exact h.hT.below (by have := h.h3; omega) (hA.below (Below.refl (n + 1 + 1) W) (Nat.le_refl _) (by omega))
end
set_option maxHeartbeats 8000000 in
theorem rroot_Att (who : List Int) (m : Nat) (vw : Option Addr) (cw : Nat) (fd fs : Nat → Int) (hd0 : ∀ j, j < 100 → (kdData j).ok (fd j)) (hs0 : ∀ j, j < 96 → CK.ok .u8 (fs j)) (w : World) (hT0 : Tabs w) (hw0 : Row w vw .bool who) (hm : who.length = m) (hk : m ≤ 64) :
    Calls Tryd.prog 36 #[.agg (idxC (.slice vw m cw) fd fs).toArray] w fun e w' => e = .returned (.tuple #[.agg (rootV (rootAtt who fd fs)), .int .i64 0]) ∧ Below w.heap.size w w' := by
  have hd := Lib.hid hd0
  have hs := Lib.hid hs0
  have hw := Lib.hid hw0
  have hT := Lib.hid hT0
  clear hd0 hs0 hw0 hT0
  have t1 : decide ((64 : Int) < (m : Int)) = false := by simp; omega
  go_enter Tryd.func36, Tryd.ntmps36
  go_wp2_with (first
    | ((with_reducible refine at_alloc 23 ?_); refine wpList_plain rfl fun K hK => wp_alloc_row 23 rfl 2 rfl zr 32 info_zr (hK _ _ ?_); clear hK K)
    | ((with_reducible refine at_alloc 124 ?_); go_loud (refine wpList_plain rfl fun K hK => wp_alloc_row 124 rfl 5 rfl (rep 96) 96 (by kernel_rfl) (hK _ _ ?_)); clear hK K
       refine gen_l (fun W => RefV w.heap.size (idxC (.slice vw m cw) fd fs) 76 124 3 [] w W) (RefV.begin (heap_new _ _ _ _ rfl) rfl hT.out (by simp) (rep_get _)) ?_
       intro W hS0
       have hS := Lib.hid hS0
       clear hS0)
    | ((with_reducible refine at_load 74 ?_); refine wpList_value (by rfl) _ (run_load_cell _ 74 _ (by rfl) ⟨w.heap.size, 0, none⟩ (by rfl) (.slice vw m cw) (hS.out.toBoxL.cell 0) _ Tryd.underlying74 rfl) ?_)
    | ((with_reducible refine at_build 23 ?_); go_loud (refine wpList_value (by rfl) _ (run_build_root0 _ rfl) ?_))
  )
  have hlv : (vecB who).length = (m + 7) / 8 := by rw [vecB_length, hm]
  have hvb := Lib.hid (fun W (hW : Row W vw .bool who) => rvectorB_any who m vw cw W hW hm (by omega))
  obtain ⟨z, hz⟩ : ∃ z, z = (m + 7) / 8 := ⟨_, rfl⟩
  obtain ⟨q, hq⟩ : ∃ q, q = (z + 31) / 32 := ⟨_, rfl⟩
  have hown := Lib.hid (fun (W : World) (g base : Nat) (hg : base ≤ g) => vecB_own (W := W) (g := g) (base := base) hm hg (by omega))
  rw [← hz] at hlv hvb hown
  have hq1 : q ≤ 1 := by omega
  have hzb : z ≤ 1000 := by omega
  have hcl : (chunks (vecB who)).length = q := by rw [chunks_length, hlv, hq]
  have hRd := Lib.hid (rootData_is hd.out)
  have hRw := Lib.hid (bitsW_is who)
  have hRt := Lib.hid (bitsT_is who)
  have hRb := Lib.hid (show IsR (byR 2 (byL fs 0 96)) from byR_is (byL_ok fun j hj => by rw [Nat.zero_add]; exact hs.out j hj))
  rename_i K hK
  refine wp_region_held (S := fun W' => W'.cell? ⟨w.heap.size, 0, none⟩ = some (.slice vw m cw)) (by kernel_rfl) ?_
  have hS1 := hS.out.later (W' := { W with drawn := W.drawn + 1 }) (Below.refl _ _).drew
  clear hS
  have hS := Lib.hid hS1
  have hc0 := hS1.toBoxL.cell 0
  clear hS1
  have hcc : ({ W with drawn := W.drawn + 1 } : World).cell? ⟨w.heap.size, 0, none⟩ = some (.slice vw m cw) := hc0
  refine takeL (i := 0) (v := (.pointer (some ⟨w.heap.size, 0, none⟩))) rfl (by kernel_rfl) (by kernel_rfl) (by kernel_rfl) (fun _ _ _ h => h) rfl (by assumption) (fun w' hS' => by go_simp) ?_
  simp only [Act.put, List.setIfInBounds_toArray, List.set_cons_zero, List.set_cons_succ]
  refine takeL (i := 5) (v := (.pointer (some ⟨w.heap.size, 0, none⟩))) rfl (by kernel_rfl) (by kernel_rfl) (by kernel_rfl) (fun _ _ _ h => h) rfl (by assumption) (fun w' hS' => by go_simp) ?_
  simp only [Act.put, List.setIfInBounds_toArray, List.set_cons_zero, List.set_cons_succ]
  refine takeL (i := 1) (v := (.slice vw m cw)) rfl (by kernel_rfl) (by kernel_rfl) (by kernel_rfl) (fun _ _ _ h => h) rfl (by assumption) (fun w' hS' => run_load_cell _ 74 _ (by rfl) ⟨w.heap.size, 0, none⟩ (by rfl) _ hS' _ Tryd.underlying74 rfl) ?_
  simp only [Act.put, List.setIfInBounds_toArray, List.set_cons_zero, List.set_cons_succ]
  refine takeL (i := 6) (v := (.slice vw m cw)) rfl (by kernel_rfl) (by kernel_rfl) (by kernel_rfl) (fun _ _ _ h => h) rfl (by assumption) (fun w' hS' => run_load_cell _ 74 _ (by rfl) ⟨w.heap.size, 0, none⟩ (by rfl) _ hS' _ Tryd.underlying74 rfl) ?_
  simp only [Act.put, List.setIfInBounds_toArray, List.set_cons_zero, List.set_cons_succ]
  refine takeL (i := 7) (v := (.int .i64 (m : Int))) rfl (by kernel_rfl) (by kernel_rfl) (by kernel_rfl) (fun _ _ _ h => h) rfl (by assumption) (fun w' hS' => by go_simp) ?_
  simp only [Act.put, List.setIfInBounds_toArray, List.set_cons_zero, List.set_cons_succ]
  have wu : IntKind.u64.wrap (m : Int) = (m : Int) := by rw [IntKind.wrap_u64]; omega
  refine takeL (i := 8) (v := (.int .u64 (m : Int))) rfl (by kernel_rfl) (by kernel_rfl) (by kernel_rfl) (fun _ _ _ h => h) rfl (by assumption) (fun w' hS' => by go_simp) ?_
  simp only [Act.put, List.setIfInBounds_toArray, List.set_cons_zero, List.set_cons_succ]
  refine oneL (i := 2) rfl (by kernel_rfl) rfl (wp_call 85 #[.slice vw m cw] (by go_simp) _ _ (hvb.out _ (hw.out.later hS.out.hB)) ?_)
  rintro W1 ⟨hC1, hB1⟩
  have hsl := SlB.of_own (hown.out _ _ _ (Nat.le_refl _) hC1) (vecB_ok who) (fun e => by cases e)
  have hS1 := hS.out.later hB1
  clear hS hC1 hB1 hcc hc0
  refine ⟨hS1.toBoxL.cell 0, ?_⟩
  simp only [Act.put, List.setIfInBounds_toArray, List.set_cons_zero, List.set_cons_succ]
  refine oneL (i := 3) rfl (by kernel_rfl) rfl (wp_callE 71 #[.slice _ z z] (by go_simp) (fun v w' => ∃ va' c', v = .slice va' q c' ∧ RowR w' va' (chunks (vecB who)) ∧ (∀ b o, va' = some ⟨b, o, none⟩ → b < w'.heap.size) ∧ q ≤ c' ∧ RefV w.heap.size (idxC (.slice vw m cw) fd fs) 76 124 3 [] w w') ((RefV.pack0 hS1 (vecB who) _ _ z q hsl hlv hq.symm (by omega)).mono fun e w' ⟨va', c', h1, h2⟩ => ⟨_, h1, va', c', rfl, h2⟩) ?_)
  rintro v W2 ⟨va2, c2, rfl, hrow2, hlow2, hc2, hS2⟩
  clear hS1 hsl
  refine ⟨hS2.toBoxL.cell 0, ?_⟩
  simp only [Act.put, List.setIfInBounds_toArray, List.set_cons_zero, List.set_cons_succ]
  refine oneL (i := 4) rfl (by kernel_rfl) rfl (wp_call 47 #[.slice va2 q c2, .int .i64 1] (by go_simp) (.agg (rootV (bitsT who))) _ (RefV.mustM hS2 (chunks (vecB who)) va2 c2 q 0 1 (1 : Int) rfl hrow2 hlow2 hc2 hcl hq1 ⟨by decide, Or.inl rfl⟩ (by decide)) ?_)
  intro W3 hS3
  clear hS2 hrow2 hlow2 hc2
  refine ⟨hS3.toBoxL.cell 0, ?_⟩
  simp only [Act.put, List.setIfInBounds_toArray, List.set_cons_zero, List.set_cons_succ]
  refine oneL (i := 9) rfl (by kernel_rfl) rfl (wp_call 72 #[.agg (rootV (bitsT who)), .int .u64 (m : Int)] (by go_simp) (.agg (rootV (bitsW who))) (fun w' => Below W3.heap.size W3 w') (by unfold bitsW; rw [hm]; exact rmmix_any (bitsT who) (m : Int) W3 hRt.out hS3.hT) ?_)
  intro W4 hB4
  have hS4 := hS3.later hB4
  clear hS3 hB4
  refine ⟨hS4.toBoxL.cell 0, ?_⟩
  simp only [Act.put, List.setIfInBounds_toArray, List.set_cons_zero, List.set_cons_succ]
  have hcc4 : W4.cell? ⟨w.heap.size, 0, none⟩ = some (.slice vw m cw) := hS4.toBoxL.cell 0
  refine takeL (i := 10) (v := (.pointer (some ⟨w.heap.size + 1 + 1, 0, none⟩))) rfl (by kernel_rfl) (by kernel_rfl) (by kernel_rfl) (fun _ _ _ h => h) rfl (by assumption) (fun w' hS' => by go_simp) ?_
  simp only [Act.put, List.setIfInBounds_toArray, List.set_cons_zero, List.set_cons_succ]
  refine oneL (i := 11) rfl (by kernel_rfl) rfl (wp_rootV (.tmp 21) (.tmp 20) rfl 0 (bitsW who) rfl rfl hS4 rfl (by decide) hRw.out (fun W5 hS5 => ⟨hS5.toBoxL.cell 0, ?_⟩))
  clear hS4
  simp only [Act.put, List.setIfInBounds_toArray, List.set_cons_zero, List.set_cons_succ]
  refine wpAnyH_done (by kernel_rfl) ?_ _
  refine hK _ _ ?_
  have hS := Lib.hid hS5
  clear hS5
  obtain ⟨W, hWW⟩ : ∃ W, W = W5 := ⟨_, rfl⟩
  subst hWW
  go_wp2_with (first
    | ((with_reducible refine at_load 59 ?_); refine wpList_value (by rfl) _ (run_load_rows _ 59 _ (by rfl) w.heap.size 1 rfl (fcells 100 kdData fd) _ (range_midL hS.out.hX (pre := [.slice vw m cw]) rfl 1 rfl) Tryd.underlying59 rfl (by rw [row_size rowData, fcells_length])) ?_)
    | ((with_reducible refine (rroot_Data fd hd.out _ hS.out.hT).mono ?_)
       rintro e W ⟨rfl, hb1⟩
       have hS1 := hS.out.later hb1
       clear hb1
       clear hS
       have hS := Lib.hid hS1
       clear hS1)
    | ((with_reducible refine at_store 23 ?_); refine at_staddr 23 (w.heap.size + 1 + 1) (32 * 1) rfl ?_; refine wpList_rootV rfl _ _ rfl 1 (rootData fd) rfl rfl hS.out rfl (by decide) hRd.out (fun W1 hS1 => ?_)
       obtain ⟨W, hWW⟩ : ∃ W, W = W1 := ⟨_, rfl⟩
       subst hWW
       clear hS
       have hS := Lib.hid hS1
       clear hS1)
    | ((with_reducible refine (RefV.pack hS.out (byL fs 0 96) _ 96 96 3 (hS.out.toBoxL.sl (pre := .slice vw m cw :: fcells 100 kdData fd) (post := []) (by simp [idxC]) (by simp [fcells_length]) hs.out) (byL_length _ _ _) (by decide) (by decide) (by decide)).mono ?_)
       rintro e W ⟨va1, c1, rfl, hp1, hlow1, hc1, hS1⟩
       have hp := Lib.hid hp1
       have hlw := Lib.hid hlow1
       clear hp1 hlow1
       clear hS
       have hS := Lib.hid hS1
       clear hS1)
    | ((with_reducible refine (RefV.must hS.out (byL fs 0 96) va1 c1 3 2 (3 : Int) hp.out hlw.out hc1 (by rw [byL_length]) rfl (by unfold Dep; decide) (by decide)).mono ?_)
       rintro e W ⟨rfl, hS1⟩
       clear hp hlw hc1
       clear hS
       have hS := Lib.hid hS1
       clear hS1)
    | ((with_reducible refine at_store 23 ?_); refine at_staddr 23 (w.heap.size + 1 + 1) (32 * 2) rfl ?_; refine wpList_rootV rfl _ _ rfl 2 (byR 2 (byL fs 0 96)) rfl rfl hS.out rfl (by decide) hRb.out (fun W1 hS1 => ?_)
       obtain ⟨W, hWW⟩ : ∃ W, W = W1 := ⟨_, rfl⟩
       subst hWW
       clear hS
       have hS := Lib.hid hS1
       clear hS1)
    | ((with_reducible refine (RefV.last hS.out 2 (3 : Int) rfl rfl (by unfold Dep; decide) (by decide)).mono ?_)
       rintro e W ⟨rfl, hBf, hRf⟩
       have hRf1 := Lib.hid hRf
       clear hRf hS)
    | ((with_reducible refine at_store 23 ?_); go_loud (refine wpList_store_row_gen (w0 := w) (n0 := w.heap.size) 23 _ _ rfl rfl (w.heap.size + 1) rfl _ rfl (fcells_one _ _ _) (by rw [row_size row_root]; simp [fcells]) _ 23 hRf1.out (by rw [zr_size]; simp [fcells]) (by omega) hBf (fun W9 hW9 hBW _ => ?_))))
  exact ret_mid_tmp rfl (w.heap.size + 1) 0 (fcells 32 (fun _ => .u8) (rootAtt who fd fs)) _ rfl hW9 Tryd.underlying23 rfl (by rw [row_size row_root, fcells_length]) rfl ⟨rfl, hBW⟩
end Go.Proofs.YtihelknkcomjpaaDoor
