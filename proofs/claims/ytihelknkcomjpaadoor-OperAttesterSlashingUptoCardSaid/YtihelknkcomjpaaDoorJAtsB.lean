/- The bytes and the root of an attester's slashing: program and reference. -/
/- The bytes and the root of an attester's slashing: the reference's. -/
import Derived.Test.YtihelknkcomjpaaDoorJIxH
set_option linter.unusedVariables false
set_option linter.unusedSimpArgs false
set_option linter.unnecessarySimpa false
namespace Go.Proofs.YtihelknkcomjpaaDoor
open Go.RowKit BigFrame
set_option maxRecDepth 100000
/-- An indexed attestation in plain words. -/
structure Ix where
  who : List Int
  fd : Nat → Int
  fs : Nat → Int
structure Ix.ok (a : Ix) : Prop where
  hw : ∀ m ∈ a.who, CK.ok .u64 m
  hd : ∀ j, j < 100 → (kdData j).ok (a.fd j)
  hs : ∀ j, j < 96 → CK.ok .u8 (a.fs j)
  few : a.who.length ≤ 1048576
def Ix.err (a : Ix) : Int := if a.who.length ≤ 64 then 0 else 6
def Ix.L (a : Ix) : List Int := if a.who.length ≤ 64 then encLIdx a.who a.fd a.fs else []
def Ix.R (a : Ix) : Nat → Int := if a.who.length ≤ 64 then rootIdx a.who a.fd a.fs else zeroR
def Ix.cells (a : Ix) (s : Value) : List Value := idxC s a.fd a.fs
/-- Its list stands. -/
def Ix.at (a : Ix) (s : Value) (W : World) : Prop := ∃ va c, s = .slice va a.who.length c ∧ Row W va .u64 a.who
theorem Ix.at.later {a : Ix} {s : Value} {W W' : World} (h : a.at s W) (hb : Below W.heap.size W W') : a.at s W' := by
  obtain ⟨va, c, e, h1⟩ := h
  exact ⟨va, c, e, h1.later hb⟩
theorem Ix.cells_length (a : Ix) (s : Value) : (a.cells s).length = 197 := idxC_length _ _ _
theorem Ix.L_le (a : Ix) : a.L.length ≤ 740 := by
  unfold Ix.L
  split
  · rw [encIdx_length]; omega
  · simp
theorem Ix.L_ok {a : Ix} (h : a.ok) : ∀ m ∈ a.L, CK.ok .u8 m := by
  unfold Ix.L
  split
  · exact encIdx_ok h.hd h.hs
  · intro m hm; simp at hm
theorem Ix.R_is {a : Ix} (h : a.ok) : IsR a.R := by
  unfold Ix.R
  split
  · exact rootIdx_is h.hd h.hs
  · exact zeroR_is
theorem Ix.one {a : Ix} {s : Value} {W : World} (h : a.at s W) : ∀ v ∈ a.cells s, v.oneCell' = true := by
  obtain ⟨va, c, rfl, _⟩ := h
  have h1 := idxC_one va a.who.length c a.fd a.fs
  rw [List.all_toArray, List.all_eq_true] at h1
  exact h1
theorem ix_enc {a : Ix} (ho : a.ok) {s : Value} {W : World} (h : a.at s W) :
    Calls Tryd.prog 21 #[.agg (a.cells s).toArray] W fun e w' => (∃ va c, e = .returned (.tuple #[.slice va a.L.length c, .int .i64 a.err]) ∧ (va = none → c = 0) ∧ OwnB W.heap.size (.slice va a.L.length c) a.L w') ∧ Below W.heap.size W w' := by
  obtain ⟨va, c, rfl, hr⟩ := h
  unfold Ix.L Ix.err Ix.cells
  by_cases hk : a.who.length ≤ 64
  · simp only [if_pos hk]
    rw [encIdx_length]
    exact enc_Idx a.who va c a.fd a.fs ho.hd ho.hs W hr hk
  · simp only [if_neg hk]
    exact (encL_Idx a.who va c a.fd a.fs ho.hd ho.hs W hr (by omega) (by have := ho.few; omega)).mono fun e w' ⟨k1, k2⟩ => ⟨⟨none, 0, k1, fun _ => rfl, OwnB.nil _ _⟩, k2⟩
theorem rix_enc {a : Ix} (ho : a.ok) {s : Value} {W : World} (h : a.at s W) :
    Calls Tryd.prog 23 #[.agg (a.cells s).toArray] W fun e w' => (∃ va c, e = .returned (.tuple #[.slice va a.L.length c, .int .i64 a.err]) ∧ (va = none → c = 0) ∧ OwnB W.heap.size (.slice va a.L.length c) a.L w') ∧ Below W.heap.size W w' := by
  obtain ⟨va, c, rfl, hr⟩ := h
  unfold Ix.L Ix.err Ix.cells
  by_cases hk : a.who.length ≤ 64
  · simp only [if_pos hk]
    rw [encIdx_length]
    exact renc_Idx a.who va c a.fd a.fs ho.hd ho.hs W hr hk
  · simp only [if_neg hk]
    exact (rencL_Idx a.who va c a.fd a.fs ho.hd ho.hs W hr (by omega) (by have := ho.few; omega)).mono fun e w' ⟨k1, k2⟩ => ⟨⟨none, 0, k1, fun _ => rfl, OwnB.nil _ _⟩, k2⟩
theorem ix_root {a : Ix} (ho : a.ok) {s : Value} {W : World} (h : a.at s W) (hT : Tabs W) :
    Calls Tryd.prog 22 #[.agg (a.cells s).toArray] W fun e w' => e = .returned (.tuple #[.agg (rootV a.R), .int .i64 a.err]) ∧ Below W.heap.size W w' := by
  obtain ⟨va, c, rfl, hr⟩ := h
  unfold Ix.R Ix.err Ix.cells
  by_cases hk : a.who.length ≤ 64
  · simp only [if_pos hk]
    exact root_Idx a.who va c a.fd a.fs ho.hd ho.hs W hT hr hk
  · simp only [if_neg hk]
    exact rootL_Idx a.who va c a.fd a.fs ho.hd ho.hs W hT hr (by omega) (by have := ho.few; omega)
theorem rix_root {a : Ix} (ho : a.ok) {s : Value} {W : World} (h : a.at s W) (hT : Tabs W) :
    Calls Tryd.prog 24 #[.agg (a.cells s).toArray] W fun e w' => e = .returned (.tuple #[.agg (rootV a.R), .int .i64 a.err]) ∧ Below W.heap.size W w' := by
  obtain ⟨va, c, rfl, hr⟩ := h
  unfold Ix.R Ix.err Ix.cells
  by_cases hk : a.who.length ≤ 64
  · simp only [if_pos hk]
    exact rroot_Idx a.who va c a.fd a.fs ho.hd ho.hs W hT hr hk
  · simp only [if_neg hk]
    exact rrootL_Idx a.who va c a.fd a.fs ho.hd ho.hs W hT hr (by omega) (by have := ho.few; omega)
/-! An attester's slashing. -/
def atsC (a b : Ix) (s t : Value) : List Value := a.cells s ++ b.cells t
theorem atsC_length (a b : Ix) (s t : Value) : (atsC a b s t).length = 394 := by simp [atsC, Ix.cells_length]
def atsE (a b : Ix) : Int := if a.err = 0 then b.err else a.err
def atsL (a b : Ix) : List Int := if atsE a b = 0 then le4 8 ++ (le4 ((8 + a.L.length : Nat) : Int) ++ (a.L ++ b.L)) else []
def atsR (a b : Ix) : Nat → Int := if atsE a b = 0 then fullT 1 (leaf [a.R, b.R]) else zeroR
theorem atsL_length {a b : Ix} (h : atsE a b = 0) : (atsL a b).length = 8 + a.L.length + b.L.length := by
  unfold atsL
  rw [if_pos h]
  simp only [List.length_append, le4_length]
  omega
theorem atsL_le (a b : Ix) : (atsL a b).length ≤ 2000 := by
  have h1 := a.L_le
  have h2 := b.L_le
  by_cases h : atsE a b = 0
  · rw [atsL_length h]; omega
  · unfold atsL; rw [if_neg h]; simp
theorem atsL_ok {a b : Ix} (ha : a.ok) (hb : b.ok) : ∀ m ∈ atsL a b, CK.ok .u8 m := by
  unfold atsL
  split
  · exact ok_append (le4_ok _) (ok_append (le4_ok _) (ok_append (Ix.L_ok ha) (Ix.L_ok hb)))
  · intro m hm; simp at hm
theorem size_ats : (Tryd.prog.info? 68).map (·.size) = some 394 := by kernel_rfl
theorem ats_fst (a b : Ix) (s t : Value) : atsC a b s t = [] ++ (a.cells s ++ b.cells t) := rfl
theorem ats_snd (a b : Ix) (s t : Value) : atsC a b s t = a.cells s ++ (b.cells t ++ []) := by simp [atsC]
set_option maxHeartbeats 8000000 in
theorem enc_Ats (a b : Ix) (ha0 : a.ok) (hb0 : b.ok) (s t : Value) (w : World) (h10 : a.at s w) (h20 : b.at t w) :
    Calls Tryd.prog 27 #[.agg (atsC a b s t).toArray] w fun e w' => (∃ va c, e = .returned (.tuple #[.slice va (atsL a b).length c, .int .i64 (atsE a b)]) ∧ (va = none → c = 0) ∧ OwnB w.heap.size (.slice va (atsL a b).length c) (atsL a b) w') ∧ Below w.heap.size w w' := by
  have ha := Lib.hid ha0
  have hb := Lib.hid hb0
  have h1 := Lib.hid h10
  have h2 := Lib.hid h20
  have l1 := a.L_le
  have l2 := b.L_le
  have hE := Lib.hid (show atsE a b = if a.err = 0 then b.err else a.err from rfl)
  have hL := Lib.hid (show atsL a b = if atsE a b = 0 then le4 8 ++ (le4 ((8 + a.L.length : Nat) : Int) ++ (a.L ++ b.L)) else [] from rfl)
  have hLl := Lib.hid (fun h => atsL_length (a := a) (b := b) h)
  clear ha0 hb0 h10 h20
  generalize atsE a b = E at *
  generalize atsL a b = L at *
  go_enter Tryd.func27, Tryd.ntmps27
  go_wp2_with (first
    | ((with_reducible refine at_alloc 84 ?_); refine wpList_plain rfl fun K hK => wp_alloc_row 84 rfl 4 rfl _ 5 zero_outV (hK _ _ ?_); clear hK K
       refine gen_l (fun W => EncI w.heap.size (atsC a b s t) 68 W.heap.size [] [] [] [] 0 w W) (EncI.begin rfl rfl) ?_
       intro W hS0
       have hS := Lib.hid hS0
       clear hS0)
    | ((with_reducible refine at_load 61 ?_); refine wpList_value (by rfl) _ (run_load_rows _ 61 _ (by rfl) w.heap.size 0 rfl (a.cells s) _ (range_mid hS.out.hX (ats_fst a b s t) 0 rfl) Tryd.underlying61 rfl (by rw [size_idx, Ix.cells_length])) ?_)
    | ((with_reducible refine at_load 61 ?_); refine wpList_value (by rfl) _ (run_load_rows _ 61 _ (by rfl) w.heap.size 197 rfl (b.cells t) _ (range_mid hS.out.hX (ats_snd a b s t) 197 (Ix.cells_length _ _)) Tryd.underlying61 rfl (by rw [size_idx, Ix.cells_length])) ?_)
    | ((with_reducible refine (ix_enc ha.out (h1.out.later hS.out.hB)).mono ?_)
       rintro e1 W2 ⟨⟨va1, c1, rfl, hn1, ho1⟩, hb1⟩
       have hS1 := hS.out.later hb1
       have ho := Lib.hid (own_mono ho1 hS.out.hW)
       clear hS
       have hS := Lib.hid hS1
       clear hS1 hn1 ho1 hb1)
    | ((with_reducible refine (ix_enc hb.out (h2.out.later hS.out.hB)).mono ?_)
       rintro e1 W2 ⟨⟨va1, c1, rfl, hn1, ho1⟩, hb1⟩
       have hS1 := hS.out.later hb1
       have ho := Lib.hid (own_mono ho1 hS.out.hW)
       clear hS
       have hS := Lib.hid hS1
       clear hS1 hn1 ho1 hb1)
    | ((with_reducible refine (EncI.put hS.out a.L a.L.length va1 c1 a.err ho.out rfl (by decide) (by simp; omega) (by decide) (by decide)).mono ?_)
       rintro e1 W ⟨rfl, hS1⟩
       rw [if_pos rfl] at hS1
       clear hS ho
       have hS := Lib.hid hS1
       clear hS1)
    | ((with_reducible refine (EncI.put hS.out b.L b.L.length va1 c1 b.err ho.out rfl (by decide) (by simp; omega) (by decide) (by decide)).mono ?_)
       rintro e1 W ⟨rfl, hS1⟩
       rw [← hE.out] at hS1
       clear hS ho
       have hS := Lib.hid hS1
       clear hS1))
  by_cases h0 : E = 0
  · subst h0
    have hl := Lib.hid (hLl.out rfl)
    go_wp2_with (
      ((with_reducible refine (EncI.done hS.out L.length ?hl rfl ?ha ?he ?hs ?hn).mono ?hM)
       case hl => rw [hl.out]; simp; omega
       case ha =>
         intro i hi
         match i, hi with
         | 0, _ => show 0 + 4 ≤ 8; decide
         | 1, _ => show 4 + 4 ≤ 8; decide
       case he =>
         intro i hi
         match i, hi with
         | 0, _ => show 0 ≤ _; exact Nat.zero_le _
         | 1, _ => show (([] : List Int) ++ a.L).length ≤ _; simp; omega
       case hs => rw [hl.out]; omega
       case hn => decide
       rintro e W ⟨⟨va, c, rfl, hva, hOw⟩, hBf⟩
       have hOw1 := Lib.hid hOw
       have hva1 := Lib.hid hva
       clear hOw hva))
    refine ret_t2 rfl _ _ rfl rfl rfl ⟨⟨va, c, rfl, hva1.out, ?_⟩, hBf⟩
    have h : OwnB w.heap.size (.slice va L.length c) (le4 8 ++ (le4 ((8 + a.L.length : Nat) : Int) ++ (a.L ++ b.L))) W := hOw1.out
    have eL : L = le4 8 ++ (le4 ((8 + a.L.length : Nat) : Int) ++ (a.L ++ b.L)) := by have := hL.out; simpa using this
    rw [← eL] at h
    exact h
  · have hl : L = [] := by rw [hL.out, if_neg h0]
    go_wp2_with (
      ((with_reducible refine (EncI.doneE hS.out h0).mono ?_)
       rintro e W ⟨rfl, hBf⟩))
    exact ret_t2 rfl _ _ rfl rfl rfl ⟨⟨none, 0, by rw [hl]; rfl, fun _ => rfl, by rw [hl]; exact OwnB.nil _ _⟩, hBf⟩
set_option maxHeartbeats 8000000 in
theorem root_Ats (a b : Ix) (ha0 : a.ok) (hb0 : b.ok) (s t : Value) (w : World) (hT0 : Tabs w) (h10 : a.at s w) (h20 : b.at t w) :
    Calls Tryd.prog 28 #[.agg (atsC a b s t).toArray] w fun e w' => e = .returned (.tuple #[.agg (rootV (atsR a b)), .int .i64 (atsE a b)]) ∧ Below w.heap.size w w' := by
  have ha := Lib.hid ha0
  have hb := Lib.hid hb0
  have h1 := Lib.hid h10
  have h2 := Lib.hid h20
  have hT := Lib.hid hT0
  have hRa := Lib.hid (Ix.R_is ha0)
  have hRb := Lib.hid (Ix.R_is hb0)
  have hE := Lib.hid (show atsE a b = if a.err = 0 then b.err else a.err from rfl)
  have hR := Lib.hid (show atsR a b = if atsE a b = 0 then fullT 1 (leaf [a.R, b.R]) else zeroR from rfl)
  clear ha0 hb0 h10 h20 hT0
  generalize atsE a b = E at *
  generalize atsR a b = R at *
  go_enter Tryd.func28, Tryd.ntmps28
  go_wp2_with (first
    | ((with_reducible refine at_alloc 23 ?_); refine wpList_plain rfl fun K hK => wp_alloc_row 23 rfl 2 rfl zr 32 info_zr (hK _ _ ?_); clear hK K)
    | ((with_reducible refine at_alloc 90 ?_); go_loud (refine wpList_plain rfl fun K hK => wp_alloc_row 90 rfl 4 rfl _ 2 info_hash (hK _ _ ?_)); clear hK K
       refine gen_l (fun W => HashX w.heap.size (atsC a b s t) 68 0 [] w W) (HashX.begin (heap_new _ _ _ _ rfl) rfl hT.out) ?_
       intro W hS0
       have hS := Lib.hid hS0
       clear hS0)
    | ((with_reducible refine at_load 61 ?_); refine wpList_value (by rfl) _ (run_load_rows _ 61 _ (by rfl) w.heap.size 0 rfl (a.cells s) _ (range_midL hS.out.hX (ats_fst a b s t) 0 rfl) Tryd.underlying61 rfl (by rw [size_idx, Ix.cells_length])) ?_)
    | ((with_reducible refine at_load 61 ?_); refine wpList_value (by rfl) _ (run_load_rows _ 61 _ (by rfl) w.heap.size 197 rfl (b.cells t) _ (range_midL hS.out.hX (ats_snd a b s t) 197 (Ix.cells_length _ _)) Tryd.underlying61 rfl (by rw [size_idx, Ix.cells_length])) ?_)
    | ((with_reducible refine (ix_root ha.out (h1.out.later hS.out.hB) hS.out.hT).mono ?_)
       rintro e W ⟨rfl, hb1⟩
       have hS1 := hS.out.later hb1
       clear hb1
       clear hS
       have hS := Lib.hid hS1
       clear hS1)
    | ((with_reducible refine (HashX.put hS.out a.R a.err hRa.out (by simp)).mono ?_)
       rintro e W ⟨rfl, hS1⟩
       rw [if_pos rfl] at hS1
       clear hS
       have hS := Lib.hid hS1
       clear hS1)
    | ((with_reducible refine (ix_root hb.out (h2.out.later hS.out.hB) hS.out.hT).mono ?_)
       rintro e W ⟨rfl, hb1⟩
       have hS1 := hS.out.later hb1
       clear hb1
       clear hS
       have hS := Lib.hid hS1
       clear hS1)
    | ((with_reducible refine (HashX.put hS.out b.R b.err hRb.out (by simp)).mono ?_)
       rintro e W ⟨rfl, hS1⟩
       rw [← hE.out] at hS1
       clear hS
       have hS := Lib.hid hS1
       clear hS1))
  by_cases h0 : E = 0
  · subst h0
    go_wp2_with (first
      | ((with_reducible refine (HashX.done hS.out 1 (by simp [Dep]) (by simp) (by decide)).mono ?_)
         rintro e W ⟨rfl, hBf, hRf⟩
         have hRf1 := Lib.hid hRf
         have hbs := hBf.size
         clear hRf hS)
      | ((with_reducible refine at_store 23 ?_); go_loud (refine wpList_store_row_gen (w0 := w) (n0 := w.heap.size) 23 _ _ rfl rfl (w.heap.size + 1) rfl _ rfl (fcells_one _ _ _) (by rw [row_size row_root]; simp [fcells]) _ 23 hRf1.out (by rw [zr_size]; simp [fcells]) (by omega) hBf (fun W9 hW9 hBW _ => ?_))))
    exact ret_mid_tmp rfl (w.heap.size + 1) 0 (fcells 32 (fun _ => .u8) (fullT 1 (leaf [a.R, b.R]))) _ rfl hW9 Tryd.underlying23 rfl (by rw [row_size row_root, fcells_length]) rfl ⟨by rw [show R = fullT 1 (leaf [a.R, b.R]) by have := hR.out; simpa using this]; rfl, hBW⟩
  · go_wp2_with (first
      | ((with_reducible refine (HashX.doneE hS.out h0).mono ?_)
         rintro e W ⟨rfl, hBf, hRf⟩
         have hRf1 := Lib.hid hRf
         have hbs := hBf.size
         clear hRf hS)
      | ((with_reducible refine at_store 23 ?_); go_loud (refine wpList_store_row_gen (w0 := w) (n0 := w.heap.size) 23 _ _ rfl rfl (w.heap.size + 1) rfl _ rfl (fcells_one _ _ _) (by rw [row_size row_root]; simp [fcells]) _ 23 hRf1.out (by rw [zr_size]; simp [fcells]) (by omega) hBf (fun W9 hW9 hBW _ => ?_))))
    exact ret_mid_tmp rfl (w.heap.size + 1) 0 (fcells 32 (fun _ => .u8) zeroR) _ rfl hW9 Tryd.underlying23 rfl (by rw [row_size row_root, fcells_length]) rfl ⟨by rw [show R = zeroR by have := hR.out; simpa [h0] using this]; rfl, hBW⟩
end Go.Proofs.YtihelknkcomjpaaDoor
namespace Go.Proofs.YtihelknkcomjpaaDoor
open Go.RowKit BigFrame
set_option maxRecDepth 100000
theorem layAts (L1 L2 : List Int) : layU [0, 0] [L1, L2] = le4 8 ++ (le4 ((8 + L1.length : Nat) : Int) ++ (L1 ++ L2)) := by
  simp [layU, layK, headN]
theorem fitAts (L1 L2 : List Int) (i : Nat) (hi : i < 2) (hz : [0, 0].getD i 0 ≠ 0) : ([L1, L2].getD i []).length = [0, 0].getD i 0 := by
  match i, hi with
  | 0, _ => exact absurd rfl hz
  | 1, _ => exact absurd rfl hz
set_option maxHeartbeats 8000000 in
theorem renc_Ats (a b : Ix) (ha0 : a.ok) (hb0 : b.ok) (s t : Value) (w : World) (h10 : a.at s w) (h20 : b.at t w) :
    Calls Tryd.prog 29 #[.agg (atsC a b s t).toArray] w fun e w' => (∃ va c, e = .returned (.tuple #[.slice va (atsL a b).length c, .int .i64 (atsE a b)]) ∧ (va = none → c = 0) ∧ OwnB w.heap.size (.slice va (atsL a b).length c) (atsL a b) w') ∧ Below w.heap.size w w' := by
  have ha := Lib.hid ha0
  have hb := Lib.hid hb0
  have h1 := Lib.hid h10
  have h2 := Lib.hid h20
  have hok1 := Lib.hid (Ix.L_ok ha0)
  have hok2 := Lib.hid (Ix.L_ok hb0)
  have l1 := a.L_le
  have l2 := b.L_le
  clear ha0 hb0 h10 h20
  go_enter Tryd.func29, Tryd.ntmps29
  by_cases e1 : a.err = 0
  · have hE1 := Lib.hid (show atsE a b = b.err by unfold atsE; rw [if_pos e1])
    have e1' := Lib.hid e1
    by_cases e2 : b.err = 0
    · have hL := Lib.hid (show atsL a b = le4 8 ++ (le4 ((8 + a.L.length : Nat) : Int) ++ (a.L ++ b.L)) by unfold atsL; rw [hE1.out, if_pos e2])
      have hl := Lib.hid (atsL_length (a := a) (b := b) (hE1.out.trans e2))
      have hE2 := Lib.hid (hE1.out.trans e2)
      rw [hE2.out]
      generalize atsL a b = L at *
      have e2' := Lib.hid e2
      clear e1 e2
      go_wp2_with (first
        | ((with_reducible refine at_box 68 ?_); go_loud (refine wpList_box rfl 68 _ rfl _ rfl ?_)
           refine gen_l (fun W => RefX w.heap.size (atsC a b s t) 68 [] w W) (RefX.begin (heap_new _ _ _ _ rfl) rfl) ?_
           intro W hS0
           have hS := Lib.hid hS0
           clear hS0)
        | ((with_reducible refine at_load 61 ?_); refine wpList_value (by rfl) _ (run_load_rows _ 61 _ (by rfl) w.heap.size 0 rfl (a.cells s) _ (range_midL hS.out.hX (ats_fst a b s t) 0 rfl) Tryd.underlying61 rfl (by rw [size_idx, Ix.cells_length])) ?_)
        | ((with_reducible refine at_load 61 ?_); refine wpList_value (by rfl) _ (run_load_rows _ 61 _ (by rfl) w.heap.size 197 rfl (b.cells t) _ (range_midL hS.out.hX (ats_snd a b s t) 197 (Ix.cells_length _ _)) Tryd.underlying61 rfl (by rw [size_idx, Ix.cells_length])) ?_)
        | ((with_reducible refine (rix_enc ha.out (h1.out.later hS.out.hB)).mono ?_)
           rintro e1 W2 ⟨⟨va1, c1, rfl, hn1, ho1⟩, hb1⟩
           rw [e1'.out]
           have hS1 := (hS.out.later hb1).add (SlB.of_own ho1 hok1.out hn1) rfl
           clear hS
           have hS := Lib.hid hS1
           clear hS1 hn1 ho1 hb1)
        | ((with_reducible refine (rix_enc hb.out (h2.out.later hS.out.hB)).mono ?_)
           rintro e1 W2 ⟨⟨va1, c1, rfl, hn1, ho1⟩, hb1⟩
           rw [e2'.out]
           have hS1 := (hS.out.later hb1).add (SlB.of_own ho1 hok2.out hn1) rfl
           clear hS
           have hS := Lib.hid hS1
           clear hS1 hn1 ho1 hb1)
        | ((with_reducible refine (RefX.layu hS.out (k := 2) (S := L.length) (L := L) [0, 0] ?hV ?hZ rfl rfl (by decide) (by decide) (by decide) ?hF ?hL rfl ?hs).mono ?hM)
           case hV => rfl
           case hZ => rfl
           case hF => exact fitAts a.L b.L
           case hL => rw [hL.out]; exact layAts a.L b.L
           case hs => rw [hl.out]; omega
           rintro e W ⟨⟨va, c, rfl, hva, hOw⟩, hBf⟩
           have hOw1 := Lib.hid hOw
           have hva1 := Lib.hid hva
           clear hOw hva))
      exact ret_t2 rfl _ _ rfl rfl rfl ⟨⟨va, c, rfl, hva1.out, hOw1.out⟩, hBf⟩
    · have hL : atsL a b = [] := by unfold atsL; rw [hE1.out, if_neg e2]
      rw [hL, hE1.out]
      have hne : (b.err != 0) = true := by simp [e2]
      clear hL e1
      go_wp2_with (first
        | ((with_reducible refine at_box 68 ?_); go_loud (refine wpList_box rfl 68 _ rfl _ rfl ?_)
           refine gen_l (fun W => RefX w.heap.size (atsC a b s t) 68 [] w W) (RefX.begin (heap_new _ _ _ _ rfl) rfl) ?_
           intro W hS0
           have hS := Lib.hid hS0
           clear hS0)
        | ((with_reducible refine at_load 61 ?_); refine wpList_value (by rfl) _ (run_load_rows _ 61 _ (by rfl) w.heap.size 0 rfl (a.cells s) _ (range_midL hS.out.hX (ats_fst a b s t) 0 rfl) Tryd.underlying61 rfl (by rw [size_idx, Ix.cells_length])) ?_)
        | ((with_reducible refine at_load 61 ?_); refine wpList_value (by rfl) _ (run_load_rows _ 61 _ (by rfl) w.heap.size 197 rfl (b.cells t) _ (range_midL hS.out.hX (ats_snd a b s t) 197 (Ix.cells_length _ _)) Tryd.underlying61 rfl (by rw [size_idx, Ix.cells_length])) ?_)
        | ((with_reducible refine (rix_enc ha.out (h1.out.later hS.out.hB)).mono ?_)
           rintro e1 W2 ⟨⟨va1, c1, rfl, hn1, ho1⟩, hb1⟩
           rw [e1'.out]
           have hS1 := (hS.out.later hb1).add (SlB.of_own ho1 hok1.out hn1) rfl
           clear hS
           have hS := Lib.hid hS1
           clear hS1 hn1 ho1 hb1)
        | ((with_reducible refine (rix_enc hb.out (h2.out.later hS.out.hB)).mono ?_)
           rintro e1 W2 ⟨⟨va1, c1, rfl, hn1, ho1⟩, hb1⟩
           have hS1 := (hS.out.later hb1).add (SlB.of_own ho1 hok2.out hn1) rfl
           clear hS
           have hS := Lib.hid hS1
           clear hS1 hn1 ho1 hb1))
      exact ret_t2 rfl _ _ rfl rfl rfl ⟨⟨none, 0, rfl, fun _ => rfl, OwnB.nil _ _⟩, hS.out.hB⟩
  · have hE : atsE a b = a.err := by unfold atsE; rw [if_neg e1]
    have hL : atsL a b = [] := by unfold atsL; rw [hE, if_neg e1]
    rw [hL, hE]
    have hne : (a.err != 0) = true := by simp [e1]
    clear hL hE
    go_wp2_with (first
      | ((with_reducible refine at_box 68 ?_); go_loud (refine wpList_box rfl 68 _ rfl _ rfl ?_)
         refine gen_l (fun W => RefX w.heap.size (atsC a b s t) 68 [] w W) (RefX.begin (heap_new _ _ _ _ rfl) rfl) ?_
         intro W hS0
         have hS := Lib.hid hS0
         clear hS0)
      | ((with_reducible refine at_load 61 ?_); refine wpList_value (by rfl) _ (run_load_rows _ 61 _ (by rfl) w.heap.size 0 rfl (a.cells s) _ (range_midL hS.out.hX (ats_fst a b s t) 0 rfl) Tryd.underlying61 rfl (by rw [size_idx, Ix.cells_length])) ?_)
      | ((with_reducible refine at_load 61 ?_); refine wpList_value (by rfl) _ (run_load_rows _ 61 _ (by rfl) w.heap.size 197 rfl (b.cells t) _ (range_midL hS.out.hX (ats_snd a b s t) 197 (Ix.cells_length _ _)) Tryd.underlying61 rfl (by rw [size_idx, Ix.cells_length])) ?_)
      | ((with_reducible refine (rix_enc ha.out (h1.out.later hS.out.hB)).mono ?_)
         rintro e1 W2 ⟨⟨va1, c1, rfl, hn1, ho1⟩, hb1⟩
         have hS1 := (hS.out.later hb1).add (SlB.of_own ho1 hok1.out hn1) rfl
         clear hS
         have hS := Lib.hid hS1
         clear hS1 hn1 ho1 hb1))
    exact ret_t2 rfl _ _ rfl rfl rfl ⟨⟨none, 0, rfl, fun _ => rfl, OwnB.nil _ _⟩, hS.out.hB⟩
set_option maxHeartbeats 8000000 in
theorem rroot_Ats (a b : Ix) (ha0 : a.ok) (hb0 : b.ok) (s t : Value) (w : World) (hT0 : Tabs w) (h10 : a.at s w) (h20 : b.at t w) :
    Calls Tryd.prog 30 #[.agg (atsC a b s t).toArray] w fun e w' => e = .returned (.tuple #[.agg (rootV (atsR a b)), .int .i64 (atsE a b)]) ∧ Below w.heap.size w w' := by
  have ha := Lib.hid ha0
  have hb := Lib.hid hb0
  have h1 := Lib.hid h10
  have h2 := Lib.hid h20
  have hT := Lib.hid hT0
  have hRa := Lib.hid (Ix.R_is ha0)
  have hRb := Lib.hid (Ix.R_is hb0)
  clear ha0 hb0 h10 h20 hT0
  go_enter Tryd.func30, Tryd.ntmps30
  by_cases e1 : a.err = 0
  · have hE1 := Lib.hid (show atsE a b = b.err by unfold atsE; rw [if_pos e1])
    have e1' := Lib.hid e1
    by_cases e2 : b.err = 0
    · have hR := Lib.hid (show atsR a b = fullT 1 (leaf [a.R, b.R]) by unfold atsR; rw [hE1.out, if_pos e2])
      rw [hE1.out, hR.out, e2]
      have e2' := Lib.hid e2
      clear e1 e2 hR
      go_wp2_with (first
        | ((with_reducible refine at_alloc 23 ?_); refine wpList_plain rfl fun K hK => wp_alloc_row 23 rfl 2 rfl zr 32 info_zr (hK _ _ ?_); clear hK K)
        | ((with_reducible refine at_alloc 97 ?_); go_loud (refine wpList_plain rfl fun K hK => wp_alloc_row 97 rfl 5 rfl (rep 64) 64 (by kernel_rfl) (hK _ _ ?_)); clear hK K
           refine gen_l (fun W => RefV w.heap.size (atsC a b s t) 68 97 2 [] w W) (RefV.begin (heap_new _ _ _ _ rfl) rfl hT.out (by simp) (rep_get _)) ?_
           intro W hS0
           have hS := Lib.hid hS0
           clear hS0)
        | ((with_reducible refine at_load 61 ?_); refine wpList_value (by rfl) _ (run_load_rows _ 61 _ (by rfl) w.heap.size 0 rfl (a.cells s) _ (range_midL hS.out.hX (ats_fst a b s t) 0 rfl) Tryd.underlying61 rfl (by rw [size_idx, Ix.cells_length])) ?_)
        | ((with_reducible refine at_load 61 ?_); refine wpList_value (by rfl) _ (run_load_rows _ 61 _ (by rfl) w.heap.size 197 rfl (b.cells t) _ (range_midL hS.out.hX (ats_snd a b s t) 197 (Ix.cells_length _ _)) Tryd.underlying61 rfl (by rw [size_idx, Ix.cells_length])) ?_)
        | ((with_reducible refine (rix_root ha.out (h1.out.later hS.out.hB) hS.out.hT).mono ?_)
           rintro e W ⟨rfl, hb1⟩
           rw [e1'.out]
           have hS1 := hS.out.later hb1
           clear hb1
           clear hS
           have hS := Lib.hid hS1
           clear hS1)
        | ((with_reducible refine at_store 23 ?_); refine at_staddr 23 (w.heap.size + 1 + 1) (32 * 0) rfl ?_; refine wpList_rootV rfl _ _ rfl 0 a.R rfl rfl hS.out rfl (by decide) hRa.out (fun W1 hS1 => ?_)
           obtain ⟨W, hWW⟩ : ∃ W, W = W1 := ⟨_, rfl⟩
           subst hWW
           clear hS
           have hS := Lib.hid hS1
           clear hS1)
        | ((with_reducible refine (rix_root hb.out (h2.out.later hS.out.hB) hS.out.hT).mono ?_)
           rintro e W ⟨rfl, hb1⟩
           rw [e2'.out]
           have hS1 := hS.out.later hb1
           clear hb1
           clear hS
           have hS := Lib.hid hS1
           clear hS1)
        | ((with_reducible refine at_store 23 ?_); refine at_staddr 23 (w.heap.size + 1 + 1) (32 * 1) rfl ?_; refine wpList_rootV rfl _ _ rfl 1 b.R rfl rfl hS.out rfl (by decide) hRb.out (fun W1 hS1 => ?_)
           obtain ⟨W, hWW⟩ : ∃ W, W = W1 := ⟨_, rfl⟩
           subst hWW
           clear hS
           have hS := Lib.hid hS1
           clear hS1)
        | ((with_reducible refine (RefV.last hS.out 1 (2 : Int) rfl rfl (by unfold Dep; decide) (by decide)).mono ?_)
           rintro e W ⟨rfl, hBf, hRf⟩
           have hRf1 := Lib.hid hRf
           clear hRf hS)
        | ((with_reducible refine at_store 23 ?_); go_loud (refine wpList_store_row_gen (w0 := w) (n0 := w.heap.size) 23 _ _ rfl rfl (w.heap.size + 1) rfl _ rfl (fcells_one _ _ _) (by rw [row_size row_root]; simp [fcells]) _ 23 hRf1.out (by rw [zr_size]; simp [fcells]) (by omega) hBf (fun W9 hW9 hBW _ => ?_))))
      exact ret_mid_tmp rfl (w.heap.size + 1) 0 (fcells 32 (fun _ => .u8) (fullT 1 (leaf [a.R, b.R]))) _ rfl hW9 Tryd.underlying23 rfl (by rw [row_size row_root, fcells_length]) rfl ⟨rfl, hBW⟩
    · have hR : atsR a b = zeroR := by unfold atsR; rw [hE1.out, if_neg e2]
      rw [hE1.out, hR]
      have hne : (b.err != 0) = true := by simp [e2]
      clear hR e1
      go_wp2_with (first
        | ((with_reducible refine at_alloc 23 ?_); refine wpList_plain rfl fun K hK => wp_alloc_row 23 rfl 2 rfl zr 32 info_zr (hK _ _ ?_); clear hK K)
        | ((with_reducible refine at_alloc 97 ?_); go_loud (refine wpList_plain rfl fun K hK => wp_alloc_row 97 rfl 5 rfl (rep 64) 64 (by kernel_rfl) (hK _ _ ?_)); clear hK K
           refine gen_l (fun W => RefV w.heap.size (atsC a b s t) 68 97 2 [] w W) (RefV.begin (heap_new _ _ _ _ rfl) rfl hT.out (by simp) (rep_get _)) ?_
           intro W hS0
           have hS := Lib.hid hS0
           clear hS0)
        | ((with_reducible refine at_load 61 ?_); refine wpList_value (by rfl) _ (run_load_rows _ 61 _ (by rfl) w.heap.size 0 rfl (a.cells s) _ (range_midL hS.out.hX (ats_fst a b s t) 0 rfl) Tryd.underlying61 rfl (by rw [size_idx, Ix.cells_length])) ?_)
        | ((with_reducible refine at_load 61 ?_); refine wpList_value (by rfl) _ (run_load_rows _ 61 _ (by rfl) w.heap.size 197 rfl (b.cells t) _ (range_midL hS.out.hX (ats_snd a b s t) 197 (Ix.cells_length _ _)) Tryd.underlying61 rfl (by rw [size_idx, Ix.cells_length])) ?_)
        | ((with_reducible refine (rix_root ha.out (h1.out.later hS.out.hB) hS.out.hT).mono ?_)
           rintro e W ⟨rfl, hb1⟩
           rw [e1'.out]
           have hS1 := hS.out.later hb1
           clear hb1
           clear hS
           have hS := Lib.hid hS1
           clear hS1)
        | ((with_reducible refine at_store 23 ?_); refine at_staddr 23 (w.heap.size + 1 + 1) (32 * 0) rfl ?_; refine wpList_rootV rfl _ _ rfl 0 a.R rfl rfl hS.out rfl (by decide) hRa.out (fun W1 hS1 => ?_)
           obtain ⟨W, hWW⟩ : ∃ W, W = W1 := ⟨_, rfl⟩
           subst hWW
           clear hS
           have hS := Lib.hid hS1
           clear hS1)
        | ((with_reducible refine (rix_root hb.out (h2.out.later hS.out.hB) hS.out.hT).mono ?_)
           rintro e W ⟨rfl, hb1⟩
           skip
           have hS1 := hS.out.later hb1
           clear hb1
           clear hS
           have hS := Lib.hid hS1
           clear hS1)
        | ((with_reducible refine at_store 23 ?_); refine at_staddr 23 (w.heap.size + 1 + 1) (32 * 1) rfl ?_; refine wpList_rootV rfl _ _ rfl 1 b.R rfl rfl hS.out rfl (by decide) hRb.out (fun W1 hS1 => ?_)
           obtain ⟨W, hWW⟩ : ∃ W, W = W1 := ⟨_, rfl⟩
           subst hWW
           clear hS
           have hS := Lib.hid hS1
           clear hS1)
        | ((with_reducible refine at_build 23 ?_); go_loud (refine wpList_value (by rfl) _ (run_build_root0 _ rfl) ?_))
        | ((with_reducible refine at_store 23 ?_); refine at_staddr 23 (w.heap.size + 1) 0 rfl ?_; go_loud (refine wpList_store_row_gen (w0 := w) (n0 := w.heap.size) 23 _ _ rfl rfl (w.heap.size + 1) rfl _ rfl (fcells_one _ _ _) (by rw [row_size row_root]; simp [fcells]) _ 23 hS.out.hR (by rw [zr_size]; simp [fcells]) (by omega) hS.out.hB (fun W9 hW9 hBW _ => ?_)))
        )
      exact ret_mid_tmp rfl (w.heap.size + 1) 0 (fcells 32 (fun _ => .u8) zeroR) _ rfl hW9 Tryd.underlying23 rfl (by rw [row_size row_root, fcells_length]) rfl ⟨rfl, hBW⟩
  · have hE : atsE a b = a.err := by unfold atsE; rw [if_neg e1]
    have hR : atsR a b = zeroR := by unfold atsR; rw [hE, if_neg e1]
    rw [hE, hR]
    have hne : (a.err != 0) = true := by simp [e1]
    clear hR hE
    go_wp2_with (first
      | ((with_reducible refine at_alloc 23 ?_); refine wpList_plain rfl fun K hK => wp_alloc_row 23 rfl 2 rfl zr 32 info_zr (hK _ _ ?_); clear hK K)
      | ((with_reducible refine at_alloc 97 ?_); go_loud (refine wpList_plain rfl fun K hK => wp_alloc_row 97 rfl 5 rfl (rep 64) 64 (by kernel_rfl) (hK _ _ ?_)); clear hK K
         refine gen_l (fun W => RefV w.heap.size (atsC a b s t) 68 97 2 [] w W) (RefV.begin (heap_new _ _ _ _ rfl) rfl hT.out (by simp) (rep_get _)) ?_
         intro W hS0
         have hS := Lib.hid hS0
         clear hS0)
      | ((with_reducible refine at_load 61 ?_); refine wpList_value (by rfl) _ (run_load_rows _ 61 _ (by rfl) w.heap.size 0 rfl (a.cells s) _ (range_midL hS.out.hX (ats_fst a b s t) 0 rfl) Tryd.underlying61 rfl (by rw [size_idx, Ix.cells_length])) ?_)
      | ((with_reducible refine at_load 61 ?_); refine wpList_value (by rfl) _ (run_load_rows _ 61 _ (by rfl) w.heap.size 197 rfl (b.cells t) _ (range_midL hS.out.hX (ats_snd a b s t) 197 (Ix.cells_length _ _)) Tryd.underlying61 rfl (by rw [size_idx, Ix.cells_length])) ?_)
      | ((with_reducible refine (rix_root ha.out (h1.out.later hS.out.hB) hS.out.hT).mono ?_)
         rintro e W ⟨rfl, hb1⟩
         skip
         have hS1 := hS.out.later hb1
         clear hb1
         clear hS
         have hS := Lib.hid hS1
         clear hS1)
      | ((with_reducible refine at_store 23 ?_); refine at_staddr 23 (w.heap.size + 1 + 1) (32 * 0) rfl ?_; refine wpList_rootV rfl _ _ rfl 0 a.R rfl rfl hS.out rfl (by decide) hRa.out (fun W1 hS1 => ?_)
         obtain ⟨W, hWW⟩ : ∃ W, W = W1 := ⟨_, rfl⟩
         subst hWW
         clear hS
         have hS := Lib.hid hS1
         clear hS1)
      | ((with_reducible refine at_build 23 ?_); go_loud (refine wpList_value (by rfl) _ (run_build_root0 _ rfl) ?_))
      | ((with_reducible refine at_store 23 ?_); refine at_staddr 23 (w.heap.size + 1) 0 rfl ?_; go_loud (refine wpList_store_row_gen (w0 := w) (n0 := w.heap.size) 23 _ _ rfl rfl (w.heap.size + 1) rfl _ rfl (fcells_one _ _ _) (by rw [row_size row_root]; simp [fcells]) _ 23 hS.out.hR (by rw [zr_size]; simp [fcells]) (by omega) hS.out.hB (fun W9 hW9 hBW _ => ?_)))
      )
    exact ret_mid_tmp rfl (w.heap.size + 1) 0 (fcells 32 (fun _ => .u8) zeroR) _ rfl hW9 Tryd.underlying23 rfl (by rw [row_size row_root, fcells_length]) rfl ⟨rfl, hBW⟩
end Go.Proofs.YtihelknkcomjpaaDoor
