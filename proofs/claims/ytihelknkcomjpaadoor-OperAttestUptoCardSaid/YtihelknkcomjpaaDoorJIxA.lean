/- What the program's encoders of structs with lists keep while they go through the fields. -/
/- oper.EncIndexed: the bytes of an indexed attestation. -/
import Derived.Test.YtihelknkcomjpaaDoorJOg3
import Derived.Test.YtihelknkcomjpaaDoorJRqS
import Derived.Test.YtihelknkcomjpaaDoorJRead
import Derived.Test.YtihelknkcomjpaaDoorKSmData
set_option linter.unusedVariables false
set_option linter.unusedSimpArgs false
set_option linter.unnecessarySimpa false
namespace Go.Proofs.YtihelknkcomjpaaDoor
open Go.RowKit BigFrame
set_option maxRecDepth 100000
/-- Cells of a block, by a list with the wanted ones in its middle. -/
theorem range_mid {W : World} {n : Nat} {C pre mid post : List Value} {t : TypeId} {fr : Nat × Nat} (h : W.heap[n]? = some (.cells C.toArray t fr)) (hC : C = pre ++ (mid ++ post)) (off : Nat) (ho : pre.length = off) : W.rangeAt n off mid := fun j v hv => by
  subst ho
  rw [cell_of_row W n _ _ _ _ h, List.getElem?_toArray, hC, List.getElem?_append_right (by omega), Nat.add_sub_cancel_left, List.getElem?_append_left (List.getElem?_eq_some_iff.1 hv).1]
  exact hv
theorem row_range {W : World} {n off : Nat} {k : CK} {len : Nat} {f : Nat → Int} (h : W.rangeAt n off (fcells len (fun _ => k) f)) (hok : ∀ j, j < len → k.ok (f j)) : Row W (some ⟨n, off, none⟩) k (byL f 0 len) := by
  refine ⟨fun i hi => ⟨n, off, rfl, ?_⟩, fun m hm => ?_⟩
  · rw [byL_length] at hi
    rw [h i _ (fcells_get _ _ _ _ hi), byL_get _ _ _ _ hi, Nat.zero_add]
  · obtain ⟨j, hj, rfl⟩ := List.mem_map.1 hm
    rw [Nat.zero_add]
    exact hok j (by simpa using hj)
/-- The struct in its box, the Out behind it. -/
structure EncI (n : Nat) (C : List Value) (t : TypeId) (N : Nat) (hd rs : List Int) (hs es : List Nat) (er : Int) (w W : World) : Prop where
  hX : W.heap[n]? = some (.cells C.toArray t (0, 0))
  hB : Below n w W
  hO : OutN N (n + 1) hd rs hs es er W
  hN : n + 1 + 1 ≤ N
  hW : N ≤ W.heap.size
section
variable {n : Nat} {C : List Value} {t : TypeId} {N : Nat} {hd rs : List Int} {hs es : List Nat} {er : Int} {w W W' : World}
theorem EncI.cell (h : EncI n C t N hd rs hs es er w W) (j : Nat) : W.cell? ⟨n, j, none⟩ = C[j]? := by
  rw [cell_of_row W n j _ _ _ h.hX, List.getElem?_toArray]
theorem EncI.later (h : EncI n C t N hd rs hs es er w W) (hb : Below W.heap.size W W') : EncI n C t N hd rs hs es er w W' :=
  ⟨(hb.block n (block_lt h.hX)).trans h.hX, h.hB.trans (hb.mono (Nat.le_of_lt (block_lt h.hX))), h.hO.later hb, h.hN, Nat.le_trans h.hW hb.size⟩
theorem EncI.upon (h : EncI n C t N hd rs hs es er w W) (hb : Below N W W') : EncI n C t N hd rs hs es er w W' := by
  have hn := h.hN
  exact ⟨(hb.block n (by omega)).trans h.hX, h.hB.trans (hb.mono (by omega)), h.hO.below hb (by omega), h.hN, Nat.le_trans h.hW hb.size⟩
theorem EncI.step {hd' rs' : List Int} {hs' es' : List Nat} {er' : Int} (h : EncI n C t N hd rs hs es er w W) (hG : OutG (n + 1) hd' rs' hs' es' er' W') (hb : Below (n + 1) W W') : EncI n C t W'.heap.size hd' rs' hs' es' er' w W' :=
  ⟨(hb.block n (by omega)).trans h.hX, h.hB.trans (hb.mono (by omega)), hG.bound _ (Nat.le_refl _), hG.size, Nat.le_refl _⟩
theorem EncI.begin {C0 : Array Value} (hC : C0 = C.toArray) (hn : w.heap.size = n) : EncI n C t ((w.alloc (.cells C0 t)).alloc (.cells (outV (.slice none 0 0) (.slice none 0 0) (.slice none 0 0) (.slice none 0 0) 0) 84)).heap.size [] [] [] [] 0 w ((w.alloc (.cells C0 t)).alloc (.cells (outV (.slice none 0 0) (.slice none 0 0) (.slice none 0 0) (.slice none 0 0) 0) 84)) := by
  subst hn
  subst hC
  exact ⟨heap_past _ _ _ _ (heap_new _ _ _ _ rfl), ((Below.refl _ _).alloc (Nat.le_refl _) _).alloc (by simp) _, (OutG.new _ _ (by simp)).bound _ (Nat.le_refl _), by simp, Nat.le_refl _⟩
/-- A further Out, new. -/
theorem EncI.more (h : EncI n C t N hd rs hs es er w W) (L : Nat) (hL : W.heap.size = L) : EncI n C t L hd rs hs es er w (W.alloc (.cells (outV (.slice none 0 0) (.slice none 0 0) (.slice none 0 0) (.slice none 0 0) 0) 84)) ∧ OutG L [] [] [] [] 0 (W.alloc (.cells (outV (.slice none 0 0) (.slice none 0 0) (.slice none 0 0) (.slice none 0 0) 0) 84)) := by
  subst hL
  have h2 := h.later (W' := W.alloc (.cells (outV (.slice none 0 0) (.slice none 0 0) (.slice none 0 0) (.slice none 0 0) 0) 84)) ((Below.refl _ _).alloc (Nat.le_refl _) _)
  exact ⟨⟨h2.hX, h2.hB, h2.hO.mono h.hW, Nat.le_trans h.hN h.hW, by simp⟩, OutG.new _ _ rfl⟩
theorem EncI.fail (h : EncI n C t N hd rs hs es er w W) (ee : Int) :
    Calls Tryd.prog 61 #[.pointer (some ⟨n + 1, 0, none⟩), .int .i64 ee] W fun e w' => e = .returned (.tuple #[]) ∧ EncI n C t w'.heap.size hd rs hs es (if er = 0 then ee else er) w w' :=
  (outg_fail (n + 1) hd rs hs es er ee W h.hO.gen).mono fun _ _ ⟨h1, h2, h3⟩ => ⟨h1, h.step h2 h3⟩
theorem EncI.app (h : EncI n C t N hd rs hs es er w W) (m : List Int) (k : Nat) (va : Option Addr) (c : Nat) (hs' : SlB va c m W) (hk : m.length = k) (hlen : hd.length + k ≤ 70368744170000) :
    Calls Tryd.prog 39 #[.pointer (some ⟨n + 1, 0, none⟩), .slice va k c] W fun e w' => e = .returned (.tuple #[]) ∧ EncI n C t w'.heap.size (hd ++ m) rs hs es er w w' := by
  subst hk
  exact (outg_bytes (n + 1) hd rs m hs es er va c W h.hO.gen hs'.row hs'.nil (by omega)).mono fun _ _ ⟨h1, h2, h3⟩ => ⟨h1, h.step h2 h3⟩
theorem EncI.u64 (h : EncI n C t N hd rs hs es er w W) (m : Int) (hlen : hd.length ≤ 70368744170000) :
    Calls Tryd.prog 62 #[.pointer (some ⟨n + 1, 0, none⟩), .int .u64 m] W fun e w' => e = .returned (.tuple #[]) ∧ EncI n C t w'.heap.size (hd ++ numL m) rs hs es er w w' :=
  (outg_u64 (n + 1) hd rs hs es er m W h.hO.gen hlen).mono fun _ _ ⟨h1, h2, h3⟩ => ⟨h1, h.step h2 h3⟩
theorem EncI.put (h : EncI n C t N hd rs hs es er w W) (m : List Int) (k : Nat) (va : Option Addr) (c : Nat) (ee : Int) (hm : OwnB N (.slice va k c) m W) (hk : m.length = k) (h1 : hd.length ≤ 70368744170000) (h2 : rs.length + k ≤ 70368744170000) (h3 : hs.length ≤ 1000) (h4 : es.length ≤ 1000) :
    Calls Tryd.prog 63 #[.pointer (some ⟨n + 1, 0, none⟩), .slice va k c, .int .i64 ee] W fun e w' => e = .returned (.tuple #[]) ∧ EncI n C t w'.heap.size (hd ++ [0, 0, 0, 0]) (rs ++ m) (hs ++ [hd.length]) (es ++ [rs.length]) (if er = 0 then ee else er) w w' := by
  subst hk
  exact (outg_later N (n + 1) hd rs m hs es er ee va c W h.hO h.hN hm h1 h2 h3 h4).mono fun _ _ ⟨h1, h2, h3⟩ => ⟨h1, h.step h2 h3⟩
theorem EncI.done (h : EncI n C t N hd rs hs es 0 w W) (S : Nat) (hS : hd.length + rs.length = S) (hN0 : hs.length = es.length) (hat0 : ∀ i, i < hs.length → hs.getD i 0 + 4 ≤ hd.length) (hes0 : ∀ i, i < hs.length → es.getD i 0 ≤ 70368744170000) (hlen : S ≤ 70368744170000) (h1000 : hs.length ≤ 1000) :
    Calls Tryd.prog 41 #[.pointer (some ⟨n + 1, 0, none⟩)] W fun e w' => (∃ va c, e = .returned (.tuple #[.slice va S c, .int .i64 0]) ∧ (va = none → c = 0) ∧ OwnB n (.slice va S c) (doneL hd rs hs es) w') ∧ Below n w w' := by
  subst hS
  exact (outg_done (n + 1) hd rs hs es W h.hO.gen hN0 hat0 hes0 hlen h1000).mono fun _ _ ⟨⟨va, c, h1, h2, h3⟩, h4⟩ => ⟨⟨va, c, h1, h2, own_mono h3 (by omega)⟩, h.hB.trans (h4.mono (by omega))⟩
theorem EncI.done1 {a c0 : Nat} {L : List Int} (h : EncI n C t N hd rs ([] ++ [a]) ([] ++ [c0]) 0 w W) (S : Nat) (hS : hd.length + rs.length = S) (ha : a + 4 ≤ hd.length) (hc : c0 ≤ 1000) (hlen : S ≤ 70368744170000) (hL : doneL hd rs ([] ++ [a]) ([] ++ [c0]) = L) :
    Calls Tryd.prog 41 #[.pointer (some ⟨n + 1, 0, none⟩)] W fun e w' => (∃ va c, e = .returned (.tuple #[.slice va S c, .int .i64 0]) ∧ (va = none → c = 0) ∧ OwnB n (.slice va S c) L w') ∧ Below n w w' := by
  subst hL
  refine h.done S hS rfl (fun i hi => ?_) (fun i hi => ?_) hlen (by simp)
  · obtain rfl : i = 0 := by simp at hi; exact hi
    exact ha
  · obtain rfl : i = 0 := by simp at hi; exact hi
    show c0 ≤ _
    omega
theorem EncI.doneE (h : EncI n C t N hd rs hs es er w W) (he : er ≠ 0) :
    Calls Tryd.prog 41 #[.pointer (some ⟨n + 1, 0, none⟩)] W fun e w' => e = .returned (.tuple #[.slice none 0 0, .int .i64 er]) ∧ Below n w w' :=
  (outg_doneE (n + 1) hd rs hs es er W h.hO.gen he).mono fun _ _ ⟨h1, h2⟩ => ⟨h1, h.hB.trans (h2.mono (Nat.le_of_lt (block_lt h.hX)))⟩
/-- Done where there are no holes. -/
theorem outg_done0 (b k : Nat) (m : List Int) (w : World) (h : OutG b m [] [] [] 0 w) (hk : m.length = k) (hlen : k ≤ 70368744170000) :
    Calls Tryd.prog 41 #[.pointer (some ⟨b, 0, none⟩)] w fun e w' => (∃ va c, e = .returned (.tuple #[.slice va k c, .int .i64 0]) ∧ (va = none → c = 0) ∧ OwnB b (.slice va k c) m w') ∧ Below b w w' := by
  subst hk
  refine (outg_done b m [] [] [] w h rfl (fun i hi => by simp at hi) (fun i hi => by simp at hi) (by simpa using hlen) (by simp)).mono fun e w' ⟨⟨va, c, h1, h2, h3⟩, h4⟩ => ⟨⟨va, c, by simpa using h1, h2, ?_⟩, h4⟩
  have h5 := own_mono h3 (Nat.le_succ b)
  simpa [doneL, patchK] using h5
theorem EncI.sl (h : EncI n C t N hd rs hs es er w W) {pre post : List Value} {len off : Nat} {f : Nat → Int} (hC : C = pre ++ (fcells len (fun _ => .u8) f ++ post)) (ho : pre.length = off) (hok : ∀ j, j < len → CK.ok .u8 (f j)) : SlB (some ⟨n, off, none⟩) len (byL f 0 len) W :=
  ⟨row_range (range_mid h.hX hC off ho) hok, (fun e => by cases e), by rw [byL_length]; exact Nat.le_refl _, fun b o e => by cases e; exact block_lt h.hX⟩
end
/-- Numbers, one behind the other. -/
def numsL (l : List Int) : List Int := (l.map numL).flatten
theorem numsL_length : ∀ l : List Int, (numsL l).length = 8 * l.length
  | [] => rfl
  | m :: l => by
    show (numL m ++ numsL l).length = _
    rw [List.length_append, numL_length, numsL_length l, List.length_cons]
    omega
theorem numsL_ok : ∀ (l : List Int), ∀ x ∈ numsL l, CK.ok .u8 x
  | [], x, hx => by simp [numsL] at hx
  | m :: l, x, hx => by
    rcases List.mem_append.1 (show x ∈ numL m ++ numsL l from hx) with h | h
    · exact numL_ok m x h
    · exact numsL_ok l x h
theorem take_snoc {α : Type} (l : List α) (d : α) (k : Nat) (h : k < l.length) : l.take (k + 1) = l.take k ++ [l.getD k d] := by
  rw [List.take_add_one, List.getD, List.getElem?_eq_getElem h]
  rfl
theorem numsL_take (l : List Int) (k : Nat) (h : k < l.length) : numsL (l.take (k + 1)) = numsL (l.take k) ++ numL (l.getD k 0) := by
  rw [take_snoc l 0 k h]
  simp [numsL]
end Go.Proofs.YtihelknkcomjpaaDoor
namespace Go.Proofs.YtihelknkcomjpaaDoor
open Go.RowKit BigFrame
set_option maxRecDepth 100000
/-- The cells of an indexed attestation: the list's slice, the data, the signature. -/
def idxC (s : Value) (fd fs : Nat → Int) : List Value := s :: (fcells 100 kdData fd ++ fcells 96 (fun _ => .u8) fs)
def encLIdx (who : List Int) (fd fs : Nat → Int) : List Int := le4 228 ++ encLData fd ++ byL fs 0 96 ++ numsL who
theorem encIdx_length (who : List Int) (fd fs : Nat → Int) : (encLIdx who fd fs).length = 228 + 8 * who.length := by
  simp only [encLIdx, List.length_append, le4_length, encData_length, byL_length, numsL_length]
theorem encIdx_ok {who : List Int} {fd fs : Nat → Int} (hd : ∀ j, j < 100 → (kdData j).ok (fd j)) (hs : ∀ j, j < 96 → CK.ok .u8 (fs j)) : ∀ m ∈ encLIdx who fd fs, CK.ok .u8 m :=
  ok_append (ok_append (ok_append (le4_ok _) (encData_ok hd)) (byL_ok fun j hj => by rw [Nat.zero_add]; exact hs j hj)) (numsL_ok who)
theorem doneIdx (who : List Int) (fd fs : Nat → Int) : doneL (([] ++ [0, 0, 0, 0]) ++ encLData fd ++ byL fs 0 96) ([] ++ numsL who) ([] ++ [0]) ([] ++ [0]) = encLIdx who fd fs := by
  have hl : (([] ++ [0, 0, 0, 0]) ++ encLData fd ++ byL fs 0 96 : List Int).length = 228 := by simp [encData_length, byL_length]
  show patchK _ [0] [0] 1 ++ _ = _
  simp only [patchK, putK, hl]
  rfl
theorem size_idx : (Tryd.prog.info? 61).map (·.size) = some 197 := by kernel_rfl
theorem idxC_length (s : Value) (fd fs : Nat → Int) : (idxC s fd fs).length = 197 := by simp [idxC, fcells_length]
set_option maxHeartbeats 8000000 in
theorem enc_Idx (who : List Int) (vw : Option Addr) (cw : Nat) (fd fs : Nat → Int) (hd0 : ∀ j, j < 100 → (kdData j).ok (fd j)) (hs0 : ∀ j, j < 96 → CK.ok .u8 (fs j)) (w : World) (hw0 : Row w vw .u64 who) (hk : who.length ≤ 64) :
    Calls Tryd.prog 21 #[.agg (idxC (.slice vw who.length cw) fd fs).toArray] w fun e w' => (∃ va c, e = .returned (.tuple #[.slice va (228 + 8 * who.length) c, .int .i64 0]) ∧ (va = none → c = 0) ∧ OwnB w.heap.size (.slice va (228 + 8 * who.length) c) (encLIdx who fd fs) w') ∧ Below w.heap.size w w' := by
  have hd := Lib.hid hd0
  have hs := Lib.hid hs0
  have hw := Lib.hid hw0
  clear hd0 hs0 hw0
  have t1 : decide ((64 : Int) < (who.length : Int)) = false := by simp; omega
  go_enter Tryd.func21, Tryd.ntmps21
  go_wp2_with (first
    | ((with_reducible refine at_box 61 ?_); go_loud (refine wpList_box rfl 61 _ rfl _ rfl ?_))
    | ((with_reducible refine at_alloc 84 ?_); refine wpList_plain rfl fun K hK => wp_alloc_row 84 rfl 4 rfl _ 5 zero_outV (hK _ _ ?_); clear hK K
       refine gen_l (fun W => EncI w.heap.size (idxC (.slice vw who.length cw) fd fs) 61 W.heap.size [] [] [] [] 0 w W) (EncI.begin rfl rfl) ?_
       intro W hS0
       have hS := Lib.hid hS0
       clear hS0)
    | ((with_reducible refine (EncI.fail hS.out 6).mono ?_)
       rintro e1 W ⟨rfl, hS1⟩
       rw [if_pos rfl] at hS1
       clear hS
       have hS := Lib.hid hS1
       clear hS1)
    | ((with_reducible refine at_alloc 84 ?_); refine wpList_plain rfl fun K hK => wp_alloc_row 84 rfl 5 rfl _ 5 zero_outV (hK _ _ ?_); clear hK K
       obtain ⟨L, hL⟩ : ∃ L, L = W.heap.size := ⟨_, rfl⟩
       have hS2 := hS.out.more L hL.symm
       rw [← hL]
       refine gen_l (fun W => EncI w.heap.size (idxC (.slice vw who.length cw) fd fs) 61 L [] [] [] [] 0 w W ∧ OutG L [] [] [] [] 0 W) hS2 ?_
       clear hS hS2 hL
       rintro W ⟨hS0, hL0⟩
       have hS := Lib.hid hS0
       have hL := Lib.hid hL0
       clear hS0 hL0)
    | ((with_reducible refine at_load 55 ?_); refine wpList_value (by rfl) _ (run_load_cell _ 55 _ (by rfl) ⟨w.heap.size, 0, none⟩ (by rfl) (.slice vw who.length cw) (hS.out.cell 0) _ Tryd.underlying55 rfl) ?_))
  have hwl := Lib.hid (hw.out.later hS.out.hB)
  have hf8 := numsL_length
  go_loopw [16] (fun i wr => ∃ k : Nat, k ≤ who.length ∧ i = .int .i64 (k : Int) ∧ EncI w.heap.size (idxC (.slice vw who.length cw) fd fs) 61 L [] [] [] [] 0 w wr ∧ OutG L (numsL (who.take k)) [] [] [] 0 wr) (fun i _ => who.length - (intOf i).toNat)
  case atStart => exact ⟨0, by omega, rfl, hS.out, hL.out⟩
  case round =>
    obtain ⟨k, hk2, rfl, hS1, hL1⟩ := hrel
    clear hS hL hwl
    have hS := Lib.hid hS1
    have hL := Lib.hid hL1
    clear hS1 hL1
    by_cases hlt : k < who.length
    · obtain ⟨bw, ow, rfl, hc0⟩ := (hw.out.later hS.out.hB).cell k hlt
      have hc := Lib.hid hc0
      have hnt := Lib.hid (numsL_take who k hlt)
      have hln : (numsL (who.take k)).length = 8 * k := by rw [numsL_length, List.length_take]; omega
      clear hc0
      generalize who.getD k 0 = m at *
      have lk : (k : Int) < (who.length : Int) := by omega
      go_wp2_with (first
        | ((with_reducible refine at_iaddr 55 ?_); go_loud (refine wpList_value (by rfl) _ (run_index_slice _ 55 27 _ _ rfl Tryd.underlying55 1 sz_u64 bw ow who.length cw rfl .i64 k rfl hlt (ow + k) (by omega)) ?_))
        | ((with_reducible refine at_load 27 ?_); go_loud (refine wpList_value (by rfl) _ (run_load_cell _ 27 _ (by rfl) ⟨bw, ow + k, none⟩ (by rfl) (.int .u64 m) hc.out _ Tryd.underlying27 rfl) ?_))
        | ((with_reducible refine (outg_u64 L _ [] [] [] 0 m _ hL.out (by rw [hln]; omega)).mono ?_)
           rintro e1 W2 ⟨rfl, hG2, hB2⟩
           have hS2 := Lib.hid (hS.out.upon hB2)
           rw [← hnt.out] at hG2
           have hG2' := Lib.hid hG2
           clear hG2 hB2))
      first
        | exact ⟨⟨k + 1, by omega, by go_num, hS2.out, hG2'.out⟩, by simp [intOf]; omega⟩
        | (refine ⟨?_, by simp [intOf]; omega⟩
           (repeat apply Exists.intro)
           exact ⟨⟨k + 1, by omega, by go_num, hS2.out, hG2'.out⟩, rfl⟩)
    · have e0 : k = who.length := by omega
      subst e0
      rw [List.take_length] at hL
      have hnl := numsL_length who
      go_wp2_with (first
        | ((with_reducible refine (outg_done0 L (8 * who.length) (numsL who) _ hL.out (numsL_length who) (by omega)).mono ?_)
           rintro e1 W2 ⟨⟨va1, c1, rfl, hn1, ho1⟩, hb1⟩
           have hS2 := Lib.hid (hS.out.upon hb1)
           have ho := Lib.hid ho1
           clear hS hL hn1 ho1 hb1)
        | ((with_reducible refine (EncI.put hS2.out (numsL who) (8 * who.length) va1 c1 0 ho.out (numsL_length who) (by decide) (by simp; omega) (by decide) (by decide)).mono ?_)
           rintro e1 W ⟨rfl, hS1⟩
           rw [show (if (0 : Int) = 0 then (0 : Int) else 0) = 0 from by decide] at hS1
           have hS := Lib.hid hS1
           clear hS1 hS2 ho)
        | ((with_reducible refine at_load 59 ?_); refine wpList_value (by rfl) _ (run_load_rows _ 59 _ (by rfl) w.heap.size 1 rfl (fcells 100 kdData fd) _ (range_mid hS.out.hX (pre := [.slice vw who.length cw]) rfl 1 rfl) Tryd.underlying59 rfl (by rw [row_size rowData, fcells_length])) ?_)
        | ((with_reducible refine (enc_Data fd hd.out _).mono ?_)
           rintro e W2 ⟨⟨va1, c1, rfl, hn1, ho1⟩, hb1⟩
           have hS1 := hS.out.later hb1
           have hl := Lib.hid (SlB.of_own ho1 (encData_ok hd.out) hn1)
           clear hS
           have hS := Lib.hid hS1
           clear hS1 hn1 ho1 hb1)
        | ((with_reducible refine (EncI.app hS.out _ 128 va1 c1 hl.out (encData_length _) (by simp)).mono ?_)
           rintro e W ⟨rfl, hS1⟩
           clear hl
           clear hS
           have hS := Lib.hid hS1
           clear hS1)
        | ((with_reducible refine (EncI.app hS.out _ 96 _ 96 (hS.out.sl (pre := .slice vw who.length cw :: fcells 100 kdData fd) (post := []) (by simp [idxC]) (by simp [fcells_length]) hs.out) (byL_length _ _ _) (by simp [encData_length])).mono ?_)
           rintro e W ⟨rfl, hS1⟩
           clear hS
           have hS := Lib.hid hS1
           clear hS1)
        | ((with_reducible refine (EncI.doneE hS.out (by decide)).mono ?_)
           rintro e W ⟨rfl, hBf⟩)
        | ((with_reducible refine (EncI.done1 hS.out (228 + 8 * who.length) (by simp [encData_length, byL_length, numsL_length]) (by simp) (by simp) (by omega) (doneIdx who fd fs)).mono ?_)
           rintro e W ⟨⟨va, c, rfl, hva, hOw⟩, hBf⟩
           have hOw1 := Lib.hid hOw
           have hva1 := Lib.hid hva
           clear hOw hva))
      exact ret_t2 rfl _ _ rfl rfl rfl ⟨⟨va, c, rfl, hva1.out, hOw1.out⟩, hBf⟩
end Go.Proofs.YtihelknkcomjpaaDoor
