/- oper.ReadIndexed: where the bytes are an indexed attestation's. -/
/- pharoslaw08.awake: an indexed attestation of one number is written and read. -/
import Derived.Test.YtihelknkcomjpaaDoorJIxA
import Derived.Test.YtihelknkcomjpaaDoorJRo
import Derived.Test.YtihelknkcomjpaaDoorJEd
import Derived.Test.YtihelknkcomjpaaDoorKSpData
set_option linter.unusedVariables false
set_option linter.unusedSimpArgs false
set_option linter.unnecessarySimpa false
namespace Go.Proofs.YtihelknkcomjpaaDoor
open Go.RowKit BigFrame
set_option maxRecDepth 100000
/-- The numbers that stand in these bytes. -/
def numsR (q : List Int) (k : Nat) : List Int := (List.range k).map fun i => rdQ ((q.drop (8 * i)).take 8)
theorem numsR_length (q : List Int) (k : Nat) : (numsR q k).length = k := by simp [numsR]
theorem numsR_take (q : List Int) (k j : Nat) (h : j < k) : (numsR q k).take (j + 1) = (numsR q k).take j ++ [rdQ ((q.drop (8 * j)).take 8)] := by
  rw [take_snoc (numsR q k) 0 j (by rw [numsR_length]; exact h)]
  congr 2
  simp [numsR, List.getD, h]
theorem OutI.at' {base k : Nat} {v : Value} {p : Nat → List Int} {W : World} (h : OutI base k v p W) (j : Nat) (hj : j < k) : ∃ g b o ci, (∃ cap, v = .slice (some ⟨g, 0, none⟩) k cap) ∧ W.cell? ⟨g, j, none⟩ = some (.slice (some ⟨b, o, none⟩) (p j).length ci) ∧ Row W (some ⟨b, o, none⟩) .u8 (p j) ∧ base ≤ g ∧ g < W.heap.size ∧ base ≤ b ∧ b < W.heap.size := by
  obtain ⟨vs, h1, h2, h3⟩ := h
  obtain ⟨b, o, ci, h4, h5, h6, h7, h8, h9⟩ := h3 j hj
  rcases h1.2 with ⟨_, e⟩ | ⟨g, cap, cur, e, g1, g2, _⟩
  · omega
  · subst e
    refine ⟨g, b, o, ci, ⟨cap, rfl⟩, ?_, h5, g1, block_lt g2, h9, h7⟩
    rw [h1.cellAt j (by omega)]
    exact h4
theorem infoIdx : (Tryd.prog.info? 61).map (fun i => (i.zero, i.size)) = some (some (.agg (idxC (.slice none 0 0) (fun _ => 0) (fun _ => 0)).toArray), 197) := by kernel_rfl
theorem info_u64a : (Tryd.prog.info? 27).map (fun i => (i.zero, i.size, i.bytes)) = some (some (.int .u64 0), 1, 8) := by kernel_rfl
theorem info_u64c : (Tryd.prog.info? 27).map (fun i => (i.zero, i.size)) = some (some (.int .u64 0), 1) := by kernel_rfl
theorem sz_us : (Tryd.prog.info? 55).map (·.size) = some 1 := by kernel_rfl
theorem run_bslice_u64 {ρ : Operand → Value} {o : Oper} (w : World) (parts : Array (Nat × Operand)) (ho : o.op = .buildSlice 55 1 parts) (n : Int) (hp : (parts.toList.map fun p => (p.1, ρ p.2)) = [(0, .int .u64 n)]) :
    (execOp ρ o).run Tryd.prog w = .ok (.value (.slice (some ⟨w.heap.size, 0, none⟩) 1 1)) (w.alloc (.cells #[.int .u64 n] 27)) :=
  run_buildSlice w 55 27 1 parts ho Tryd.underlying55 (.int .u64 0) 1 info_u64c (by decide) (by decide) [.int .u64 n] rfl hp (fun u hu => by rw [List.mem_singleton.1 hu]; rfl)
theorem off_one {l : List Int} {hd : Nat} (h : offL l 0 = hd) (hl : hd ≤ l.length) : offGood hd l.length ([0].map (offL l)) 1 := fun q hq => by
  obtain rfl : q = 0 := by omega
  unfold offBad
  simp [h]
  omega
theorem off_one_bad {l : List Int} {hd : Nat} (h : offL l 0 ≠ hd) : ¬ offGood hd l.length ([0].map (offL l)) 1 := fun hg => hg 0 (by decide) (Or.inl ⟨rfl, by simpa using h⟩)
theorem one_ps (W : World) : ∀ j, j < 1 → (W.alloc (.cells #[.int .i64 (0 : Int)] 3)).cell? ⟨W.heap.size, j, none⟩ = some (.int .i64 (([0].getD j 0 : Nat) : Int)) := fun j hj => by
  obtain rfl : j = 0 := by omega
  exact cell_of_row _ _ 0 _ _ _ (heap_new _ _ _ _ rfl)
theorem one_in {m : Nat} (h : 4 ≤ m) : ∀ j, j < 1 → [0].getD j 0 + 4 ≤ m := fun j hj => by
  obtain rfl : j = 0 := by omega
  exact h
theorem idxC_one (va : Option Addr) (n c : Nat) (fd fs : Nat → Int) : (idxC (.slice va n c) fd fs).toArray.all (·.oneCell') = true := by
  rw [List.all_toArray, List.all_eq_true]
  intro v hv
  rcases List.mem_cons.1 hv with rfl | hv
  · rfl
  · rcases List.mem_append.1 hv with hv | hv
    · exact fcells_mem v hv
    · exact fcells_mem v hv
theorem idxC_sig {s : Value} {fd f g : Nat → Int} (h : ∀ j, j < 96 → f j = g j) : idxC s fd f = idxC s fd g := by
  unfold idxC
  rw [fcells_congr (N := 96) (kd := fun _ => .u8) h]
set_option maxHeartbeats 16000000 in
theorem readIdx_ok (l : List Int) (L k : Nat) (va : Option Addr) (c : Nat) (w : World) (hs0 : SlB va c l w) (hL0 : l.length = L) (hLk0 : L = 228 + 8 * k) (hk : k ≤ 64) (hoff0 : offL l 0 = 228) :
    Calls Tryd.prog 25 #[.slice va L c] w fun e w' => (∃ vn cn, e = .returned (.tuple #[.agg (idxC (.slice vn k cn) (rdData ((l.drop 4).take 128)) (fun j => l.getD (132 + j) 0)).toArray, .int .i64 0]) ∧ w'.ownsRow w.heap.size 27 1 (.slice vn k cn) k ((numsR (l.drop 228) k).map (Value.int .u64))) ∧ Below w.heap.size w w' := by
  have hs := Lib.hid hs0
  have hL := Lib.hid hL0
  have hLk := Lib.hid hLk0
  have ho0 := Lib.hid (show ([0].map (offL l) ++ [l.length]).getD 0 0 = 228 from hoff0)
  have ho1 := Lib.hid (show ([0].map (offL l) ++ [l.length]).getD (0 + 1) 0 = L from hL0)
  have ho2 := Lib.hid (show 0 + 1 < ([0].map (offL l) ++ [l.length]).length from Nat.lt_succ_self 1)
  have ho3 := Lib.hid (show ([0].map (offL l) ++ [l.length]).length ≤ 1000 from (by decide : 2 ≤ 1000))
  have hL1 : 228 ≤ L := by omega
  have hL2 : L ≤ 740 := by omega
  have hoff := Lib.hid hoff0
  have hlow : ∀ ad, va = some ad → ad.block < w.heap.size := by
    intro ad e
    obtain ⟨b, o, e2, hc⟩ := hs0.row.cell 0 (by omega)
    rw [e2] at e
    cases e
    exact block_lt_of_cell hc
  have hlowH := Lib.hid hlow
  clear hs0 hL0 hoff0 hlow hLk0
  have hnt0 := numsR_take (l.drop 228) k
  obtain ⟨nums, hnums⟩ : ∃ nums, nums = numsR (l.drop 228) k := ⟨_, rfl⟩
  rw [← hnums] at hnt0 ⊢
  have hnl : nums.length = k := by rw [hnums, numsR_length]
  have hnt := Lib.hid hnt0
  clear hnums hnt0
  go_enter Tryd.func25, Tryd.ntmps25
  go_wp2_with (first
    | ((with_reducible refine at_alloc 61 ?_); refine wpList_plain rfl fun K hK => wp_alloc_row 61 rfl 2 rfl _ 197 infoIdx (hK _ _ ?_); clear hK K)
    | ((with_reducible refine at_alloc 61 ?_); refine wpList_plain rfl fun K hK => wp_alloc_row 61 rfl 4 rfl _ 197 infoIdx (hK _ _ ?_); clear hK K)
    | ((with_reducible refine (RdO.open L 228 (228 : Int) rfl hL.out 1 (1 : Int) rfl (by decide) (err := 0) (if_pos (by omega)) (by decide) hs.out.row hs.out.cap hs.out.nil hlowH.out (by rw [hL.out]; omega)).mono ?_)
       rintro e W ⟨rfl, hS1, hW1⟩
       have hS := Lib.hid hS1
       have hW := Lib.hid hW1
       clear hS1 hW1)
    | ((with_reducible refine at_bslice 82 ?_); go_loud (refine wpList_plain rfl fun K hK => wp_ran _ (run_bslice_int _ _ (by rfl) (0 : Int) (by rfl)) (hK _ _ ?_)); clear hK K
       have hS1 := hS.out.after ((Below.refl _ W).alloc (Nat.le_refl _) (.cells #[.int .i64 (0 : Int)] 3))
       have hW1 := hW.out.later (((Below.refl _ W).alloc hW.out.size (.cells #[.int .i64 (0 : Int)] 3)))
       have hz := hS.out.size)
    | ((with_reducible refine (RdO.offsG hS1 hW1 228 W.heap.size 1 1 (228 : Int) rfl [0] (by rw [hL.out]; omega) rfl (by decide) (by rw [hL.out]; omega) (one_ps W) (by rw [World.size_alloc]; omega) (by omega) (one_in (by rw [hL.out]; omega)) (off_one hoff.out (by rw [hL.out]; omega))).mono ?_)
       clear hS1 hW1 hz
       rintro e W2 ⟨rfl, hS2⟩
       clear hS hW
       have hS := Lib.hid hS2
       clear hS2)
    | ((with_reducible refine (RdO.later hS.out ho2.out ho3.out 228 L ho0.out ho1.out (by omega) (by rw [hL.out]; exact Nat.le_refl _) (by rw [hL.out]; omega) (by decide) (8 * k) (by have := hLk.out; omega)).mono ?_)
       rintro e W ⟨vb, cb, rfl, hb1, hbl1, hS1⟩
       clear hS
       have hS := Lib.hid hS1
       have hb := Lib.hid hb1
       have hbl := Lib.hid hbl1
       clear hS1 hb1 hbl1)
    | ((with_reducible refine at_load 36 ?_); go_loud (refine wpList_value (by rfl) _ (run_load_cell _ 36 _ (by rfl) ⟨w.heap.size + 1 + 1, 4, none⟩ rfl (.int .i64 0) hS.out.errno _ Tryd.underlying36 rfl) ?_))
    | ((with_reducible refine (each_any _ k hk hbl.out vb cb _ hb.out).mono ?_)
       rintro e W2 ⟨⟨vE, rfl, hO1⟩, hB1⟩
       obtain ⟨ve, ce, rfl⟩ := hO1.form
       have hS1 := hS.out.after hB1
       have hEz0 : w.heap.size + 1 + 1 + 1 ≤ W.heap.size := hS.out.size
       obtain ⟨bE, hbE⟩ : ∃ bE, bE = W.heap.size + 1 + 1 + 1 := ⟨_, rfl⟩
       rw [← hbE] at hO1
       have hEz : w.heap.size + 1 + 1 + 1 < bE := by omega
       have hO := Lib.hid hO1
       clear hS hO1 hB1 hbE hEz0
       have hS := Lib.hid hS1
       clear hS1)
    | ((with_reducible refine (RdO.fail hS.out 0 0 (0 : Int) rfl rfl).mono ?_)
       rintro e W3 ⟨rfl, hS1, hA3⟩
       have hO2 := Lib.hid (hO.out.apart hA3 (by omega))
       clear hS hO
       have hS := Lib.hid hS1
       clear hS1 hA3))
  have hplen : ∀ j, j < k → ((((l.drop 228).take (8 * k)).drop (8 * j)).take 8).length = 8 := fun j hj => by
    have h1 := hbl.out
    rw [List.length_take, List.length_drop, h1]
    omega
  have hpc : ∀ j, j < k → (((l.drop 228).take (8 * k)).drop (8 * j)).take 8 = ((l.drop 228).drop (8 * j)).take 8 := fun j hj => by
    rw [List.drop_take, List.take_take, show min 8 (8 * k - 8 * j) = 8 by omega]
  have hat := Lib.hid (fun j hj => OutI.at' hO2.out j hj)
  have hplenH := Lib.hid hplen
  have hpcH := Lib.hid hpc
  have hz3 := hS.out.size
  have hS3 := Lib.hid hS.out
  clear hplen hpc hO2 hb hbl hoff ho0 ho1 ho2 ho3
  go_loopw [37] (fun i wr => ∃ (j : Nat) (v : Value), j ≤ k ∧ i = .int .i64 (j : Int) ∧ wr.heap[w.heap.size + 1]? = some (.cells (idxC v (fun _ => 0) (fun _ => 0)).toArray 61 (0, 0)) ∧ wr.ownsRow W3.heap.size 27 1 v j ((nums.take j).map (Value.int .u64)) ∧ Apart (w.heap.size + 1) W3 wr) (fun i _ => k - (intOf i).toNat)
  case atStart => exact ⟨0, _, by omega, rfl, hS.out.hX, ⟨rfl, Or.inl ⟨rfl, rfl⟩⟩, Apart.refl _ _⟩
  case round =>
    obtain ⟨j, v, hj, rfl, hX1, hN1, hA1⟩ := hrel
    obtain ⟨wr0, hwr0⟩ : ∃ W, W = wr := ⟨_, rfl⟩
    subst hwr0
    clear hS
    obtain ⟨vn, cn, rfl, hvn⟩ := own_form hN1
    have hX := Lib.hid hX1
    have hN := Lib.hid hN1
    have hA := Lib.hid hA1
    clear hX1 hN1 hA1
    by_cases hlt : j < k
    · have lj : (j : Int) < (k : Int) := by omega
      obtain ⟨g, b, o, ci, ⟨cap, hve⟩, hc1, hr1, hg1, hg2, hb1, hb2⟩ := hat.out j hlt
      injection hve with hve1 hve2 hve3
      subst hve1
      subst hve3
      have hlen8 := hplenH.out j hlt
      rw [hlen8] at hc1
      have hc := Lib.hid ((hA.out.cell (p := ⟨g, j, none⟩) hg2 (show g ≠ w.heap.size + 1 by omega)).trans hc1)
      have hr2 : Row wr0 (some ⟨b, o, none⟩) .u8 (((l.drop 228).drop (8 * j)).take 8) := by
        rw [← hpcH.out j hlt]
        exact ⟨fun q hq => by
          obtain ⟨b', o', e, hcc⟩ := hr1.cell q hq
          cases e
          exact ⟨b, o, rfl, (hA.out.cell (p := ⟨b, o + q, none⟩) hb2 (show b ≠ w.heap.size + 1 by omega)).trans hcc⟩, hr1.ok⟩
      rw [hpcH.out j hlt] at hlen8
      have hntj := Lib.hid (hnt.out j hlt)
      generalize ((l.drop 228).drop (8 * j)).take 8 = q at *
      have h8 := Lib.hid (show Calls Tryd.prog 77 #[.slice (some ⟨b, o, none⟩) 8 ci] wr0 fun e w' => e = .returned (.tuple #[.int .u64 (rdQ q), .int .i64 0]) ∧ wr0 = w' from by
        have h := read_any q (some ⟨b, o, none⟩) ci wr0 hr2
        rw [hlen8, if_pos rfl, if_pos rfl] at h
        exact h)
      clear hr1 hr2 hc1 hlen8
      generalize rdQ q = y at *
      have hxl : wr0.cell? ⟨w.heap.size + 1, 0, none⟩ = some (.slice vn j cn) := by rw [cell_of_row wr0 _ 0 _ _ _ hX.out]; rfl
      have hxlH := Lib.hid hxl
      clear hxl
      go_wp2_with (first
        | ((with_reducible refine at_iaddr 96 ?_); go_loud (refine wpList_value (by rfl) _ (run_index_slice _ 96 34 _ _ rfl Tryd.underlying96 1 sz_bs g 0 k ce rfl .i64 j rfl hlt j (by omega)) ?_))
        | ((with_reducible refine at_load 34 ?_); go_loud (refine wpList_value (by rfl) _ (run_load_cell _ 34 _ (by rfl) ⟨g, j, none⟩ (by rfl) (.slice (some ⟨b, o, none⟩) 8 ci) hc.out _ Tryd.underlying34 rfl) ?_))
        | ((with_reducible refine h8.out.mono ?_)
           rintro e W1 ⟨rfl, rfl⟩
           clear h8)
        | ((with_reducible refine at_load 55 ?_); go_loud (refine wpList_value (by rfl) _ (run_load_cell _ 55 _ (by rfl) ⟨w.heap.size + 1, 0, none⟩ (by rfl) (.slice vn j cn) hxlH.out _ Tryd.underlying55 rfl) ?_))
        | ((with_reducible refine at_bslice 55 ?_); go_loud (refine wpList_plain rfl fun K hK => wp_ran _ (run_bslice_u64 _ _ (by rfl) y (by rfl)) (hK _ _ ?_)); clear hK K)
        | ((with_reducible refine at_app 55 ?_); go_loud (refine wpList_plain rfl fun K hK => wp_appS (w0 := wr0) (n0 := W3.heap.size) (.tmp 47) (.tmp 49) 55 27 rfl Tryd.underlying55 (.int .u64 0) 1 8 info_u64a rfl (by decide) W3.heap.size j (.slice vn j cn) _ rfl (own_later hN.out ((Below.refl _ _).alloc (Nat.le_refl _) _)) ⟨wr0.heap.size, 0, none⟩ 1 1 rfl [.int .u64 y] rfl (range_whole (heap_new _ _ _ _ rfl)) rfl (by simp [Value.oneCell']) (by omega) (by omega) (by rw [World.size_alloc]; have := hA.out.size; omega) (Nat.le_refl _) ((Below.refl _ _).alloc hA.out.size _) (fun v1 W1 h1 b1 z1 o1 q1 => hK _ _ ?_)); clear hK K
           obtain ⟨va1, c1, e1, _⟩ := own_form h1
           subst e1
           have h1' := Lib.hid h1
           have hap := Lib.hid (show Apart (w.heap.size + 1) W3 W1 from ⟨b1.os.trans hA.out.os, b1.tape.trans hA.out.tape, b1.output.trans hA.out.output, Nat.le_trans hA.out.size b1.size, fun b hb hbi => (b1.block b hb).trans (hA.out.block b hb hbi)⟩)
           have hC1 := Lib.hid ((b1.block (w.heap.size + 1) (by omega)).trans hX.out)
           clear h1 b1 z1 o1 q1)
        | ((with_reducible refine at_store 55 ?_); refine at_staddr 55 (w.heap.size + 1) 0 rfl ?_; go_loud (refine wpList_plain rfl fun K hK => wp_store1 55 _ _ rfl (w.heap.size + 1) 0 rfl (.slice va1 (j + 1) c1) rfl rfl sz_us _ _ hC1.out (by simp [idxC]) (fun W2 hC2 hx2 => hK _ _ ?_)); clear hK K))
      have hN2 : W2.ownsRow W3.heap.size 27 1 (.slice va1 (j + 1) c1) (j + 1) ((nums.take (j + 1)).map (Value.int .u64)) := by
        have h5 := own_apart h1'.out hx2 (by omega)
        rw [hntj.out, List.map_append]
        exact h5
      exact ⟨⟨j + 1, .slice va1 (j + 1) c1, by omega, by go_num, hC2, hN2, hap.out.trans hx2⟩, by simp [intOf]; omega⟩
    · have e : j = k := by omega
      subst e
      clear hnt hat hplenH hpcH hlt hj
      have hS := Lib.hid (hS3.out.setX hA.out hX.out)
      have hNw := own_weak hN.out hz3
      rw [← hnl, List.take_length, hnl] at hNw
      have hM := Lib.hid hNw
      clear hS3 hNw hN hX hA hvn
      go_wp2_with (first
        | ((with_reducible refine at_load 36 ?_); go_loud (refine wpList_value (by rfl) _ (run_load_cell _ 36 _ (by rfl) ⟨w.heap.size + 1 + 1, 4, none⟩ rfl (.int .i64 0) hS.out.errno _ Tryd.underlying36 rfl) ?_))
        | ((with_reducible refine (RdO.bytesC hS.out 128 (128 : Int) rfl (by decide) (by decide) (fun _ => by rw [hL.out]; omega)).mono ?_)
           rintro e W5 ⟨vv, rfl, b, o', c', q, rfl, hcc, hbl, hrw1, hql1, hq1, hS1, hA5⟩
           rw [if_pos rfl] at hS1
           have hM1 := own_apart hM.out hA5 (by omega)
           have hrw := Lib.hid hrw1
           have hql := Lib.hid hql1
           have hq := Lib.hid (hq1 rfl)
           clear hrw1 hql1 hq1 hA5 hS hM
           have hS := Lib.hid hS1
           have hM := Lib.hid hM1
           clear hS1 hM1)
        | ((with_reducible refine (readData_ok q (some ⟨b, o', none⟩) c' _ hrw.out (by rw [hql.out]; exact hcc) (fun e => by cases e) (fun ad e => by cases e; exact hbl) hql.out).mono ?_)
           rintro e W6 ⟨rfl, hb1⟩
           have hS1 := hS.out.after hb1
           have hM1 := own_later hM.out hb1
           clear hb1 hcc hbl hrw hS hM
           have hS := Lib.hid hS1
           have hM := Lib.hid hM1
           clear hS1 hM1)
        | ((with_reducible refine at_alloc 59 ?_); go_loud (refine wpList_alloc_store rfl rfl 59 _ _ rfl rfl rfl (fcells 100 kdData (rdData q)).toArray rfl rfl (zeroOf Tryd.prog 59) (row_zero rowData).1 (row_zero rowData).2 (fcells_one _ _ _) ?_))
        | ((with_reducible refine at_load 59 ?_); go_loud (refine wpList_value (by rfl) _ (run_load_box _ 59 _ (by rfl) W6.heap.size (by rfl) _ _ (0, 0) _ (heap_new W6 (fcells 100 kdData (rdData q)).toArray 59 W6.heap.size rfl) Tryd.underlying59 rfl (by rw [row_size rowData]; simp [fcells])) ?_))
        | ((with_reducible refine at_store 59 ?_); refine at_staddr 59 (w.heap.size + 1) 1 rfl ?_; refine wpList_rowsX rfl 59 _ _ rfl 1 rfl (fcells 100 kdData (rdData q)) rfl (by rw [row_size rowData, fcells_length]) fcells_mem (hS.out.after ((Below.refl _ _).alloc (Nat.le_refl _) _)) [.slice vn j cn] (fcells 100 kdData fun _ => 0) (fcells 96 (fun _ => .u8) fun _ => 0) rfl rfl (by rw [fcells_length, fcells_length]) (fun W7 hS1 hA7 => ?_)
           have hM1 := own_apart (own_later hM.out ((Below.refl _ W6).alloc (Nat.le_refl _) (.cells (fcells 100 kdData (rdData q)).toArray 59))) hA7 (by omega)
           clear hS hM hA7
           have hS := Lib.hid hS1
           have hM := Lib.hid hM1
           clear hS1 hM1)
        | ((with_reducible refine (RdO.fail hS.out 0 0 (0 : Int) rfl rfl).mono ?_)
           rintro e W8 ⟨rfl, hS1, hA8⟩
           have hM1 := own_apart hM.out hA8 (by omega)
           clear hS hM hA8
           have hS := Lib.hid hS1
           have hM := Lib.hid hM1
           clear hS1 hM1))
      rename_i K hK
      refine wp_region_held (S := fun _ => True) (by kernel_rfl) ?_
      have hTT : True := trivial
      refine takeL (i := 0) (v := (.pointer (some ⟨w.heap.size + 1, 101, none⟩))) rfl (by kernel_rfl) (by kernel_rfl) (by kernel_rfl) (fun _ _ _ h => h) rfl (by assumption) (fun w' hS' => by go_simp) ?_
      simp only [Act.put, List.setIfInBounds_toArray, List.set_cons_zero, List.set_cons_succ]
      refine takeL (i := 1) (v := (.slice (some ⟨w.heap.size + 1, 101, none⟩) 96 96)) rfl (by kernel_rfl) (by kernel_rfl) (by kernel_rfl) (fun _ _ _ h => h) rfl (by assumption) (fun w' hS' => by go_simp) ?_
      simp only [Act.put, List.setIfInBounds_toArray, List.set_cons_zero, List.set_cons_succ]
      refine takeL (i := 2) (v := (.pointer (some ⟨w.heap.size + 1 + 1, 0, none⟩))) rfl (by kernel_rfl) (by kernel_rfl) (by kernel_rfl) (fun _ _ _ h => h) rfl (by assumption) (fun w' hS' => by go_simp) ?_
      simp only [Act.put, List.setIfInBounds_toArray, List.set_cons_zero, List.set_cons_succ]
      refine oneL (i := 3) rfl (by kernel_rfl) rfl (wp_callE 50 #[.pointer (some ⟨w.heap.size + 1 + 1, 0, none⟩), .int .i64 96] (by go_simp) _ ((hS.out.drew _).bytesC 96 (96 : Int) rfl (by decide) (by decide) (fun _ => by rw [hL.out]; omega)) ?_)
      rintro v W9 ⟨b2, o2, c2, q2, rfl, hcc2, hbl2, hrw2, hql2, hq2, hS1, hA9⟩
      have hM1 := own_apart hM.out ((Apart.begin _ _).trans hA9) (by omega)
      refine ⟨trivial, ?_⟩
      simp only [Act.put, List.setIfInBounds_toArray, List.set_cons_zero, List.set_cons_succ]
      refine oneL (i := 4) rfl (by kernel_rfl) rfl (wp_copy_X _ _ rfl 101 96 b2 o2 c2 96 rfl rfl hS1 (.slice vn j cn :: fcells 100 kdData (rdData q)) [] (fun _ => 0) (by simp) (by simp [fcells_length]) q2 hrw2 hql2 (fun W10 hS2 hA10 => ⟨trivial, ?_⟩))
      have hM2 := own_apart hM1 hA10 (by omega)
      refine wpAnyH_done (by kernel_rfl) ?_ _
      refine hK _ _ ?_
      have e1 := hq.out
      have e2 := hq2 rfl
      have hCe : (.slice vn j cn :: fcells 100 kdData (rdData q) ++ (fcells 96 (fun _ => .u8) (fun i => q2.getD i 0) ++ []) : List Value) = idxC (.slice vn j cn) (rdData ((l.drop 4).take 128)) (fun i => l.getD (132 + i) 0) := by
        rw [← idxC_sig (f := fun i => q2.getD i 0) (fun i hi => by rw [e2]; exact drop_take_get _ _ _ _ hi), e1]
        simp [idxC]
      rw [hCe, if_pos rfl] at hS2
      clear hK K hS hTT hrw2 hcc2 hbl2 hq2 hql2 hS1 hM hM1 hA9 hA10 e1 e2 hCe hq hql
      have hS := Lib.hid hS2
      have hM := Lib.hid hM2
      clear hS2 hM2
      generalize goInt 96 = gi
      simp only [Act.put, List.setIfInBounds_toArray, List.set_cons_zero, List.set_cons_succ]
      go_wp2_with (first
        | ((with_reducible refine at_load 36 ?_); go_loud (refine wpList_value (by rfl) _ (run_load_cell _ 36 _ (by rfl) ⟨w.heap.size + 1 + 1, 4, none⟩ rfl (.int .i64 0) hS.out.errno _ Tryd.underlying36 rfl) ?_))
        | ((with_reducible refine at_load 61 ?_); go_loud (refine wpList_value (by rfl) _ (run_load_box _ 61 _ (by rfl) (w.heap.size + 1) (by rfl) _ _ (0, 0) _ hS.out.hX Tryd.underlying61 rfl (by rw [size_idx, List.size_toArray, idxC_length])) ?_))
        | ((with_reducible refine at_store 61 ?_); refine at_staddr 61 w.heap.size 0 rfl ?_; go_loud (refine wpList_plain rfl fun K hK => wp_store_row 61 _ _ rfl w.heap.size rfl _ rfl (idxC_one _ _ _ _ _) (by rw [size_idx, List.size_toArray, idxC_length]) _ 61 hS.out.hR (by rw [List.size_toArray, idxC_length, List.size_toArray, idxC_length]) (fun W11 hC11 hA11 => hK _ _ ?_)); clear hK K))
      have hM3 := own_weak (own_apart hM.out hA11 (by omega)) (show w.heap.size ≤ w.heap.size + 3 by omega)
      exact ret_mid_tmp rfl w.heap.size 0 (idxC (.slice vn j cn) (rdData ((l.drop 4).take 128)) (fun i => l.getD (132 + i) 0)) _ rfl (range_whole hC11) Tryd.underlying61 rfl (by rw [size_idx, idxC_length]) rfl ⟨⟨vn, cn, rfl, hM3⟩, hA11.below hS.out.hB (Nat.le_refl _) (by have := hS.out.size; omega)⟩
end Go.Proofs.YtihelknkcomjpaaDoor
namespace Go.Proofs.YtihelknkcomjpaaDoor
open Go.RowKit BigFrame
set_option maxRecDepth 100000
theorem built_idx (va : Option Addr) (n c : Nat) (w : World) : (Instr.build 61 #[(0, .slice va n c)]).run Tryd.prog w = .ok (.agg (idxC (.slice va n c) (fun _ => 0) (fun _ => 0)).toArray) w := by kernel_rfl
theorem zero_Data (j : Nat) (_ : j < 100) : (kdData j).ok 0 := by
  unfold kdData
  repeat' split
  all_goals exact ⟨by decide, by decide⟩
theorem row_five {w : World} : Row (w.alloc (.cells #[.int .u64 (5 : Int)] 27)) (some ⟨w.heap.size, 0, none⟩) .u64 [5] := by
  refine ⟨fun j hj => ⟨w.heap.size, 0, rfl, ?_⟩, fun m hm => ?_⟩
  · obtain rfl : j = 0 := by simpa using hj
    exact cell_of_row _ _ 0 _ _ _ (heap_new _ _ _ _ rfl)
  · obtain rfl := List.mem_singleton.1 hm
    exact ⟨by decide, by decide⟩
def fiveL : List Int := encLIdx [5] (fun _ => 0) (fun _ => 0)
theorem five_off : offL fiveL 0 = 228 := by decide +kernel
theorem five_nums : numsR (fiveL.drop 228) 1 = [5] := by decide +kernel
theorem five_len : fiveL.length = 236 := encIdx_length _ _ _
set_option maxHeartbeats 8000000 in
theorem awake8_any (w : World) : Calls Tryd.prog 8 #[] w fun e w' => e = .returned (.bool true) ∧ Below w.heap.size w w' := by
  have hE := Lib.hid (fun W => show Row W (some ⟨w.heap.size, 0, none⟩) .u64 [5] → Calls Tryd.prog 21 #[.agg (idxC (.slice (some ⟨w.heap.size, 0, none⟩) 1 1) (fun _ => 0) (fun _ => 0)).toArray] W fun e w' => (∃ va c, e = .returned (.tuple #[.slice va 236 c, .int .i64 0]) ∧ (va = none → c = 0) ∧ OwnB W.heap.size (.slice va 236 c) fiveL w') ∧ Below W.heap.size W w' from fun hr => enc_Idx [5] (some ⟨w.heap.size, 0, none⟩) 1 (fun _ => 0) (fun _ => 0) (fun j hj => zero_Data j hj) (fun j hj => ⟨by decide, by decide⟩) W hr (by decide))
  go_enter Tryd.func8, Tryd.ntmps8
  go_wp2_with (first
    | ((with_reducible refine at_bslice 55 ?_); go_loud (refine wpList_plain rfl fun K hK => wp_ran _ (run_bslice_u64 _ _ (by rfl) (5 : Int) (by rfl)) (hK _ _ ?_)); clear hK K)
    | ((with_reducible refine at_build 61 ?_); go_loud (refine wpList_value (by rfl) _ (run_build _ _ rfl _ (built_idx _ _ _ _)) ?_))
    | ((with_reducible refine (hE.out _ row_five).mono ?_)
       rintro e W ⟨⟨va, c, rfl, hva, ho⟩, hb1⟩
       have hl := Lib.hid (SlB.of_own ho (encIdx_ok (fun j hj => zero_Data j hj) (fun j hj => ⟨by decide, by decide⟩)) hva)
       have hB := Lib.hid (((Below.refl w.heap.size w).alloc (Nat.le_refl _) (.cells #[.int .u64 (5 : Int)] 27)).trans (hb1.mono (by rw [World.size_alloc]; omega)))
       clear hE hva ho hb1)
    | ((with_reducible refine (readIdx_ok fiveL 236 1 va c _ hl.out five_len rfl (by decide) five_off).mono ?_)
       rintro e W2 ⟨⟨vn, cn, rfl, ho⟩, hb1⟩
       rw [five_nums] at ho
       have hB2 := Lib.hid (hB.out.trans (hb1.mono hB.out.size))
       have hO := Lib.hid ho
       clear hB hl hb1 ho)
    | ((with_reducible refine at_alloc 61 ?_); go_loud (refine wpList_alloc_store rfl rfl 61 _ _ rfl rfl rfl (idxC (.slice vn 1 cn) (rdData ((fiveL.drop 4).take 128)) (fun j => fiveL.getD (132 + j) 0)).toArray rfl rfl (idxC (.slice none 0 0) (fun _ => 0) (fun _ => 0)).toArray (by rw [List.size_toArray, idxC_length]; exact infoIdx) (by rw [List.size_toArray, idxC_length, List.size_toArray, idxC_length]) (idxC_one _ _ _ _ _) ?_)
       obtain ⟨g, rfl, hg⟩ : ∃ g, vn = some ⟨g, 0, none⟩ ∧ W2.cell? ⟨g, 0, none⟩ = some (.int .u64 5) := by
         rcases hO.out.2 with ⟨_, e⟩ | ⟨g, cap, cur, e, _⟩
         · cases e
         · cases e
           exact ⟨g, rfl, hO.out.cellAt 0 (by decide)⟩
       refine gen_l (fun W3 => W3.cell? ⟨W2.heap.size, 0, none⟩ = some (.slice (some ⟨g, 0, none⟩) 1 cn) ∧ W3.cell? ⟨g, 0, none⟩ = some (.int .u64 5) ∧ Below w.heap.size w W3) ⟨cell_of_row _ _ 0 _ _ _ (heap_new _ _ _ _ rfl), (((Below.refl _ W2).alloc (Nat.le_refl _) _).cell (p := ⟨g, 0, none⟩) (block_lt_of_cell hg)).trans hg, hB2.out.alloc hB2.out.size _⟩ ?_
       rintro W3 ⟨k1, k2, k3⟩
       clear hg hO hB2))
  exact ret_t1 rfl _ rfl rfl ⟨rfl, k3⟩
end Go.Proofs.YtihelknkcomjpaaDoor
