/- Right of the reference: the road to its end, and whole. -/
import Derived.Test.YtfnjcpopadpmbaaDoorKRefR1
import Derived.Test.YtfnjcpopadpmbaaDoorKState2
set_option linter.unusedVariables false
set_option linter.unusedSimpArgs false
set_option linter.unnecessarySimpa false
namespace Go.Proofs.YtfnjcpopadpmbaaDoor
open Go.RowKit
set_option maxRecDepth 100000

theorem rrowT_66 : rowB Tryd.prog 59 86 = true := by kernel_rfl
set_option maxHeartbeats 8000000 in
theorem rright_main (xs : Array Value) (s : Sx) (w : World) (h : StRep w xs s)
    (hL : (s.vals.length : Int) ≤ 65536 ∧ (s.bals.length : Int) = s.vals.length ∧ (s.prev.length : Int) = s.vals.length ∧ (s.cur.length : Int) = s.vals.length ∧ (s.scores.length : Int) = s.vals.length)
    (hN : (s.hist.length : Int) ≤ 1024 ∧ (s.votes.length : Int) ≤ 8 ∧ s.n 33 < 1099511627776 ∧ s.n 720 < 1099511627776 ∧ s.n 43 ≤ s.n 33 ∧ s.n 993 ≤ s.n 33 / 4 ∧ s.n 1026 ≤ s.n 33 / 4 ∧ s.n 1059 ≤ s.n 33 / 4) :
    Calls Tryd.prog 7 #[.agg xs] w fun e w' => e = .returned (.bool (s.vals.all valB && (s.scores.all scoreB && (fewB 144115188075855872 s.bals && fewB 144115188075855872 s.slash)))) ∧ Below w.heap.size w w' := by
  have f33 := h.u64 33 rfl
  have g33 := h.u64b 33 rfl
  have f43 := h.u64 43 rfl
  have f720 := h.u64 720 rfl
  have f993 := h.u64 993 rfl
  have f1026 := h.u64 1026 rfl
  have f1059 := h.u64 1059 rfl
  have hsl0 : Hid (∀ i, i < 8 → xs[979 + i]? = some (.int .u64 (s.n (979 + i)))) := fun i hi => h.u64 (979 + i) (slash_k i hi)
  have hsl1 : Hid (∀ i, i < 8 → 0 ≤ s.n (979 + i) ∧ s.n (979 + i) ≤ 18446744073709551615) := fun i hi => h.u64b (979 + i) (slash_k i hi)
  obtain ⟨-, -, -, ⟨a1, c1, h1, -, b1⟩, ⟨a2, c2, h2, -, b2⟩, ⟨a3, c3, h3, r3, b3⟩, ⟨a4, c4, h4, r4, b4⟩, ⟨a5, c5, h5, -, b5⟩, ⟨a6, c6, h6, -, b6⟩, ⟨a7, c7, h7, r7, b7⟩⟩ := h
  obtain ⟨l1, l2, l3, l4, l5⟩ := hL
  obtain ⟨n6, n7, n1, n2, n3, n8, n9, n10⟩ := hN
  have L4 : s.bals.length = s.vals.length := by omega
  have L5 : s.prev.length = s.vals.length := by omega
  have L6 : s.cur.length = s.vals.length := by omega
  have L7 : s.scores.length = s.vals.length := by omega
  rw [L4] at h4
  rw [L5] at h5
  rw [L6] at h6
  rw [L7] at h7
  have L4' := Lib.hid L4
  have L7' := Lib.hid L7
  have r3' := Lib.hid r3
  have r4' := Lib.hid r4
  have r7' := Lib.hid r7
  clear r3 r4 r7 L4 L5 L6 L7 l2 l3 l4 l5
  generalize hlen : s.vals.length = len at *
  have hlen' := Lib.hid hlen
  clear hlen
  generalize hm : s.n 33 = slot at *
  clear hm
  generalize s.n 43 = m2 at *
  generalize s.n 720 = m3 at *
  generalize s.n 993 = m4 at *
  generalize s.n 1026 = m5 at *
  generalize s.n 1059 = m6 at *
  generalize s.hist.length = n6 at *
  generalize s.votes.length = n7 at *
  go_enter Tryd.func7, Tryd.ntmps7
  go_wp2
  go_loopw [5] (fun i wr => ∃ k : Nat, k ≤ len ∧ i = .int .i64 k ∧ (s.vals.take k).all valB = true ∧ (s.scores.take k).all scoreB = true ∧ Below (w.heap.size + 1) (w.alloc (.cells xs 49)) wr) (fun i _ => len - (intOf i).toNat)
  case atStart => exact ⟨0, Nat.zero_le _, rfl, by simp, by simp, Below.refl _ _⟩
  case round =>
    obtain ⟨k, hk, rfl, hall, hsc, hb⟩ := hrel
    have hall' := Lib.hid hall
    have hsc' := Lib.hid hsc
    clear hall hsc
    have hbx := fun j => box_cell hb j
    have hbl := Lib.hid (below_box hb)
    have hszw := hb.size
    simp only [World.size_alloc] at hszw
    have hb' := Lib.hid hb
    clear hb
    have r4w := Lib.hid (r4'.out.later hbl.out)
    by_cases hlt : k < len
    · obtain ⟨b, o, rfl, hrg⟩ := (r3'.out.later hbl.out).range k (by rw [hlen'.out]; exact hlt)
      have hok := Lib.hid (r3'.out.ok (s.vals.getD k nil0) (by simp [List.getD, hlen'.out, hlt]))
      have htk := Lib.hid (take_all valB s.vals k (by rw [hlen'.out]; exact hlt))
      have hscl := Lib.hid (show s.scores.length = len from L7'.out)
      have hbadf : Hid (valB (s.vals.getD k nil0) = false → s.vals.all valB = false) := fun hx => all_bad valB s.vals k (by rw [hlen'.out]; exact hlt) (by simpa [List.getD, hlen'.out, hlt] using hx)
      have hgoodf : Hid (valB (s.vals.getD k nil0) = true → (s.vals.take (k + 1)).all valB = true) := fun hx => by
        rw [htk.out, hall'.out]
        simpa [List.getD, hlen'.out, hlt] using hx
      obtain ⟨b7, o7, rfl, hcell⟩ := (r7'.out.later hbl.out).cell k (by rw [hscl.out]; exact hlt)
      have hbd := r7'.out.ok (s.scores.getD k 0) (by simp [List.getD, hscl.out, hlt])
      simp only [CK.mk, CK.ok] at hcell hbd
      have hb7 : b7 < wr.heap.size := block_lt_of_cell hcell
      have hbadn : Hid (scoreB (s.scores.getD k 0) = false → s.scores.all scoreB = false) := fun hx => all_bad scoreB s.scores k (by rw [hscl.out]; exact hlt) (by simpa [List.getD, hscl.out, hlt] using hx)
      have hgoodn : Hid (scoreB (s.scores.getD k 0) = true → (s.scores.take (k + 1)).all scoreB = true) := fun hx => by
        rw [take_all scoreB s.scores k (by rw [hscl.out]; exact hlt), hsc'.out]
        simpa [List.getD, hscl.out, hlt] using hx
      generalize s.vals.getD k nil0 = f at *
      generalize s.scores.getD k 0 = n at *
      have q80 : (fcells 86 valK f).toArray[80]? = some (.int .u64 (f 80)) := by rw [List.getElem?_toArray]; exact fcells_get 86 valK f 80 (by omega)
      have q82 : (fcells 86 valK f).toArray[82]? = some (.int .u64 (f 82)) := by rw [List.getElem?_toArray]; exact fcells_get 86 valK f 82 (by omega)
      have q83 : (fcells 86 valK f).toArray[83]? = some (.int .u64 (f 83)) := by rw [List.getElem?_toArray]; exact fcells_get 86 valK f 83 (by omega)
      have q84 : (fcells 86 valK f).toArray[84]? = some (.int .u64 (f 84)) := by rw [List.getElem?_toArray]; exact fcells_get 86 valK f 84 (by omega)
      have q85 : (fcells 86 valK f).toArray[85]? = some (.int .u64 (f 85)) := by rw [List.getElem?_toArray]; exact fcells_get 86 valK f 85 (by omega)
      have k80 := hok.out 80 (by omega)
      have k82 := hok.out 82 (by omega)
      have k83 := hok.out 83 (by omega)
      have k84 := hok.out 84 (by omega)
      have k85 := hok.out 85 (by omega)
      simp only [valK, CK.ok, Nat.reduceLT, Nat.reduceEqDiff, if_false] at k80 k82 k83 k84 k85
      have hfsz := Lib.hid (show (fcells 86 valK f).toArray.size = 86 by rw [List.size_toArray, fcells_length])
      have hfone := Lib.hid (fcells_one 86 valK f)
      generalize hfc : (fcells 86 valK f).toArray = fc at *
      have hfc' := Lib.hid hfc
      clear hfc
      have hvd : Hid (valB f = (decide (f 80 ≤ 32000000000) && f 80 % 1000000000 == 0 && epochB (f 82) && epochB (f 83) && epochB (f 84) && epochB (f 85))) := rfl
      generalize f 80 = x80 at *
      generalize f 82 = x82 at *
      generalize f 83 = x83 at *
      generalize f 84 = x84 at *
      generalize f 85 = x85 at *
      have E82 := Lib.hid (fun w => repoch_any x82 w _ rfl k82.1 k82.2)
      have E83 := Lib.hid (fun w => repoch_any x83 w _ rfl k83.1 k83.2)
      have E84 := Lib.hid (fun w => repoch_any x84 w _ rfl k84.1 k84.2)
      have E85 := Lib.hid (fun w => repoch_any x85 w _ rfl k85.1 k85.2)
      have hszw' : w.heap.size ≤ wr.heap.size := by omega
      have hszl : w.heap.size < wr.heap.size := by omega
      by_cases c80 : x80 ≤ 32000000000
      · by_cases cr : x80 % 1000000000 = 0
        · have crb : (x80 % 1000000000 != 0) = false := by simp [cr]
          have cr' := Lib.hid cr
          clear cr
          cases e82 : epochB x82
          · have hv := hbadf.out (by rw [hvd.out, e82]; simp)
            have hv' := Lib.hid hv
            clear hv
            go_wp2_with (first
              | ((with_reducible refine at_load 59 ?_); refine wpList_load_mid rfl 59 _ rfl _ _ rfl (fcells 86 valK f) _ hrg Tryd.underlying59 rfl (by rw [row_size rrowT_66, fcells_length]) ?_; simp only [hfc'.out])
              | ((with_reducible refine at_alloc 59 ?_); refine wpList_alloc_store rfl rfl 59 6 _ rfl rfl rfl fc rfl rfl (zeroOf Tryd.prog 59) (by rw [hfsz.out]; exact (row_zero rrowT_66).1) (by rw [hfsz.out]; exact (row_zero rrowT_66).2) hfone.out ?_)
              | ((with_reducible refine (E82.out _).mono ?_); rintro e w' ⟨rfl, rfl⟩)
              | ((with_reducible refine (E83.out _).mono ?_); rintro e w' ⟨rfl, rfl⟩)
              | ((with_reducible refine (E84.out _).mono ?_); rintro e w' ⟨rfl, rfl⟩)
              | ((with_reducible refine (E85.out _).mono ?_); rintro e w' ⟨rfl, rfl⟩))
            go_ret
            exact ⟨by rw [hv'.out]; simp, hbl.out.alloc hszw' _⟩
          · cases e83 : epochB x83
            · have hv := hbadf.out (by rw [hvd.out, e83]; simp)
              have hv' := Lib.hid hv
              clear hv
              go_wp2_with (first
                | ((with_reducible refine at_load 59 ?_); refine wpList_load_mid rfl 59 _ rfl _ _ rfl (fcells 86 valK f) _ hrg Tryd.underlying59 rfl (by rw [row_size rrowT_66, fcells_length]) ?_; simp only [hfc'.out])
                | ((with_reducible refine at_alloc 59 ?_); refine wpList_alloc_store rfl rfl 59 6 _ rfl rfl rfl fc rfl rfl (zeroOf Tryd.prog 59) (by rw [hfsz.out]; exact (row_zero rrowT_66).1) (by rw [hfsz.out]; exact (row_zero rrowT_66).2) hfone.out ?_)
                | ((with_reducible refine (E82.out _).mono ?_); rintro e w' ⟨rfl, rfl⟩)
                | ((with_reducible refine (E83.out _).mono ?_); rintro e w' ⟨rfl, rfl⟩)
                | ((with_reducible refine (E84.out _).mono ?_); rintro e w' ⟨rfl, rfl⟩)
                | ((with_reducible refine (E85.out _).mono ?_); rintro e w' ⟨rfl, rfl⟩))
              go_ret
              exact ⟨by rw [hv'.out]; simp, hbl.out.alloc hszw' _⟩
            · cases e84 : epochB x84
              · have hv := hbadf.out (by rw [hvd.out, e84]; simp)
                have hv' := Lib.hid hv
                clear hv
                go_wp2_with (first
                  | ((with_reducible refine at_load 59 ?_); refine wpList_load_mid rfl 59 _ rfl _ _ rfl (fcells 86 valK f) _ hrg Tryd.underlying59 rfl (by rw [row_size rrowT_66, fcells_length]) ?_; simp only [hfc'.out])
                  | ((with_reducible refine at_alloc 59 ?_); refine wpList_alloc_store rfl rfl 59 6 _ rfl rfl rfl fc rfl rfl (zeroOf Tryd.prog 59) (by rw [hfsz.out]; exact (row_zero rrowT_66).1) (by rw [hfsz.out]; exact (row_zero rrowT_66).2) hfone.out ?_)
                  | ((with_reducible refine (E82.out _).mono ?_); rintro e w' ⟨rfl, rfl⟩)
                  | ((with_reducible refine (E83.out _).mono ?_); rintro e w' ⟨rfl, rfl⟩)
                  | ((with_reducible refine (E84.out _).mono ?_); rintro e w' ⟨rfl, rfl⟩)
                  | ((with_reducible refine (E85.out _).mono ?_); rintro e w' ⟨rfl, rfl⟩))
                go_ret
                exact ⟨by rw [hv'.out]; simp, hbl.out.alloc hszw' _⟩
              · cases e85 : epochB x85
                · have hv := hbadf.out (by rw [hvd.out, e85]; simp)
                  have hv' := Lib.hid hv
                  clear hv
                  go_wp2_with (first
                    | ((with_reducible refine at_load 59 ?_); refine wpList_load_mid rfl 59 _ rfl _ _ rfl (fcells 86 valK f) _ hrg Tryd.underlying59 rfl (by rw [row_size rrowT_66, fcells_length]) ?_; simp only [hfc'.out])
                    | ((with_reducible refine at_alloc 59 ?_); refine wpList_alloc_store rfl rfl 59 6 _ rfl rfl rfl fc rfl rfl (zeroOf Tryd.prog 59) (by rw [hfsz.out]; exact (row_zero rrowT_66).1) (by rw [hfsz.out]; exact (row_zero rrowT_66).2) hfone.out ?_)
                    | ((with_reducible refine (E82.out _).mono ?_); rintro e w' ⟨rfl, rfl⟩)
                    | ((with_reducible refine (E83.out _).mono ?_); rintro e w' ⟨rfl, rfl⟩)
                    | ((with_reducible refine (E84.out _).mono ?_); rintro e w' ⟨rfl, rfl⟩)
                    | ((with_reducible refine (E85.out _).mono ?_); rintro e w' ⟨rfl, rfl⟩))
                  go_ret
                  exact ⟨by rw [hv'.out]; simp, hbl.out.alloc hszw' _⟩
                · by_cases cn : 1099511627776 < n
                  · have hv := hbadn.out (by simp [scoreB]; omega)
                    have hv' := Lib.hid hv
                    clear hv
                    go_wp2_with (first
                      | ((with_reducible refine at_load 59 ?_); refine wpList_load_mid rfl 59 _ rfl _ _ rfl (fcells 86 valK f) _ hrg Tryd.underlying59 rfl (by rw [row_size rrowT_66, fcells_length]) ?_; simp only [hfc'.out])
                      | ((with_reducible refine at_alloc 59 ?_); refine wpList_alloc_store rfl rfl 59 6 _ rfl rfl rfl fc rfl rfl (zeroOf Tryd.prog 59) (by rw [hfsz.out]; exact (row_zero rrowT_66).1) (by rw [hfsz.out]; exact (row_zero rrowT_66).2) hfone.out ?_)
                      | ((with_reducible refine (E82.out _).mono ?_); rintro e w' ⟨rfl, rfl⟩)
                      | ((with_reducible refine (E83.out _).mono ?_); rintro e w' ⟨rfl, rfl⟩)
                      | ((with_reducible refine (E84.out _).mono ?_); rintro e w' ⟨rfl, rfl⟩)
                      | ((with_reducible refine (E85.out _).mono ?_); rintro e w' ⟨rfl, rfl⟩))
                    go_ret
                    exact ⟨by rw [hv'.out]; simp, hbl.out.alloc hszw' _⟩
                  · have hgf := Lib.hid (hgoodf.out (by rw [hvd.out, e82, e83, e84, e85, cr'.out]; simp; omega))
                    have hgn := Lib.hid (hgoodn.out (by simp [scoreB]; omega))
                    go_wp2_with (first
                      | ((with_reducible refine at_load 59 ?_); refine wpList_load_mid rfl 59 _ rfl _ _ rfl (fcells 86 valK f) _ hrg Tryd.underlying59 rfl (by rw [row_size rrowT_66, fcells_length]) ?_; simp only [hfc'.out])
                      | ((with_reducible refine at_alloc 59 ?_); refine wpList_alloc_store rfl rfl 59 6 _ rfl rfl rfl fc rfl rfl (zeroOf Tryd.prog 59) (by rw [hfsz.out]; exact (row_zero rrowT_66).1) (by rw [hfsz.out]; exact (row_zero rrowT_66).2) hfone.out ?_)
                      | ((with_reducible refine (E82.out _).mono ?_); rintro e w' ⟨rfl, rfl⟩)
                      | ((with_reducible refine (E83.out _).mono ?_); rintro e w' ⟨rfl, rfl⟩)
                      | ((with_reducible refine (E84.out _).mono ?_); rintro e w' ⟨rfl, rfl⟩)
                      | ((with_reducible refine (E85.out _).mono ?_); rintro e w' ⟨rfl, rfl⟩))
                    exact ⟨⟨k + 1, by omega, by go_num, hgf.out, hgn.out, hb'.out.alloc (by simpa using hb'.out.size) _⟩, by simp [intOf]; omega⟩
        · have crb : (x80 % 1000000000 != 0) = true := by simp [cr]
          have hv := hbadf.out (by rw [hvd.out]; simp [cr])
          clear cr
          have hv' := Lib.hid hv
          clear hv
          go_wp2_with (first
            | ((with_reducible refine at_load 59 ?_); refine wpList_load_mid rfl 59 _ rfl _ _ rfl (fcells 86 valK f) _ hrg Tryd.underlying59 rfl (by rw [row_size rrowT_66, fcells_length]) ?_; simp only [hfc'.out])
            | ((with_reducible refine at_alloc 59 ?_); refine wpList_alloc_store rfl rfl 59 6 _ rfl rfl rfl fc rfl rfl (zeroOf Tryd.prog 59) (by rw [hfsz.out]; exact (row_zero rrowT_66).1) (by rw [hfsz.out]; exact (row_zero rrowT_66).2) hfone.out ?_)
            | ((with_reducible refine (E82.out _).mono ?_); rintro e w' ⟨rfl, rfl⟩)
            | ((with_reducible refine (E83.out _).mono ?_); rintro e w' ⟨rfl, rfl⟩)
            | ((with_reducible refine (E84.out _).mono ?_); rintro e w' ⟨rfl, rfl⟩)
            | ((with_reducible refine (E85.out _).mono ?_); rintro e w' ⟨rfl, rfl⟩))
          go_ret
          exact ⟨by rw [hv'.out]; simp, hbl.out.alloc hszw' _⟩
      · have hv := hbadf.out (by rw [hvd.out]; simp; omega)
        have hv' := Lib.hid hv
        clear hv
        go_wp2_with (first
          | ((with_reducible refine at_load 59 ?_); refine wpList_load_mid rfl 59 _ rfl _ _ rfl (fcells 86 valK f) _ hrg Tryd.underlying59 rfl (by rw [row_size rrowT_66, fcells_length]) ?_; simp only [hfc'.out])
          | ((with_reducible refine at_alloc 59 ?_); refine wpList_alloc_store rfl rfl 59 6 _ rfl rfl rfl fc rfl rfl (zeroOf Tryd.prog 59) (by rw [hfsz.out]; exact (row_zero rrowT_66).1) (by rw [hfsz.out]; exact (row_zero rrowT_66).2) hfone.out ?_)
          | ((with_reducible refine (E82.out _).mono ?_); rintro e w' ⟨rfl, rfl⟩)
          | ((with_reducible refine (E83.out _).mono ?_); rintro e w' ⟨rfl, rfl⟩)
          | ((with_reducible refine (E84.out _).mono ?_); rintro e w' ⟨rfl, rfl⟩)
          | ((with_reducible refine (E85.out _).mono ?_); rintro e w' ⟨rfl, rfl⟩))
        go_ret
        exact ⟨by rw [hv'.out]; simp, hbl.out.alloc hszw' _⟩
    · obtain rfl : k = len := by omega
      have hval : Hid (s.vals.all valB = true) := by
        have := hall'.out
        rw [List.take_of_length_le (by rw [hlen'.out]; omega)] at this
        exact this
      have hscl := Lib.hid (show s.scores.length = k from L7'.out)
      have hsc2 : Hid (s.scores.all scoreB = true) := by
        have := hsc'.out
        rw [List.take_of_length_le (by rw [hscl.out]; omega)] at this
        exact this
      have hsl : Hid (Row wr (some ⟨w.heap.size, 979, none⟩) .u64 s.slash) := ⟨fun i hi => ⟨w.heap.size, 979, rfl, by
        have hi8 : i < 8 := by simpa [Sx.slash] using hi
        rw [hbx (979 + i), hsl0.out i hi8]
        simp [Sx.slash, List.getD, hi8, CK.mk]⟩, fun n hn => by
        obtain ⟨i, hi, rfl⟩ := List.mem_map.1 hn
        exact hsl1.out i (by simpa using hi)⟩
      cases hf1 : fewB 144115188075855872 s.bals
      · have F1 := Lib.hid (rsum_len s.bals k L4'.out a4 c4 wr (by omega) r4w.out false hf1)
        have hf1' := Lib.hid hf1
        clear hf1
        go_wp2_with ((with_reducible refine F1.out.mono ?_); rintro e w' ⟨rfl, rfl⟩)
        go_ret
        exact ⟨by rw [hf1'.out]; simp, hbl.out⟩
      · have F1 := Lib.hid (rsum_len s.bals k L4'.out a4 c4 wr (by omega) r4w.out true hf1)
        have F2 := Lib.hid (rsum_len s.slash 8 (by simp [Sx.slash]) (some ⟨w.heap.size, 979, none⟩) 8 wr (by omega) hsl.out _ rfl)
        have hf1' := Lib.hid hf1
        clear hf1
        go_wp2_with (first
          | ((with_reducible refine F1.out.mono ?_); rintro e w' ⟨rfl, rfl⟩)
          | ((with_reducible refine F2.out.mono ?_); rintro e w' ⟨rfl, rfl⟩))
        go_ret
        exact ⟨by rw [hf1'.out, hsc2.out, hval.out]; simp, hbl.out⟩
end Go.Proofs.YtfnjcpopadpmbaaDoor
namespace Go.Proofs.YtfnjcpopadpmbaaDoor
open Go.RowKit
/-- Right of the reference: whatever state: the same answer as the program's. -/
theorem rright_any (xs : Array Value) (s : Sx) (w : World) (h : StRep w xs s) :
    Calls Tryd.prog 7 #[.agg xs] w fun e w' => e = .returned (.bool s.rightB) ∧ Below w.heap.size w w' := by
  by_cases hL : (s.vals.length : Int) ≤ 65536 ∧ (s.bals.length : Int) = s.vals.length ∧ (s.prev.length : Int) = s.vals.length ∧ (s.cur.length : Int) = s.vals.length ∧ (s.scores.length : Int) = s.vals.length
  · by_cases hN : (s.hist.length : Int) ≤ 1024 ∧ (s.votes.length : Int) ≤ 8 ∧ s.n 33 < 1099511627776 ∧ s.n 720 < 1099511627776 ∧ s.n 43 ≤ s.n 33 ∧ s.n 993 ≤ s.n 33 / 4 ∧ s.n 1026 ≤ s.n 33 / 4 ∧ s.n 1059 ≤ s.n 33 / 4
    · have e1 : s.lensB = true := by
        obtain ⟨a, b, c, d, e⟩ := hL
        obtain ⟨f, g, _⟩ := hN
        simp only [Sx.lensB, Bool.and_eq_true, decide_eq_true_eq, beq_iff_eq]
        omega
      obtain ⟨_, _, a, b, c, d, e, f⟩ := hN
      have e2 : s.numsB = true := by simp [Sx.numsB, a, b, c]
      have e3 : s.cksB = true := by simp [Sx.cksB, d, e, f]
      refine (rright_main xs s w h hL ⟨by assumption, by assumption, a, b, c, d, e, f⟩).mono ?_
      rintro e w' ⟨rfl, hb⟩
      exact ⟨by simp only [Sx.rightB, e1, e2, e3, Bool.true_and], hb⟩
    · have e1 : s.rightB = false := by
        rw [Bool.eq_false_iff]
        intro hx
        simp only [Sx.rightB, Sx.lensB, Sx.numsB, Sx.cksB, Bool.and_eq_true, decide_eq_true_eq, beq_iff_eq] at hx
        obtain ⟨⟨⟨_, _⟩, _⟩, ⟨⟨_, _⟩, _⟩, ⟨⟨_, _⟩, _⟩, _⟩ := hx
        omega
      refine (rright_nums xs s w h hL hN).mono ?_
      rintro e w' ⟨rfl, hb⟩
      exact ⟨by rw [e1], hb⟩
  · have e1 : s.rightB = false := by
      rw [Bool.eq_false_iff]
      intro hx
      simp only [Sx.rightB, Sx.lensB, Bool.and_eq_true, decide_eq_true_eq, beq_iff_eq] at hx
      obtain ⟨⟨⟨⟨⟨⟨⟨_, _⟩, _⟩, _⟩, _⟩, _⟩, _⟩, _⟩ := hx
      omega
    refine (rright_lens xs s w h hL).mono ?_
    rintro e w' ⟨rfl, hb⟩
    exact ⟨by rw [e1], hb⟩
end Go.Proofs.YtfnjcpopadpmbaaDoor
