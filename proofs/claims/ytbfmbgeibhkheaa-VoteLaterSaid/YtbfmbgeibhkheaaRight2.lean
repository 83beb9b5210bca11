/- Right of the program, the road to its end. -/
import Derived.Test.YtbfmbgeibhkheaaRight1
import Derived.Test.YtbfmbgeibhkheaaBase2
import Derived.Test.YtbfmbgeibhkheaaState2
namespace Go.Proofs.Ytbfmbgeibhkheaa
open Go.RowKit
set_option maxRecDepth 100000

/-- The epochs of the three checkpoints. -/
def Sx.ck (s : Sx) (j : Nat) : Int := s.n (993 + j * 33)
theorem cks_at (xs : Array Value) (hsz : xs.size = 1957) (ys : Array Value) (hys : (cellsAt xs 993 33 ++ (cellsAt xs 1026 33 ++ cellsAt xs 1059 33)).toArray = ys) (s : Sx)
    (f993 : xs[993]? = some (.int .u64 (s.n 993))) (f1026 : xs[1026]? = some (.int .u64 (s.n 1026))) (f1059 : xs[1059]? = some (.int .u64 (s.n 1059))) (hone : ∀ v ∈ xs, v.oneCell' = true) :
    ∃ zs : Nat → Array Value, (∀ k : Nat, k < 3 → ∀ w, (Instr.index 69 (.agg ys) (.int .i64 k)).run Try.prog w = .ok (.agg (zs k)) w) ∧ (∀ k, k < 3 → (zs k).size = 33) ∧ (∀ k, k < 3 → (zs k).all (·.oneCell') = true) ∧ (∀ k, k < 3 → (zs k)[0]? = some (.int .u64 (s.ck k))) := by
  have e : ys = (cellsAt xs 993 99).toArray := by
    rw [← hys, cellsAt_app xs 1026 33 33, cellsAt_app xs 993 33 66]
  refine ⟨fun k => (cellsAt xs (993 + k * 33) 33).toArray, ?_, ?_, ?_, ?_⟩
  · intro k hk w
    have hr := run_index_rows (P := Try.prog) w 69 42 3 33 Try.underlying69 Try.underlying42 rfl (row_size rowT_42) ys .i64 k hk
    rw [hr, e, cellsAt_extract xs 993 99 (k * 33) 33 (by omega)]
  · intro k hk
    rw [List.size_toArray, cellsAt_length]
    omega
  · intro k hk
    exact cellsAt_one hone _ _
  · intro k hk
    have := cellsAt_get xs (993 + k * 33) 33 0 (by omega)
    rw [List.getElem?_toArray, this]
    have : k = 0 ∨ k = 1 ∨ k = 2 := by omega
    rcases this with rfl | rfl | rfl
    · exact f993
    · exact f1026
    · exact f1059

set_option maxHeartbeats 4000000 in
theorem right_main (xs : Array Value) (s : Sx) (w : World) (h : StRep w xs s)
    (hL : (s.vals.length : Int) ≤ 65536 ∧ (s.bals.length : Int) = s.vals.length ∧ (s.prev.length : Int) = s.vals.length ∧ (s.cur.length : Int) = s.vals.length ∧ (s.scores.length : Int) = s.vals.length ∧ (s.hist.length : Int) ≤ 1024 ∧ (s.votes.length : Int) ≤ 8)
    (hN : s.n 33 < 1099511627776 ∧ s.n 720 < 1099511627776 ∧ s.n 43 ≤ s.n 33) :
    Calls Try.prog 9 #[.agg xs] w fun e w' => e = .returned (.bool (s.cksB && (s.vals.all valB && (s.scores.all scoreB && (fewB 144115188075855872 s.bals && fewB 144115188075855872 s.slash))))) ∧ Below w.heap.size w w' := by
  have f33 := h.u64 33 rfl
  have g33 := h.u64b 33 rfl
  have f43 := h.u64 43 rfl
  have f720 := h.u64 720 rfl
  have f993 := h.u64 993 rfl
  have f1026 := h.u64 1026 rfl
  have f1059 := h.u64 1059 rfl
  have hsl0 : Hid (∀ i, i < 8 → xs[979 + i]? = some (.int .u64 (s.n (979 + i)))) := fun i hi => h.u64 (979 + i) (slash_k i hi)
  have hsl1 : Hid (∀ i, i < 8 → 0 ≤ s.n (979 + i) ∧ s.n (979 + i) ≤ 18446744073709551615) := fun i hi => h.u64b (979 + i) (slash_k i hi)
  have hsz := Lib.hid h.size
  have hone := Lib.hid h.one
  obtain ⟨-, -, -, ⟨a1, c1, h1, -, b1⟩, ⟨a2, c2, h2, -, b2⟩, ⟨a3, c3, h3, r3, b3⟩, ⟨a4, c4, h4, r4, b4⟩, ⟨a5, c5, h5, -, b5⟩, ⟨a6, c6, h6, -, b6⟩, ⟨a7, c7, h7, r7, b7⟩⟩ := h
  obtain ⟨l1, l2, l3, l4, l5, l6, l7⟩ := hL
  obtain ⟨n1, n2, n3⟩ := hN
  have L4 : s.bals.length = s.vals.length := by omega
  have L5 : s.prev.length = s.vals.length := by omega
  have L6 : s.cur.length = s.vals.length := by omega
  have L7 : s.scores.length = s.vals.length := by omega
  rw [L4] at h4
  rw [L5] at h5
  rw [L6] at h6
  rw [L7] at h7
  have L4' := Lib.hid L4
  have L7' := Lib.hid L7
  have r3' := Lib.hid r3
  have r4' := Lib.hid r4
  have r7' := Lib.hid r7
  clear r3 r4 r7 L4 L5 L6 L7 l2 l3 l4 l5
  generalize hlen : s.vals.length = len at *
  have hlen' := Lib.hid hlen
  clear hlen
  generalize hm : s.n 33 = slot at *
  have hm' := Lib.hid hm
  clear hm
  have hu42 : (Try.prog.info? 42).map (·.size) = some (xs.extract 993 1026).toList.length := by rw [row_size rowT_42]; simp [hsz.out]
  go_enter Try.func9, Try.ntmps9
  go_wp2_with (first
    | ((with_reducible refine at_load 42 ?_); refine wpList_load_mid rfl 42 _ rfl _ _ rfl (cellsAt xs _ 33) _ (rangeAt_cells (heap_alloc_last w _) _ 33) Try.underlying42 rfl (by rw [row_size rowT_42, cellsAt_length xs _ 33 (by rw [hsz.out]; decide)]) ?_)
    | ((with_reducible refine at_build 69 ?_); (refine wpList_build_array rfl 69 42 3 33 _ rfl [cellsAt xs 993 33, cellsAt xs 1026 33, cellsAt xs 1059 33] rfl Try.underlying69 (row_size rowT_42) (zeroOf Try.prog 69) (by rw [(row_zero rowT_69).1, (row_zero rowT_69).2]) (by intro p hp; simp at hp; rcases hp with rfl | rfl | rfl <;> exact cellsAt_length xs _ 33 (by rw [hsz.out]; decide)) (by rw [(row_zero rowT_69).2]; rfl) ?_)))
  generalize hys : (cellsAt xs 993 33 ++ (cellsAt xs 1026 33 ++ cellsAt xs 1059 33)).toArray = ys
  obtain ⟨zs, hix, hzs, hz1, hz0⟩ := cks_at xs hsz.out ys hys s f993 f1026 f1059 hone.out
  clear hys
  go_loopw [84] (fun i wr => ∃ k : Nat, k ≤ 3 ∧ i = .int .i64 k ∧ (∀ j, j < k → s.ck j ≤ slot / 4) ∧ Below (w.heap.size + 1) (w.alloc (.cells xs 49)) wr) (fun i _ => 3 - (intOf i).toNat)
  case atStart => exact ⟨0, by omega, rfl, fun j hj => by omega, Below.refl _ _⟩
  case round =>
    obtain ⟨k, hk, rfl, hle, hb⟩ := hrel
    have hle' := Lib.hid hle
    clear hle
    by_cases hlt : k < 3
    · have hix' := hix k hlt
      have hsz' := Lib.hid (hzs k hlt)
      have hz1' := Lib.hid (hz1 k hlt)
      have hz0' := hz0 k hlt
      clear hix hzs hz1 hz0
      go_wp2_with (first
        | ((with_reducible refine at_alloc 42 ?_); go_loud (refine wpList_alloc_store rfl rfl 42 6 _ rfl rfl rfl (zs k) rfl rfl (zeroOf Try.prog 42) (by rw [hsz'.out]; exact (row_zero rowT_42).1) (by rw [hsz'.out]; exact (row_zero rowT_42).2) hz1'.out ?_)))
      · go_ret
        have hbad : s.cksB = false := by
          rcases (show k = 0 ∨ k = 1 ∨ k = 2 by omega) with rfl | rfl | rfl
          all_goals
            simp only [Sx.ck, Nat.zero_mul, Nat.one_mul, Nat.add_zero, Nat.reduceMul, Nat.reduceAdd] at *
            simp only [Sx.cksB, hm'.out]
            simp
            omega
        exact ⟨by rw [hbad]; rfl, ((below_box hb).alloc (by have := hb.size; simp at this; omega) _)⟩
      · refine ⟨⟨k + 1, by omega, by go_num, fun j hj => ?_, hb.alloc (by have := hb.size; simpa using this) _⟩, by simp [intOf]; omega⟩
        rcases Nat.lt_succ_iff_lt_or_eq.1 hj with h | rfl
        · exact hle'.out j h
        · omega
    · obtain rfl : k = 3 := by omega
      clear hix hzs hz1 hz0 hk hlt
      have hck : s.cksB = true := by
        have e0 := hle'.out 0 (by omega)
        have e1 := hle'.out 1 (by omega)
        have e2 := hle'.out 2 (by omega)
        simp only [Sx.ck, Nat.zero_mul, Nat.one_mul, Nat.add_zero, Nat.reduceMul, Nat.reduceAdd] at e0 e1 e2
        simp [Sx.cksB, hm'.out, e0, e1, e2]
      have hck' := Lib.hid hck
      clear hck hle'
      have hbx := fun j => box_cell hb j
      have hb' := Lib.hid hb
      clear hb
      have r3'' := Lib.hid (r3'.out.later (below_box hb'.out))
      have r4'' := Lib.hid (r4'.out.later (below_box hb'.out))
      have r7'' := Lib.hid (r7'.out.later (below_box hb'.out))
      clear r3' r4' r7'
      have hszw := hb'.out.size
      simp only [World.size_alloc] at hszw
      have hbl := Lib.hid (below_box hb'.out)
      generalize hB : w.heap.size = B at *
      have hB' := Lib.hid hB
      clear hB
      obtain ⟨wo, rfl⟩ : ∃ wo : World, wo = wr := ⟨_, rfl⟩
      go_wp2
      go_loopw [95] (fun i wv => ∃ k : Nat, k ≤ len ∧ i = .int .i64 k ∧ (s.vals.take k).all valB = true ∧ Below wo.heap.size wo wv) (fun i _ => len - (intOf i).toNat)
      case atStart => exact ⟨0, Nat.zero_le _, rfl, by simp, Below.refl _ _⟩
      case round =>
        obtain ⟨k, hk, rfl, hall, hbv⟩ := hrel
        have hall' := Lib.hid hall
        clear hall
        by_cases hlt : k < len
        · obtain ⟨b, o, rfl, hrg⟩ := (r3''.out.later hbv).range k (by rw [hlen'.out]; exact hlt)
          have hok := Lib.hid (r3''.out.ok (s.vals.getD k nil0) (by simp [List.getD, hlen'.out, hlt]))
          have htk := Lib.hid (take_all valB s.vals k (by rw [hlen'.out]; exact hlt))
          have hbadf : Hid (valB (s.vals.getD k nil0) = false → s.vals.all valB = false) := fun hx => all_bad valB s.vals k (by rw [hlen'.out]; exact hlt) (by simpa [List.getD, hlen'.out, hlt] using hx)
          have hgoodf : Hid (valB (s.vals.getD k nil0) = true → (s.vals.take (k + 1)).all valB = true) := fun hx => by
            rw [htk.out, hall'.out]
            simpa [List.getD, hlen'.out, hlt] using hx
          generalize s.vals.getD k nil0 = f at *
          have q80 : (fcells 86 valK f).toArray[80]? = some (.int .u64 (f 80)) := by rw [List.getElem?_toArray]; exact fcells_get 86 valK f 80 (by omega)
          have q82 : (fcells 86 valK f).toArray[82]? = some (.int .u64 (f 82)) := by rw [List.getElem?_toArray]; exact fcells_get 86 valK f 82 (by omega)
          have q83 : (fcells 86 valK f).toArray[83]? = some (.int .u64 (f 83)) := by rw [List.getElem?_toArray]; exact fcells_get 86 valK f 83 (by omega)
          have q84 : (fcells 86 valK f).toArray[84]? = some (.int .u64 (f 84)) := by rw [List.getElem?_toArray]; exact fcells_get 86 valK f 84 (by omega)
          have q85 : (fcells 86 valK f).toArray[85]? = some (.int .u64 (f 85)) := by rw [List.getElem?_toArray]; exact fcells_get 86 valK f 85 (by omega)
          have k80 := hok.out 80 (by omega)
          simp only [valK, CK.ok, Nat.reduceLT, Nat.reduceEqDiff, if_false] at k80
          have hfsz := Lib.hid (show (fcells 86 valK f).toArray.size = 86 by rw [List.size_toArray, fcells_length])
          have hfone := Lib.hid (fcells_one 86 valK f)
          generalize hfc : (fcells 86 valK f).toArray = fc at *
          have hfc' := Lib.hid hfc
          clear hfc
          go_wp2_with (first
            | ((with_reducible refine at_load 66 ?_); go_loud (refine wpList_load_mid rfl 66 _ rfl _ _ rfl (fcells 86 valK f) _ hrg Try.underlying66 rfl (by rw [row_size rowT_66, fcells_length]) ?_; simp only [hfc'.out]))
            | ((with_reducible refine at_alloc 66 ?_); go_loud (refine wpList_alloc_store rfl rfl 66 8 _ rfl rfl rfl fc rfl rfl (zeroOf Try.prog 66) (by rw [hfsz.out]; exact (row_zero rowT_66).1) (by rw [hfsz.out]; exact (row_zero rowT_66).2) hfone.out ?_)))
          · go_ret
            have hv : valB f = false := by
              have hx : 32000000000 < f 80 ∨ (f 80 % 1000000000 != 0) = true := by assumption
              rcases hx with h | h
              · omega
              · simp only [bne_iff_ne, ne_eq] at h
                simp [valB, h]
            have hbad := hbadf.out hv
            exact ⟨by rw [hbad]; simp, by rw [hB'.out]; exact (hbl.out.trans (hbv.mono (by omega))).alloc (by have := hbv.size; omega) _⟩
          · have hg1 : f 80 % 1000000000 = 0 := by simp at *; omega
            have hi4 : ∀ j : Nat, j < 4 → ∀ w, (Instr.index 70 (.agg #[.int .u64 (f 82), .int .u64 (f 83), .int .u64 (f 84), .int .u64 (f 85)]) (.int .i64 j)).run Try.prog w = .ok (.int .u64 (ep f j)) w := by
              intro j hj w
              refine run_index_one w 70 22 4 Try.underlying70 Try.underlying22 rfl (by kernel_rfl) _ .i64 j hj _ ?_
              rcases (show j = 0 ∨ j = 1 ∨ j = 2 ∨ j = 3 by omega) with rfl | rfl | rfl | rfl <;> rfl
            have hi4' := Lib.hid hi4
            have hg1' := Lib.hid hg1
            clear hi4 hg1
            go_loop [117] (fun i => ∃ m : Nat, m ≤ 4 ∧ i = .int .i64 m ∧ ∀ j, j < m → epochB (ep f j) = true) (fun i => 4 - (intOf i).toNat)
            case atStart => exact ⟨0, by omega, rfl, fun j hj => by omega⟩
            case round =>
              obtain ⟨m, hm, rfl, hep⟩ := hrel
              have hep' := Lib.hid hep
              clear hep
              by_cases hm4 : m < 4
              · have hix := hi4'.out m hm4
                have hbe : Hid (epochB (ep f m) = false → valB f = false) := fun hx => by
                  rcases (show m = 0 ∨ m = 1 ∨ m = 2 ∨ m = 3 by omega) with rfl | rfl | rfl | rfl <;> (simp only [ep, Nat.add_zero, Nat.reduceAdd] at hx; simp [valB, hx])
                have bep : 0 ≤ ep f m ∧ ep f m ≤ 18446744073709551615 := by
                  have := hok.out (82 + m) (by omega)
                  simp only [valK] at this
                  rw [if_neg (by omega), if_neg (by omega)] at this
                  exact this
                generalize hEm0 : ep f m = E at *
                have hEm := Lib.hid hEm0
                clear hEm0
                by_cases hE : E = 18446744073709551615
                · subst hE
                  go_wp2
                  have ht : epochB 18446744073709551615 = true := rfl
                  exact ⟨⟨m + 1, by omega, by go_num, fun j hj => by
                    rcases Nat.lt_succ_iff_lt_or_eq.1 hj with h | rfl
                    · exact hep'.out j h
                    · rw [hEm.out]; exact ht⟩, by simp [intOf]; omega⟩
                · by_cases hE2 : E < 2199023255552
                  · go_wp2
                    have ht : epochB E = true := by simp [epochB, hE2]
                    exact ⟨⟨_, _, _, ⟨m + 1, by omega, by go_num, fun j hj => by
                      rcases Nat.lt_succ_iff_lt_or_eq.1 hj with h | rfl
                      · exact hep'.out j h
                      · rw [hEm.out]; exact ht⟩, rfl, rfl, rfl⟩, by simp [intOf]; omega⟩
                  · have ht : epochB E = false := by simp [epochB, hE]; omega
                    have hbad := Lib.hid (hbadf.out (hbe.out ht))
                    clear ht
                    have hEb : (E != 18446744073709551615) = true := by simp [hE]
                    go_wp2
                    go_ret
                    exact ⟨by rw [hbad.out]; simp, by rw [hB'.out]; exact (hbl.out.trans (hbv.mono (by omega))).alloc (by have := hbv.size; omega) _⟩
              · obtain rfl : m = 4 := by omega
                go_wp2
                have hv : valB f = true := by
                  have e0 := hep'.out 0 (by omega)
                  have e1 := hep'.out 1 (by omega)
                  have e2 := hep'.out 2 (by omega)
                  have e3 := hep'.out 3 (by omega)
                  simp only [ep, Nat.add_zero, Nat.reduceAdd] at e0 e1 e2 e3
                  simp [valB, e0, e1, e2, e3, hg1'.out]
                  assumption
                exact ⟨⟨_, _, _, _, ⟨k + 1, by omega, by go_num, by simpa using hgoodf.out hv, hbv.alloc hbv.size _⟩, rfl, rfl, rfl, rfl⟩, by simp [intOf]; omega⟩
          · go_ret
            have hv : valB f = false := by simp [valB]; omega
            have hbad := hbadf.out hv
            exact ⟨by rw [hbad]; simp, by rw [hB'.out]; exact (hbl.out.trans (hbv.mono (by omega))).alloc (by have := hbv.size; omega) _⟩
        · obtain rfl : k = len := by omega
          have hval : Hid (s.vals.all valB = true) := by
            have := hall'.out
            rw [List.take_of_length_le (by rw [hlen'.out]; omega)] at this
            exact this
          have hbs := Lib.hid (hbl.out.trans (hbv.mono (show B ≤ wo.heap.size by omega)))
          have r4v := r4''.out.later hbv
          have r7v := Lib.hid (r7''.out.later hbv)
          have hbx2 : ∀ j, wr.cell? ⟨B, j, none⟩ = xs[j]? := fun j => by rw [hbv.cell (show B < wo.heap.size by omega)]; exact hbx j
          have r4v' := Lib.hid r4v
          have hsl : Hid (Row wr (some ⟨B, 979, none⟩) .u64 s.slash) := ⟨fun i hi => ⟨B, 979, rfl, by
            have hi8 : i < 8 := by simpa [Sx.slash] using hi
            rw [hbx2 (979 + i), hsl0.out i hi8]
            simp [Sx.slash, List.getD, hi8, CK.mk]⟩, fun n hn => by
            obtain ⟨i, hi, rfl⟩ := List.mem_map.1 hn
            exact hsl1.out i (by simpa using hi)⟩
          clear r4v hbx
          have hbsz := hbv.size
          have hbv' := Lib.hid hbv
          clear hbv hlt hk
          go_wp2
          go_loop [131] (fun i => ∃ m : Nat, m ≤ k ∧ i = .int .i64 m ∧ (s.scores.take m).all scoreB = true) (fun i => k - (intOf i).toNat)
          case atStart => exact ⟨0, Nat.zero_le _, rfl, by simp⟩
          case round =>
            obtain ⟨m, hm, rfl, hsc⟩ := hrel
            have hsc' := Lib.hid hsc
            clear hsc
            have hscl := Lib.hid (show s.scores.length = k from L7'.out)
            by_cases hmk : m < k
            · obtain ⟨b, o, rfl, hcell⟩ := r7v.out.cell m (by rw [hscl.out]; exact hmk)
              have hbd := r7v.out.ok (s.scores.getD m 0) (by simp [List.getD, hscl.out, hmk])
              simp only [CK.mk, CK.ok] at hcell hbd
              have hbadn : Hid (scoreB (s.scores.getD m 0) = false → s.scores.all scoreB = false) := fun hx => all_bad scoreB s.scores m (by rw [hscl.out]; exact hmk) (by simpa [List.getD, hscl.out, hmk] using hx)
              have hgoodn : Hid (scoreB (s.scores.getD m 0) = true → (s.scores.take (m + 1)).all scoreB = true) := fun hx => by
                rw [take_all scoreB s.scores m (by rw [hscl.out]; exact hmk), hsc'.out]
                simpa [List.getD, hscl.out, hmk] using hx
              generalize s.scores.getD m 0 = n at *
              go_wp2
              · have hx : 1099511627776 < n := by assumption
                have hbad := hbadn.out (by simp [scoreB]; omega)
                go_ret
                exact ⟨by rw [hbad]; simp, by rw [hB'.out]; exact hbs.out⟩
              · have hgd := hgoodn.out (by simp [scoreB]; omega)
                go_round
                case rel => exact ⟨m + 1, by omega, by go_num, hgd⟩
                case measure => simp [intOf]; omega
            · obtain rfl : m = k := by omega
              have hsc2 : Hid (s.scores.all scoreB = true) := by
                have := hsc'.out
                rw [List.take_of_length_le (by rw [hscl.out]; omega)] at this
                exact this
              clear hmk hm
              cases hf1 : fewB 144115188075855872 s.bals
              · have F1 := Lib.hid (few_len s.bals m (L4'.out) a4 c4 wr (by omega) r4v'.out false hf1)
                have hf1' := Lib.hid hf1
                clear hf1
                go_wp2_with ((with_reducible refine F1.out.mono ?_); rintro e w' ⟨rfl, rfl⟩)
                go_ret
                exact ⟨by rw [hf1'.out]; simp, by rw [hB'.out]; exact hbs.out⟩
              · have F1 := Lib.hid (few_len s.bals m (L4'.out) a4 c4 wr (by omega) r4v'.out true hf1)
                have F2 := Lib.hid (few_len s.slash 8 (by simp [Sx.slash]) (some ⟨B, 979, none⟩) 8 wr (by omega) hsl.out _ rfl)
                have hf1' := Lib.hid hf1
                clear hf1
                go_wp2_with (first
                  | ((with_reducible refine F1.out.mono ?_); rintro e w' ⟨rfl, rfl⟩)
                  | ((with_reducible refine F2.out.mono ?_); rintro e w' ⟨rfl, rfl⟩))
                go_ret
                exact ⟨by rw [hf1'.out, hsc2.out, hval.out, hck'.out]; simp, by rw [hB'.out]; exact hbs.out⟩
end Go.Proofs.Ytbfmbgeibhkheaa
namespace Go.Proofs.Ytbfmbgeibhkheaa
open Go.RowKit
/-- Right of the program: whatever state. -/
theorem right_any (xs : Array Value) (s : Sx) (w : World) (h : StRep w xs s) :
    Calls Try.prog 9 #[.agg xs] w fun e w' => e = .returned (.bool s.rightB) ∧ Below w.heap.size w w' := by
  by_cases hL : (s.vals.length : Int) ≤ 65536 ∧ (s.bals.length : Int) = s.vals.length ∧ (s.prev.length : Int) = s.vals.length ∧ (s.cur.length : Int) = s.vals.length ∧ (s.scores.length : Int) = s.vals.length ∧ (s.hist.length : Int) ≤ 1024 ∧ (s.votes.length : Int) ≤ 8
  · have e1 : s.lensB = true := by
      obtain ⟨a, b, c, d, e, f, g⟩ := hL
      simp only [Sx.lensB, Bool.and_eq_true, decide_eq_true_eq, beq_iff_eq]
      omega
    by_cases hN : s.n 33 < 1099511627776 ∧ s.n 720 < 1099511627776 ∧ s.n 43 ≤ s.n 33
    · have e2 : s.numsB = true := by
        obtain ⟨a, b, c⟩ := hN
        simp [Sx.numsB, a, b, c]
      refine (right_main xs s w h hL hN).mono ?_
      rintro e w' ⟨rfl, hb⟩
      exact ⟨by simp only [Sx.rightB, e1, e2, Bool.true_and], hb⟩
    · have e2 : s.numsB = false := by
        rw [Bool.eq_false_iff]
        intro hx
        simp only [Sx.numsB, Bool.and_eq_true, decide_eq_true_eq] at hx
        omega
      refine (right_nums xs s w h hL hN).mono ?_
      rintro e w' ⟨rfl, hb⟩
      exact ⟨by simp only [Sx.rightB, e1, e2, Bool.true_and, Bool.false_and], hb⟩
  · have e1 : s.lensB = false := by
      rw [Bool.eq_false_iff]
      intro hx
      simp only [Sx.lensB, Bool.and_eq_true, decide_eq_true_eq, beq_iff_eq] at hx
      omega
    refine (right_lens xs s w h hL).mono ?_
    rintro e w' ⟨rfl, hb⟩
    exact ⟨by simp only [Sx.rightB, e1, Bool.false_and], hb⟩
end Go.Proofs.Ytbfmbgeibhkheaa
