/- Bits in a row of bytes: the reference's all and ReadList. -/
/- Bits in a row of bytes: the reference's ReadList. -/
/- wire.Bits: the root of a list of bits of which there may be 64. -/
import Derived.Test.YtihelknkcomjpaaDoorJBsE
import Derived.Test.YtihelknkcomjpaaDoorJMkE
set_option linter.unusedVariables false
set_option linter.unusedSimpArgs false
set_option linter.unnecessarySimpa false
namespace Go.Proofs.YtihelknkcomjpaaDoor
open Go.RowKit BigFrame
set_option maxRecDepth 100000
theorem bitsL_snoc (l : List Int) (k : Nat) : bitsL l k ++ [bitR l k] = bitsL l (k + 1) := by simp [bitsL, List.range_succ]
theorem row_bit (W : World) (g : Nat) (z : Int) (hz : z = 0 ∨ z = 1) (h : W.heap[g]? = some (.cells #[.bool (decide (z = 1))] 4 (0, 0))) : Row W (some ⟨g, 0, none⟩) .bool [z] := by
  refine ⟨fun i hi => ⟨g, 0, rfl, ?_⟩, fun x hx => ?_⟩
  · have : i = 0 := by simp at hi; exact hi
    subst this
    rw [cell_of_row W g _ _ _ _ h]
    rcases hz with rfl | rfl <;> rfl
  · rw [List.mem_singleton.1 hx]
    exact hz
set_option maxHeartbeats 8000000 in
theorem rallB_any (l : List Int) (m : Nat) (va : Option Addr) (c : Nat) (w : World) (hl0 : Row w va .u8 l) (hlow0 : ∀ b o, va = some ⟨b, o, none⟩ → b < w.heap.size) (hm : l.length = m) (hmn : m < 4294967296) :
    Calls Tryd.prog 123 #[.slice va m c] w fun e w' => (∃ va' c', e = .returned (.slice va' (8 * m) c') ∧ OwnO w.heap.size (.slice va' (8 * m) c') (bitsL l (8 * m)) w') ∧ Below w.heap.size w w' := by
  have hl := Lib.hid hl0
  have hlow := Lib.hid hlow0
  clear hl0 hlow0
  have hmI : (m : Int) < 4294967296 := by omega
  go_enter Tryd.func123, Tryd.ntmps123
  go_wp2
  go_loopw [3, 4] (fun v i wr => ∃ k : Nat, k ≤ 8 * m ∧ i = .int .i64 (k : Int) ∧ (∃ va c', v = .slice va k c') ∧ OwnO w.heap.size v (bitsL l k) wr ∧ Below w.heap.size w wr) (fun _ i _ => 8 * m - (intOf i).toNat)
  case atStart => exact ⟨0, by omega, rfl, ⟨_, _, rfl⟩, ⟨rfl, Or.inl ⟨rfl, rfl⟩⟩, Below.refl _ _⟩
  case round =>
    obtain ⟨k, hk, rfl, ⟨vx, cx, rfl⟩, hO1, hB1⟩ := hrel
    have hO := Lib.hid hO1
    have hB := Lib.hid hB1
    clear hO1 hB1
    by_cases hlt : k < 8 * m
    · have lk : decide ((k : Int) < 8 * (m : Int)) = true := by simp; omega
      obtain ⟨q, hq⟩ : ∃ q, q = k / 8 := ⟨_, rfl⟩
      obtain ⟨r, hr⟩ : ∃ r, r = k % 8 := ⟨_, rfl⟩
      have hqm : q < m := by omega
      obtain ⟨b, o, e0, hcell0⟩ := hl.out.cell q (by omega)
      subst e0
      have hcy0 := (hB.out.cell (p := ⟨b, o + q, none⟩) (hlow.out b o rfl)).trans hcell0
      have hy : CK.ok .u8 (l.getD q 0) := hl.out.ok _ (by
        rw [show l.getD q 0 = l[q]'(by omega) by simp [List.getD, show q < l.length by omega]]
        exact List.getElem_mem _)
      have hz : bitR l k = bitV (l.getD q 0) r := by unfold bitR; rw [hq, hr]
      have hsn := bitsL_snoc l k
      rw [hz] at hsn
      obtain ⟨y, hyd⟩ : ∃ y, y = l.getD q 0 := ⟨_, rfl⟩
      rw [← hyd] at hcy0 hy hsn
      have hcy := Lib.hid (show wr.cell? ⟨b, o + q, none⟩ = some (.int .u8 y) from hcy0)
      obtain ⟨hy0, hy1⟩ := hy
      have hz2 := bitV_two y r
      obtain ⟨z, hzd⟩ : ∃ z, z = bitV y r := ⟨_, rfl⟩
      have hb6 : (k : Int) % 8 = (r : Int) := by omega
      have hbq : (k : Int) / 8 = (q : Int) := by omega
      have hand : bits BinOp.and IntKind.u8 (y / 2 ^ r) 1 = z := by
        obtain ⟨g0, g1⟩ := div_byte (y := y) hy0 (by omega) r
        rw [and1 _ g0 g1, hzd]
        rfl
      have hdz : (bits BinOp.and IntKind.u8 (y / 2 ^ r) 1 == 1) = decide (z = 1) := by rw [hand]; rfl
      rw [← hzd] at hsn hz2
      have hsn' := Lib.hid hsn
      have hz2' := Lib.hid hz2
      have h8 : r < 8 := by omega
      clear hand hcell0 hcy0 hz hq hr hyd hzd hy0 hy1 hsn hz2
      rcases eight h8 with rfl | rfl | rfl | rfl | rfl | rfl | rfl | rfl
      all_goals clear h8
      all_goals simp only [Int.pow_zero, Int.ediv_one, Int.reducePow, Int.cast_ofNat_Int] at hdz hb6
      all_goals go_wp2_with (first
          | ((with_reducible refine at_iaddr 34 ?_); go_loud (refine wpList_value (by rfl) _ (run_index_slice _ 34 5 _ _ rfl Tryd.underlying34 1 sz_u8 b o m c rfl .i64 q rfl hqm (o + q) (by omega)) ?_))
          | ((with_reducible refine at_load 5 ?_); go_loud (refine wpList_value (by rfl) _ (run_load_cell _ 5 _ (by rfl) ⟨b, o + q, none⟩ rfl _ hcy.out _ Tryd.underlying5 rfl) ?_))
          | ((with_reducible refine at_call_builtin .append ?_); go_loud (refine wpList_plain rfl fun K hK => wp_appO (w0 := w) (.tmp 12) (.tmp 24) rfl w.heap.size (bitsL l k) [z] (.slice vx k cx) rfl (hO.out.later ((Below.refl _ _).alloc (Nat.le_refl _) _)) (some ⟨wr.heap.size, 0, none⟩) 1 1 rfl rfl (row_bit _ _ z hz2'.out (heap_new _ _ _ _ rfl)) (by rw [bitsL_length]; simp; omega) (by rw [World.size_alloc]; have := hB.out.size; omega) (fun h => by cases h) (hB.out.alloc hB.out.size _) (fun v2 W2 h2 b2 s2 => hK _ _ ?_)); clear hK K
             rw [hsn'.out] at h2
             obtain ⟨vb, cb, ev, _⟩ := own_form h2
             rw [bitsL_length] at ev
             subst ev
             have hO2 := Lib.hid h2
             have hB2 := Lib.hid b2
             clear h2 b2 s2))
      all_goals first
        | exact ⟨⟨k + 1, by omega, by go_num, ⟨_, _, rfl⟩, hO2.out, hB2.out⟩, by simp [intOf]; omega⟩
        | (refine ⟨?_, by simp [intOf]; omega⟩
           (repeat apply Exists.intro)
           exact ⟨⟨k + 1, by omega, by go_num, ⟨_, _, rfl⟩, hO2.out, hB2.out⟩, rfl⟩)
    · have e : k = 8 * m := by omega
      subst e
      have lk : decide (((8 * m : Nat) : Int) < 8 * (m : Int)) = false := by simp
      clear hlt hk
      go_wp2
      exact ret_t1 rfl _ rfl rfl ⟨⟨vx, cx, rfl, hO.out⟩, hB.out⟩
end Go.Proofs.YtihelknkcomjpaaDoor
namespace Go.Proofs.YtihelknkcomjpaaDoor
open Go.RowKit BigFrame
set_option maxRecDepth 100000
theorem lastB_ok {l : List Int} (hok : ∀ x ∈ l, CK.ok .u8 x) (h0 : l.length ≠ 0) : 0 ≤ lastB l ∧ lastB l ≤ 255 := by
  have h : CK.ok .u8 (lastB l) := hok _ (by
    unfold lastB
    rw [show l.getD (l.length - 1) 0 = l[l.length - 1]'(by omega) by simp [List.getD, show l.length - 1 < l.length by omega]]
    exact List.getElem_mem _)
  obtain ⟨h1, h2⟩ := h
  exact ⟨h1, by omega⟩
theorem lenR_lt {l : List Int} (hok : ∀ x ∈ l, CK.ok .u8 x) (h0 : l.length ≠ 0) (h1 : lastB l ≠ 0) : lenR l < 8 * l.length ∧ 8 * (l.length - 1) ≤ lenR l := by
  obtain ⟨a, b⟩ := lastB_ok hok h0
  obtain ⟨q1, q2, _⟩ := bitLen_byte (lastB l) a b
  have := (q2 h1).1
  unfold lenR
  omega
theorem bit_top {l : List Int} (hok : ∀ x ∈ l, CK.ok .u8 x) (h0 : l.length ≠ 0) (h1 : lastB l ≠ 0) : bitR l (lenR l) = 1 := by
  obtain ⟨a, b⟩ := lastB_ok hok h0
  obtain ⟨q1, q2, _⟩ := bitLen_byte (lastB l) a b
  obtain ⟨q4, q5⟩ := q2 h1
  have e : lenR l / 8 = l.length - 1 ∧ lenR l % 8 = Lib.bitLen (lastB l).toNat - 1 := by unfold lenR; omega
  unfold bitR
  rw [e.1, e.2]
  exact q5
theorem bit_past {l : List Int} (hok : ∀ x ∈ l, CK.ok .u8 x) (h0 : l.length ≠ 0) (h1 : lastB l ≠ 0) {i : Nat} (hi : lenR l < i) (hi2 : i < 8 * l.length) : bitR l i = 0 := by
  obtain ⟨a, b⟩ := lastB_ok hok h0
  obtain ⟨q1, q2, q3⟩ := bitLen_byte (lastB l) a b
  obtain ⟨q4, _⟩ := q2 h1
  have e : i / 8 = l.length - 1 ∧ Lib.bitLen (lastB l).toNat ≤ i % 8 := by unfold lenR at hi; omega
  unfold bitR
  rw [e.1]
  exact q3 (i % 8) (by omega) e.2
theorem bits_row_part {W : World} {l : List Int} {N n : Nat} {va : Option Addr} (h : Row W va .bool (bitsL l N)) (hn : n ≤ N) : Row W va .bool (bitsL l n) := by
  refine ⟨fun i hi => ?_, bitsL_ok l n⟩
  rw [bitsL_length] at hi
  obtain ⟨b, o, e, hc⟩ := h.cell i (by rw [bitsL_length]; omega)
  rw [bitsL_get l N i (by omega)] at hc
  exact ⟨b, o, e, by rw [bitsL_get l n i hi]; exact hc⟩
set_option maxHeartbeats 8000000 in
theorem rreadListB_any (l : List Int) (m : Nat) (va : Option Addr) (c : Nat) (w : World) (hl0 : Row w va .u8 l) (hlow0 : ∀ b o, va = some ⟨b, o, none⟩ → b < w.heap.size) (hm : l.length = m) (hmn : m < 4294967296) :
    Calls Tryd.prog 87 #[.slice va m c, .int .i64 64] w fun e w' => (∃ s, e = .returned (.tuple #[s, .int .i64 (errR l : Int)]) ∧ BoOwn (bitsR l) s w.heap.size w') ∧ Below w.heap.size w w' := by
  have key : errR l ≠ 0 → ∀ e' : Ending, e' = .returned (.tuple #[.slice none 0 0, .int .i64 (errR l : Int)]) → ∀ w', ∃ s, e' = .returned (.tuple #[s, .int .i64 (errR l : Int)]) ∧ BoOwn (bitsR l) s w.heap.size w' := fun hn e' he w' => ⟨_, he, by unfold bitsR; rw [if_neg hn]; exact BoOwn.nil _ _⟩
  by_cases h0 : m = 0
  · have he : errR l = 4 := by unfold errR; rw [if_pos (by omega)]
    have key' := Lib.hid (key (by omega))
    rw [he] at key' ⊢
    clear key hl0 hlow0
    subst h0
    go_enter Tryd.func87, Tryd.ntmps87
    go_wp2
    exact ret_t2 rfl _ _ rfl rfl rfl ⟨key'.out _ rfl _, Below.refl _ _⟩
  · have hall := Lib.hid (rallB_any l m va c w hl0 hlow0 hm hmn)
    obtain ⟨p, hp⟩ : ∃ p, p = m - 1 := ⟨_, rfl⟩
    obtain ⟨b, o, e0, hcell0⟩ := hl0.cell p (by omega)
    have hb := hlow0 b o e0
    have hlast : lastB l = l.getD p 0 := by unfold lastB; rw [hm, hp]
    have hok := hl0.ok
    have hcell := Lib.hid (show w.cell? ⟨b, o + p, none⟩ = some (.int .u8 (lastB l)) by rw [hlast]; exact hcell0)
    have hpm : p < m := by omega
    have hm1 : (m : Int) - 1 = (p : Int) := by omega
    have bm : decide ((m : Int) = 0) = false := by simp; omega
    have bm2 : ((m : Int) == 0) = false := by simp; omega
    have hmI : (m : Int) < 4294967296 := by omega
    by_cases cy : lastB l = 0
    · have he : errR l = 5 := by unfold errR; rw [if_neg (by omega), if_pos cy]
      have key' := Lib.hid (key (by omega))
      rw [he] at key' ⊢
      rw [cy] at hcell
      clear key hl0 hlow0 hlast hcell0 hp hok hall
      subst e0
      go_enter Tryd.func87, Tryd.ntmps87
      go_wp2_with (first
        | ((with_reducible refine at_iaddr 34 ?_); go_loud (refine wpList_value (by rfl) _ (run_index_sliceI _ 34 5 _ _ rfl Tryd.underlying34 1 sz_u8 b o m c rfl .i64 (p : Int) rfl p rfl hpm (o + p) (by omega)) ?_))
        | ((with_reducible refine at_load 5 ?_); go_loud (refine wpList_value (by rfl) _ (run_load_cell _ 5 _ (by rfl) ⟨b, o + p, none⟩ rfl _ hcell.out _ Tryd.underlying5 rfl) ?_)))
      exact ret_t2 rfl _ _ rfl rfl rfl ⟨key'.out _ rfl _, Below.refl _ _⟩
    · obtain ⟨t1, t2⟩ := lenR_lt hok (by omega) cy
      have t3 := bit_top hok (by omega) cy
      have t4 := Lib.hid (fun (i : Nat) (h1 : lenR l < i) (h2 : i < 8 * m) => bit_past hok (by omega) cy h1 (by rw [hm]; exact h2))
      obtain ⟨y, hyd⟩ : ∃ y, y = lastB l := ⟨_, rfl⟩
      rw [← hyd] at hcell
      have b1 : decide (y = 0) = false := decide_eq_false (by rw [hyd]; exact cy)
      have b2 : (y == 0) = false := by simpa [hyd] using cy
      have he : errR l = if 64 < lenR l then 6 else 0 := by unfold errR; rw [if_neg (by omega), if_neg cy]
      obtain ⟨n, hn⟩ : ∃ n, n = lenR l := ⟨_, rfl⟩
      have hbr : errR l = 0 → bitsR l = bitsL l n := fun h => by unfold bitsR; rw [if_pos h, hn]
      rw [← hn] at t1 t2 t3 t4 he
      rw [hm] at t1
      have t3' := Lib.hid t3
      have t1' : n + 1 ≤ 8 * m := by omega
      have hbr' := Lib.hid hbr
      have key' := Lib.hid key
      clear hl0 hlow0 hlast hcell0 hp hok hyd hn hbr key t3 cy
      subst e0
      go_enter Tryd.func87, Tryd.ntmps87
      go_wp2_with (first
        | ((with_reducible refine at_iaddr 34 ?_); go_loud (refine wpList_value (by rfl) _ (run_index_sliceI _ 34 5 _ _ rfl Tryd.underlying34 1 sz_u8 b o m c rfl .i64 (p : Int) rfl p rfl hpm (o + p) (by omega)) ?_))
        | ((with_reducible refine at_load 5 ?_); go_loud (refine wpList_value (by rfl) _ (run_load_cell _ 5 _ (by rfl) ⟨b, o + p, none⟩ rfl _ hcell.out _ Tryd.underlying5 rfl) ?_))
        | ((with_reducible refine hall.out.mono ?_)
           rintro e W ⟨⟨vx, cx, rfl, hO1⟩, hB1⟩
           obtain ⟨e1, e2, hR1, hlo⟩ := OwnO.row hO1 (bitsL_ok _ _)
           have hcap : 8 * m ≤ cx := by
             rcases hO1.2 with ⟨_, h0⟩ | ⟨g, cap, cur, h1, h2, h3, h4, _⟩
             · rw [bitsL_length] at h0; omega
             · injection h1 with _ _ e3; rw [bitsL_length] at h4; omega
           obtain ⟨g, o2, eg, _⟩ := hR1.cell 0 (by rw [bitsL_length]; omega)
           subst eg
           obtain ⟨rfl, hg1, hg2⟩ := hlo g o2 rfl
           have hR := Lib.hid hR1
           have hB := Lib.hid hB1
           clear hO1 hR1 hB1 hlo e1 e2))
      go_loopw [6] (fun v wr => ∃ j : Nat, n + 1 ≤ j ∧ j ≤ 8 * m ∧ v = .slice (some ⟨g, 0, none⟩) j cx ∧ wr = W) (fun v _ => match v with | .slice _ j _ => j | _ => 0)
      case atStart => exact ⟨8 * m, t1', Nat.le_refl _, rfl, rfl⟩
      case round =>
        obtain ⟨j, hj1, hj2, rfl, rfl⟩ := hrel
        obtain ⟨i, hi⟩ : ∃ i, i = j - 1 := ⟨_, rfl⟩
        have hij : i < j := by omega
        have hji : (j : Int) - 1 = (i : Int) := by omega
        have hjI : (j : Int) ≤ 34359738368 := by omega
        obtain ⟨_, _, eg2, hcb0⟩ := hR.out.cell i (by rw [bitsL_length]; omega)
        injection eg2 with eg3
        injection eg3 with eg4 eg5 _
        subst eg4
        subst eg5
        rw [bitsL_get l _ i (by omega)] at hcb0
        by_cases cj : j = n + 1
        · have ein : i = n := by omega
          subst ein
          rw [t3'.out] at hcb0
          have hcb := Lib.hid (show wr.cell? ⟨g, 0 + i, none⟩ = some (.bool true) from hcb0)
          clear hcb0 hi
          by_cases c64 : 64 < i
          · rw [if_pos c64] at he
            have b3 : decide ((64 : Int) < (i : Int)) = true := by simp; omega
            have key2 := Lib.hid (key'.out (by omega))
            have he' := Lib.hid he
            clear key' hbr' he
            go_wp2_with (first
              | ((with_reducible refine at_iaddr 74 ?_); go_loud (refine wpList_value (by rfl) _ (run_index_sliceI _ 74 4 _ _ rfl Tryd.underlying74 1 sz_bool g 0 j cx rfl .i64 (i : Int) rfl i rfl hij (0 + i) (by omega)) ?_))
              | ((with_reducible refine at_load 4 ?_); go_loud (refine wpList_value (by rfl) _ (run_load_cell _ 4 _ (by rfl) ⟨g, 0 + i, none⟩ rfl _ hcb.out _ Tryd.underlying4 rfl) ?_)))
            exact ret_t2 rfl _ _ rfl rfl rfl ⟨key2.out _ (by rw [he'.out]; rfl) _, hB.out⟩
          · rw [if_neg c64] at he
            have b3 : decide ((64 : Int) < (i : Int)) = false := by simp; omega
            have hbl := Lib.hid (hbr'.out he)
            have he' := Lib.hid he
            have hcap2 : i ≤ cx := by omega
            have hR2 := Lib.hid (bits_row_part hR.out (show i ≤ 8 * m by omega))
            clear key' hbr' he
            go_wp2_with (first
              | ((with_reducible refine at_iaddr 74 ?_); go_loud (refine wpList_value (by rfl) _ (run_index_sliceI _ 74 4 _ _ rfl Tryd.underlying74 1 sz_bool g 0 j cx rfl .i64 (i : Int) rfl i rfl hij (0 + i) (by omega)) ?_))
              | ((with_reducible refine at_load 4 ?_); go_loud (refine wpList_value (by rfl) _ (run_load_cell _ 4 _ (by rfl) ⟨g, 0 + i, none⟩ rfl _ hcb.out _ Tryd.underlying4 rfl) ?_))
              | ((with_reducible refine at_slice 74 ?_); refine wpList_value (by rfl) _ (run_slice_to _ 74 4 _ _ rfl Tryd.underlying74 1 sz_bool g 0 j cx i rfl rfl hcap2) ?_))
            exact ret_t2 rfl _ _ rfl rfl rfl ⟨⟨.slice (some ⟨g, 0, none⟩) i cx, by rw [he'.out]; rfl, by rw [hbl.out]; exact ⟨some ⟨g, 0, none⟩, cx, by rw [bitsL_length], fun e => (by cases e), hR2.out, fun b' o' e' => by cases e'; exact ⟨hg1, hg2⟩⟩⟩, hB.out⟩
        · rw [t4.out i (by omega) (by omega)] at hcb0
          have hcb := Lib.hid (show wr.cell? ⟨g, 0 + i, none⟩ = some (.bool false) from hcb0)
          have hni : n + 1 ≤ i := by omega
          have hi8 : i ≤ 8 * m := by omega
          have hcap2 : i ≤ cx := by omega
          clear hcb0 hi key' hbr' he
          go_wp2_with (first
            | ((with_reducible refine at_iaddr 74 ?_); go_loud (refine wpList_value (by rfl) _ (run_index_sliceI _ 74 4 _ _ rfl Tryd.underlying74 1 sz_bool g 0 j cx rfl .i64 (i : Int) rfl i rfl hij (0 + i) (by omega)) ?_))
            | ((with_reducible refine at_load 4 ?_); go_loud (refine wpList_value (by rfl) _ (run_load_cell _ 4 _ (by rfl) ⟨g, 0 + i, none⟩ rfl _ hcb.out _ Tryd.underlying4 rfl) ?_))
            | ((with_reducible refine at_slice 74 ?_); refine wpList_value (by rfl) _ (run_slice_to _ 74 4 _ _ rfl Tryd.underlying74 1 sz_bool g 0 j cx i rfl rfl hcap2) ?_))
          first
            | exact ⟨⟨i, hni, hi8, rfl, rfl⟩, hij⟩
            | exact ⟨⟨i, hni, hi8, rfl, trivial⟩, hij⟩
end Go.Proofs.YtihelknkcomjpaaDoor
namespace Go.Proofs.YtihelknkcomjpaaDoor
open Go.RowKit BigFrame
set_option maxRecDepth 100000
/-- The bytes of the first k bits, n of them. -/
def byB (l : List Int) (n k : Nat) : List Int := (List.range n).map (bitC l k)
theorem byB_length (l : List Int) (n k : Nat) : (byB l n k).length = n := by simp [byB]
theorem byB_ok (l : List Int) (n k : Nat) : ∀ x ∈ byB l n k, CK.ok .u8 x := fun x hx => by
  obtain ⟨j, _, rfl⟩ := List.mem_map.1 hx
  obtain ⟨a, b⟩ := bitC_byte l k j
  exact ⟨a, by omega⟩
theorem bitA_is (l : List Int) (n k : Nat) : bitA l n k = ((byB l n k).map (Value.int .u8)).toArray := by simp [bitA, fcells, byB, CK.mk, Function.comp_def]
theorem bitA_own {W : World} {l : List Int} {n k g base : Nat} (hg : base ≤ g) (hn : n ≤ 4294967296) (h : W.heap[g]? = some (.cells (bitA l n k) 5 (0, 0))) : OwnB base (.slice (some ⟨g, 0, none⟩) n n) (byB l n k) W := by
  rw [bitA_is] at h
  have := OwnB.new hg (byB l n k) (by rw [byB_length]; unfold maxLen; omega) h
  rw [byB_length] at this
  exact this
def vecB (l : List Int) : List Int := byB l ((l.length + 7) / 8) l.length
def listB (l : List Int) : List Int := byB (l ++ [1]) (l.length / 8 + 1) (l.length + 1)
theorem vecB_length (l : List Int) : (vecB l).length = (l.length + 7) / 8 := byB_length _ _ _
theorem listB_length (l : List Int) : (listB l).length = l.length / 8 + 1 := byB_length _ _ _
theorem vecB_ok (l : List Int) : ∀ x ∈ vecB l, CK.ok .u8 x := byB_ok _ _ _
theorem listB_ok (l : List Int) : ∀ x ∈ listB l, CK.ok .u8 x := byB_ok _ _ _
theorem vecB_own {W : World} {l : List Int} {g base m : Nat} (hm : l.length = m) (hg : base ≤ g) (hn : m < 4294967296) (h : W.heap[g]? = some (.cells (bitA l ((m + 7) / 8) m) 5 (0, 0))) : OwnB base (.slice (some ⟨g, 0, none⟩) ((m + 7) / 8) ((m + 7) / 8)) (vecB l) W := by
  unfold vecB
  rw [hm]
  exact bitA_own hg (by omega) h
theorem listB_own {W : World} {l : List Int} {g base m : Nat} (hm : l.length = m) (hg : base ≤ g) (hn : m < 4294967296) (h : W.heap[g]? = some (.cells (bitA (l ++ [1]) (m / 8 + 1) (m + 1)) 5 (0, 0))) : OwnB base (.slice (some ⟨g, 0, none⟩) (m / 8 + 1) (m / 8 + 1)) (listB l) W := by
  unfold listB
  rw [hm]
  exact bitA_own hg (by omega) h
/-- The root of packed bits. -/
def bitsT (l : List Int) : Nat → Int := fullT 0 (leaf (chunks (vecB l)))
theorem bitsT_is (l : List Int) : IsR (bitsT l) := fullT_is 0 (leaf_is (chunks_is (vecB_ok l)))
def bitsW (l : List Int) : Nat → Int := sha2 (bitsT l) (numR (l.length : Int))
theorem bitsW_is (l : List Int) : IsR (bitsW l) := sha2_is _ _
set_option maxHeartbeats 8000000 in
theorem wbits_long (m : Nat) (va : Option Addr) (c : Nat) (w : World) (hk : 64 < m) :
    Calls Tryd.prog 83 #[.slice va m c, .int .i64 64] w fun e w' => e = .returned (.tuple #[.agg (rootV zeroR), .int .i64 6]) ∧ Below w.heap.size w w' := by
  have t1 : decide ((64 : Int) < (m : Int)) = true := by simp; omega
  go_enter Tryd.func83, Tryd.ntmps83
  go_wp2_with (first
    | ((with_reducible refine at_alloc 23 ?_); refine wpList_plain rfl fun K hK => wp_alloc_row 23 rfl 4 rfl zr 32 info_zr (hK _ _ ?_); clear hK K)
    | ((with_reducible refine at_build 23 ?_); go_loud (refine wpList_value (by rfl) _ (run_build_root0 _ rfl) ?_))
    | ((with_reducible refine at_store 23 ?_); go_loud (refine wpList_store_row_gen (w0 := w) (n0 := w.heap.size) 23 _ _ rfl rfl w.heap.size rfl _ rfl (fcells_one _ _ _) (by rw [row_size row_root]; simp [fcells]) _ 23 (heap_new _ _ _ _ rfl) (by rw [zr_size]; simp [fcells]) (Nat.le_refl _) ((Below.refl _ w).alloc (Nat.le_refl _) _) (fun W9 hW9 hBW _ => ?_))))
  exact ret_mid_tmp rfl w.heap.size 0 (fcells 32 (fun _ => .u8) zeroR) _ rfl hW9 Tryd.underlying23 rfl (by rw [row_size row_root, fcells_length]) rfl ⟨rfl, hBW⟩
set_option maxHeartbeats 8000000 in
theorem wbits_any (l : List Int) (m : Nat) (va : Option Addr) (c : Nat) (w : World) (hl0 : Row w va .bool l) (hT0 : Tabs w) (hm : l.length = m) (hk : m ≤ 64) :
    Calls Tryd.prog 83 #[.slice va m c, .int .i64 64] w fun e w' => e = .returned (.tuple #[.agg (rootV (bitsW l)), .int .i64 0]) ∧ Below w.heap.size w w' := by
  have t1 : decide ((64 : Int) < (m : Int)) = false := by simp; omega
  have hb1 := (Below.refl w.heap.size w).alloc (Nat.le_refl _) (.cells zr 23)
  have hC0 := Lib.hid (heap_new w zr 23 w.heap.size rfl)
  have hz0 : w.heap.size + 1 = (w.alloc (.cells zr 23)).heap.size := by rw [World.size_alloc]
  have hT := Lib.hid (fun W (h : Below w.heap.size w W) => hT0.below hT0.size h)
  have hvec := Lib.hid (vectorB_any l m va c (w.alloc (.cells zr 23)) (hl0.later hb1) hm (by omega))
  have hb := Lib.hid hb1
  clear hl0 hT0 hb1
  obtain ⟨n0, hn0⟩ : ∃ n0, n0 = w.heap.size := ⟨_, rfl⟩
  rw [← hn0] at hC0 hz0 hT hb ⊢
  go_enter Tryd.func83, Tryd.ntmps83
  go_wp2_with (first
    | ((with_reducible refine at_alloc 23 ?_); refine wpList_plain rfl fun K hK => wp_alloc_row 23 rfl 4 rfl zr 32 info_zr (hK _ _ ?_); clear hK K
       rw [← hn0]
       clear hn0
       generalize w.alloc (.cells zr 23) = W0 at *)
    | ((with_reducible refine hvec.out.mono ?_)
       rintro e W1 ⟨rfl, hC1, hB1⟩
       have hO := vecB_own hm (Nat.le_refl _) (by omega) hC1
       obtain ⟨va1, c1, e1, hR1, hlo1⟩ := hO.row (vecB_ok l)
       have hlv : (vecB l).length = (m + 7) / 8 := by rw [vecB_length, hm]
       rw [hlv] at e1
       have hp1 := pack_any (vecB l) va1 c1 W1 hR1 hlo1 (by omega)
       obtain ⟨q, hq⟩ : ∃ q, q = (((m + 7) / 8 + 31) / 32) := ⟨_, rfl⟩
       have hcl : (chunks (vecB l)).length = q := by rw [chunks_length, hlv, hq]
       have hq1 : q ≤ 1 := by omega
       rw [hcl, hlv, ← e1] at hp1
       have hp := Lib.hid hp1
       have hcl' := Lib.hid hcl
       have hB2 := Lib.hid (hb.out.trans (hB1.mono (show n0 ≤ W0.heap.size by omega)))
       have hC2 := Lib.hid ((hB1.block n0 (by omega)).trans hC0.out)
       have hs2 := Lib.hid (show n0 ≤ W1.heap.size by have := hB1.size; omega)
       clear hp1 hB1 hC1 hO hR1 hlo1 e1 hvec hlv hcl hq)
    | ((with_reducible refine hp.out.mono ?_)
       rintro e W2 ⟨⟨va', c', rfl, hOr⟩, hB1⟩
       obtain ⟨hrow, hlow2, hcc⟩ := hOr.rowR hcl'.out (chunks_is (vecB_ok l))
       have hB3 := Lib.hid (hB2.out.trans (hB1.mono hs2.out))
       have hC3 := Lib.hid ((hB1.block n0 (block_lt hC2.out)).trans hC2.out)
       have hm0 := Lib.hid (show Calls Tryd.prog 107 #[.slice va' q c', .int .i64 1] W2 fun e w' => e = .returned (.tuple #[.agg (rootV (bitsT l)), .int .i64 0]) ∧ Below W2.heap.size W2 w' from mtree_any (chunks (vecB l)) q 1 0 va' c' W2 hcl'.out hq1 ⟨by decide, Or.inl rfl⟩ (by decide) hrow hlow2 hcc (hT.out _ hB3.out))
       clear hOr hB1 hrow hlow2 hcc hp hB2 hC2 hs2)
    | ((with_reducible refine hm0.out.mono ?_)
       rintro e W3 ⟨rfl, hB4⟩
       have hB5 := Lib.hid (hB3.out.trans (hB4.mono (Nat.le_of_lt (block_lt hC3.out))))
       have hC5 := Lib.hid ((hB4.block n0 (block_lt hC3.out)).trans hC3.out)
       clear hB4 hm0 hB3 hC3)
    | ((with_reducible refine at_alloc 23 ?_); go_loud (refine wpList_alloc_store rfl rfl 23 6 _ rfl rfl rfl (rootV (bitsT l)) rfl rfl (zeroOf Tryd.prog 23) (row_zero row_root).1 (row_zero row_root).2 (fcells_one _ _ _) ?_)
       have hr0 := Lib.hid (heap_new W3 (rootV (bitsT l)) 23 W3.heap.size rfl)
       have hB6 := Lib.hid (hB5.out.alloc (Nat.le_of_lt (block_lt hC5.out)) (.cells (rootV (bitsT l)) 23))
       have hC6 := Lib.hid ((((Below.refl W3.heap.size W3).alloc (Nat.le_refl _) (.cells (rootV (bitsT l)) 23)).block n0 (block_lt hC5.out)).trans hC5.out))
    | ((with_reducible refine at_load 23 ?_); refine wpList_value (by rfl) _ (run_load_box _ 23 _ (by rfl) _ rfl _ _ (0, 0) _ hr0.out Tryd.underlying23 rfl (by rw [row_size row_root]; simp [fcells])) ?_)
    | ((with_reducible refine (mmix_any (bitsT l) (m : Int) _ (bitsT_is l) (hT.out _ hB6.out)).mono ?_)
       rintro e W4 ⟨rfl, hB7⟩
       have hB8 := Lib.hid (hB6.out.trans (hB7.mono (Nat.le_of_lt (block_lt hC6.out))))
       have hC8 := Lib.hid ((hB7.block n0 (block_lt hC6.out)).trans hC6.out)
       clear hB7)
    | ((with_reducible refine at_store 23 ?_); go_loud (refine wpList_store_row_gen (w0 := w) (n0 := n0) 23 _ _ rfl rfl n0 rfl _ rfl (fcells_one _ _ _) (by rw [row_size row_root]; simp [fcells]) _ 23 hC8.out (by rw [zr_size]; simp [fcells]) (Nat.le_refl _) hB8.out (fun W9 hW9 hBW _ => ?_))))
  exact ret_mid_tmp rfl n0 0 (fcells 32 (fun _ => .u8) (bitsW l)) _ rfl (by unfold bitsW; rw [hm]; exact hW9) Tryd.underlying23 rfl (by rw [row_size row_root, fcells_length]) rfl ⟨rfl, hBW⟩
end Go.Proofs.YtihelknkcomjpaaDoor
