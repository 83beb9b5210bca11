/- pharosref03: sizesOK, Head, Lay, where each part has a size. -/
/- pharosref03: Cut, where each part has a size; Bool. -/
import Derived.Test.YtihelknkcomjpaaDoorJIn2
set_option linter.unusedVariables false
set_option linter.unusedSimpArgs false
set_option linter.unnecessarySimpa false
namespace Go.Proofs.YtihelknkcomjpaaDoor
open Go.RowKit BigFrame
set_option maxRecDepth 100000
section
variable {P : Program} {a : Act} {C : World → Prop} {K : Act → Prop} {d : Option Tmp} {ty : TypeId} {pos : String} {af : Array Edge} {g : Option (Nat × Bool)}
theorem quiet_at_load (t : TypeId) {x : Operand} (h : (⟨d, .load t x, ty, pos, af, g⟩ : Oper).quiet P a C K) : (⟨d, .load t x, ty, pos, af, g⟩ : Oper).quiet P a C K := h
theorem quiet_at_iaddr (t : TypeId) {x y : Operand} (h : (⟨d, .indexAddr t x y, ty, pos, af, g⟩ : Oper).quiet P a C K) : (⟨d, .indexAddr t x y, ty, pos, af, g⟩ : Oper).quiet P a C K := h
end
/-- Block g holds these whole numbers. -/
def IntsAt (g : Nat) (zs : List Nat) (w : World) : Prop := w.heap[g]? = some (.cells (zs.map fun z : Nat => Value.int .i64 (z : Int)).toArray 3 (0, 0))
theorem IntsAt.cell {g : Nat} {zs : List Nat} {w : World} (h : IntsAt g zs w) (i : Nat) (hi : i < zs.length) : w.cell? ⟨g, i, none⟩ = some (.int .i64 ((zs.getD i 0 : Nat) : Int)) := by
  rw [cell_of_row w g i _ _ _ h, List.getElem?_toArray, List.getElem?_map]
  simp [List.getD, hi]
theorem IntsAt.block {g : Nat} {zs : List Nat} {w w' : World} (h : IntsAt g zs w) (he : w'.heap[g]? = w.heap[g]?) : IntsAt g zs w' := he.trans h
theorem IntsAt.later {g n : Nat} {zs : List Nat} {w w' : World} (h : IntsAt g zs w) (hb : Below n w w') (hg : g < n) : IntsAt g zs w' := h.block (hb.block g hg)
theorem sz_int : (Tryd.prog.info? 3).map (·.size) = some 1 := by kernel_rfl
set_option maxHeartbeats 4000000 in
theorem sizesOK_any (g : Nat) (zs : List Nat) (n c : Nat) (w : World) (h : IntsAt g zs w) (hn : zs.length = n) (h1 : 1 ≤ n) (h64 : n ≤ 64) (hz : ∀ z ∈ zs, z ≤ 65536) :
    Calls Tryd.prog 91 #[.slice (some ⟨g, 0, none⟩) n c] w fun e w' => e = .returned (.bool true) ∧ w = w' := by
  have hc := Lib.hid (fun i (hi : i < n) => h.cell i (by omega))
  have hz' := Lib.hid (fun i (hi : i < n) => show zs.getD i 0 ≤ 65536 from hz _ (by simp [List.getD, show i < zs.length by omega]))
  clear h hz hn
  have t1 : decide ((n : Int) < 1) = false := by simp; omega
  have t2 : decide ((64 : Int) < (n : Int)) = false := by simp; omega
  go_enter Tryd.func91, Tryd.ntmps91
  go_wp2
  go_loop [3] (fun i => ∃ k : Nat, k ≤ n ∧ i = .int .i64 (k : Int)) (fun i => n - (intOf i).toNat)
  case atStart => exact ⟨0, by omega, rfl⟩
  case round =>
    obtain ⟨k, hk, rfl⟩ := hrel
    by_cases hlt : k < n
    · have hc1 := Lib.hid (hc.out k hlt)
      have hz1 := hz'.out k hlt
      clear hc hz'
      generalize zs.getD k 0 = z at *
      have t3 : decide ((z : Int) < 0) = false := by simp
      have t4 : decide ((65536 : Int) < (z : Int)) = false := by simp; omega
      go_wp2_with (first
        | ((with_reducible refine at_iaddr 82 ?_); go_loud (refine wpList_value (by rfl) _ (run_index_slice _ 82 3 _ _ rfl Tryd.underlying82 1 sz_int g 0 n c rfl .i64 k rfl hlt k (by omega)) ?_))
        | ((with_reducible refine at_load 3 ?_); go_loud (refine wpList_value (by rfl) _ (run_load_cell _ 3 _ (by rfl) ⟨g, k, none⟩ (by rfl) (.int .i64 (z : Int)) hc1.out _ Tryd.underlying3 rfl) ?_)))
      go_round
      case rel => exact ⟨k + 1, by omega, by go_num⟩
      case measure => simp [intOf]; omega
    · have e : k = n := by omega
      subst e
      go_wp2
      exact ret_t1 rfl _ rfl rfl ⟨rfl, rfl⟩
/-- How many bytes the head has. -/
def headN : List Nat → Nat
  | [] => 0
  | z :: zs => (if z = 0 then 4 else z) + headN zs
theorem headN_le : ∀ {zs : List Nat}, (∀ z ∈ zs, z ≤ 65536) → headN zs ≤ zs.length * 65536
  | [], _ => by simp [headN]
  | z :: zs, h => by
    have h1 := h z (by simp)
    have h2 := headN_le (zs := zs) (fun y hy => h y (by simp [hy]))
    have h3 : (zs.length + 1) * 65536 = zs.length * 65536 + 65536 := by omega
    simp only [headN, List.length_cons]
    rw [h3]
    split <;> omega
theorem headN_append (a b : List Nat) : headN (a ++ b) = headN a + headN b := by
  induction a with
  | nil => simp [headN]
  | cons z a ih => simp only [List.cons_append, headN, ih]; omega
theorem headN_take (zs : List Nat) (k : Nat) (h : k < zs.length) : headN (zs.take (k + 1)) = headN (zs.take k) + (if zs.getD k 0 = 0 then 4 else zs.getD k 0) := by
  have e : zs.take (k + 1) = zs.take k ++ [zs.getD k 0] := by
    rw [List.take_add_one, List.getD, List.getElem?_eq_getElem h]
    rfl
  rw [e, headN_append]
  simp [headN]
theorem headN_mono (zs : List Nat) (k : Nat) : headN (zs.take k) ≤ headN zs := by
  have e := headN_append (zs.take k) (zs.drop k)
  rw [List.take_append_drop] at e
  omega
set_option maxHeartbeats 4000000 in
theorem head_any (g : Nat) (zs : List Nat) (n c : Nat) (w : World) (h : IntsAt g zs w) (hn : zs.length = n) (h64 : n ≤ 64) (hz : ∀ z ∈ zs, z ≤ 65536) :
    Calls Tryd.prog 92 #[.slice (some ⟨g, 0, none⟩) n c] w fun e w' => e = .returned (.int .i64 (headN zs : Nat)) ∧ w = w' := by
  have hc := Lib.hid (fun i (hi : i < n) => h.cell i (by omega))
  have hle := headN_le hz
  have hmo := Lib.hid (headN_mono zs)
  have hta := Lib.hid (fun k (hk : k < n) => headN_take zs k (by omega))
  have hall : headN (zs.take n) = headN zs := by rw [← hn, List.take_length]
  have hall' := Lib.hid hall
  have hz' := Lib.hid (fun i (hi : i < n) => show zs.getD i 0 ≤ 65536 from hz _ (by simp [List.getD, show i < zs.length by omega]))
  rw [hn] at hle
  clear h hz hn hall
  generalize hH : headN zs = H at *
  clear hH
  go_enter Tryd.func92, Tryd.ntmps92
  go_wp2
  go_loop [3, 4] (fun v i => ∃ k : Nat, k ≤ n ∧ i = .int .i64 (k : Int) ∧ v = .int .i64 ((headN (zs.take k) : Nat) : Int)) (fun _ i => n - (intOf i).toNat)
  case atStart => exact ⟨0, by omega, rfl, rfl⟩
  case round =>
    obtain ⟨k, hk, rfl, rfl⟩ := hrel
    have hm := hmo.out k
    by_cases hlt : k < n
    · have hc1 := Lib.hid (hc.out k hlt)
      have hz1 := hz'.out k hlt
      have ht := hta.out k hlt
      have hm2 := hmo.out (k + 1)
      clear hc hz' hmo hta
      generalize zs.getD k 0 = z at *
      generalize headN (zs.take k) = s at *
      generalize hs2 : headN (zs.take (k + 1)) = s2 at *
      by_cases h0 : z = 0
      · subst h0
        rw [if_pos rfl] at ht
        have ht' := Lib.hid ht
        have hw1 : IntKind.i64.wrap ((s : Int) + 4) = (s2 : Int) := by rw [IntKind.wrap_i64]; omega
        have hw2 : IntKind.i64.wrap (s2 : Int) = (s2 : Int) := by rw [IntKind.wrap_i64]; omega
        clear ht
        go_wp2_with (first
          | ((with_reducible refine at_iaddr 82 ?_); go_loud (refine wpList_value (by rfl) _ (run_index_slice _ 82 3 _ _ rfl Tryd.underlying82 1 sz_int g 0 n c rfl .i64 k rfl hlt k (by omega)) ?_))
          | ((with_reducible refine at_load 3 ?_); go_loud (refine wpList_value (by rfl) _ (run_load_cell _ 3 _ (by rfl) ⟨g, k, none⟩ (by rfl) (.int .i64 0) hc1.out _ Tryd.underlying3 rfl) ?_)))
        go_round
        case rel => exact ⟨k + 1, by omega, by go_num, by rw [hs2]⟩
        case measure => simp [intOf]; omega
      · rw [if_neg h0] at ht
        have t0 : ((z : Int) == 0) = false := by simp [h0]
        have ht' := Lib.hid ht
        have hw1 : IntKind.i64.wrap ((s : Int) + (z : Int)) = (s2 : Int) := by rw [IntKind.wrap_i64]; omega
        clear ht
        go_wp2_with (first
          | ((with_reducible refine at_iaddr 82 ?_); go_loud (refine wpList_value (by rfl) _ (run_index_slice _ 82 3 _ _ rfl Tryd.underlying82 1 sz_int g 0 n c rfl .i64 k rfl hlt k (by omega)) ?_))
          | ((with_reducible refine at_load 3 ?_); go_loud (refine wpList_value (by rfl) _ (run_load_cell _ 3 _ (by rfl) ⟨g, k, none⟩ (by rfl) (.int .i64 (z : Int)) hc1.out _ Tryd.underlying3 rfl) ?_)))
        go_round
        case rel => exact ⟨k + 1, by omega, by go_num, by rw [hs2]⟩
        case measure => simp [intOf]; omega
    · have e : k = n := by omega
      subst e
      have ha := hall'.out
      rw [ha]
      go_wp2
      exact ret_t1 rfl _ rfl rfl ⟨rfl, rfl⟩
/-- Block g holds slices of these bytes. -/
def PartsAt (g : Nat) (ps : List (List Int)) (w : World) : Prop :=
  ∃ vs : List Value, w.heap[g]? = some (.cells vs.toArray 34 (0, 0)) ∧ vs.length = ps.length ∧ ∀ i, i < ps.length → ∃ va c, vs[i]? = some (.slice va (ps.getD i []).length c) ∧ Row w va .u8 (ps.getD i []) ∧ (va = none → c = 0) ∧ ∀ b o, va = some ⟨b, o, none⟩ → b < w.heap.size
theorem PartsAt.cell {g : Nat} {ps : List (List Int)} {w : World} (h : PartsAt g ps w) (i : Nat) (hi : i < ps.length) : ∃ va c, w.cell? ⟨g, i, none⟩ = some (.slice va (ps.getD i []).length c) ∧ Row w va .u8 (ps.getD i []) ∧ (va = none → c = 0) ∧ ∀ b o, va = some ⟨b, o, none⟩ → b < w.heap.size := by
  obtain ⟨vs, h1, h2, h3⟩ := h
  obtain ⟨va, c, h4, h5⟩ := h3 i hi
  exact ⟨va, c, by rw [cell_of_row w g i _ _ _ h1, List.getElem?_toArray]; exact h4, h5⟩
theorem flat_take (ps : List (List Int)) (k : Nat) (h : k < ps.length) : (ps.take (k + 1)).flatten = (ps.take k).flatten ++ ps.getD k [] := by
  have e : ps.take (k + 1) = ps.take k ++ [ps.getD k []] := by
    rw [List.take_add_one, List.getD, List.getElem?_eq_getElem h]
    rfl
  rw [e]
  simp
theorem flat_le (ps : List (List Int)) (k : Nat) : (ps.take k).flatten.length ≤ ps.flatten.length := by
  have e : ps.flatten = (ps.take k).flatten ++ (ps.drop k).flatten := by rw [← List.flatten_append, List.take_append_drop]
  rw [e, List.length_append]
  omega
set_option maxHeartbeats 8000000 in
theorem lay_any (gp gs : Nat) (ps : List (List Int)) (zs : List Nat) (n cp cs : Nat) (w : World) (hP : PartsAt gp ps w) (hZ : IntsAt gs zs w) (hp : ps.length = n) (hn : zs.length = n) (h1 : 1 ≤ n) (h64 : n ≤ 64) (hz : ∀ z ∈ zs, z ≤ 65536) (hfit : ∀ i, i < n → zs.getD i 0 ≠ 0 ∧ (ps.getD i []).length = zs.getD i 0) (hlen : ps.flatten.length ≤ 1099511627776) (hok : ∀ p ∈ ps, ∀ m ∈ p, CK.ok .u8 m) :
    Calls Tryd.prog 46 #[.slice (some ⟨gp, 0, none⟩) n cp, .slice (some ⟨gs, 0, none⟩) n cs] w fun e w' => (∃ va c, e = .returned (.tuple #[.slice va ps.flatten.length c, .int .i64 0]) ∧ (va = none → c = 0) ∧ OwnB w.heap.size (.slice va ps.flatten.length c) ps.flatten w') ∧ Below w.heap.size w w' := by
  have hS := Lib.hid (sizesOK_any gs zs n cs w hZ hn h1 h64 hz)
  have hH := Lib.hid (head_any gs zs n cs w hZ hn h64 hz)
  have hcs := Lib.hid (fun i (hi : i < n) => hZ.cell i (by omega))
  have hcp := Lib.hid (fun i (hi : i < n) => hP.cell i (by omega))
  have hgs : gs < w.heap.size := block_lt hZ
  have hgp : gp < w.heap.size := by obtain ⟨_, h, _⟩ := hP; exact block_lt h
  have hfit' := Lib.hid hfit
  have hfl := Lib.hid (fun k (hk : k < n) => flat_take ps k (by omega))
  have hle := Lib.hid (flat_le ps)
  have hall := Lib.hid (show (ps.take n).flatten = ps.flatten by rw [← hp, List.take_length])
  clear hP hZ hp hn hz hfit hok
  generalize ps.flatten = q0 at *
  go_enter Tryd.func46, Tryd.ntmps46
  go_wp2_with (first
    | ((with_reducible refine hS.out.mono ?_)
       rintro e W ⟨rfl, rfl⟩
       clear hS)
    | ((with_reducible refine hH.out.mono ?_)
       rintro e W ⟨rfl, rfl⟩
       clear hH))
  go_loopw [6, 7, 9] (fun v r i wr => ∃ k : Nat, k ≤ n ∧ i = .int .i64 (k : Int) ∧ r = .slice none 0 0 ∧ (∃ va c, v = .slice va (ps.take k).flatten.length c) ∧ OwnB w.heap.size v (ps.take k).flatten wr ∧ Below w.heap.size w wr) (fun _ _ i _ => n - (intOf i).toNat)
  case atStart => exact ⟨0, by omega, rfl, rfl, ⟨none, 0, rfl⟩, OwnB.nil _ _, Below.refl _ _⟩
  case round =>
    obtain ⟨k, hk, rfl, rfl, ⟨va, c, rfl⟩, hO, hB⟩ := hrel
    have hlk := hle.out k
    by_cases hlt : k < n
    · obtain ⟨vp, cq, hc1, hr1, hv1, hb1⟩ := hcp.out k hlt
      have hc2 := hcs.out k hlt
      obtain ⟨hz0, hzl⟩ := hfit'.out k hlt
      have hft := Lib.hid (hfl.out k hlt)
      have hlk1 := hle.out (k + 1)
      rw [hft.out, List.length_append] at hlk1
      have hbs : w.heap.size ≤ wr.heap.size := hB.size
      have hcw1 := Lib.hid ((hB.cell (p := ⟨gp, k, none⟩) hgp).trans hc1)
      have hcw2 := Lib.hid ((hB.cell (p := ⟨gs, k, none⟩) hgs).trans hc2)
      have hrw := Lib.hid (hr1.later hB)
      have hv1' := Lib.hid hv1
      have hO' := Lib.hid hO
      clear hc1 hc2 hr1 hv1 hO hcp hcs hfl hle hfit'
      generalize zs.getD k 0 = z at *
      generalize ps.getD k [] = p at *
      have hft2 := Lib.hid (hft.out)
      clear hft
      generalize (ps.take k).flatten = q at *
      have t1 : ((z : Int) != 0) = true := by simp [hz0]
      have t2 : ((p.length : Int) != (z : Int)) = false := by simp [hzl]
      have hzl' := Lib.hid hzl
      clear hzl hz0
      go_wp2
      refine wp_region_quiet_lit (by kernel_rfl) (by kernel_rfl) ?_
      repeat (first
        | go_big_quiet_skip
        | (go_big_quiet_want; first | ((first
        | ((with_reducible refine quiet_at_iaddr 82 ?_); refine quiet_value _ (fun w' _ => run_index_slice w' 82 3 _ _ rfl Tryd.underlying82 1 sz_int gs 0 n cs rfl .i64 k rfl hlt k (by omega)) ?_)
        | ((with_reducible refine quiet_at_iaddr 96 ?_); refine quiet_value _ (fun w' _ => run_index_slice w' 96 34 _ _ rfl Tryd.underlying96 1 sz_bs gp 0 n cp rfl .i64 k rfl hlt k (by omega)) ?_)
        | ((with_reducible refine quiet_at_load 3 ?_); refine quiet_value _ (fun w' hw' => run_load_cell w' 3 _ rfl ⟨gs, k, none⟩ rfl (.int .i64 (z : Int)) (by obtain ⟨n, rfl⟩ := hw'; exact hcw2.out) _ Tryd.underlying3 rfl) ?_)
        | ((with_reducible refine quiet_at_load 34 ?_); refine quiet_value _ (fun w' hw' => run_load_cell w' 34 _ rfl ⟨gp, k, none⟩ rfl (.slice vp p.length cq) (by obtain ⟨n, rfl⟩ := hw'; exact hcw1.out) _ Tryd.underlying34 rfl) ?_)); (simp only [Act.put, List.setIfInBounds_toArray, List.set_cons_zero, List.set_cons_succ]); go_big_quiet_on) | (go_big_quiet_op; go_big_quiet_on)))
      refine wpQuiet_nil ?_
      intro _ hw'
      obtain ⟨nq, hw''⟩ := hw'
      subst hw''
      refine gen_q (fun W => W.cell? ⟨gs, k, none⟩ = some (.int .i64 (z : Int)) ∧ W.cell? ⟨gp, k, none⟩ = some (.slice vp p.length cq) ∧ Row W vp .u8 p ∧ OwnB w.heap.size (.slice va q.length c) q W ∧ Below w.heap.size w W) ⟨hcw2.out, hcw1.out, ⟨hrw.out.cell, hrw.out.ok⟩, hO'.out, ⟨hB.os, hB.tape, hB.output, hB.size, hB.block⟩⟩ ?_
      clear hcw1 hcw2 hrw hO' hB hbs
      rintro W ⟨hcw2, hcw1, hrw, hO', hB⟩
      have hcw1 := Lib.hid hcw1
      have hcw2 := Lib.hid hcw2
      have hrw := Lib.hid hrw
      have hO' := Lib.hid hO'
      go_wp2_with (first
        | ((with_reducible refine at_iaddr 82 ?_); go_loud (refine wpList_value (by rfl) _ (run_index_slice _ 82 3 _ _ rfl Tryd.underlying82 1 sz_int gs 0 n cs rfl .i64 k rfl hlt k (by omega)) ?_))
        | ((with_reducible refine at_iaddr 96 ?_); go_loud (refine wpList_value (by rfl) _ (run_index_slice _ 96 34 _ _ rfl Tryd.underlying96 1 sz_bs gp 0 n cp rfl .i64 k rfl hlt k (by omega)) ?_))
        | ((with_reducible refine at_load 3 ?_); go_loud (refine wpList_value (by rfl) _ (run_load_cell _ 3 _ (by rfl) ⟨gs, k, none⟩ (by rfl) (.int .i64 (z : Int)) hcw2.out _ Tryd.underlying3 rfl) ?_))
        | ((with_reducible refine at_load 34 ?_); go_loud (refine wpList_value (by rfl) _ (run_load_cell _ 34 _ (by rfl) ⟨gp, k, none⟩ (by rfl) (.slice vp p.length cq) hcw1.out _ Tryd.underlying34 rfl) ?_))
        | ((with_reducible refine at_call_builtin .append ?_); go_loud (refine wpList_app rfl (.tmp 50) (.tmp 54) rfl w.heap.size q p _ rfl hO'.out vp cq rfl hrw.out (by omega) hB.size hv1'.out hB (fun v1 W1 h1 b1 z1 => ?_))
           obtain ⟨va1, c1, e1, hx1⟩ := own_form h1
           clear hx1
           subst e1
           have h1' := Lib.hid h1
           have b1' := Lib.hid b1
           clear h1 b1))
      refine ⟨⟨k + 1, by omega, by go_num, rfl, ⟨_, _, by rw [hft2.out, List.length_append]⟩, by rw [hft2.out, ← List.length_append]; exact h1'.out, b1'.out⟩, by simp [intOf]; omega⟩
    · have e : k = n := by omega
      subst e
      have hq := hall.out
      rw [hq] at hlk hO ⊢
      have hO' := Lib.hid hO
      clear hO hlk
      go_wp2_with (
        ((with_reducible refine at_call_builtin .append ?_); go_loud (refine wpList_app rfl (.tmp 69) (.tmp 70) rfl w.heap.size q0 [] _ rfl hO'.out none 0 rfl ⟨fun i hi => absurd hi (by simp), by simp⟩ (by rw [List.length_nil]; omega) hB.size (fun _ => rfl) hB (fun v1 W1 h1 b1 z1 => ?_))
         rw [List.append_nil] at h1
         obtain ⟨va1, c1, e1, hx1⟩ := own_form h1
         subst e1
         have h1' := Lib.hid h1
         have b1' := Lib.hid b1
         have hx1' := Lib.hid hx1
         clear h1 b1 hx1))
      exact ret_t2 rfl _ _ rfl rfl rfl ⟨⟨va1, c1, rfl, hx1'.out, h1'.out⟩, b1'.out⟩
end Go.Proofs.YtihelknkcomjpaaDoor
namespace Go.Proofs.YtihelknkcomjpaaDoor
open Go.RowKit BigFrame
set_option maxRecDepth 100000
section
variable {P : Program} {ops : Array Oper} {Q : Exit → Act → World → Prop} {rest : List Oper} {a : Act} {w : World} {d : Option Tmp} {ty : TypeId} {pos : String} {af : Array Edge} {g : Option (Nat × Bool)}
theorem at_app (t : TypeId) {x y : Operand} (h : wpList P ops Q (⟨d, .call { callee := .builtin .append, args := #[x, y], argTypes := #[t, t] }, ty, pos, af, g⟩ :: rest) a w) : wpList P ops Q (⟨d, .call { callee := .builtin .append, args := #[x, y], argTypes := #[t, t] }, ty, pos, af, g⟩ :: rest) a w := h
theorem at_slice (t : TypeId) {x : Operand} {lo hi mx : Option Operand} (h : wpList P ops Q (⟨d, .slice t x lo hi mx, ty, pos, af, g⟩ :: rest) a w) : wpList P ops Q (⟨d, .slice t x lo hi mx, ty, pos, af, g⟩ :: rest) a w := h
end
theorem info_int : (Tryd.prog.info? 3).map (fun i => (i.zero, i.size, i.bytes)) = some (some (.int .i64 0), 1, 8) := by kernel_rfl
theorem info_bs : (Tryd.prog.info? 34).map (fun i => (i.zero, i.size, i.bytes)) = some (some (.slice none 0 0), 1, 24) := by kernel_rfl
theorem info_bs2 : (Tryd.prog.info? 34).map (fun i => (i.zero, i.size)) = some (some (.slice none 0 0), 1) := by kernel_rfl
theorem info_int2 : (Tryd.prog.info? 3).map (fun i => (i.zero, i.size)) = some (some (.int .i64 0), 1) := by kernel_rfl
set_option maxHeartbeats 4000000 in
theorem rises_nil (x y : Int) (w : World) : Calls Tryd.prog 98 #[.slice none 0 0, .int .i64 x, .int .i64 y] w fun e w' => e = .returned (.bool true) ∧ w = w' := by
  go_enter Tryd.func98, Tryd.ntmps98
  go_wp2
  refine wp_loop_once ?_
  go_wp2
  exact ret_t1 rfl _ rfl rfl ⟨rfl, rfl⟩
/-- Bytes cut into parts of these sizes. -/
def cutL : List Nat → List Int → List (List Int)
  | [], _ => []
  | z :: zs, l => l.take z :: cutL zs (l.drop z)
theorem cutL_length : ∀ (zs : List Nat) (l : List Int), (cutL zs l).length = zs.length
  | [], _ => rfl
  | z :: zs, l => by simp [cutL, cutL_length zs]
theorem cutL_get : ∀ (zs : List Nat) (l : List Int) (i : Nat), (∀ z ∈ zs, z ≠ 0) → i < zs.length → (cutL zs l).getD i [] = (l.drop (headN (zs.take i))).take (zs.getD i 0)
  | [], _, i, _, h => by simp at h
  | z :: zs, l, 0, _, _ => by simp [cutL, headN]
  | z :: zs, l, i + 1, hz, h => by
    have ih := cutL_get zs (l.drop z) i (fun y hy => hz y (by simp [hy])) (by simpa using h)
    have h0 : z ≠ 0 := hz z (by simp)
    simp only [cutL, List.getD_cons_succ, List.take_succ_cons, headN, if_neg h0]
    rw [ih, List.drop_drop]
/-- v is a slice of slices of these bytes. -/
def PartsV (base : Nat) (v : Value) (ps : List (List Int)) (W : World) : Prop :=
  ∃ g c, v = .slice (some ⟨g, 0, none⟩) ps.length c ∧ base ≤ g ∧ g < W.heap.size ∧ ∀ i, i < ps.length → ∃ va ci, W.cell? ⟨g, i, none⟩ = some (.slice va (ps.getD i []).length ci) ∧ Row W va .u8 (ps.getD i []) ∧ (va = none → ci = 0) ∧ (ps.getD i []).length ≤ ci ∧ ∀ b o, va = some ⟨b, o, none⟩ → base ≤ b ∧ b < W.heap.size
/-- The parts so far: out's own block holds k slices, each of bytes of its own. -/
def OutI (base k : Nat) (v : Value) (part : Nat → List Int) (W : World) : Prop :=
  ∃ vs : List Value, W.ownsRow base 34 1 v k vs ∧ vs.length = k ∧ ∀ i, i < k → ∃ b o ci, vs[i]? = some (.slice (some ⟨b, o, none⟩) (part i).length ci) ∧ Row W (some ⟨b, o, none⟩) .u8 (part i) ∧ (part i).length ≤ ci ∧ b < W.heap.size ∧ v.ownBlock ≠ some b ∧ base ≤ b
theorem OutI.nil (base : Nat) (part : Nat → List Int) (W : World) : OutI base 0 (.slice none 0 0) part W := ⟨[], ⟨rfl, Or.inl ⟨rfl, rfl⟩⟩, rfl, fun i hi => absurd hi (by omega)⟩
theorem OutI.later {base k : Nat} {v : Value} {part : Nat → List Int} {W W' : World} (h : OutI base k v part W) (hb : Below W.heap.size W W') : OutI base k v part W' := by
  obtain ⟨vs, h1, h2, h3⟩ := h
  refine ⟨vs, own_later h1 hb, h2, fun i hi => ?_⟩
  obtain ⟨b, o, ci, h4, h5, h6, h7, h8⟩ := h3 i hi
  exact ⟨b, o, ci, h4, h5.later hb, h6, Nat.lt_of_lt_of_le h7 hb.size, h8⟩
theorem OutI.form {base k : Nat} {v : Value} {part : Nat → List Int} {W : World} (h : OutI base k v part W) : ∃ va c, v = .slice va k c := by
  obtain ⟨vs, h1, _⟩ := h
  obtain ⟨va, c, e, _⟩ := own_form h1
  exact ⟨va, c, e⟩
theorem OutI.step {base k : Nat} {v v' : Value} {part : Nat → List Int} {W W' : World} {vs : List Value} (g2 : vs.length = k) (g3 : ∀ i, i < k → ∃ b o ci, vs[i]? = some (.slice (some ⟨b, o, none⟩) (part i).length ci) ∧ Row W (some ⟨b, o, none⟩) .u8 (part i) ∧ (part i).length ≤ ci ∧ b < W.heap.size ∧ v.ownBlock ≠ some b ∧ base ≤ b) {b c : Nat} (hbase : base ≤ b) (hr : Row W (some ⟨b, 0, none⟩) .u8 (part k)) (hc : (part k).length ≤ c) (hb : b < W.heap.size) (hvb : v.ownBlock ≠ some b)
    (h1 : W'.ownsRow base 34 1 v' (k + 1) (vs ++ [.slice (some ⟨b, 0, none⟩) (part k).length c])) (ho : ∀ j, j < W.heap.size → some j ≠ v.ownBlock → W'.heap[j]? = W.heap[j]?) (hq : v'.ownBlock = v.ownBlock ∨ v'.ownBlock = some W.heap.size) (hs : W.heap.size ≤ W'.heap.size) : OutI base (k + 1) v' part W' := by
  have hmove : ∀ b', b' < W.heap.size → v.ownBlock ≠ some b' → W'.heap[b']? = W.heap[b']? := fun b' h1 h2 => ho b' h1 (fun e => h2 e.symm)
  have hnew : ∀ b', b' < W.heap.size → v.ownBlock ≠ some b' → v'.ownBlock ≠ some b' := fun b' h1 h2 e => by
    rcases hq with hq | hq
    · exact h2 (hq ▸ e)
    · rw [hq] at e; cases e; omega
  have hrow : ∀ b' o' m, Row W (some ⟨b', o', none⟩) .u8 m → b' < W.heap.size → v.ownBlock ≠ some b' → Row W' (some ⟨b', o', none⟩) .u8 m := fun b' o' m hr h1 h2 => ⟨fun j hj => by
    obtain ⟨b2, o2, e, hc⟩ := hr.cell j hj
    cases e
    exact ⟨b', o', rfl, (World.cell?_of_block (w := W) (hmove b' h1 h2)).trans hc⟩, hr.ok⟩
  refine ⟨_, h1, by simp [g2], fun i hi => ?_⟩
  by_cases e : i = k
  · subst e
    exact ⟨b, 0, c, by rw [List.getElem?_append_right (by omega), g2]; simp, hrow b 0 _ hr hb hvb, hc, Nat.lt_of_lt_of_le hb hs, hnew b hb hvb, hbase⟩
  · obtain ⟨b', o', ci, h4, h5, h6, h7, h8, h9⟩ := g3 i (by omega)
    exact ⟨b', o', ci, by rw [List.getElem?_append_left (by omega)]; exact h4, hrow b' o' _ h5 h7 h8, h6, Nat.lt_of_lt_of_le h7 hs, hnew b' h7 h8, h9⟩
theorem OutI.parts {base k : Nat} {v : Value} {part : Nat → List Int} {W : World} (h : OutI base k v part W) (hk : 1 ≤ k) (ps : List (List Int)) (hp : ps.length = k) (he : ∀ i, i < k → ps.getD i [] = part i) : PartsV base v ps W := by
  obtain ⟨vs, h1, h2, h3⟩ := h
  rcases h1.2 with ⟨e1, e2⟩ | ⟨g, cap, cur, e1, e2, e3, e4, e5, e6, e7⟩
  · omega
  · subst hp
    refine ⟨g, cap, e1, e2, block_lt e3, fun i hi => ?_⟩
    obtain ⟨b, o, ci, h4, h5, h6, h7, h8, h9⟩ := h3 i hi
    refine ⟨some ⟨b, o, none⟩, ci, ?_⟩
    rw [he i hi]
    refine ⟨?_, h5, (fun e => by cases e), h6, fun b' o' e => by cases e; exact ⟨h9, h7⟩⟩
    rw [cell_of_row W g i _ _ _ e3, ← h4, ← e7, List.getElem?_take_of_lt (by omega)]
    simp
set_option maxHeartbeats 8000000 in
theorem cut_short (l : List Int) (va : Option Addr) (c : Nat) (gs : Nat) (zs : List Nat) (n cs : Nat) (w : World) (hZ : IntsAt gs zs w) (hn : zs.length = n) (h1 : 1 ≤ n) (h64 : n ≤ 64) (hz : ∀ z ∈ zs, z ≤ 65536) (hl : l.length < headN zs) :
    Calls Tryd.prog 53 #[.slice va l.length c, .slice (some ⟨gs, 0, none⟩) n cs] w fun e w' => e = .returned (.tuple #[.slice none 0 0, .int .i64 4]) ∧ w = w' := by
  have hS := Lib.hid (sizesOK_any gs zs n cs w hZ hn h1 h64 hz)
  have hH := Lib.hid (head_any gs zs n cs w hZ hn h64 hz)
  clear hZ hn hz
  generalize headN zs = H at *
  have t1 : decide ((l.length : Int) < (H : Int)) = true := by simp; omega
  go_enter Tryd.func53, Tryd.ntmps53
  go_wp2_with (first
    | ((with_reducible refine hS.out.mono ?_)
       rintro e W ⟨rfl, rfl⟩
       clear hS)
    | ((with_reducible refine hH.out.mono ?_)
       rintro e W ⟨rfl, rfl⟩
       clear hH))
  exact ret_t2 rfl _ _ rfl rfl rfl ⟨rfl, rfl⟩
theorem own_at1 {base : Nat} {v : Value} {l : List Int} {w : World} (h : OwnB base v l w) (hl : ∀ n ∈ l, CK.ok .u8 n) (h0 : 0 < l.length) : ∃ b c, v = .slice (some ⟨b, 0, none⟩) l.length c ∧ base ≤ b ∧ l.length ≤ c ∧ Row w (some ⟨b, 0, none⟩) .u8 l := by
  obtain ⟨va, c, e, hr, hc⟩ := h.row hl
  rcases h.2 with ⟨e1, e2⟩ | ⟨g, cap, cur, e1, e2, e3⟩
  · omega
  · have e4 := e.symm.trans e1
    injection e4 with e5 e6 e7
    subst e5
    exact ⟨g, c, e, e2, hc, hr⟩
theorem block_lt_own {base : Nat} {b n c : Nat} {l : List Int} {w : World} (h : OwnB base (.slice (some ⟨b, 0, none⟩) n c) l w) (h0 : 0 < l.length) : b < w.heap.size := by
  rcases h.2 with ⟨e1, e2⟩ | ⟨g, cap, cur, e1, e2, e3, _⟩
  · omega
  · injection e1 with e5 e6 e7
    cases e5
    exact block_lt e3
set_option maxHeartbeats 8000000 in
theorem cut_any (l : List Int) (va : Option Addr) (c : Nat) (gs : Nat) (zs : List Nat) (n cs : Nat) (w : World) (hl0 : Row w va .u8 l) (hlow0 : ∀ b o, va = some ⟨b, o, none⟩ → b < w.heap.size) (hc : l.length ≤ c) (hZ : IntsAt gs zs w) (hn : zs.length = n) (h1 : 1 ≤ n) (h64 : n ≤ 64) (hz : ∀ z ∈ zs, z ≤ 65536) (hz0 : ∀ z ∈ zs, z ≠ 0) (hl : l.length = headN zs) :
    Calls Tryd.prog 53 #[.slice va l.length c, .slice (some ⟨gs, 0, none⟩) n cs] w fun e w' => (∃ v, e = .returned (.tuple #[v, .int .i64 0]) ∧ PartsV w.heap.size v (cutL zs l) w') ∧ Below w.heap.size w w' := by
  have hS := Lib.hid (sizesOK_any gs zs n cs w hZ hn h1 h64 hz)
  have hH := Lib.hid (head_any gs zs n cs w hZ hn h64 hz)
  have hcs := Lib.hid (fun i (hi : i < n) => hZ.cell i (by omega))
  have hgs : gs < w.heap.size := block_lt hZ
  have hz0' := Lib.hid (fun i (hi : i < n) => show zs.getD i 0 ≠ 0 from hz0 _ (by simp [List.getD, show i < zs.length by omega]))
  have hle := headN_le hz
  rw [hn] at hle
  have hmo := Lib.hid (headN_mono zs)
  have hta := Lib.hid (fun k (hk : k < n) => headN_take zs k (by omega))
  have hz1' := Lib.hid (fun i (hi : i < n) => show zs.getD i 0 ≤ 65536 from hz _ (by simp [List.getD, show i < zs.length by omega]))
  obtain ⟨part, hpart⟩ : ∃ part : Nat → List Int, ∀ i, i < n → part i = (l.drop (headN (zs.take i))).take (zs.getD i 0) := ⟨_, fun _ _ => rfl⟩
  have hcut := Lib.hid (fun i (hi : i < n) => (cutL_get zs l i hz0 (by omega)).trans (hpart i hi).symm)
  have hcl : (cutL zs l).length = n := by rw [cutL_length, hn]
  have hall : headN (zs.take n) = headN zs := by rw [← hn, List.take_length]
  rw [← hl] at hall hle
  have hmo2 : ∀ i, headN (zs.take i) ≤ l.length := fun i => hl ▸ headN_mono zs i
  have hHl := Lib.hid hl
  have hl' := Lib.hid hl0
  have hlow := Lib.hid hlow0
  clear hZ hn hz hz0 hl hl0 hlow0 hmo
  have hmo := Lib.hid hmo2
  have hpart' := Lib.hid hpart
  have hall' := Lib.hid hall
  rw [← hHl.out] at hH
  clear hmo2 hpart hall hHl
  generalize hL : l.length = L at *
  have hL' := Lib.hid hL
  generalize cutL zs l = ps at *
  have hcl' := Lib.hid hcl
  clear hL hcl
  have t1 : decide ((L : Int) < (L : Int)) = false := by simp
  have t2 : ((L : Int) != (L : Int)) = false := by simp
  go_enter Tryd.func53, Tryd.ntmps53
  go_wp2_with (first
    | ((with_reducible refine hS.out.mono ?_)
       rintro e W ⟨rfl, rfl⟩
       clear hS)
    | ((with_reducible refine hH.out.mono ?_)
       rintro e W ⟨rfl, rfl⟩
       clear hH))
  go_loopw [7, 8, 9] (fun x k i wr => ∃ j : Nat, j ≤ n ∧ i = .int .i64 (j : Int) ∧ k = .int .i64 ((headN (zs.take j) : Nat) : Int) ∧ x = .slice none 0 0 ∧ w = wr) (fun _ _ i _ => n - (intOf i).toNat)
  case atStart => exact ⟨0, by omega, rfl, rfl, rfl, rfl⟩
  case round =>
    obtain ⟨j, hj, rfl, rfl, rfl, rfl⟩ := hrel
    have hm := hmo.out j
    by_cases hlt : j < n
    · have hc1 := Lib.hid (hcs.out j hlt)
      have hz1 := hz0'.out j hlt
      have ht := hta.out j hlt
      have hm2 := hmo.out (j + 1)
      clear hcs hz0' hmo hta
      generalize zs.getD j 0 = z at *
      generalize headN (zs.take j) = s at *
      generalize hs2 : headN (zs.take (j + 1)) = s2 at *
      rw [if_neg hz1] at ht
      have t0 : ((z : Int) == 0) = false := by simp [hz1]
      have ht' := Lib.hid ht
      have hw1 : IntKind.i64.wrap ((s : Int) + (z : Int)) = (s2 : Int) := by rw [IntKind.wrap_i64]; omega
      clear ht
      go_wp2_with (first
        | ((with_reducible refine at_iaddr 82 ?_); go_loud (refine wpList_value (by rfl) _ (run_index_slice _ 82 3 _ _ rfl Tryd.underlying82 1 sz_int gs 0 n cs rfl .i64 j rfl hlt j (by omega)) ?_))
        | ((with_reducible refine at_load 3 ?_); go_loud (refine wpList_value (by rfl) _ (run_load_cell _ 3 _ (by rfl) ⟨gs, j, none⟩ (by rfl) (.int .i64 (z : Int)) hc1.out _ Tryd.underlying3 rfl) ?_)))
      exact ⟨⟨j + 1, by omega, by go_num, by rw [hs2], rfl, trivial⟩, by simp [intOf]; omega⟩
    · have e : j = n := by omega
      subst e
      clear hlt
      rw [hall'.out]
      clear hm
      have hi0 : (0 : Int) ≤ (L : Int) := by omega
      have hwn : w.ownsRow w.heap.size 3 1 (.slice none 0 0) 0 [] := ⟨rfl, Or.inl ⟨rfl, rfl⟩⟩
      have hwn' := Lib.hid hwn
      clear hwn
      go_wp2_with (first
        | ((with_reducible refine (rises_nil _ _ _).mono ?_)
           rintro e W ⟨rfl, rfl⟩)
        | ((with_reducible refine at_bslice 82 ?_); go_loud (refine wpList_plain rfl fun K hK => wp_ran _ (run_buildSlice _ 82 3 1 _ rfl Tryd.underlying82 (.int .i64 0) 1 info_int2 (by decide) (by decide) [.int .i64 (L : Int)] rfl rfl (by simp [Value.cells])) (hK _ _ ?_)); clear hK K)
        | ((with_reducible refine at_app 82 ?_); go_loud (refine wpList_plain rfl fun K hK => wp_appS (.tmp 65) (.tmp 68) 82 3 rfl Tryd.underlying82 (.int .i64 0) 1 8 info_int rfl (by decide) w.heap.size 0 _ [] rfl (own_later hwn'.out ((Below.refl _ _).alloc (Nat.le_refl _) _)) ⟨w.heap.size, 0, none⟩ 1 1 rfl [.int .i64 (L : Int)] rfl (range_whole (heap_new _ _ _ _ rfl)) rfl (by simp [Value.oneCell']) (by omega) (by omega) (by simp) (Nat.le_refl _) ((Below.refl _ _).alloc (Nat.le_refl _) _) (fun v1 W2 h1 b1 z1 o1 q1 => hK _ _ ?_)); clear hK K
           obtain ⟨va1, c1, e1, hva1⟩ := own_form h1
           clear hva1 o1 q1 h1
           subst e1))
      refine gen_world (fun W => Below w.heap.size w W) b1 ?_
      clear b1 z1 hwn'
      rintro W0 hB0
      have hB0' := Lib.hid hB0
      clear hB0
      go_loopw [8, 10, 11, 12] (fun k v x i wr => ∃ q : Nat, q ≤ j ∧ i = .int .i64 (q : Int) ∧ k = .int .i64 ((headN (zs.take q) : Nat) : Int) ∧ x = .int .i64 0 ∧ (∃ vo co, v = .slice vo q co) ∧ OutI w.heap.size q v part wr ∧ Below w.heap.size w wr) (fun _ _ _ i _ => j - (intOf i).toNat)
      case atStart => exact ⟨0, by omega, rfl, rfl, rfl, ⟨none, 0, rfl⟩, OutI.nil _ _ _, hB0'.out⟩
      case round =>
        obtain ⟨q, hq, rfl, rfl, rfl, ⟨vo, co, rfl⟩, hO, hB⟩ := hrel
        clear hB0'
        by_cases hlt : q < j
        · have hcz := Lib.hid (fun W (h : Below w.heap.size w W) => (h.cell (p := ⟨gs, q, none⟩) hgs).trans (hcs.out q hlt))
          have hz1 := hz0'.out q hlt
          have hz2 := hz1'.out q hlt
          have ht := hta.out q hlt
          have hm1 := hmo.out q
          have hm2 := hmo.out (q + 1)
          have hpq := hpart'.out q hlt
          clear hcs hz0' hta hpart' hz1'
          rw [if_neg hz1] at ht
          generalize zs.getD q 0 = z at *
          generalize headN (zs.take q) = s at *
          generalize hs2 : headN (zs.take (q + 1)) = s2 at *
          have t0 : ((z : Int) == 0) = false := by simp [hz1]
          have hs2' := Lib.hid hs2
          clear hs2
          have hsz : s + z ≤ L := by omega
          have hw1 : IntKind.i64.wrap ((s : Int) + (z : Int)) = ((s + z : Nat) : Int) := by rw [IntKind.wrap_i64]; omega
          have ht' := Lib.hid ht
          obtain ⟨bb, bo, rfl, _⟩ := hl'.out.cell 0 (by rw [hL'.out]; omega)
          have hbb := hlow.out bb bo rfl
          have hrow := Lib.hid (show Row wr (some ⟨bb, bo + s, none⟩) .u8 (part q) from by rw [hpq]; exact row_mid (hl'.out.later hB) s z (by rw [hL'.out]; exact hsz))
          have hpl : (part q).length = z := by rw [hpq, List.length_take, List.length_drop, hL'.out]; omega
          have hpl' := Lib.hid hpl
          clear hpl hpq ht
          obtain ⟨vs, hvs, g2, g3⟩ := hO
          have hvs' := Lib.hid hvs
          have g2' := Lib.hid g2
          have g3' := Lib.hid g3
          have hvl := hvs.lt
          have hbs : w.heap.size ≤ wr.heap.size := hB.size
          clear hvs g2 g3
          go_wp2_with (first
            | ((with_reducible refine at_iaddr 82 ?_); go_loud (refine wpList_value (by rfl) _ (run_index_slice _ 82 3 _ _ rfl Tryd.underlying82 1 sz_int gs 0 j cs rfl .i64 q rfl hlt q (by omega)) ?_))
            | ((with_reducible refine at_load 3 ?_); refine wpList_value (by rfl) _ (run_load_cell _ 3 _ (by rfl) ⟨gs, q, none⟩ (by rfl) (.int .i64 (z : Int)) (hcz.out _ ?_) _ Tryd.underlying3 rfl) ?_; (first | exact hB | exact hB.alloc hbs _ | exact b2'.out))
            | ((with_reducible refine at_bslice 34 ?_); go_loud (refine wpList_plain rfl fun K hK => wp_build0 rfl (hK _ _ ?_)); clear hK K)
            | ((with_reducible refine at_slice 34 ?_); go_loud (refine wpList_value (by rfl) _ (run_slice_mid (P := Tryd.prog) _ 34 5 (.tmp 103) (.tmp 104) (.tmp 110) rfl Tryd.underlying34 1 sz_u8 bb bo L c s z rfl rfl rfl (by omega) (by omega) (bo + s) (by omega)) ?_))
            | ((with_reducible refine at_app 34 ?_); go_loud (refine wpList_app (w0 := wr) rfl (.tmp 102) (.tmp 111) rfl wr.heap.size [] (part q) _ rfl (OwnB.new (Nat.le_refl _) [] (by decide) (heap_new _ _ _ _ rfl)) (some ⟨bb, bo + s, none⟩) (c - s) (by rw [hpl'.out]; rfl) (hrow.out.later ((Below.refl _ _).alloc (Nat.le_refl _) _)) (by rw [hpl'.out, List.length_nil]; omega) (by simp) (fun h => by cases h) ((Below.refl _ _).alloc (Nat.le_refl _) _) (fun v1 W1 h1 b1 z1 => ?_))
               rw [List.nil_append] at h1
               obtain ⟨pb, pc, e1, pge, plc, prow⟩ := own_at1 h1 hrow.out.ok (by rw [hpl'.out]; omega)
               rw [hpl'.out] at e1
               subst e1
               have b1' := Lib.hid b1
               have prow' := Lib.hid prow
               have hpbs := hvl
               have hpW := block_lt_own h1 (by rw [hpl'.out]; omega)
               clear h1 b1 prow)
            | ((with_reducible refine at_bslice 96 ?_); go_loud (refine wpList_plain rfl fun K hK => wp_ran _ (run_buildSlice _ 96 34 1 _ rfl Tryd.underlying96 (.slice none 0 0) 1 info_bs2 (by decide) (by decide) [.slice (some ⟨pb, 0, none⟩) z pc] rfl rfl (by simp [Value.cells])) (hK _ _ ?_)); clear hK K)
            | ((with_reducible refine at_app 96 ?_); go_loud (refine wpList_plain rfl fun K hK => wp_appS (.tmp 101) (.tmp 113) 96 34 rfl Tryd.underlying96 (.slice none 0 0) 1 24 info_bs rfl (by decide) w.heap.size q _ vs rfl (own_later (own_later hvs'.out b1'.out) ((Below.refl _ _).alloc (Nat.le_refl _) _)) ⟨W1.heap.size, 0, none⟩ 1 1 rfl [.slice (some ⟨pb, 0, none⟩) z pc] rfl (range_whole (heap_new _ _ _ _ rfl)) rfl (by simp [Value.oneCell']) (by omega) (by omega) (by have := b1'.out.size; simp; omega) (Nat.le_refl _) (Below.refl _ _) (fun v2 W2 h2 b2 z2 o2 q2 => hK _ _ ?_)); clear hK K
               obtain ⟨va2, c2, e2, hva2⟩ := own_form h2
               clear hva2
               subst e2
               have hst := Lib.hid (OutI.step (v' := .slice va2 (q + 1) c2) (base := w.heap.size) (W := W1.alloc (.cells #[.slice (some ⟨pb, 0, none⟩) z pc] 34)) g2'.out (fun i hi => by
                 obtain ⟨b', o', ci, k4, k5, k6, k7, k8, k9⟩ := g3'.out i hi
                 exact ⟨b', o', ci, k4, (k5.later b1'.out).later ((Below.refl _ _).alloc (Nat.le_refl _) _), k6, by rw [World.size_alloc]; have := b1'.out.size; omega, k8, k9⟩) (by omega) (prow'.out.later ((Below.refl _ _).alloc (Nat.le_refl _) _)) plc (by rw [World.size_alloc]; omega) (fun e => by have := (hvl _ e).2; omega) (by rw [hpl'.out]; exact h2) o2 q2 b2.size)
               have b2' := Lib.hid (((hB.trans (b1'.out.mono hbs)).alloc (by have := b1'.out.size; omega) _).trans b2)
               clear h2 b2 o2 q2))
          exact ⟨⟨q + 1, by omega, by go_num, by rw [hs2'.out, ht'.out, Int.natCast_add], rfl, ⟨_, _, rfl⟩, hst.out, b2'.out⟩, by simp [intOf]; omega⟩
        · have e : q = j := by omega
          subst e
          have hlt' : ¬ ((q : Int) < (q : Int)) := by omega
          have hO' := Lib.hid hO
          clear hO
          go_wp2
          exact ret_t2 rfl _ _ rfl rfl rfl ⟨⟨_, rfl, hO'.out.parts h1 ps hcl'.out hcut.out⟩, hB⟩
end Go.Proofs.YtihelknkcomjpaaDoor
