/- pharosref03: four; Lay, where parts may have no size of their own. -/
/- What the reference's encoders, hashers and readers of structs with lists keep while they go through the fields. -/
/- What the program's hashers of structs with lists keep while they go through the fields; Done of a Hash that has an error. -/
import Derived.Test.YtihelknkcomjpaaDoorJCut
import Derived.Test.YtihelknkcomjpaaDoorJRead
import Derived.Test.YtihelknkcomjpaaDoorJOg3
import Derived.Test.YtihelknkcomjpaaDoorJBoxR
set_option linter.unusedVariables false
set_option linter.unusedSimpArgs false
set_option linter.unnecessarySimpa false
namespace Go.Proofs.YtihelknkcomjpaaDoor
open Go.RowKit BigFrame
set_option maxRecDepth 100000
theorem info_u8z : (Tryd.prog.info? 5).map (fun i => (i.zero, i.size)) = some (some (.int .u8 0), 1) := by kernel_rfl
theorem run_bslice_u8s {ρ : Operand → Value} {o : Oper} (w : World) (parts : Array (Nat × Operand)) (ho : o.op = .buildSlice 34 4 parts) (a b c d : Int) (hp : (parts.toList.map fun p => (p.1, ρ p.2)) = [(0, .int .u8 a), (1, .int .u8 b), (2, .int .u8 c), (3, .int .u8 d)]) :
    (execOp ρ o).run Tryd.prog w = .ok (.value (.slice (some ⟨w.heap.size, 0, none⟩) 4 4)) (w.alloc (.cells #[.int .u8 a, .int .u8 b, .int .u8 c, .int .u8 d] 5)) :=
  run_buildSlice w 34 5 4 parts ho Tryd.underlying34 (.int .u8 0) 1 info_u8z (by decide) (by decide) [.int .u8 a, .int .u8 b, .int .u8 c, .int .u8 d] rfl hp (fun u hu => by
    simp only [List.mem_cons, List.not_mem_nil, or_false] at hu
    rcases hu with rfl | rfl | rfl | rfl <;> rfl)
theorem le4_cells (n : Int) : (#[.int .u8 (leB n 0), .int .u8 (leB n 1), .int .u8 (leB n 2), .int .u8 (leB n 3)] : Array Value) = ((le4 n).map (Value.int .u8)).toArray := rfl
set_option maxHeartbeats 4000000 in
theorem rfour_any (n : Int) (w : World) :
    Calls Tryd.prog 93 #[.int .i64 n] w fun e w' => e = .returned (.slice (some ⟨w.heap.size, 0, none⟩) 4 4) ∧ w' = w.alloc (.cells ((le4 n).map (Value.int .u8)).toArray 5) := by
  have h0 : IntKind.u8.wrap n = leB n 0 := by rw [IntKind.wrap_u8]; unfold leB; omega
  have h1 : IntKind.u8.wrap (n / 256) = leB n 1 := by rw [IntKind.wrap_u8]; rfl
  have h2 : IntKind.u8.wrap (n / 65536) = leB n 2 := by rw [IntKind.wrap_u8]; rfl
  have h3 : IntKind.u8.wrap (n / 16777216) = leB n 3 := by rw [IntKind.wrap_u8]; rfl
  rw [← le4_cells]
  generalize leB n 0 = a at *
  generalize leB n 1 = b at *
  generalize leB n 2 = c at *
  generalize leB n 3 = d at *
  go_enter Tryd.func93, Tryd.ntmps93
  go_wp2_with (
    ((with_reducible refine at_bslice 34 ?_); go_loud (refine wpList_plain rfl fun K hK => wp_ran _ (run_bslice_u8s _ _ (by rfl) a b c d (by rfl)) (hK _ _ ?_)); clear hK K))
  exact ret_t1 rfl _ rfl rfl ⟨rfl, rfl⟩
/-- The first k parts laid: the head so far, the rest so far. -/
def layK (H : Nat) (zs : List Nat) (ps : List (List Int)) : Nat → List Int × List Int
  | 0 => ([], [])
  | k + 1 => if zs.getD k 0 = 0 then ((layK H zs ps k).1 ++ le4 ((H + (layK H zs ps k).2.length : Nat) : Int), (layK H zs ps k).2 ++ ps.getD k []) else ((layK H zs ps k).1 ++ ps.getD k [], (layK H zs ps k).2)
def layN (H : Nat) (zs : List Nat) (ps : List (List Int)) (k : Nat) : Nat := (layK H zs ps k).1.length + (layK H zs ps k).2.length
theorem layN_step (H : Nat) (zs : List Nat) (ps : List (List Int)) (k : Nat) : layN H zs ps k ≤ layN H zs ps (k + 1) := by
  unfold layN
  simp only [layK]
  split
  · simp only [List.length_append]; omega
  · simp only [List.length_append]; omega
theorem layN_mono (H : Nat) (zs : List Nat) (ps : List (List Int)) (k n : Nat) (h : k ≤ n) : layN H zs ps k ≤ layN H zs ps n := by
  induction n with
  | zero => obtain rfl : k = 0 := by omega
            exact Nat.le_refl _
  | succ n ih =>
    by_cases e : k = n + 1
    · subst e; exact Nat.le_refl _
    · exact Nat.le_trans (ih (by omega)) (layN_step H zs ps n)
def layU (zs : List Nat) (ps : List (List Int)) : List Int := (layK (headN zs) zs ps zs.length).1 ++ (layK (headN zs) zs ps zs.length).2
def owU (v : Value) (l : List Int) : Ow := ⟨5, 1, v, l.length, l.map (Value.int .u8)⟩
theorem info_u8w : (Tryd.prog.info? 5).map (fun i => (i.zero, i.size, i.bytes)) = some (some (.int .u8 0), 1, 1) := by kernel_rfl
theorem u8_memw {l : List Int} : ∀ u ∈ l.map (Value.int .u8), u.oneCell' = true := fun u hu => by
  obtain ⟨n, _, rfl⟩ := List.mem_map.1 hu
  rfl
theorem OwL.appU0 {b c : Nat} {v r : Value} {va : Option Addr} {o p q : List Int} {W : World} (h : OwL b ([owU v o, owU r q].set 0 ⟨5, 1, .slice va (o.length + p.length) c, o.length + p.length, o.map (Value.int .u8) ++ p.map (Value.int .u8)⟩) W) : OwL b [owU (.slice va (o ++ p).length c) (o ++ p), owU r q] W := by
  have e : ([owU v o, owU r q].set 0 ⟨5, 1, .slice va (o.length + p.length) c, o.length + p.length, o.map (Value.int .u8) ++ p.map (Value.int .u8)⟩) = [owU (.slice va (o ++ p).length c) (o ++ p), owU r q] := by
    simp [owU]
  rw [e] at h
  exact h
theorem OwL.appU1 {b c : Nat} {v r : Value} {va : Option Addr} {o p q : List Int} {W : World} (h : OwL b ([owU v o, owU r q].set 1 ⟨5, 1, .slice va (q.length + p.length) c, q.length + p.length, q.map (Value.int .u8) ++ p.map (Value.int .u8)⟩) W) : OwL b [owU v o, owU (.slice va (q ++ p).length c) (q ++ p)] W := by
  have e : ([owU v o, owU r q].set 1 ⟨5, 1, .slice va (q.length + p.length) c, q.length + p.length, q.map (Value.int .u8) ++ p.map (Value.int .u8)⟩) = [owU v o, owU (.slice va (q ++ p).length c) (q ++ p)] := by
    simp [owU]
  rw [e] at h
  exact h
theorem OwL.nilU (b : Nat) (w : World) : OwL b [owU (.slice none 0 0) [], owU (.slice none 0 0) []] w := by
  have key : ∀ (i : Nat) (x : Ow), [owU (.slice none 0 0) [], owU (.slice none 0 0) []][i]? = some x → x = owU (.slice none 0 0) [] := fun i x hx => by
    match i, hx with
    | 0, hx => exact (Option.some.inj hx).symm
    | 1, hx => exact (Option.some.inj hx).symm
  refine ⟨fun i x hx => ?_, fun i j x y _ hx _ k hk => ?_⟩
  · rw [key i x hx]; exact ⟨rfl, Or.inl ⟨rfl, rfl⟩⟩
  · rw [key i x hx] at hk; cases hk
theorem row_none {w : World} {k : CK} {m : List Int} (h : Row w none k m) : m.length = 0 := by
  cases m with
  | nil => rfl
  | cons y ys => obtain ⟨b, o, e, _⟩ := h.cell 0 (by simp); cases e
set_option maxHeartbeats 16000000 in
theorem layu_any (gp gs : Nat) (ps : List (List Int)) (zs : List Nat) (n cp cs : Nat) (w : World) (hP : PartsAt gp ps w) (hZ : IntsAt gs zs w) (hp : ps.length = n) (hn : zs.length = n) (h1 : 1 ≤ n) (h64 : n ≤ 64) (hz : ∀ z ∈ zs, z ≤ 65536) (hfit : ∀ i, i < n → zs.getD i 0 ≠ 0 → (ps.getD i []).length = zs.getD i 0) (hlen : layN (headN zs) zs ps n ≤ 1099511627776) :
    Calls Tryd.prog 46 #[.slice (some ⟨gp, 0, none⟩) n cp, .slice (some ⟨gs, 0, none⟩) n cs] w fun e w' => (∃ va c, e = .returned (.tuple #[.slice va (layU zs ps).length c, .int .i64 0]) ∧ (va = none → c = 0) ∧ OwnB w.heap.size (.slice va (layU zs ps).length c) (layU zs ps) w') ∧ Below w.heap.size w w' := by
  have hS := Lib.hid (sizesOK_any gs zs n cs w hZ hn h1 h64 hz)
  have hH := Lib.hid (head_any gs zs n cs w hZ hn h64 hz)
  have hHle := headN_le hz
  rw [hn] at hHle
  have hcs := Lib.hid (fun i (hi : i < n) => hZ.cell i (by omega))
  have hcp := Lib.hid (fun i (hi : i < n) => hP.cell i (by omega))
  have hgs : gs < w.heap.size := block_lt hZ
  have hgp : gp < w.heap.size := by obtain ⟨_, h, _⟩ := hP; exact block_lt h
  have hfit' := Lib.hid hfit
  have hU : layU zs ps = (layK (headN zs) zs ps n).1 ++ (layK (headN zs) zs ps n).2 := by unfold layU; rw [hn]
  have hst := Lib.hid (fun k => show layK (headN zs) zs ps (k + 1) = if zs.getD k 0 = 0 then ((layK (headN zs) zs ps k).1 ++ le4 ((headN zs + (layK (headN zs) zs ps k).2.length : Nat) : Int), (layK (headN zs) zs ps k).2 ++ ps.getD k []) else ((layK (headN zs) zs ps k).1 ++ ps.getD k [], (layK (headN zs) zs ps k).2) from rfl)
  have hle := Lib.hid (fun k (hk : k ≤ n) => show (layK (headN zs) zs ps k).1.length + (layK (headN zs) zs ps k).2.length ≤ 1099511627776 from Nat.le_trans (layN_mono _ _ _ k n hk) hlen)
  have h00 := Lib.hid (show layK (headN zs) zs ps 0 = ([], []) from rfl)
  generalize layU zs ps = U at *
  generalize layK (headN zs) zs ps = J at *
  generalize headN zs = H at *
  have hU' := Lib.hid hU
  clear hP hZ hp hn hz hfit hlen hU
  go_enter Tryd.func46, Tryd.ntmps46
  go_wp2_with (first
    | ((with_reducible refine hS.out.mono ?_)
       rintro e W ⟨rfl, rfl⟩
       clear hS)
    | ((with_reducible refine hH.out.mono ?_)
       rintro e W ⟨rfl, rfl⟩
       clear hH))
  go_loopw [6, 7, 9] (fun v r i wr => ∃ k : Nat, k ≤ n ∧ i = .int .i64 (k : Int) ∧ (∃ va c, v = .slice va (J k).1.length c) ∧ (∃ vb d, r = .slice vb (J k).2.length d) ∧ OwL w.heap.size [owU v (J k).1, owU r (J k).2] wr ∧ Below w.heap.size w wr) (fun _ _ i _ => n - (intOf i).toNat)
  case atStart =>
    refine ⟨0, by omega, rfl, ⟨none, 0, by rw [h00.out]; rfl⟩, ⟨none, 0, by rw [h00.out]; rfl⟩, ?_, Below.refl _ _⟩
    rw [h00.out]
    exact OwL.nilU _ _
  case round =>
    obtain ⟨k, hk, rfl, ⟨va, c, rfl⟩, ⟨vb, d, rfl⟩, hO, hB⟩ := hrel
    have hlk := hle.out k hk
    clear h00
    by_cases hlt : k < n
    · obtain ⟨vp, cq, hc1, hr1, hv1, hb1⟩ := hcp.out k hlt
      have hc2 := hcs.out k hlt
      have hlk1 := hle.out (k + 1) hlt
      have hft := hst.out k
      have hzl := hfit'.out k hlt
      have hbs : w.heap.size ≤ wr.heap.size := hB.size
      have hcw1 := Lib.hid ((hB.cell (p := ⟨gp, k, none⟩) hgp).trans hc1)
      have hcw2 := Lib.hid ((hB.cell (p := ⟨gs, k, none⟩) hgs).trans hc2)
      have hrw := Lib.hid (hr1.later hB)
      have hr0 := Lib.hid hr1
      have hv1' := Lib.hid (show vp = none → cq = 0 ∧ (ps.getD k []).length = 0 from fun e => ⟨hv1 e, by subst e; exact row_none hr1⟩)
      have hO' := Lib.hid hO
      clear hc1 hc2 hr1 hv1 hO hcp hcs hst hle hfit' hU'
      generalize zs.getD k 0 = z at *
      generalize ps.getD k [] = p at *
      generalize hJ1 : J (k + 1) = J1 at *
      have hJ1' := Lib.hid hJ1
      clear hJ1
      generalize J k = Jk at *
      obtain ⟨o, r⟩ := Jk
      simp only at *
      by_cases hz0 : z = 0
      · subst hz0
        rw [if_pos rfl] at hft
        subst hft
        simp only [List.length_append, le4_length] at hlk1
        have hft2 := Lib.hid hJ1'.out
        clear hJ1' hzl
        have t1 : (((0 : Nat) : Int) != 0) = false := rfl
        have hw1 : IntKind.i64.wrap ((H : Int) + (r.length : Int)) = ((H + r.length : Nat) : Int) := by rw [IntKind.wrap_i64]; omega
        go_wp2
        refine wp_region_quiet_lit (by kernel_rfl) (by kernel_rfl) ?_
        repeat (first
          | go_big_quiet_skip
          | (go_big_quiet_want; first | ((first
          | ((with_reducible refine quiet_at_iaddr 82 ?_); refine quiet_value _ (fun w' _ => run_index_slice w' 82 3 _ _ rfl Tryd.underlying82 1 sz_int gs 0 n cs rfl .i64 k rfl hlt k (by omega)) ?_)
          | ((with_reducible refine quiet_at_load 3 ?_); refine quiet_value _ (fun w' hw' => run_load_cell w' 3 _ rfl ⟨gs, k, none⟩ rfl (.int .i64 ((0 : Nat) : Int)) (by obtain ⟨n, rfl⟩ := hw'; exact hcw2.out) _ Tryd.underlying3 rfl) ?_)); (simp only [Act.put, List.setIfInBounds_toArray, List.set_cons_zero, List.set_cons_succ]); go_big_quiet_on) | (go_big_quiet_op; go_big_quiet_on)))
        refine wpQuiet_nil ?_
        intro _ hw'
        obtain ⟨nq, hw''⟩ := hw'
        subst hw''
        refine gen_q (fun W => W.cell? ⟨gs, k, none⟩ = some (.int .i64 ((0 : Nat) : Int)) ∧ W.cell? ⟨gp, k, none⟩ = some (.slice vp p.length cq) ∧ Row W vp .u8 p ∧ OwL w.heap.size [owU (.slice va o.length c) o, owU (.slice vb r.length d) r] W ∧ Below w.heap.size w W) ⟨hcw2.out, hcw1.out, ⟨hrw.out.cell, hrw.out.ok⟩, ⟨hO'.out.own, hO'.out.dis⟩, ⟨hB.os, hB.tape, hB.output, hB.size, hB.block⟩⟩ ?_
        clear hcw1 hcw2 hrw hO' hB hbs
        rintro W ⟨hcw2, hcw1, hrw, hO', hB⟩
        have hbs := hB.size
        have hcw1 := Lib.hid hcw1
        have hcw2 := Lib.hid hcw2
        have hrw := Lib.hid hrw
        have hO' := Lib.hid hO'
        go_wp2_with (first
          | ((with_reducible refine at_iaddr 82 ?_); go_loud (refine wpList_value (by rfl) _ (run_index_slice _ 82 3 _ _ rfl Tryd.underlying82 1 sz_int gs 0 n cs rfl .i64 k rfl hlt k (by omega)) ?_))
          | ((with_reducible refine at_iaddr 96 ?_); go_loud (refine wpList_value (by rfl) _ (run_index_slice _ 96 34 _ _ rfl Tryd.underlying96 1 sz_bs gp 0 n cp rfl .i64 k rfl hlt k (by omega)) ?_))
          | ((with_reducible refine at_load 3 ?_); go_loud (refine wpList_value (by rfl) _ (run_load_cell _ 3 _ (by rfl) ⟨gs, k, none⟩ (by rfl) (.int .i64 ((0 : Nat) : Int)) hcw2.out _ Tryd.underlying3 rfl) ?_))
          | ((with_reducible refine at_load 34 ?_); go_loud (refine wpList_value (by rfl) _ (run_load_cell _ 34 _ (by rfl) ⟨gp, k, none⟩ (by rfl) (.slice vp p.length cq) hcw1'.out _ Tryd.underlying34 rfl) ?_))
          | ((with_reducible refine (rfour_any _ _).mono ?_)
             rintro e W4 ⟨rfl, rfl⟩)
          | ((with_reducible refine at_call_builtin .append ?_); go_loud (refine wpList_appL (w0 := w) (n0 := w.heap.size) rfl (.tmp 56) (.tmp 61) 34 5 rfl Tryd.underlying34 (.int .u8 0) 1 1 info_u8w rfl (by decide) w.heap.size _ 0 o.length (.slice va o.length c) _ rfl rfl (hO'.out.later ((Below.refl _ _).alloc (Nat.le_refl _) _)) (some ⟨W.heap.size, 0, none⟩) 4 4 rfl (fun h => by cases h) ((le4 ((H + r.length : Nat) : Int)).map (Value.int .u8)) rfl (RowV.block (heap_new _ _ _ _ rfl)) u8_memw (by omega) (by omega) (by rw [World.size_alloc]; omega) (Nat.le_refl _) (hB.alloc hbs _) ?_)
             intro va1 c1 W1 hn1 h1 b1 z1 k1 s1
             have h1' := Lib.hid (OwL.appU0 (p := le4 ((H + r.length : Nat) : Int)) h1)
             have hcw1' := Lib.hid ((b1.cell (p := ⟨gp, k, none⟩) hgp).trans ((hB.cell (p := ⟨gp, k, none⟩) hgp).symm.trans hcw1.out))
             have hrow1 := Lib.hid (show RowV W1 vp (p.map (Value.int .u8)) from RowV.of_row (k := .u8) (hr0.out.later b1))
             clear h1 hn1 k1)
          | ((with_reducible refine at_call_builtin .append ?_); go_loud (refine wpList_appL (w0 := w) (n0 := w.heap.size) rfl (.tmp 63) (.tmp 67) 34 5 rfl Tryd.underlying34 (.int .u8 0) 1 1 info_u8w rfl (by decide) w.heap.size _ 1 r.length (.slice vb r.length d) _ rfl rfl h1'.out vp p.length cq rfl hv1'.out (p.map (Value.int .u8)) (by simp) hrow1.out u8_memw (by omega) (by omega) z1 (Nat.le_refl _) b1 ?_)
             intro va2 c2 W2 hn2 h2 b2 z2 k2 s2
             have h2' := Lib.hid (OwL.appU1 h2)
             clear h2 hn2 k2))
        have e1 : o.length + 4 = (o ++ le4 ((H + r.length : Nat) : Int)).length := by simp [le4_length]
        have e2 : r.length + p.length = (r ++ p).length := by simp
        exact ⟨⟨k + 1, by omega, by go_num, ⟨va1, c1, by rw [hft2.out, e1]⟩, ⟨va2, c2, by rw [hft2.out, e2]⟩, by rw [hft2.out, e1, e2]; exact h2'.out, b2⟩, by simp [intOf]; omega⟩
      · rw [if_neg hz0] at hft
        subst hft
        simp only [List.length_append] at hlk1
        have hft2 := Lib.hid hJ1'.out
        have hzl' := hzl hz0
        have t1 : ((z : Int) != 0) = true := by simp [hz0]
        have t2 : ((p.length : Int) != (z : Int)) = false := by simp [hzl']
        have hzl2 := Lib.hid hzl'
        clear hJ1' hzl hzl' hz0
        go_wp2
        refine wp_region_quiet_lit (by kernel_rfl) (by kernel_rfl) ?_
        repeat (first
          | go_big_quiet_skip
          | (go_big_quiet_want; first | ((first
          | ((with_reducible refine quiet_at_iaddr 82 ?_); refine quiet_value _ (fun w' _ => run_index_slice w' 82 3 _ _ rfl Tryd.underlying82 1 sz_int gs 0 n cs rfl .i64 k rfl hlt k (by omega)) ?_)
          | ((with_reducible refine quiet_at_iaddr 96 ?_); refine quiet_value _ (fun w' _ => run_index_slice w' 96 34 _ _ rfl Tryd.underlying96 1 sz_bs gp 0 n cp rfl .i64 k rfl hlt k (by omega)) ?_)
          | ((with_reducible refine quiet_at_load 3 ?_); refine quiet_value _ (fun w' hw' => run_load_cell w' 3 _ rfl ⟨gs, k, none⟩ rfl (.int .i64 (z : Int)) (by obtain ⟨n, rfl⟩ := hw'; exact hcw2.out) _ Tryd.underlying3 rfl) ?_)
          | ((with_reducible refine quiet_at_load 34 ?_); refine quiet_value _ (fun w' hw' => run_load_cell w' 34 _ rfl ⟨gp, k, none⟩ rfl (.slice vp p.length cq) (by obtain ⟨n, rfl⟩ := hw'; exact hcw1.out) _ Tryd.underlying34 rfl) ?_)); (simp only [Act.put, List.setIfInBounds_toArray, List.set_cons_zero, List.set_cons_succ]); go_big_quiet_on) | (go_big_quiet_op; go_big_quiet_on)))
        refine wpQuiet_nil ?_
        intro _ hw'
        obtain ⟨nq, hw''⟩ := hw'
        subst hw''
        refine gen_q (fun W => W.cell? ⟨gs, k, none⟩ = some (.int .i64 (z : Int)) ∧ W.cell? ⟨gp, k, none⟩ = some (.slice vp p.length cq) ∧ Row W vp .u8 p ∧ OwL w.heap.size [owU (.slice va o.length c) o, owU (.slice vb r.length d) r] W ∧ Below w.heap.size w W) ⟨hcw2.out, hcw1.out, ⟨hrw.out.cell, hrw.out.ok⟩, ⟨hO'.out.own, hO'.out.dis⟩, ⟨hB.os, hB.tape, hB.output, hB.size, hB.block⟩⟩ ?_
        clear hcw1 hcw2 hrw hO' hB hbs
        rintro W ⟨hcw2, hcw1, hrw, hO', hB⟩
        have hbs := hB.size
        have hcw1 := Lib.hid hcw1
        have hcw2 := Lib.hid hcw2
        have hrw := Lib.hid hrw
        have hO' := Lib.hid hO'
        go_wp2_with (first
          | ((with_reducible refine at_iaddr 82 ?_); go_loud (refine wpList_value (by rfl) _ (run_index_slice _ 82 3 _ _ rfl Tryd.underlying82 1 sz_int gs 0 n cs rfl .i64 k rfl hlt k (by omega)) ?_))
          | ((with_reducible refine at_iaddr 96 ?_); go_loud (refine wpList_value (by rfl) _ (run_index_slice _ 96 34 _ _ rfl Tryd.underlying96 1 sz_bs gp 0 n cp rfl .i64 k rfl hlt k (by omega)) ?_))
          | ((with_reducible refine at_load 3 ?_); go_loud (refine wpList_value (by rfl) _ (run_load_cell _ 3 _ (by rfl) ⟨gs, k, none⟩ (by rfl) (.int .i64 (z : Int)) hcw2.out _ Tryd.underlying3 rfl) ?_))
          | ((with_reducible refine at_load 34 ?_); go_loud (refine wpList_value (by rfl) _ (run_load_cell _ 34 _ (by rfl) ⟨gp, k, none⟩ (by rfl) (.slice vp p.length cq) hcw1.out _ Tryd.underlying34 rfl) ?_))
          | ((with_reducible refine at_call_builtin .append ?_); go_loud (refine wpList_appL (w0 := w) (n0 := w.heap.size) rfl (.tmp 50) (.tmp 54) 34 5 rfl Tryd.underlying34 (.int .u8 0) 1 1 info_u8w rfl (by decide) w.heap.size _ 0 o.length (.slice va o.length c) _ rfl rfl hO'.out vp p.length cq rfl hv1'.out (p.map (Value.int .u8)) (by simp) (RowV.of_row (k := .u8) hrw.out) u8_memw (by omega) (by omega) hbs (Nat.le_refl _) hB ?_)
             intro va1 c1 W1 hn1 h1 b1 z1 k1 s1
             have h1' := Lib.hid (OwL.appU0 h1)
             clear h1 hn1 k1))
        have e1 : o.length + p.length = (o ++ p).length := by simp
        exact ⟨⟨k + 1, by omega, by go_num, ⟨va1, c1, by rw [hft2.out, e1]⟩, ⟨_, _, by rw [hft2.out]⟩, by rw [hft2.out, e1]; exact h1'.out, b1⟩, by simp [intOf]; omega⟩
    · have e : k = n := by omega
      subst e
      have hO' := Lib.hid hO
      have hbs := hB.size
      have hU2 := Lib.hid (show U = (J k).1 ++ (J k).2 from hU'.out)
      clear hO hst hle hcp hcs hfit' hU'
      generalize J k = Jk at *
      obtain ⟨o, r⟩ := Jk
      simp only at *
      go_wp2_with (
        ((with_reducible refine at_call_builtin .append ?_); go_loud (refine wpList_appL (w0 := w) (n0 := w.heap.size) rfl (.tmp 69) (.tmp 70) 34 5 rfl Tryd.underlying34 (.int .u8 0) 1 1 info_u8w rfl (by decide) w.heap.size _ 0 o.length (.slice va o.length c) _ rfl rfl hO'.out vb r.length d rfl (own_nil (hO'.out.own 1 _ rfl)) (r.map (Value.int .u8)) (by simp) (own_rowV (hO'.out.own 1 _ rfl)) u8_memw (by omega) (by omega) hbs (Nat.le_refl _) hB ?_)
         intro va1 c1 W1 hn1 h1 b1 z1 k1 s1
         have h1' := Lib.hid ((OwL.appU0 h1).own 0 _ rfl)
         clear h1 k1))
      refine ret_t2 rfl _ _ rfl rfl rfl ⟨⟨va1, c1, ?_, hn1, ?_⟩, b1⟩
      · rw [hU2.out, List.length_append]; rfl
      · rw [hU2.out]; exact h1'.out
end Go.Proofs.YtihelknkcomjpaaDoor
namespace Go.Proofs.YtihelknkcomjpaaDoor
open Go.RowKit BigFrame
set_option maxRecDepth 100000
/-- A struct in its box. -/
structure BoxL (n : Nat) (C : List Value) (t : TypeId) (w W : World) : Prop where
  hX : W.heap[n]? = some (.cells C.toArray t (0, 0))
  hB : Below n w W
theorem BoxL.later {n : Nat} {C : List Value} {t : TypeId} {w W W' : World} (h : BoxL n C t w W) (hb : Below (n + 1) W W') : BoxL n C t w W' := ⟨(hb.block n (by omega)).trans h.hX, h.hB.trans (hb.mono (by omega))⟩
theorem BoxL.cell {n : Nat} {C : List Value} {t : TypeId} {w W : World} (h : BoxL n C t w W) (j : Nat) : W.cell? ⟨n, j, none⟩ = C[j]? := by
  rw [cell_of_row W n j _ _ _ h.hX, List.getElem?_toArray]
theorem range_midL {W : World} {n : Nat} {C pre mid post : List Value} {t : TypeId} {fr : Nat × Nat} (h : W.heap[n]? = some (.cells C.toArray t fr)) (hC : C = pre ++ (mid ++ post)) (off : Nat) (ho : pre.length = off) : W.rangeAt n off mid := fun j v hv => by
  subst ho
  rw [cell_of_row W n _ _ _ _ h, List.getElem?_toArray, hC, List.getElem?_append_right (by omega), Nat.add_sub_cancel_left, List.getElem?_append_left (List.getElem?_eq_some_iff.1 hv).1]
  exact hv
theorem row_rangeL {W : World} {n off : Nat} {k : CK} {len : Nat} {f : Nat → Int} (h : W.rangeAt n off (fcells len (fun _ => k) f)) (hok : ∀ j, j < len → k.ok (f j)) : Row W (some ⟨n, off, none⟩) k (byL f 0 len) := by
  refine ⟨fun i hi => ⟨n, off, rfl, ?_⟩, fun m hm => ?_⟩
  · rw [byL_length] at hi
    rw [h i _ (fcells_get _ _ _ _ hi), byL_get _ _ _ _ hi, Nat.zero_add]
  · obtain ⟨j, hj, rfl⟩ := List.mem_map.1 hm
    rw [Nat.zero_add]
    exact hok j (by simpa using hj)
theorem BoxL.sl {n : Nat} {C : List Value} {t : TypeId} {w W : World} (h : BoxL n C t w W) {pre post : List Value} {len off : Nat} {f : Nat → Int} (hC : C = pre ++ (fcells len (fun _ => .u8) f ++ post)) (ho : pre.length = off) (hok : ∀ j, j < len → CK.ok .u8 (f j)) : SlB (some ⟨n, off, none⟩) len (byL f 0 len) W :=
  ⟨row_rangeL (range_midL h.hX hC off ho) hok, (fun e => by cases e), by rw [byL_length]; exact Nat.le_refl _, fun b o e => by cases e; exact block_lt h.hX⟩
structure RefX (n : Nat) (C : List Value) (t : TypeId) (ps : List Pt) (w W : World) : Prop extends BoxL n C t w W where
  hP : ∀ p ∈ ps, SlB p.1 p.2.1 p.2.2.2 W ∧ p.2.2.2.length = p.2.2.1
section
variable {n : Nat} {C : List Value} {t : TypeId} {ps : List Pt} {w W W' : World}
theorem RefX.later (h : RefX n C t ps w W) (hb : Below W.heap.size W W') : RefX n C t ps w W' :=
  ⟨h.toBoxL.later (hb.mono (by have := block_lt h.hX; omega)), fun p hp => ⟨(h.hP p hp).1.later hb, (h.hP p hp).2⟩⟩
theorem RefX.add (h : RefX n C t ps w W) {va : Option Addr} {c k : Nat} {m : List Int} (hs : SlB va c m W) (hk : m.length = k) : RefX n C t (ps ++ [(va, c, k, m)]) w W :=
  ⟨h.toBoxL, fun p hp => by
    rcases List.mem_append.1 hp with hp | hp
    · exact h.hP p hp
    · rw [List.mem_singleton.1 hp]; exact ⟨hs, hk⟩⟩
theorem RefX.own (h : RefX n C t ps w W) {v : Value} {m : List Int} {k : Nat} (h1 : OwnB W.heap.size v ([] ++ m) W') (hb : Below W.heap.size W W') (hm : ∀ x ∈ m, CK.ok .u8 x) (hk : m.length = k) : ∃ va c, v = .slice va k c ∧ RefX n C t (ps ++ [(va, c, k, m)]) w W' := by
  rw [List.nil_append] at h1
  obtain ⟨va, c, e, hv⟩ := own_form h1
  rw [hk] at e
  subst e
  exact ⟨va, c, rfl, (h.later hb).add (SlB.of_own h1 hm hv) hk⟩
theorem RefX.begin (h1 : (w.alloc (.cells C.toArray t)).heap[n]? = some (.cells C.toArray t (0, 0))) (hn : w.heap.size = n) : RefX n C t [] w (w.alloc (.cells C.toArray t)) := by
  subst hn
  exact ⟨⟨h1, (Below.refl _ _).alloc (Nat.le_refl _) _⟩, fun p hp => by simp at hp⟩
theorem RefX.parts (h : RefX n C t ps w W) : RefX n C t ps w (W.alloc (.cells ((vsOf ps).map fun v => v.cells.toList).flatten.toArray 34)) ∧ PartsAt W.heap.size (msOf ps) (W.alloc (.cells ((vsOf ps).map fun v => v.cells.toList).flatten.toArray 34)) := by
  have hb : Below W.heap.size W (W.alloc (.cells ((vsOf ps).map fun v => v.cells.toList).flatten.toArray 34)) := (Below.refl _ _).alloc (Nat.le_refl _) _
  have h2 := h.later hb
  refine ⟨h2, vsOf ps, by rw [heap_new _ _ _ _ rfl, vsOf_flat], by simp [vsOf, msOf], fun i hi => ?_⟩
  have hi' : i < ps.length := by simpa [msOf] using hi
  obtain ⟨hs, hk⟩ := h2.hP (ps[i]) (List.getElem_mem hi')
  have e : (msOf ps).getD i [] = (ps[i]).2.2.2 := by simp [msOf, List.getD, hi']
  rw [e]
  exact ⟨(ps[i]).1, (ps[i]).2.1, by simp [vsOf, hi', hk], hs.row, hs.nil, hs.low⟩
/-- Lay, where parts may have no size. -/
theorem RefX.layu (h : RefX n C t ps w W) {k S : Nat} {L : List Int} {V Z : Array Value} (zs : List Nat) (hV : V = (vsOf ps).toArray) (hZ : Z = (zsV zs).toArray) (hk : ps.length = k) (hzk : zs.length = k) (h1 : 1 ≤ k) (h64 : k ≤ 64) (hz0 : ∀ z ∈ zs, z ≤ 65536) (hfit : ∀ i, i < k → zs.getD i 0 ≠ 0 → ((msOf ps).getD i []).length = zs.getD i 0) (hL : layU zs (msOf ps) = L) (hS : L.length = S) (hS2 : S ≤ 1099511627776) :
    Calls Tryd.prog 46 #[.slice (some ⟨W.heap.size, 0, none⟩) k k, .slice (some ⟨W.heap.size + 1, 0, none⟩) k k] ((W.alloc (.cells V 34)).alloc (.cells Z 3)) fun e w' => (∃ va c, e = .returned (.tuple #[.slice va S c, .int .i64 0]) ∧ (va = none → c = 0) ∧ OwnB n (.slice va S c) L w') ∧ Below n w w' := by
  subst hV
  subst hZ
  subst hS
  subst hL
  have hp := h.parts
  rw [vsOf_flat] at hp
  have hz := zsV_at zs (W.alloc (.cells (vsOf ps).toArray 34))
  rw [zsV_flat, World.size_alloc] at hz
  have hb : Below (W.alloc (.cells (vsOf ps).toArray 34)).heap.size (W.alloc (.cells (vsOf ps).toArray 34)) ((W.alloc (.cells (vsOf ps).toArray 34)).alloc (.cells (zsV zs).toArray 3)) := (Below.refl _ _).alloc (Nat.le_refl _) _
  have h2 := hp.1.later hb
  have hml : (msOf ps).length = k := by simp [msOf, hk]
  have hsz := block_lt h2.hX
  have hlen : layN (headN zs) zs (msOf ps) k ≤ 1099511627776 := by
    unfold layU at hS2
    rw [hzk, List.length_append] at hS2
    exact hS2
  refine (layu_any W.heap.size (W.heap.size + 1) (msOf ps) zs k k k _ (hp.2.later hb) hz hml hzk h1 h64 hz0 hfit hlen).mono fun _ _ ⟨⟨va, c, h1, h2', h3⟩, h4⟩ => ⟨⟨va, c, h1, h2', own_mono h3 (by omega)⟩, h2.hB.trans (h4.mono (by omega))⟩
end
structure RefV (n : Nat) (C : List Value) (t tc : TypeId) (K : Nat) (rs : List (Nat → Int)) (w W : World) : Prop extends BoxL n C t w W where
  hR : W.heap[n + 1]? = some (.cells zr 23 (0, 0))
  hC : RootsT tc (n + 1 + 1) K (leaf rs) W
  is : ∀ r ∈ rs, IsR r
  hT : Tabs W
  h3 : 3 ≤ n
section
variable {n : Nat} {C : List Value} {t tc : TypeId} {K : Nat} {rs : List (Nat → Int)} {w W W' : World}
theorem RefV.size (h : RefV n C t tc K rs w W) : n + 3 ≤ W.heap.size := by
  obtain ⟨C, h1, _⟩ := h.hC
  have := block_lt h1
  omega
theorem RefV.later (h : RefV n C t tc K rs w W) (hb : Below W.heap.size W W') : RefV n C t tc K rs w W' := by
  have hs := h.size
  exact ⟨h.toBoxL.later (hb.mono (by omega)), (hb.block _ (by omega)).trans h.hR, h.hC.block (hb.block _ (by omega)), h.is, h.hT.below (by have := h.h3; omega) hb, h.h3⟩
theorem RefV.begin {Z : Array Value} (h1 : (w.alloc (.cells C.toArray t)).heap[n]? = some (.cells C.toArray t (0, 0))) (hn : w.heap.size = n) (hT : Tabs w) (hC : Z.size = K * 32) (hz : ∀ i, i < K * 32 → Z[i]? = some (.int .u8 0)) :
    RefV n C t tc K [] w (((w.alloc (.cells C.toArray t)).alloc (.cells zr 23)).alloc (.cells Z tc)) := by
  subst hn
  have hb : Below w.heap.size w (((w.alloc (.cells C.toArray t)).alloc (.cells zr 23)).alloc (.cells Z tc)) := (((Below.refl _ _).alloc (Nat.le_refl _) _).alloc (by simp) _).alloc (by simp; omega) _
  exact ⟨⟨heap_past _ _ _ _ (heap_past _ _ _ _ h1), hb⟩, heap_past _ _ _ _ (heap_new _ _ _ _ (by simp)), ⟨Z, heap_new _ _ _ _ (by simp), hC, fun i hi j hj => by rw [hz (32 * i + j) (by omega), leaf_nil]; rfl⟩, (fun r hr => by simp at hr), hT.below hT.size hb, hT.size⟩
theorem RefV.pack (h : RefV n C t tc K rs w W) (l : List Int) (va : Option Addr) (c k q : Nat) (hl : SlB va c l W) (hk : l.length = k) (hq : (k + 31) / 32 = q) (h1 : 1 ≤ k) (h2 : k ≤ 100000) :
    Calls Tryd.prog 71 #[.slice va k c] W fun e w' => ∃ va' c', e = .returned (.slice va' q c') ∧ RowR w' va' (chunks l) ∧ (∀ b o, va' = some ⟨b, o, none⟩ → b < w'.heap.size) ∧ q ≤ c' ∧ RefV n C t tc K rs w w' := by
  subst hk
  refine (rpack_any l va c W hl.row hl.low (by omega)).mono fun _ _ ⟨⟨va', c', h3, h4⟩, h5⟩ => ?_
  have hq' : (chunks l).length = q := by rw [chunks_length, hq]
  obtain ⟨g, cap, e, hg, hR⟩ := roots_of_own h4 (by omega)
  injection e with e1 e2 e3
  subst e1
  subst e3
  have hc := hR.choose_spec.2.2.1
  rw [hq'] at hR hc h3
  exact ⟨_, _, h3, hR.row (chunks l) (by omega) (fun _ _ => rfl) (chunks_is hl.row.ok), (fun b o e => by cases e; exact hR.lt), hc, h.later h5⟩
theorem RefV.must (h : RefV n C t tc K rs w W) (l : List Int) (va : Option Addr) (c q d : Nat) (m : Int) (hl : RowR W va (chunks l)) (hlow : ∀ b o, va = some ⟨b, o, none⟩ → b < W.heap.size) (hc : q ≤ c) (hq : (l.length + 31) / 32 = q) (hm : m = (q : Int)) (hd : Dep q d) (hd40 : d ≤ 40) :
    Calls Tryd.prog 47 #[.slice va q c, .int .i64 m] W fun e w' => e = .returned (.agg (rootV (byR d l))) ∧ RefV n C t tc K rs w w' := by
  subst hm
  exact (must_any (chunks l) q q d va c W (by rw [chunks_length, hq]) (Nat.le_refl _) hd hd40 hl hlow hc h.hT).mono fun _ _ ⟨h3, h4⟩ => ⟨h3, h.later h4⟩
theorem RefV.last (h : RefV n C t tc K rs w W) (d : Nat) (m : Int) (hm : m = (K : Int)) (hK : rs.length = K) (hd : Dep K d) (hd40 : d ≤ 40) :
    Calls Tryd.prog 47 #[.slice (some ⟨n + 1 + 1, 0, none⟩) K K, .int .i64 m] W fun e w' => e = .returned (.agg (rootV (fullT d (leaf rs)))) ∧ Below n w w' ∧ w'.heap[n + 1]? = some (.cells zr 23 (0, 0)) := by
  subst hm
  have hs := h.size
  exact (must_any rs K K d _ K W hK (Nat.le_refl _) hd hd40 (h.hC.row (by omega) h.is) (fun b o e => by cases e; omega) (Nat.le_refl _) h.hT).mono fun _ _ ⟨h3, h4⟩ => ⟨h3, h.hB.trans (h4.mono (by omega)), (h4.block _ (by omega)).trans h.hR⟩
/-- The next root is laid. -/
theorem wpList_rootV {ops : Array Oper} {rest : List Oper} {o : Oper} {a : Act} {Q : Exit → Act → World → Prop} (hg : o.guard = none) (x y : Operand) (ho : o.op = .store 23 x y) (i : Nat) (r : Nat → Int) (hx : a.eval x = .pointer (some ⟨n + 1 + 1, 32 * i, none⟩)) (hy : a.eval y = .agg (rootV r)) (h : RefV n C t tc K rs w W) (hi : rs.length = i) (hK : i < K) (hr : IsR r)
    (hk : ∀ W', RefV n C t tc K (rs ++ [r]) w W' → wpList Tryd.prog ops Q rest (a.put o.dst undef) W') : wpList Tryd.prog ops Q (o :: rest) a W := by
  obtain ⟨C, h1, h2, h3⟩ := h.hC
  have hs := h.size
  have ht : W.there (n + 1 + 1) (32 * i) (rootV r).size := fun j hj => by
    have hj : j < 32 := by simpa [fcells] using hj
    refine ⟨?_, Joins.unfrozen_of_block h1 _⟩
    rw [cell_of_row W (n + 1 + 1) _ C _ _ h1, h3 i hK j hj]
    rfl
  refine wpList_plain hg fun Kc hKc => wp_store_mid 23 x y ho (n + 1 + 1) (32 * i) (rootV r) hx hy ht (by rw [row_size row_root]; simp [fcells]) (fcells_one _ _ _) (hKc _ _ (hk _ ?_))
  have hA : Apart (n + 1 + 1) W (W.setCells (n + 1 + 1) (32 * i) (rootV r).toList) := (Apart.refl _ _).setCells _ _ _ (Or.inl rfl)
  obtain ⟨C', h5, h6⟩ := splice_setCells (n + 1 + 1) (rootV r).toList (32 * i) W C _ h1
  have hsame := World.rangeAt_setCells_same W (n + 1 + 1) (32 * i) (rootV r).toList (by simpa using ht)
  have hB2 : Below n w (W.setCells (n + 1 + 1) (32 * i) (rootV r).toList) := hA.below h.hB (by omega) (by omega)
  refine ⟨⟨(hA.block n (by omega) (by omega)).trans h.hX, hB2⟩, (hA.block _ (by omega) (by omega)).trans h.hR, ⟨C', h5, h6.trans h2, fun i' hi' j hj => ?_⟩, fun q hq => ?_, ?_, h.h3⟩
  · rw [← cell_of_row _ (n + 1 + 1) (32 * i' + j) C' _ _ h5, leaf_app, hi]
    by_cases e : i' = i
    · subst e
      rw [if_pos rfl]
      exact hsame j _ (fcells_get 32 (fun _ => .u8) r j hj)
    · rw [if_neg e, World.cell?_setCells_out (n + 1 + 1) _ _ W ⟨n + 1 + 1, 32 * i' + j, none⟩ (fun _ _ => by simp [fcells]; omega), cell_of_row W (n + 1 + 1) _ C _ _ h1]
      exact h3 i' hi' j hj
  · rcases List.mem_append.1 hq with hq | hq
    · exact h.is q hq
    · rw [List.mem_singleton.1 hq]; exact hr
  · exact h.hT.below (by have := h.h3; omega) (hA.below (Below.refl (n + 1 + 1) W) (Nat.le_refl _) (by omega))
end
end Go.Proofs.YtihelknkcomjpaaDoor
namespace Go.Proofs.YtihelknkcomjpaaDoor
open Go.RowKit BigFrame
set_option maxRecDepth 100000
set_option maxHeartbeats 4000000 in
theorem hash_doneE (er : Int) (b : Nat) (rs : List (Nat → Int)) (w : World) (h : HashE er b rs w) (he : er ≠ 0) :
    Calls Tryd.prog 43 #[.pointer (some ⟨b, 0, none⟩)] w fun e w' => e = .returned (.tuple #[.agg (rootV zeroR), .int .i64 er]) ∧ Below w.heap.size w w' := by
  have hz := h.size
  obtain ⟨his, v, hb0, hv0⟩ := h
  have hb' := Lib.hid hb0
  clear hb0 hv0 his
  have he' : (er != 0) = true := by simp [he]
  have hB0 := Lib.hid ((Below.refl w.heap.size w).alloc (Nat.le_refl _) (.cells zr 23))
  have hC0 := Lib.hid (heap_new w zr 23 w.heap.size rfl)
  go_enter Tryd.func43, Tryd.ntmps43
  go_wp2_with (
    ((with_reducible refine at_alloc 23 ?_); go_loud (refine wpList_plain rfl fun K hK => wp_alloc_row 23 rfl 2 rfl zr 32 info_zr (hK _ _ ?_)); clear hK K))
  refine gen_world (fun W => W.heap[b]? = some (.cells (hashE er v) 90 (0, 0)) ∧ W.heap[w.heap.size]? = some (.cells zr 23 (0, 0)) ∧ Below w.heap.size w W) ⟨heap_past _ _ _ _ hb'.out, hC0.out, hB0.out⟩ ?_
  clear hb' hB0 hC0
  rintro W0 ⟨kb, kn, kB⟩
  have kb' := Lib.hid kb
  have kn' := Lib.hid kn
  have kB' := Lib.hid kB
  clear kb kn kB
  refine wp_scope_jumps2 0 (fun _ _ => False) (fun _ _ => 0) rfl (fun _ _ h => h.elim) ?_
  intro _
  go_wp2_with (first
    | ((with_reducible refine at_load 36 ?_); refine wpList_value (by rfl) _ (run_load_cell _ 36 _ (by rfl) ⟨b, 1, none⟩ (by rfl) (.int .i64 er) (cell_hash kb'.out 1) _ Tryd.underlying36 rfl) ?_)
    | ((with_reducible refine at_build 23 ?_); go_loud (refine wpList_value (by rfl) _ (run_build_root0 _ rfl) ?_))
    | ((with_reducible refine at_store 23 ?_); go_loud (refine wpList_store_row_gen (w0 := w) (n0 := w.heap.size) 23 _ _ rfl rfl w.heap.size rfl _ rfl (fcells_one _ _ _) (by rw [row_size row_root]; simp [fcells]) _ 23 kn'.out (by rw [zr_size]; simp [fcells]) (Nat.le_refl _) kB'.out (fun W9 hW9 hBW _ => ?_))))
  rename_i K hK
  refine wp_region_held (S := fun w' => w'.cell? ⟨b, 1, none⟩ = some (.int .i64 er)) (by kernel_rfl) ?_
  have hS : ({ W0 with drawn := W0.drawn + 1 } : World).cell? ⟨b, 1, none⟩ = some (.int .i64 er) := cell_hash kb'.out 1
  refine takeL (i := 0) (v := (.agg (rootV zeroR))) rfl (by kernel_rfl) (by kernel_rfl) (by kernel_rfl) (fun _ _ _ h => h) rfl (by assumption) (fun w' _ => run_build_root0 w' rfl) ?_
  simp only [Act.put, List.setIfInBounds_toArray, List.set_cons_zero, List.set_cons_succ]
  refine takeL (i := 1) (v := (.pointer (some ⟨b, 0, none⟩))) rfl (by kernel_rfl) (by kernel_rfl) (by kernel_rfl) (fun _ _ _ h => h) rfl (by assumption) (fun w' hS' => by go_simp) ?_
  simp only [Act.put, List.setIfInBounds_toArray, List.set_cons_zero, List.set_cons_succ]
  refine takeL (i := 2) (v := (.pointer (some ⟨b, 0, none⟩))) rfl (by kernel_rfl) (by kernel_rfl) (by kernel_rfl) (fun _ _ _ h => h) rfl (by assumption) (fun w' hS' => by go_simp) ?_
  simp only [Act.put, List.setIfInBounds_toArray, List.set_cons_zero, List.set_cons_succ]
  refine takeL (i := 3) (v := (.pointer (some ⟨b, 1, none⟩))) rfl (by kernel_rfl) (by kernel_rfl) (by kernel_rfl) (fun _ _ _ h => h) rfl (by assumption) (fun w' hS' => by go_simp) ?_
  simp only [Act.put, List.setIfInBounds_toArray, List.set_cons_zero, List.set_cons_succ]
  refine takeL (i := 4) (v := (.int .i64 er)) rfl (by kernel_rfl) (by kernel_rfl) (by kernel_rfl) (fun _ _ _ h => h) rfl (by assumption) (fun w' hS' => run_load_cell _ 36 _ (by rfl) ⟨b, 1, none⟩ (by rfl) _ hS' _ Tryd.underlying36 rfl) ?_
  simp only [Act.put, List.setIfInBounds_toArray, List.set_cons_zero, List.set_cons_succ]
  refine oneL (i := 5) rfl (by kernel_rfl) rfl (wp_store_row 23 _ _ rfl w.heap.size rfl (rootV zeroR) rfl (fcells_one _ _ _) (by rw [row_size row_root]; simp [fcells]) _ 23 kn'.out (by rw [zr_size]; simp [fcells]) (fun W9 hC9 hA9 => ⟨(hA9.cell (p := ⟨b, 1, none⟩) (block_lt kb'.out) (show b ≠ w.heap.size by omega)).trans (cell_hash kb'.out 1), ?_⟩))
  have hS : W9.cell? ⟨b, 1, none⟩ = some (.int .i64 er) := (hA9.cell (p := ⟨b, 1, none⟩) (block_lt kb'.out) (show b ≠ w.heap.size by omega)).trans (cell_hash kb'.out 1)
  simp only [Act.put, List.setIfInBounds_toArray, List.set_cons_zero, List.set_cons_succ]
  refine takeL (i := 6) (v := (.int .i64 er)) rfl (by kernel_rfl) (by kernel_rfl) (by kernel_rfl) (fun _ _ _ h => h) rfl (by assumption) (fun w' hS' => by go_simp) ?_
  simp only [Act.put, List.setIfInBounds_toArray, List.set_cons_zero, List.set_cons_succ]
  refine wpAnyH_done (by kernel_rfl) ?_ _
  simp only [Exit.then]
  refine hK _ _ ?_
  have hBW : Below w.heap.size w W9 := hA9.below kB'.out.drew (Nat.le_refl _) kB'.out.size
  clear hS hK K
  go_wp2
  simp only [Exit.jump]
  exact ret_mid_tmp rfl w.heap.size 0 (fcells 32 (fun _ => .u8) zeroR) _ rfl (range_whole hC9) Tryd.underlying23 rfl (by rw [row_size row_root, fcells_length]) rfl ⟨rfl, hBW⟩
structure HashX (n : Nat) (C : List Value) (t : TypeId) (er : Int) (rs : List (Nat → Int)) (w W : World) : Prop extends BoxL n C t w W where
  hR : W.heap[n + 1]? = some (.cells zr 23 (0, 0))
  hH : HashE er (n + 1 + 1) rs W
  hT : Tabs W
  h3 : 3 ≤ n
section
variable {n : Nat} {C : List Value} {t : TypeId} {er : Int} {rs : List (Nat → Int)} {w W W' : World}
theorem HashX.step {er' : Int} {rs' : List (Nat → Int)} (h : HashX n C t er rs w W) (hH : HashE er' (n + 1 + 1) rs' W') (hb : Below (n + 1 + 1) W W') : HashX n C t er' rs' w W' :=
  ⟨h.toBoxL.later (hb.mono (by omega)), (hb.block (n + 1) (by omega)).trans h.hR, hH, h.hT.below (by have := h.h3; omega) hb, h.h3⟩
theorem HashX.later (h : HashX n C t er rs w W) (hb : Below W.heap.size W W') : HashX n C t er rs w W' := h.step (h.hH.later hb) (hb.mono h.hH.size |>.mono (by omega))
theorem HashX.put (h : HashX n C t er rs w W) (r : Nat → Int) (ee : Int) (hr : IsR r) (hlen : rs.length ≤ 1000) :
    Calls Tryd.prog 42 #[.pointer (some ⟨n + 1 + 1, 0, none⟩), .agg (rootV r), .int .i64 ee] W fun e w' => e = .returned (.tuple #[]) ∧ HashX n C t (if er = 0 then ee else er) (rs ++ [r]) w w' :=
  (hash_putE (n + 1 + 1) er ee rs r W h.hH hr (by omega)).mono fun _ _ ⟨h1, h2, h3⟩ => ⟨h1, h.step h2 h3⟩
theorem HashX.bytes (h : HashX n C t er rs w W) (l : List Int) (va : Option Addr) (c k d : Nat) (hl : SlB va c l W) (hk : l.length = k) (h1 : 1 ≤ k) (h2 : k ≤ 100000) (hd : Dep ((k + 31) / 32) d) (hd40 : d ≤ 40) (hlen : rs.length ≤ 1000) :
    Calls Tryd.prog 68 #[.pointer (some ⟨n + 1 + 1, 0, none⟩), .slice va k c] W fun e w' => e = .returned (.tuple #[]) ∧ HashX n C t er (rs ++ [byR d l]) w w' := by
  unfold byR
  subst hk
  exact (hash_bytes (n + 1 + 1) d rs l _ c W h.hH h.hT (by have := h.h3; omega) hl.row hl.cap h1 (by omega) hd hd40 (by omega)).mono fun _ _ ⟨h1, h2, h3⟩ => ⟨h1, h.step h2 h3⟩
theorem HashX.done (h : HashX n C t 0 rs w W) (d : Nat) (hd : Dep rs.length d) (hn : 1 ≤ rs.length) (hd40 : d ≤ 40) :
    Calls Tryd.prog 43 #[.pointer (some ⟨n + 1 + 1, 0, none⟩)] W fun e w' => e = .returned (.tuple #[.agg (rootV (fullT d (leaf rs))), .int .i64 0]) ∧ Below n w w' ∧ w'.heap[n + 1]? = some (.cells zr 23 (0, 0)) :=
  (hash_done (n + 1 + 1) d rs W h.hH h.hT (by have := h.h3; omega) hd hn hd40).mono fun _ _ ⟨h1, h2⟩ => ⟨h1, h.hB.trans (h2.mono (by omega)), (h2.block (n + 1) (by omega)).trans h.hR⟩
theorem HashX.doneE (h : HashX n C t er rs w W) (he : er ≠ 0) :
    Calls Tryd.prog 43 #[.pointer (some ⟨n + 1 + 1, 0, none⟩)] W fun e w' => e = .returned (.tuple #[.agg (rootV zeroR), .int .i64 er]) ∧ Below n w w' ∧ w'.heap[n + 1]? = some (.cells zr 23 (0, 0)) :=
  (hash_doneE er (n + 1 + 1) rs W h.hH he).mono fun _ _ ⟨h1, h2⟩ => ⟨h1, h.hB.trans (h2.mono (by have := h.hH.size; omega)), (h2.block (n + 1) (by have := h.hH.size; omega)).trans h.hR⟩
theorem HashX.begin (h1 : (w.alloc (.cells C.toArray t)).heap[n]? = some (.cells C.toArray t (0, 0))) (hn : w.heap.size = n) (hT : Tabs w) :
    HashX n C t 0 [] w (((w.alloc (.cells C.toArray t)).alloc (.cells zr 23)).alloc (.cells (hashC (.slice none 0 0)) 90)) := by
  subst hn
  have hb : Below w.heap.size w (((w.alloc (.cells C.toArray t)).alloc (.cells zr 23)).alloc (.cells (hashC (.slice none 0 0)) 90)) := (((Below.refl _ _).alloc (Nat.le_refl _) _).alloc (by simp) _).alloc (by simp; omega) _
  exact ⟨⟨heap_past _ _ _ _ (heap_past _ _ _ _ h1), hb⟩, heap_past _ _ _ _ (heap_new _ _ _ _ (by simp)), ⟨(fun r hr => by simp at hr), _, heap_new _ _ _ _ (by simp), rfl, Or.inl ⟨rfl, rfl⟩⟩, hT.below hT.size hb, hT.size⟩
end
end Go.Proofs.YtihelknkcomjpaaDoor
