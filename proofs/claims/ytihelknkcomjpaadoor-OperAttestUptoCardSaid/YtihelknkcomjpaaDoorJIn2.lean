/- wire.In of the program: what bytes are read as. -/
/- wire.In: Fail, U64, Flag. -/
import Derived.Test.YtihelknkcomjpaaDoorJHash3
set_option linter.unusedVariables false
set_option linter.unusedSimpArgs false
set_option linter.unnecessarySimpa false
namespace Go.Proofs.YtihelknkcomjpaaDoor
open Go.RowKit BigFrame
set_option maxRecDepth 100000
def inD (u : Value) (nx : Nat) (va : Option Addr) (n c at' err : Nat) : Array Value := #[.slice va n c, .int .i64 at', u, .int .i64 nx, .int .i64 err]
abbrev inC (va : Option Addr) (n c at' err : Nat) : Array Value := inD (.slice none 0 0) 0 va n c at' err
/-- The In in block i reads the bytes l, has come to 'at', and has this error. -/
structure InG (u : Value) (nx : Nat) (i : Nat) (l : List Int) (va : Option Addr) (c at' err : Nat) (w : World) : Prop where
  cells : w.heap[i]? = some (.cells (inD u nx va l.length c at' err) 104 (0, 0))
  row : Row w va .u8 l
  low : ∀ ad, va = some ad → ad.block < i
  cap : l.length ≤ c
  nil : va = none → c = 0
  few : l.length ≤ 70368744177664
theorem InG.size {u : Value} {nx : Nat} {i : Nat} {l : List Int} {va : Option Addr} {c at' err : Nat} {w : World} (h : InG u nx i l va c at' err w) : i + 1 ≤ w.heap.size := block_lt h.cells
theorem InG.later {u : Value} {nx : Nat} {i : Nat} {l : List Int} {va : Option Addr} {c at' err : Nat} {w w' : World} (h : InG u nx i l va c at' err w) (hb : Below (i + 1) w w') : InG u nx i l va c at' err w' :=
  ⟨(hb.block i (by omega)).trans h.cells, ⟨fun j hj => by
    obtain ⟨b, o, e, hc⟩ := h.row.cell j hj
    exact ⟨b, o, e, (hb.cell (by have := h.low _ e; exact Nat.lt_succ_of_lt this)).trans hc⟩, h.row.ok⟩, h.low, h.cap, h.nil, h.few⟩
theorem InG.set {u : Value} {nx : Nat} {i : Nat} {l : List Int} {va : Option Addr} {c at' err at2 err2 : Nat} {w w' : World} (h : InG u nx i l va c at' err w) (hb : Below i w w') (hc : w'.heap[i]? = some (.cells (inD u nx va l.length c at2 err2) 104 (0, 0))) : InG u nx i l va c at2 err2 w' :=
  ⟨hc, ⟨fun j hj => by
    obtain ⟨b, o, e, hc⟩ := h.row.cell j hj
    exact ⟨b, o, e, (hb.cell (by have := h.low _ e; exact this)).trans hc⟩, h.row.ok⟩, h.low, h.cap, h.nil, h.few⟩
abbrev InW (i : Nat) (l : List Int) (va : Option Addr) (c at' err : Nat) (w : World) : Prop := InG (.slice none 0 0) 0 i l va c at' err w
theorem cell_in {i : Nat} {C : Array Value} {w : World} (h : w.heap[i]? = some (.cells C 104 (0, 0))) (j : Nat) : w.cell? ⟨i, j, none⟩ = C[j]? := by
  rw [cell_of_row w i j _ _ _ h]
theorem sz_i64 : (Tryd.prog.info? 3).map (·.size) = some 1 := by kernel_rfl
theorem sz_errno : (Tryd.prog.info? 36).map (·.size) = some 1 := by kernel_rfl
theorem built_in (va : Option Addr) (n c : Nat) (w : World) : (Instr.build 104 #[(0, .slice va n c)]).run Tryd.prog w = .ok (.agg (inC va n c 0 0)) w := by kernel_rfl
set_option maxHeartbeats 4000000 in
theorem open_any (l : List Int) (va : Option Addr) (c hd : Nat) (w : World) (hl : Row w va .u8 l) (hc : l.length ≤ c) (hn : va = none → c = 0) (hlow : ∀ ad, va = some ad → ad.block < w.heap.size) (hh : hd ≤ 1000000) (hfew : l.length ≤ 70368744177664) :
    Calls Tryd.prog 49 #[.slice va l.length c, .int .i64 (hd : Int), .int .i64 0] w fun e w' => e = .returned (.pointer (some ⟨w.heap.size, 0, none⟩)) ∧ InW w.heap.size l va c 0 (if l.length = hd then 0 else 4) w' ∧ Below w.heap.size w w' := by
  have hl' := Lib.hid hl
  have hlow' := Lib.hid hlow
  clear hl hlow
  have hIn : ∀ (err : Nat) (W : World), W.heap[w.heap.size]? = some (.cells (inC va l.length c 0 err) 104 (0, 0)) → Below w.heap.size w W → InW w.heap.size l va c 0 err W := fun err W h1 h2 => ⟨h1, hl'.out.later h2, hlow'.out, hc, hn, hfew⟩
  have hIn' := Lib.hid hIn
  clear hIn
  go_enter Tryd.func49, Tryd.ntmps49
  rcases Nat.lt_trichotomy l.length hd with c1 | c1 | c1
  · have b1 : decide ((l.length : Int) < (hd : Int)) = true := by simpa using c1
    go_wp2_with (first
      | ((with_reducible refine at_build 104 ?_); go_loud (refine wpList_value (by rfl) _ (run_build _ _ rfl _ (built_in _ _ _ _)) ?_))
      | ((with_reducible refine at_store 36 ?_); go_loud (refine wpList_plain rfl fun K hK => wp_store1 36 _ _ rfl w.heap.size 4 rfl _ rfl rfl sz_errno _ _ (heap_new _ _ _ _ rfl) (by simp [inD]) (fun W2 hC2 hx2 => hK _ _ ?_)); clear hK K))
    have hB := hx2.below ((Below.refl w.heap.size w).alloc (Nat.le_refl _) _) (Nat.le_refl _) (by rw [World.size_alloc]; omega)
    exact ret_t1 rfl _ rfl rfl ⟨rfl, hIn'.out 4 W2 hC2 hB, hB⟩
  · subst c1
    have b1 : decide ((l.length : Int) < (l.length : Int)) = false := by simp
    have b2 : ((l.length : Int) != (l.length : Int)) = false := by simp
    go_wp2_with (first
      | ((with_reducible refine at_build 104 ?_); go_loud (refine wpList_value (by rfl) _ (run_build _ _ rfl _ (built_in _ _ _ _)) ?_))
      | ((with_reducible refine at_store 36 ?_); go_loud (refine wpList_plain rfl fun K hK => wp_store1 36 _ _ rfl w.heap.size 4 rfl _ rfl rfl sz_errno _ _ (heap_new _ _ _ _ rfl) (by simp [inD]) (fun W2 hC2 hx2 => hK _ _ ?_)); clear hK K))
    have hB := ((Below.refl w.heap.size w).alloc (Nat.le_refl _) (.cells (inC va l.length c 0 0) 104))
    exact ret_t1 rfl _ rfl rfl ⟨rfl, hIn'.out 0 _ (heap_new _ _ _ _ rfl) hB, hB⟩
  · have b1 : decide ((l.length : Int) < (hd : Int)) = false := by simp; omega
    have b2 : ((l.length : Int) != (hd : Int)) = true := by simp; omega
    go_wp2_with (first
      | ((with_reducible refine at_build 104 ?_); go_loud (refine wpList_value (by rfl) _ (run_build _ _ rfl _ (built_in _ _ _ _)) ?_))
      | ((with_reducible refine at_store 36 ?_); go_loud (refine wpList_plain rfl fun K hK => wp_store1 36 _ _ rfl w.heap.size 4 rfl _ rfl rfl sz_errno _ _ (heap_new _ _ _ _ rfl) (by simp [inD]) (fun W2 hC2 hx2 => hK _ _ ?_)); clear hK K))
    have hB := hx2.below ((Below.refl w.heap.size w).alloc (Nat.le_refl _) _) (Nat.le_refl _) (by rw [World.size_alloc]; omega)
    exact ret_t1 rfl _ rfl rfl ⟨rfl, hIn'.out 4 W2 hC2 hB, hB⟩
/-- What Bytes gives. -/
def inB (l : List Int) (at' err n : Nat) : List Int := if err = 0 then (l.drop at').take n else List.replicate n 0
theorem info_u8b : (Tryd.prog.info? 5).map (fun i => (i.zero, i.size, i.bytes)) = some (some (.int .u8 0), 1, 1) := by kernel_rfl
theorem run_makeBytes {ρ : Operand → Value} {o : Oper} (w : World) (x y : Operand) (ho : o.op = .makeSlice 34 x y) (n : Nat) (hx : ρ x = .int .i64 (n : Int)) (hy : ρ y = .int .i64 (n : Int)) (hn : n ≤ 4294967296) :
    (execOp ρ o).run Tryd.prog w = .ok (.value (.slice (some ⟨w.heap.size, 0, none⟩) n n)) (w.alloc (.cells (madeCells #[.int .u8 0] n) 5)) := by
  obtain ⟨i, hi, hz, hs, hb⟩ := info_parts info_u8b
  have h := run_make (P := Tryd.prog) w 34 5 i _ Tryd.underlying34 hi hz .i64 .i64 n n (by omega) (Int.le_refl _) (by rw [hb]; omega) (by omega)
  simp only [Int.toNat_natCast, hs, Nat.mul_one] at h
  unfold execOp
  simp only [ho, hx, hy, Sem.run_bind, h, Result.andThen_ok, Sem.run_pure]
  rfl
theorem made_row (w : World) (n : Nat) : Row (w.alloc (.cells (madeCells #[.int .u8 0] n) 5)) (some ⟨w.heap.size, 0, none⟩) .u8 (List.replicate n 0) := by
  refine ⟨fun i hi => ⟨w.heap.size, 0, rfl, ?_⟩, fun m hm => ?_⟩
  · have hi' : i < n := by simpa using hi
    rw [cell_of_row _ w.heap.size (0 + i) _ _ _ (heap_new _ _ _ _ rfl), Nat.zero_add]
    simp [madeCells, hi', List.getD, Nat.mod_one, CK.mk]
  · rw [List.eq_of_mem_replicate hm]; exact ⟨by decide, by decide⟩
/-- b[lo:hi]. -/
theorem run_slice_mid {P : Program} {ρ : Operand → Value} {o : Oper} (w : World) (t e : TypeId) (x y z : Operand) (ho : o.op = .slice t x (some y) (some z) none) (hu : P.underlying t = some (.slice e)) (sz : Nat) (hsz : (P.info? e).map (·.size) = some sz) (b off len cap lo n : Nat) (hx : ρ x = .slice (some ⟨b, off, none⟩) len cap) (hy : ρ y = .int .i64 (lo : Int)) (hz : ρ z = .int .i64 ((lo + n : Nat) : Int)) (h1 : 0 < n) (h2 : lo + n ≤ cap) (q : Nat) (hq : off + lo * sz = q) :
    (execOp ρ o).run P w = .ok (.value (.slice (some ⟨b, q, none⟩) n (cap - lo))) w := by
  obtain ⟨hi, hhi⟩ : ∃ hi, hi = lo + n := ⟨_, rfl⟩
  have hn : hi - lo = n := by omega
  rw [← hhi] at hz h2
  rw [← hn]
  have hne : cap ≠ lo := by omega
  have e1 : (0 : Int) ≤ (lo : Int) := by omega
  have e2 : (lo : Int) ≤ (hi : Int) := by omega
  have e3 : (0 : Int) ≤ (hi : Int) := by omega
  have e4 : (hi : Int) ≤ (cap : Int) := by omega
  have e5 : lo ≤ hi := by omega
  unfold execOp
  simp only [ho, hx, hy, hz, Option.map_some, Option.map_none, Instr.sliceAt, Instr.slice, Instr.sliceBounds, Instr.sliceBound, asIntOf, Sem.run_bind, Sem.run_pure, Result.andThen_ok, run_underlying hu, size_of hsz, if_pos (And.intro e1 e2), if_pos (And.intro e3 e4), Int.toNat_natCast, Option.map_some, Addr.add_mid, hq, if_neg hne]
theorem row_mid {w : World} {l : List Int} {b o : Nat} (h : Row w (some ⟨b, o, none⟩) .u8 l) (k n : Nat) (hk : k + n ≤ l.length) : Row w (some ⟨b, o + k, none⟩) .u8 ((l.drop k).take n) := by
  refine ⟨fun j hj => ⟨b, o + k, rfl, ?_⟩, fun m hm => h.ok m (List.mem_of_mem_drop (List.mem_of_mem_take hm))⟩
  have hj' : j < n := by rw [List.length_take] at hj; omega
  obtain ⟨b', o', e, hc⟩ := h.cell (k + j) (by omega)
  cases e
  rw [Nat.add_assoc, hc]
  simp only [List.getD, List.getElem?_take, if_pos hj', List.getElem?_drop]
set_option maxHeartbeats 4000000 in
theorem in_bytesA {u : Value} {nx : Nat} (i : Nat) (l : List Int) (va : Option Addr) (c at' err n : Nat) (w : World) (h : InG u nx i l va c at' err w) (hn0 : 0 < n) (hn : n ≤ 4294967296) (hat : err = 0 → at' + n ≤ l.length) :
    Calls Tryd.prog 50 #[.pointer (some ⟨i, 0, none⟩), .int .i64 (n : Int)] w fun e w' => (∃ va' c', e = .returned (.slice va' n c') ∧ n ≤ c' ∧ (va' = none → c' = 0) ∧ Row w' va' .u8 (inB l at' err n)) ∧ InG u nx i l va c (if err = 0 then at' + n else at') err w' ∧ Apart i w w' := by
  have hz := h.size
  have h' := Lib.hid h
  clear h
  go_enter Tryd.func50, Tryd.ntmps50
  by_cases he : err = 0
  · subst he
    have hat' := hat rfl
    have hfew := h'.out.few
    have hcap := h'.out.cap
    obtain ⟨bb, bo, rfl, _⟩ := h'.out.row.cell 0 (by omega)
    have hw1 : IntKind.i64.wrap ((at' : Int) + (n : Int)) = ((at' + n : Nat) : Int) := by rw [IntKind.wrap_i64]; omega
    clear hat
    go_wp2_with (first
      | ((with_reducible refine at_load 36 ?_); go_loud (refine wpList_value (by rfl) _ (run_load_cell _ 36 _ (by rfl) ⟨i, 4, none⟩ (by rfl) (.int .i64 0) (cell_in h'.out.cells 4) _ Tryd.underlying36 rfl) ?_)))
    rename_i K hK
    refine wp_region_held (S := fun w' => w'.heap[i]? = some (.cells (inD u nx (some ⟨bb, bo, none⟩) l.length c at' 0) 104 (0, 0))) (by kernel_rfl) ?_
    have hS : ({ w with drawn := w.drawn + 1 } : World).heap[i]? = some (.cells (inD u nx (some ⟨bb, bo, none⟩) l.length c at' 0) 104 (0, 0)) := h'.out.cells
    refine takeL (i := 0) (v := (.pointer (some ⟨i, 0, none⟩))) rfl (by kernel_rfl) (by kernel_rfl) (by kernel_rfl) (fun _ _ _ h => h) rfl (by assumption) (fun w' hS' => by go_simp) ?_
    simp only [Act.put, List.setIfInBounds_toArray, List.set_cons_zero, List.set_cons_succ]
    refine takeL (i := 4) (v := (.pointer (some ⟨i, 0, none⟩))) rfl (by kernel_rfl) (by kernel_rfl) (by kernel_rfl) (fun _ _ _ h => h) rfl (by assumption) (fun w' hS' => by go_simp) ?_
    simp only [Act.put, List.setIfInBounds_toArray, List.set_cons_zero, List.set_cons_succ]
    refine takeL (i := 8) (v := (.pointer (some ⟨i, 0, none⟩))) rfl (by kernel_rfl) (by kernel_rfl) (by kernel_rfl) (fun _ _ _ h => h) rfl (by assumption) (fun w' hS' => by go_simp) ?_
    simp only [Act.put, List.setIfInBounds_toArray, List.set_cons_zero, List.set_cons_succ]
    refine takeL (i := 12) (v := (.int .i64 (n : Int))) rfl (by kernel_rfl) (by kernel_rfl) (by kernel_rfl) (fun _ _ _ h => h) rfl (by assumption) (fun w' hS' => by go_simp) ?_
    simp only [Act.put, List.setIfInBounds_toArray, List.set_cons_zero, List.set_cons_succ]
    refine takeL (i := 1) (v := (.pointer (some ⟨i, 0, none⟩))) rfl (by kernel_rfl) (by kernel_rfl) (by kernel_rfl) (fun _ _ _ h => h) rfl (by assumption) (fun w' hS' => by go_simp) ?_
    simp only [Act.put, List.setIfInBounds_toArray, List.set_cons_zero, List.set_cons_succ]
    refine takeL (i := 5) (v := (.pointer (some ⟨i, 0, none⟩))) rfl (by kernel_rfl) (by kernel_rfl) (by kernel_rfl) (fun _ _ _ h => h) rfl (by assumption) (fun w' hS' => by go_simp) ?_
    simp only [Act.put, List.setIfInBounds_toArray, List.set_cons_zero, List.set_cons_succ]
    refine takeL (i := 9) (v := (.pointer (some ⟨i, 0, none⟩))) rfl (by kernel_rfl) (by kernel_rfl) (by kernel_rfl) (fun _ _ _ h => h) rfl (by assumption) (fun w' hS' => by go_simp) ?_
    simp only [Act.put, List.setIfInBounds_toArray, List.set_cons_zero, List.set_cons_succ]
    refine takeL (i := 2) (v := (.pointer (some ⟨i, 0, none⟩))) rfl (by kernel_rfl) (by kernel_rfl) (by kernel_rfl) (fun _ _ _ h => h) rfl (by assumption) (fun w' hS' => by go_simp) ?_
    simp only [Act.put, List.setIfInBounds_toArray, List.set_cons_zero, List.set_cons_succ]
    refine takeL (i := 6) (v := (.pointer (some ⟨i, 1, none⟩))) rfl (by kernel_rfl) (by kernel_rfl) (by kernel_rfl) (fun _ _ _ h => h) rfl (by assumption) (fun w' hS' => by go_simp) ?_
    simp only [Act.put, List.setIfInBounds_toArray, List.set_cons_zero, List.set_cons_succ]
    refine takeL (i := 10) (v := (.pointer (some ⟨i, 1, none⟩))) rfl (by kernel_rfl) (by kernel_rfl) (by kernel_rfl) (fun _ _ _ h => h) rfl (by assumption) (fun w' hS' => by go_simp) ?_
    simp only [Act.put, List.setIfInBounds_toArray, List.set_cons_zero, List.set_cons_succ]
    refine takeL (i := 3) (v := (.slice (some ⟨bb, bo, none⟩) l.length c)) rfl (by kernel_rfl) (by kernel_rfl) (by kernel_rfl) (fun _ _ _ h => h) rfl (by assumption) (fun w' hS' => run_load_cell _ 34 _ (by rfl) ⟨i, 0, none⟩ (by rfl) _ (cell_in hS' 0) _ Tryd.underlying34 rfl) ?_
    simp only [Act.put, List.setIfInBounds_toArray, List.set_cons_zero, List.set_cons_succ]
    refine takeL (i := 7) (v := (.int .i64 (at' : Int))) rfl (by kernel_rfl) (by kernel_rfl) (by kernel_rfl) (fun _ _ _ h => h) rfl (by assumption) (fun w' hS' => run_load_cell _ 3 _ (by rfl) ⟨i, 1, none⟩ (by rfl) _ (cell_in hS' 1) _ Tryd.underlying3 rfl) ?_
    simp only [Act.put, List.setIfInBounds_toArray, List.set_cons_zero, List.set_cons_succ]
    refine takeL (i := 11) (v := (.int .i64 (at' : Int))) rfl (by kernel_rfl) (by kernel_rfl) (by kernel_rfl) (fun _ _ _ h => h) rfl (by assumption) (fun w' hS' => run_load_cell _ 3 _ (by rfl) ⟨i, 1, none⟩ (by rfl) _ (cell_in hS' 1) _ Tryd.underlying3 rfl) ?_
    simp only [Act.put, List.setIfInBounds_toArray, List.set_cons_zero, List.set_cons_succ]
    refine takeL (i := 13) (v := (.int .i64 ((at' + n : Nat) : Int))) rfl (by kernel_rfl) (by kernel_rfl) (by kernel_rfl) (fun _ _ _ h => h) rfl (by assumption) (fun w' hS' => by go_simp) ?_
    simp only [Act.put, List.setIfInBounds_toArray, List.set_cons_zero, List.set_cons_succ]
    refine takeL (i := 14) (v := (.slice (some ⟨bb, bo + at', none⟩) n (c - at'))) rfl (by kernel_rfl) (by kernel_rfl) (by kernel_rfl) (fun _ _ _ h => h) rfl (by assumption) (fun w' hS' => run_slice_mid (P := Tryd.prog) w' 34 5 (.tmp 16) (.tmp 20) (.tmp 26) (by rfl) Tryd.underlying34 1 sz_u8 bb bo l.length c at' n (by rfl) (by rfl) (by rfl) (by omega) (by omega) (bo + at') (by omega)) ?_
    simp only [Act.put, List.setIfInBounds_toArray, List.set_cons_zero, List.set_cons_succ]
    refine takeL (i := 15) (v := (.slice (some ⟨bb, bo + at', none⟩) n (c - at'))) rfl (by kernel_rfl) (by kernel_rfl) (by kernel_rfl) (fun _ _ _ h => h) rfl (by assumption) (fun w' hS' => by go_simp) ?_
    simp only [Act.put, List.setIfInBounds_toArray, List.set_cons_zero, List.set_cons_succ]
    refine wpAnyH_done (by kernel_rfl) ?_ _
    refine hK _ _ ?_
    clear hK K
    refine gen_world (fun W => W.heap[i]? = some (.cells (inD u nx (some ⟨bb, bo, none⟩) l.length c at' 0) 104 (0, 0)) ∧ Apart i w W) ⟨hS, Apart.begin i w⟩ ?_
    rintro W1 ⟨k1, kB⟩
    have k1' := Lib.hid k1
    clear hS k1
    go_wp2_with (first
      | ((with_reducible refine at_load 3 ?_); go_loud (refine wpList_value (by rfl) _ (run_load_cell _ 3 _ (by rfl) ⟨i, 1, none⟩ (by rfl) (.int .i64 (at' : Int)) (cell_in k1'.out 1) _ Tryd.underlying3 rfl) ?_))
      | ((with_reducible refine at_store 3 ?_); go_loud (refine wpList_plain rfl fun K hK => wp_store1 3 _ _ rfl i 1 rfl (.int .i64 ((at' + n : Nat) : Int)) rfl rfl sz_i64 _ _ k1'.out (by simp [inD]) (fun W2 hC2 hx2 => hK _ _ ?_)); clear hK K))
    have hA := kB.trans hx2
    have hB := hA.below (Below.refl i w) (Nat.le_refl _) (by omega)
    have hI := h'.out.set hB hC2
    refine ret_t1 rfl _ rfl rfl ⟨⟨_, _, rfl, by omega, fun e => (by cases e), ?_⟩, hI, hA⟩
    exact row_mid hI.row at' n hat'
  · have he' : ((err : Int) != 0) = true := by simp [he]
    have he2 : (err = 0) = False := by simp [he]
    go_wp2_with (first
      | ((with_reducible refine at_load 36 ?_); go_loud (refine wpList_value (by rfl) _ (run_load_cell _ 36 _ (by rfl) ⟨i, 4, none⟩ (by rfl) (.int .i64 (err : Int)) (cell_in h'.out.cells 4) _ Tryd.underlying36 rfl) ?_))
      | ((with_reducible refine at_make 34 ?_); go_loud (refine wpList_plain rfl fun K hK => wp_ran _ (run_makeBytes _ _ _ rfl n rfl rfl hn) (hK _ _ ?_)); clear hK K))
    have hB : Below (i + 1) w (w.alloc (.cells (madeCells #[.int .u8 0] n) 5)) := (Below.refl _ _).alloc hz _
    refine ret_t1 rfl _ rfl rfl ⟨⟨_, _, rfl, Nat.le_refl _, fun e => (by cases e), ?_⟩, h'.out.later hB, (Apart.refl _ _).alloc _⟩
    unfold inB
    rw [if_neg he]
    exact made_row w n
theorem Apart.lo {i : Nat} {w w' : World} (h : Apart i w w') (hn : i ≤ w.heap.size) : Below i w w' := h.below (Below.refl _ _) (Nat.le_refl _) hn
theorem in_bytes {u : Value} {nx : Nat} (i : Nat) (l : List Int) (va : Option Addr) (c at' err n : Nat) (w : World) (h : InG u nx i l va c at' err w) (hn0 : 0 < n) (hn : n ≤ 4294967296) (hat : err = 0 → at' + n ≤ l.length) :
    Calls Tryd.prog 50 #[.pointer (some ⟨i, 0, none⟩), .int .i64 (n : Int)] w fun e w' => (∃ va' c', e = .returned (.slice va' n c') ∧ n ≤ c' ∧ (va' = none → c' = 0) ∧ Row w' va' .u8 (inB l at' err n)) ∧ InG u nx i l va c (if err = 0 then at' + n else at') err w' ∧ Below i w w' :=
  (in_bytesA i l va c at' err n w h hn0 hn hat).mono fun _ _ ⟨h1, h2, h3⟩ => ⟨h1, h2, h3.lo (by have := h.size; omega)⟩
end Go.Proofs.YtihelknkcomjpaaDoor
namespace Go.Proofs.YtihelknkcomjpaaDoor
open Go.RowKit BigFrame
set_option maxRecDepth 100000
theorem inB_length {l : List Int} {at' err n : Nat} (h : err = 0 → at' + n ≤ l.length) : (inB l at' err n).length = n := by
  unfold inB
  by_cases c : err = 0
  · rw [if_pos c, List.length_take, List.length_drop]; have := h c; omega
  · rw [if_neg c, List.length_replicate]
set_option maxHeartbeats 4000000 in
theorem in_failA {u : Value} {nx : Nat} (i : Nat) (l : List Int) (va : Option Addr) (c at' err er : Nat) (w : World) (h : InG u nx i l va c at' err w) :
    Calls Tryd.prog 52 #[.pointer (some ⟨i, 0, none⟩), .int .i64 (er : Int)] w fun e w' => e = .returned (.tuple #[]) ∧ InG u nx i l va c at' (if err = 0 then er else err) w' ∧ Apart i w w' := by
  have hz := h.size
  have h' := Lib.hid h
  clear h
  go_enter Tryd.func52, Tryd.ntmps52
  by_cases he : err = 0
  · subst he
    go_wp2_with (first
      | ((with_reducible refine at_load 36 ?_); go_loud (refine wpList_value (by rfl) _ (run_load_cell _ 36 _ (by rfl) ⟨i, 4, none⟩ (by rfl) (.int .i64 0) (cell_in h'.out.cells 4) _ Tryd.underlying36 rfl) ?_))
      | ((with_reducible refine at_store 36 ?_); go_loud (refine wpList_plain rfl fun K hK => wp_store1 36 _ _ rfl i 4 rfl (.int .i64 (er : Int)) rfl rfl sz_errno _ _ h'.out.cells (by simp [inD]) (fun W2 hC2 hx2 => hK _ _ ?_)); clear hK K))
    have hB := hx2.below (Below.refl i w) (Nat.le_refl _) (by omega)
    exact ret_none rfl rfl ⟨rfl, h'.out.set hB hC2, hx2⟩
  · have he' : ((err : Int) == 0) = false := by simp [he]
    go_wp2_with (
      ((with_reducible refine at_load 36 ?_); go_loud (refine wpList_value (by rfl) _ (run_load_cell _ 36 _ (by rfl) ⟨i, 4, none⟩ (by rfl) (.int .i64 (err : Int)) (cell_in h'.out.cells 4) _ Tryd.underlying36 rfl) ?_)))
    exact ret_none rfl rfl ⟨rfl, h'.out, Apart.refl _ _⟩
theorem in_fail {u : Value} {nx : Nat} (i : Nat) (l : List Int) (va : Option Addr) (c at' err er : Nat) (w : World) (h : InG u nx i l va c at' err w) :
    Calls Tryd.prog 52 #[.pointer (some ⟨i, 0, none⟩), .int .i64 (er : Int)] w fun e w' => e = .returned (.tuple #[]) ∧ InG u nx i l va c at' (if err = 0 then er else err) w' ∧ Below i w w' :=
  (in_failA i l va c at' err er w h).mono fun _ _ ⟨h1, h2, h3⟩ => ⟨h1, h2, h3.lo (by have := h.size; omega)⟩
/-- What U64 reads. -/
def inN (l : List Int) (at' err : Nat) : Int := rdI (fun j => (inB l at' err 8).getD j 0) 8
set_option maxHeartbeats 4000000 in
theorem in_u64A {u : Value} {nx : Nat} (i : Nat) (l : List Int) (va : Option Addr) (c at' err : Nat) (w : World) (h : InG u nx i l va c at' err w) (hat : err = 0 → at' + 8 ≤ l.length) :
    Calls Tryd.prog 96 #[.pointer (some ⟨i, 0, none⟩)] w fun e w' => e = .returned (.int .u64 (inN l at' err)) ∧ InG u nx i l va c (if err = 0 then at' + 8 else at') err w' ∧ Apart i w w' := by
  have hl8 := inB_length hat
  have h1 := Lib.hid (show Calls Tryd.prog 50 #[.pointer (some ⟨i, 0, none⟩), .int .i64 8] w _ from in_bytesA i l va c at' err 8 w h (by omega) (by omega) hat)
  clear h hat
  unfold inN
  generalize (if err = 0 then at' + 8 else at') = a2 at *
  generalize inB l at' err 8 = m at *
  have hl8' := Lib.hid hl8
  clear hl8
  go_enter Tryd.func96, Tryd.ntmps96
  go_wp2_with (first
    | ((with_reducible refine h1.out.mono ?_)
       rintro e W ⟨⟨va', c', rfl, hc', hn', hR⟩, hI, hB⟩
       have h2 := read_any m va' c' W hR
       rw [hl8'.out] at h2
       simp only [if_true] at h2
       have h2' := Lib.hid h2
       have hI' := Lib.hid hI
       clear h2 hI hR h1 hn')
    | ((with_reducible refine h2'.out.mono ?_)
       rintro e W2 ⟨rfl, rfl⟩
       clear h2'))
  exact ret_t1 rfl _ rfl rfl ⟨rfl, hI'.out, hB⟩
theorem in_u64 {u : Value} {nx : Nat} (i : Nat) (l : List Int) (va : Option Addr) (c at' err : Nat) (w : World) (h : InG u nx i l va c at' err w) (hat : err = 0 → at' + 8 ≤ l.length) :
    Calls Tryd.prog 96 #[.pointer (some ⟨i, 0, none⟩)] w fun e w' => e = .returned (.int .u64 (inN l at' err)) ∧ InG u nx i l va c (if err = 0 then at' + 8 else at') err w' ∧ Below i w w' :=
  (in_u64A i l va c at' err w h hat).mono fun _ _ ⟨h1, h2, h3⟩ => ⟨h1, h2, h3.lo (by have := h.size; omega)⟩
end Go.Proofs.YtihelknkcomjpaaDoor
